/-
  Contracts and the mathematics that the proof needs. Nothing here is a claim.
-/
import Derived.Test.YtckdhgbepmpgiaaGreatKF4
theorem iG {p:Prop}(h:p:=by decide +kernel):p:=h
theorem iM {p:Prop}(h:p:=by exact hG.keep hI.k0 (fun q hq _ hs=>by have h1:=hY q hs;have h2:=dc.hsE 0 O hs;rcases hq with hq | hq;(· have:=hD q hq;omega);omega)):p:=h
theorem iQ {p:Prop}(h:p:=by exact zoT tr48 O (fun w hI=>⟨_,rfl,(vl,ro,ov),⟨rfl,rfl,hY (dt tO),rfl,dc⟩,hI.back 0 O O O rfl⟩)):p:=h
theorem iY {p:Prop}(h:p:=by exact fun b_ d_ h_=>by have db:=dh _ h_;first | omega | exact db d_):p:=h
theorem il {p:Prop}(h:p:=by exact fun q hq=>zvQ (hD q hq) (Keep.size hI.k0)):p:=h
theorem iq {p:Prop}(h:p:=by exact zsT _ (zsT _ (zsT _ (zsT _ (zsU ..))))):p:=h
theorem ir {p:Prop}(h:p:=by exact fun b_ d_ h_=>by have dr:=dx _ h_;first | omega | exact dr d_):p:=h
theorem JA {p:Prop}(h:p:=by exact zr9 1 tr16 O O (by rw[zfM c0 hb])):p:=h
theorem JK {p:Prop}(h:p:=by exact zoT tr48 O (fun w hI=>⟨_,rfl,(vl,ro.set n (rd x2.at_+1),ov),⟨rfl,rfl,hY (dt tO),zuU,dJ⟩,hI.back 0 O O O rfl⟩)):p:=h
theorem Jm {p:Prop}(h:p:=by exact zp8 tr93 (fun w hI=>⟨_,rfl,rfl,dm ▸ ⟨(vl,ov),⟨rfl,hY⟩,hI.back 0 O O O rfl⟩⟩)):p:=h
theorem Jp {p:Prop}(h:p:=by exact zoW tr44 O O (fun w hI=>⟨_,rfl,⟨_,by rw[h1],fun h=>by rw[h1]at h;cases h⟩,hI.k0⟩)):p:=h
theorem J8 {p:Prop}(h:p:=by exact fun c hc=>by simp only[zt6,zvh,or_false]at hc;rcases hc with rfl | rfl<;>rfl):p:=h
theorem UA {p:Prop}(h:p:=by exact fun c hc=>by rw[zt8]at hc;subst hc;rfl):p:=h
theorem UT {p:Prop}(h:p:=by exact fun q hq=>by exact hI.offD 0 900 O O (hY.lt hq) (fun h=>db q h hq)):p:=h
theorem UY {p:Prop}(h:p:=by exact ⟨h1,trivial,fun _ h=>h,fun q hq=>⟨.inr (h2 q hq),xA h1 hq⟩⟩):p:=h
theorem U4 {p:Prop}(h:p:=by exact Sub.cons (xB O (by rw[zc0 g1];simp)) j2):p:=h
theorem U5 {p:Prop}(h:p:=by exact Sub.cons (xB O (by rw[zc1 g1];simp)) j2):p:=h
theorem U8 {p:Prop}(h:p:=by exact ⟨zb2,fun _=>rfl,fun h=>absurd h iG,by decide +kernel,fun u h=>tD⟩):p:=h
open Go.Proofs.Tryz
variable {α:Type} {f:Go.GL.Fl} {s:Go.Proofs.YtckdhgbepmpgiaaGreat.Sf} {k q i j fuel d kk b c e1 e2 f1 f2 K m root by':Nat} {g B:List Go.GL.Nd} {D:Nat->Prop} {w w1 w2 W w0:Go.World} {xs cs us zs:List Go.Value} {x:Go.GL.Nd} {z v vo:Go.Value} {P:Go.Program} {Q:Go.Exit->Go.Act->Go.World->Prop} {ks:List Go.GL.Fr} {env:Go.GL.Env} {A:Go.GL.Tgs} {H Hs E E':Go.GL.Hp} {Bs B0:Go.GL.zq} {ops:Array Go.Oper} {L:List Nat} {listed:Array Bool} {aft:Array Go.Edge} {y:Go.Operand} {e t et:Go.TypeId} {args:Array Go.Value} {r:Go.GL.Ins} {vals l vl wl:List Int} {u:Int × Int} {dst:Option Go.Tmp} {p:Go.Proofs.YtckdhgbepmpgiaaGreat.Phn} {F:Go.Proofs.YtckdhgbepmpgiaaGreat.Phn->Int} {R:List (List Int)} {seen nl:List Bool} {a:Int} {l':List (Int × Go.Value)}
namespace Go.Proofs.YtckdhgbepmpgiaaGreat
open Go.GL
theorem znE (h:OfF f s) {v:Int} (hv:s.of_[k]?=some v):0<=v/\v<(f.vars.length:Int):=by
 by_cases hk:k<f.vars.length
 . have:=h.ini k v hv hk;omega
 obtain⟨h1,x,hx,_⟩:=h.new k v hv tO;have:=(zt4.1 hx).1;omega
theorem zdx (h:OfF f s) {k v:Int} {b:Bool} (hv:zan f s k v b):0<=v/\v<(f.vars.length:Int):=znE h hv.2.1
def zob (f:Fl) (g:List Nd) (s:Sf) (p:Phn):Prop:=∀ (m:Nat) y,p.frm[m]?=some y->∀ a,p.args[m]?=some a->zaG f g s y.toNat p.var=a
structure NodU (f:Fl) (g:List Nd) (s:Sf) (n:Nat) (x:Sn):Prop where
 use:∀ u ∈ x.uses,inV f g s n u.1=u.2
 arg:∀ p ∈ x.phis,zob f g s p
theorem ziZ (h:∀ (n:Nat) x,s.nodes[n]?=some x->NodU f g s n x):zcJ f g s :=
 ⟨fun n x hx u hu=>(h n x hx).use u hu,fun n x hx p hp i y a hy ha=>(h n x hx).arg p hp i y hy a ha⟩
theorem zmC {B:Nat->Int->Int} {v:Int} (h:B q v=inV f g s q v):yW f g s B q v=zaG f g s q v:=by
 unfold zaG yW;rw[h]
theorem zfI (f:Fl) (g:List Nd) (s:Sf) (hk:GOk f g) (hY:s.nodes.length=g.length) (rows:List (List Int)) (nv:Nat) (da:Shp rows g.length nv) (i:Nat) (v:Int) (hi:i<g.length) (h0:0<=v) (hv:v<(nv:Int)) (b gb:Nat) (ofv nodv bv dv:Value) (D D' Db:Nat->Prop) (W:World) (hc:Cells W b 0 (chk gb ofv nodv bv dv)) (hS:RSf D W s ofv nodv) (hG:GrO D' W f g gb) (hr:SlR 1 (RSl 1 zw) Db W bv rows) :
  Calls prog 84 #[.pointer (some ⟨b,0,none⟩),.int .i64 i,.int .i64 v] W (Ret fun r w'=>r=.int .i64 (yW f g s (bfV rows) i v)/\Ext W w'):=by
 obtain⟨n,rfl⟩:=ztN h0;exact zcI f g s hk hY rows nv da i n hi tO b gb ofv nodv bv dv D D' Db W hc hS hG hr
theorem zj0 (f:Fl) (g:List Nd) (s:Sf) (hk:GOk f g) (hF:FormF f g s (rdV f g)) (fR:1<=g.length) (eM:g.length<=100000) (fS:f.vars.length<=1000) (b gb:Nat) (ofv nodv dv:Value) (D:Nat->Prop) (W:World) (hB:(HE.own b (chk gb ofv nodv (.slice none 0 0) dv) 97).holds W) (eF:∀ q,D q->q<W.heap.size/\q ≠ b) (hS:RSf D W s ofv nodv) (hG:GrO D W f g gb) :
  Calls prog 41 #[.pointer (some ⟨b,0,none⟩)] W (Ret fun r w'=>∃ x:Value × Bool,(r=.bool x.2/\(x.2=true ↔ zcJ f g s))/\(HE.own b (chk gb ofv nodv x.1 dv) 97).holds w'/\Keep (HE.own b (chk gb ofv nodv (.slice none 0 0) dv) 97).S W w'/\∀ q,(HE.own b (chk gb ofv nodv x.1 dv) 97).S q->((HE.own b (chk gb ofv nodv (.slice none 0 0) dv) 97).S q\/W.heap.size<=q)/\q<w'.heap.size):=by
 have eN:=hG;obtain⟨v1,v2,v3,gv,sv,pv,hD,dE,hf,hg,hs,fT⟩:=eN;obtain⟨av,cv,rfl⟩:=hf.vars.form;obtain⟨ag,cg,rfl⟩:=hg.form;have fU:=hS;have dW:=hS.nodes;have fV:=dW.max;obtain⟨an,cn,rfl⟩:=dW.form;have eO:=hF.len;have dX:=hF.nn;have dh:∀ q,(HE.own b (chk gb ofv (.slice an s.nodes.length cn) (.slice none 0 0) dv) 97).S q->¬ D q:=fun q h hd=>(eF q hd).2 h;have fW:g.length*(f.vars.length*2)<=100000*(1000*2):=zvT eM tO;generalize hnv:f.vars.length=nv at *;generalize hN:g.length=N at *;refine zqq func41 O ntmps41 O (zrz 900 (.own b [.pointer (some ⟨gb,0,none⟩),ofv,.slice an s.nodes.length cn,.slice none 0 0,dv] 97) (hB) trivial (fun _ h=>h) (fun q hq=>by have hq:q=b:=hq;subst hq;exact(show Blk W q _ _ from hB).lt) (zrg 901 0 O O (fun h=>(eF _ hD).2 h) dE (zqO 0 900 0 O O (Vs 11 O (zqO 23 901 0 O O (Vs 15 O (zqO 32 901 0 O O (Vs 7 O (zqU 903 27 1 O (zqU 902 3 1 O (zrB 902 (e':=RowsP zb 3 [] []) O (fun w hI=>RowsOk.nil) RowsP.loc (fun _ h=>h) (fun q hq=>by obtain⟨i,u,h,_⟩:=hq;simp at h) ?_)))))))))));refine Vs 1 O (zrm (σ:=Nat × Value × List Value) [0,3,36] [901] [0] O (fun e ⟨i,u,hv⟩=>(37,.int .i64 i)::e) (fun e ⟨i,u,hv⟩=>(900,.own b [.pointer (some ⟨gb,0,none⟩),ofv,.slice an s.nodes.length cn,u,dv] 97)::(903,.row 27 1 u i hv)::(902,RowsP zb 3 hv ((rows0 nv N).take i))::e) (fun⟨i,u,hv⟩=>i<=N/\hv.length=i) (fun⟨i,u,hv⟩=>N - i) (0,.slice none 0 0,[]) j2 j3 j1 j1 j1 i5 ?_);rintro⟨i,u,hv⟩ ⟨hi,eP⟩;refine Vs 6 O (zoC O (fun lt=>?_) (fun lt=>?_))
 .
  refine Vs 13 O (zpu 41 tu27 Tryz.el3 O tO tO (zs:=List.replicate nv (.int .i64 0)) Ja tZ (fun b41=>?_));refine zrl 41 O (e':=.row 3 1 (.slice (some ⟨b41,0,none⟩) nv nv) nv (((zfm nv i).take 0++List.replicate (nv - 0) 0).map zb)) tZ (Vs 12 O (zrm (σ:=Nat) [0,3,4,5,36,37,43] [900,901,902,903] [0] O (fun e k=>(44,.int .i64 k)::e) (fun e k=>(41,.row 3 1 (.slice (some ⟨b41,0,none⟩) nv nv) nv (((zfm nv i).take k++List.replicate (nv - k) 0).map zb))::e) (fun k=>k<=nv) (fun k=>nv - k) 0 j2 j3 j1 j1 j1 (zt5 _) ?_));rintro k eQ;have dY:=zdw nv i;refine Vs 6 O (zoC O (fun lk=>?_) (fun lk=>?_))
  .
   have dU:=zkZ (i:=i) (show k<nv by omega);have eG:((zfm nv i).take k++List.replicate (nv - k) (0:Int)).length=nv:=by rw[zsY,ztk,zuT,dY];omega
   refine Va 15 O tO (zr0 41 (k) ts3 O tO (by rw[zta,eG];omega) (Vs 3 O (zqd (p:=i=0) (fun z0=>?_) (fun z0=>?_))))
   .
    refine Vs 5 O (zoC O (fun z1=>?_) (fun z1=>?_))
    .
     refine Va 5 O tO (zr0 41 (k) ts3 O tO (by rw[zuU,zta,eG];omega) ?_);rw[zt1 z0]at dU;refine zrl 41 O (e':=.row 3 1 (.slice (some ⟨b41,0,none⟩) nv nv) nv (((zfm nv i).take (k+1)++List.replicate (nv - (k+1)) 0).map zb)) (by rw[zvv,<- dU,zv1]) (Va 7 O tO (V.back (k+1) j2 j3 tO tR 0 O O))
    omega
   refine Vs 5 O (zoC O (fun z1=>?_) (fun z1=>?_))
   . omega
   rw[zt0 z0]at dU;refine zrl 41 O (e':=.row 3 1 (.slice (some ⟨b41,0,none⟩) nv nv) nv (((zfm nv i).take (k+1)++List.replicate (nv - (k+1)) 0).map zb)) (by rw[<- dU,zv1]) (Va 7 O tO (V.back (k+1) j2 j3 tO tR 0 O O))
  obtain rfl:k=nv:=tO;refine zrl 41 O (e':=.row 3 1 (.slice (some ⟨b41,0,none⟩) k k) (zfm k i).length ((zfm k i).map zb)) (by rw[zvC tO,zvX,zvr,zu3,dY]) (Vs 12 O (V.bs 63 [(0,_)] tR89 ts27 tz27 tS O O tK (fun b63=>?_)));refine zqV 903 63 tu89 Tryz.el27 O tS O O tO tO (fun u903=>(Vs 2 O (zqX 903 O tO ?_)));rintro ob oc rfl dc;refine Va 8 O tO (zs6 902 41 (e':=RowsP zb 3 (hv++[Value.slice (some ⟨b41,0,none⟩) k k]) ((rows0 k N).take (i+1))) [(0,some (900,0)),(57,some (900,0)),(58,some (900,0)),(59,some (900,0)),(60,some (900,3)),(65,some (900,0)),(66,some (900,3))] O O O (fun w hI=>(by rw[ze (zeS (nv:=k) (show i<N by omega))];exact(show RowsOk _ _ _ _ _ from hI.at 902 O).add (hI.at 41 O) (fun g hg i v hv eR=>hI.sep (k:=902) (k2:=41) O O tS ⟨i,v,hv,eR⟩ hg))) RowsP.loc (fun _ h=>h) (fun q (hq:∃ (i:Nat) (v:Value),(hv++[Value.slice (some ⟨b41,0,none⟩) k k])[i]?=some v/\v.ownBlock=some q)=>znD hq) ?_);refine V.back ⟨i+1,.slice (some ⟨ob,0,none⟩) (i+1) oc,hv++[.slice (some ⟨b41,0,none⟩) k k]⟩ j2 j3 ⟨tO,by rw[zsY,eP];rfl⟩ tR 0 O O
 obtain rfl:i=N:=tO;have eS:(rows0 nv i).length=i:=(zeR nv i).len;have dZ:Shp (rows0 nv i) g.length nv:=by rw[hN];exact zeR nv i
 have dF:RunV f g s nv (bfV (rows0 nv i)):=by have:=ziY f g s nv;rwa [hN]at this
 have d5:∀ v:Int,0<=v->v<(nv:Int)->bfV (rows0 nv i) 0 v=v:=fun v h0 h1=>by rw[zgz tO h0 h1,zt1 rfl]
 have fX:∀ q,(fun _:Nat=>True) q:=fun _=>trivial;refine zqX 903 O tO ?_;rintro og oc rfl dc;refine zrl 902 O (e':=RowsP zb 3 hv (rows0 nv i)) (by rw[zvC tO]) (Vs 12 O (zrm (σ:=Bool × List (List Int)) [0,3] [900,901,903] [0] O (fun e ⟨ch,rows⟩=>(7,.bool ch)::e) (fun e ⟨ch,rows⟩=>(902,RowsP zb 3 hv rows)::e) (fun⟨ch,rows⟩=>Shp rows g.length nv/\RunV f g s nv (bfV rows)/\(∀ v:Int,0<=v->v<(nv:Int)->bfV rows 0 v=v)/\(ch=false->SolV f g s nv (bfV rows))) (fun⟨ch,rows⟩=>(g.length*(nv*2) - rkT rows)*2+ch.toNat) (true,rows0 nv i) j2 j3 j1 j1 j1 ⟨dZ,dF,d5,fun h=>by cases h⟩ ?_));rintro⟨ch,rows⟩ ⟨dV,d6,eT,eU⟩;refine Vs 6 O (V.bool O (fun c1=>?_) (fun c1=>?_))
 .
  subst c1;refine Vs 14 O (zrm (σ:=Nat × Bool × List (List Int)) [0,3] [900,901,903] [0] O (fun e ⟨j,c2,Q1⟩=>(8,.int .i64 j)::(7,.bool c2)::e) (fun e ⟨j,c2,Q1⟩=>(902,RowsP zb 3 hv Q1)::e) (fun⟨j,c2,Q1⟩=>1<=j/\j<=i/\PassV f g s nv rows Q1 c2 (fun a u=>1<=a/\a<j/\u<nv)/\∀ v:Int,0<=v->v<(nv:Int)->bfV Q1 0 v=v) (fun⟨j,c2,Q1⟩=>i - j) (1,false,rows) j2 j3 j1 j1 j1 ⟨ztf _,tO,PassV.start dV d6 (fun a u h=>tO),eT⟩ ?_);rintro⟨j,c2,Q1⟩ ⟨fY,hj,dt,hz⟩;refine Vs 8 O (zqO 73 901 0 O O (Vs 7 O (zoC O (fun lj=>?_) (fun lj=>?_))))
  .
   refine Vs 11 O (zrm (σ:=Nat × Bool × List (List Int)) [0,3,8,81] [900,901,903] [0] O (fun e ⟨v,c3,Q3⟩=>(82,.int .i64 v)::(7,.bool c3)::e) (fun e ⟨v,c3,Q3⟩=>(902,RowsP zb 3 hv Q3)::e) (fun⟨v,c3,Q3⟩=>v<=nv/\PassV f g s nv rows Q3 c3 (fun a u=>1<=a/\((a<j/\u<nv)\/(a=j/\u<v)))/\∀ v:Int,0<=v->v<(nv:Int)->bfV Q3 0 v=v) (fun⟨v,c3,Q3⟩=>nv - v) (0,c2,Q1) j2 j3 j1 j1 j1 ⟨zt5 _,dt.imp (fun a u h=>tO),hz⟩ ?_);rintro⟨v,c3,Q3⟩ ⟨fZ,hY,dG⟩;refine Vs 6 O (zoC O (fun lv=>?_) (fun lv=>?_))
   .
    obtain⟨r,dH,dY⟩:=hY.shp.at (show j<g.length by omega);obtain⟨old,eH⟩:∃ z,r[v]?=some z:=iC;have d7:=ziV dH eH;obtain⟨hu,dI⟩:∃ z,hv[j]?=some z:=iC;refine zqI (p:=∃ ao ch,hu=.slice ao r.length ch/\(0<r.length->∃ g,ao=some ⟨g,0,none⟩)) (fun w hI=>za3 (show RowsOk _ _ _ _ _ from hI.at 902 O) dI dH) (fun eV=>?_);obtain⟨ao,cu,rfl,eW⟩:=eV;obtain⟨gu,rfl⟩:=eW tO;have d8:Q3.length=i:=by have:=hY.shp.len;omega
    refine Va 18 O tO (zqZ 903 (j) tg27 O tO (dI) (Vs 1 O (zqh O (fun w hI=>zpf tR27 ts3 O O O tO) (zqh O (fun w hI=>R.load tg3 O (ziX (hI.at 902 O) dI dH eH)) (Vs 9 O (zoC O (fun o1=>?_) (fun o1=>?_)))))))
    .
     refine Vs 5 O (zr2 call83 O (fun w hI=>zkX f g s hk tO Q3 nv hY.shp j v tO tO tO b gb _ _ _ _ D D (fun _=>True) w (Blk.cells (hI.at 900 O)) (hS.keep hI.k0 fun q hd _ h=>dh q h hd) (hG.keep hI.k0 fun q hd _ h=>dh q h hd) (zbZ (show w.ownsRow 0 _ 1 _ _ _ from d8 ▸ hI.at 903 O) (hI.at 902 O) (fun _ _=>trivial) (fun _ _ _ _ _=>trivial))) (Vs 9 O (zq9 104 O (fun n1=>?_) (fun n1=>?_))))
     .
      refine Vs 5 O (zoC O (fun n2=>?_) (fun n2=>?_))
      .
       have hset:PassV f g s nv rows (zgx Q3 j v (eqV g s (yW f g s (bfV Q3)) j v)) true (fun a u=>1<=a/\((a<j/\u<nv)\/(a=j/\u<v+1))):=hY.set dX (i:=j) (v:=v) tO tO (by rw[d7];exact n1)
       have eX:∀ u:Int,0<=u->u<(nv:Int)->bfV (zgx Q3 j v (eqV g s (yW f g s (bfV Q3)) j v)) 0 u=u:=fun u h0 h1=>by
        rw[zma hY.shp tO tO _ h0];unfold zk9;rw[zt0 tO];exact dG u h0 h1
       generalize eqV g s (yW f g s (bfV Q3)) j v=now at *;refine Va 8 O tO (zqZ 903 (j) tg27 O tO (dI) (Vs 2 O (zqh O (fun w hI=>zpf tR27 ts3 O O O tO) (zs3 902 (e':=RowsP zb 3 hv (Q3.set j (r.set v now))) O RowsP.loc (fun _ h=>h) (fun w hI=>zs9 ts3 (hI.at 902 O) dI dH tO O O O) (zrl 902 O (e':=RowsP zb 3 hv (zgx Q3 j v now)) (by unfold zgx;rw[dH];rfl) (Va 11 O tO (V.back ⟨v+1,true,zgx Q3 j v now⟩ j2 j3 ⟨tO,hset,eX⟩ tR 0 O O)))))))
      have da:PassV f g s nv rows Q3 c3 (fun a u=>1<=a/\((a<j/\u<nv)\/(a=j/\u<v+1))):=hY.skip (i:=j) (v:=v) (.inr (.inr tO)) (fun a u h=>tO);refine Va 7 O tO (V.back ⟨v+1,c3,Q3⟩ j2 j3 ⟨tO,da,dG⟩ tR 0 O O)
     have da:PassV f g s nv rows Q3 c3 (fun a u=>1<=a/\((a<j/\u<nv)\/(a=j/\u<v+1))):=hY.skip (i:=j) (v:=v) (.inr (.inl (by rw[d7];omega))) (fun a u h=>tO);refine Va 13 O tO (V.back ⟨v+1,c3,Q3⟩ j2 j3 ⟨tO,da,dG⟩ tR 0 O O)
    have da:PassV f g s nv rows Q3 c3 (fun a u=>1<=a/\((a<j/\u<nv)\/(a=j/\u<v+1))):=hY.skip (i:=j) (v:=v) (.inl (by rw[d7];omega)) (fun a u h=>tO);refine Va 7 O tO (V.back ⟨v+1,c3,Q3⟩ j2 j3 ⟨tO,da,dG⟩ tR 0 O O)
   refine Va 11 O tO (V.back ⟨j+1,c3,Q3⟩ j2 j3 ⟨tO,tO,hY.imp (fun a u h=>tO),dG⟩ tR 0 O O)
  have f0:(g.length*(nv*2) - rkT Q1)*2+c2.toNat<(g.length*(nv*2) - rkT rows)*2+true.toNat:=by
   have:=rk_le dt.shp;cases c2 with
   | true=>have:=dt.yes rfl;simp only[Bool.toNat_true];omega
   | false=>rw[(dt.no rfl).1];simp only[Bool.toNat_true,Bool.toNat_false];omega
  have dJ:c2=false->SolV f g s nv (bfV Q1):=fun e=>by
   subst e;exact dt.done (fun a u h1 h2 h3=>tO) hz
  refine Vs 5 O (V.back ⟨c2,Q1⟩ j2 j3 ⟨dt.shp,dt.run,hz,dJ⟩ tR 0 O O)
 subst c1;have dK:=eU rfl;have dL:rows.length=i:=by have:=dV.len;omega
 have dM:=dV.row;refine zs6 903 902 (e':=.res (fun q=>(Value.slice (some ⟨og,0,none⟩) i oc).ownBlock=some q\/∃ (k:Nat) (u:Value),hv[k]?=some u/\u.ownBlock=some q) (fun w=>SlR 1 (RSl 1 zw) (fun q=>(Value.slice (some ⟨og,0,none⟩) i oc).ownBlock=some q\/∃ (k:Nat) (u:Value),hv[k]?=some u/\u.ownBlock=some q) w (.slice (some ⟨og,0,none⟩) i oc) rows)) [(0,some (900,0))] O O O (fun w hI=>zbZ (show w.ownsRow 0 _ 1 _ _ _ from dL ▸ hI.at 903 O) (hI.at 902 O) (fun _ h=>.inl h) (fun k u q h h2=>.inr ⟨k,u,h,h2⟩)) (fun w w' T h hk hT=>h.keep (zO zc) hk fun b hb hl=>hT b hl hb) (fun _ h=>h) (fun q hq=>hq) ?_;refine zs8 903 O (p:=(fun w=>SlR 1 (RSl 1 zw) (fun q=>(Value.slice (some ⟨og,0,none⟩) i oc).ownBlock=some q\/∃ (k:Nat) (u:Value),hv[k]?=some u/\u.ownBlock=some q) w (.slice (some ⟨og,0,none⟩) i oc) rows)) (fun w w' T h hk hT=>h.keep (zO zc) hk fun b hb _=>hT b hb) (fun w hI=>hI.at 903 O) (fun wp dN du=>(Vs 18 O (zrm (σ:=Nat) [0,123,124] [900,901,903] [0] O (fun e n=>(125,.int .i64 n)::e) (fun e n=>e) (fun n=>n<=s.nodes.length/\(∀ (m:Nat) x,m<n->s.nodes[m]?=some x->NodU f g s m x)) (fun n=>s.nodes.length - n) 0 j2 j3 j1 j1 j1 ⟨zt5 _,fun m x h=>absurd h (zvW _)⟩ ?_)));rintro n ⟨hn,dO⟩;refine Vs 6 O (zoC O (fun ln=>?_) (fun ln=>?_))
 .
  refine Vs 7 O (zrh 1000 1 n tO dW O O O iY (fun x f4 f5 f7 dl eY d9 eZ eb=>?_));obtain⟨fb,fe,rfl,dw,dx⟩:=eb;obtain⟨fg,fm,rfl⟩:=dw.form;obtain⟨fp,fq,rfl⟩:=dx.form;refine zqQ 1000 tR28 ts59 O d9 tO _ rfl O ?_;have dm:=hF.nod n x dl;have f8:=dx.max;have f9:=dw.max;have ft:n<g.length:=tO;refine Vs 1 O (V.alloc 13 tz59 O O (fun b13=>?_));refine Vs 14 O (zrm (σ:=Nat) [0,12,13,123,124,125,131,132] [13,900,901,903] [0,13] O (fun e k=>(133,.int .i64 k)::e) (fun e k=>e) (fun k=>k<=x.uses.length/\(∀ (j:Nat) u,j<k->x.uses[j]?=some u->inV f g s n u.1=u.2)) (fun k=>x.uses.length - k) 0 j2 j3 j1 j1 j1 ⟨zt5 _,fun j u h=>absurd h (zvW _)⟩ ?_);rintro k ⟨eQ,eI⟩;refine Vs 6 O (zoC O (fun lk=>?_) (fun lk=>?_))
  .
   refine Vs 6 O (zrh 2000 1 k tO dx O O O iY (fun u gc gf gh ec dQ ed fu ee=>?_));obtain rfl:=ee;refine zqQ 2000 tR57 ts85 O ed tO _ rfl O ?_;have fw:=zdx hF.of_ (dm.ver u dQ);obtain⟨u1,u2⟩:=u;dsimp only at fw;obtain⟨v,rfl⟩:∃ v:Nat,u1=(v:Int):=⟨u1.toNat,tO⟩;refine zrh 3000 0 n tO dN O O O (fun b_ d_ h_=>by have db:=du _ h_;first | omega | exact db d_) (fun r gl gq gr ef eh ei fy ej=>?_);obtain⟨fA,rfl,dR⟩:=ej;obtain⟨fB,fC,rfl⟩:=dR.form;have gs:=dM r eh;refine zrh 4000 0 v tO dR O O O (fun b_ d_ h_=>by have db:=du _ h_;first | omega | exact db d_) (fun y fD fE fF dg ek dy em dz=>?_);obtain rfl:=dz;have er:y=inV f g s n v:=by rw[<- ziV ef dg];exact dK.is dX tO tO ft
   refine Vs 1 O (V.alloc 15 tz85 O O (fun b15=>?_));refine Vs 4 O (Vq tK (Vs 5 O (zqT 3000 tR89 ts27 O ei tO (n) tO O (Vs 3 O (zqT 4000 tR27 ts3 O dy tO (v) tO O (Vs 6 O (zoC O (fun e1=>?_) (fun e1=>?_))))))))
   .
    have dA:¬ zcJ f g s:=fun h=>e1 (by rw[er];exact h.1 n x dl _ dQ);refine Vs 16 O (zoT results41 O (fun w hI=>⟨_,rfl,⟨(.slice (some ⟨og,0,none⟩) i oc,false),⟨rfl,⟨fun h=>Jw,fun h=>absurd h dA⟩⟩,hI.at 900 rfl,hI.k1,fun q hq=>hI.inS 1 900 O O hq⟩⟩))
   have dB:=xS eI ec (show inV f g s n v=u2 by omega);refine Va 7 O tO (V.back (k+1) j2 j3 ⟨tO,dB⟩ tR 0 O O)
  obtain rfl:k=x.uses.length:=tO;refine Vs 14 O (zrm (σ:=Nat) [0,123,124,125,153,154] [900,901,903] [0] O (fun e k=>(155,.int .i64 k)::e) (fun e k=>e) (fun k=>k<=x.phis.length/\(∀ (j:Nat) p,j<k->x.phis[j]?=some p->zob f g s p)) (fun k=>x.phis.length - k) 0 j2 j3 j1 j1 j1 ⟨zt5 _,fun j u h=>absurd h (zvW _)⟩ ?_);rintro k ⟨gt,eJ⟩;refine Vs 6 O (zoC O (fun lp=>?_) (fun lp=>?_))
  .
   refine Vs 6 O (zrh 5000 1 k tO dw O O O iY (fun p gw gx gy ew dr ez fG eA=>?_));obtain⟨fH,fI,rfl,dC,dD⟩:=eA;obtain⟨fJ,fK,rfl⟩:=dC.form;obtain⟨fL,fM,rfl⟩:=dD.form;refine zqQ 5000 tR56 ts88 O ez tO _ rfl O ?_;have fN:=dm.phi.frm p dr;have gz:=dm.phi.len p dr;have gA:=zdx hF.of_ (dm.phi.ver p dr);have gB:=dC.max;have gC:=dD.max;refine Vs 1 O (V.alloc 17 tz88 O O (fun b17=>?_));refine Vs 12 O (zrm (σ:=Nat) [0,17,123,124,125,153,154,155,160,161] [17,900,901,903] [0,17] O (fun e j=>(162,.int .i64 j)::e) (fun e j=>e) (fun j=>j<=p.frm.length/\(∀ (m:Nat) y,m<j->p.frm[m]?=some y->∀ a,p.args[m]?=some a->zaG f g s y.toNat p.var=a)) (fun j=>p.frm.length - j) 0 j2 j3 j1 j1 j1 ⟨zt5 _,fun m y h=>absurd h (zvW _)⟩ ?_);rintro j ⟨hj,eK⟩;refine Vs 6 O (zoC O (fun lj=>?_) (fun lj=>?_))
   .
    refine Vs 7 O (zrh 6000 1 j tO dC O O O iY (fun y fD fE fF dg ek dy em dz=>?_));obtain rfl:=dz;refine zqQ 6000 tR27 ts3 O dy tO _ rfl O ?_;obtain⟨q,rfl,gD,eL⟩:=zeQ (fN ▸ dg);refine zrh 7000 1 j tO dD O O O iY (fun a gE gF gG dS fO eC fP eD=>?_);obtain rfl:=eD;have dT:yW f g s (bfV rows) q p.var=zaG f g s q p.var:=zmC (dK.is dX tO tO eL);refine Vs 6 O (Vw [17,900,901,6000,7000] [] O (Vd [0,1,2,3,5,6,7] 0 tK O O O (zqR 8 7000 tR27 ts3 O tK O eC tO (j) tO O (Vd [9] 0 tK O O O (zr3 4 0 call84 O tK O O (fun w hI=>zfI f g s hk tO rows nv dV q p.var eL tO tO b gb _ _ _ _ D D _ w (Blk.cells (hI.at 900 O)) (hS.keep hI.k1 fun q hd _ h=>dh q h hd) (hG.keep hI.k1 fun q hd _ h=>dh q h hd) (dN.keep (zO zc) hI.k0 fun q hd _ hs=>du q hs hd)) ?_)))));refine Vd [10] 0 tK O O O (VD.done tK (Vs 1 O (zoC O (fun e1=>?_) (fun e1=>?_))))
    .
     have dA:¬ zcJ f g s:=fun h=>e1 (by rw[dT];exact h.2 n x dl p dr j _ a dg dS);refine Vs 19 O (zoT results41 O (fun w hI=>⟨_,rfl,⟨(.slice (some ⟨og,0,none⟩) i oc,false),⟨rfl,⟨fun h=>Jw,fun h=>absurd h dA⟩⟩,hI.at 900 rfl,hI.k1,fun q hq=>hI.inS 1 900 O O hq⟩⟩))
    have dB:=xS eK dg (show ∀ a',p.args[j]?=some a'->zaG f g s (Int.toNat (q:Int)) p.var=a' from fun a' fQ=>by
     obtain rfl:a'=a:=Option.some.inj (fQ.symm.trans dS);have e2:=zsZ.1 e1
     rw[dT]at e2;exact e2)
    refine Va 7 O tO (V.back (j+1) j2 j3 ⟨tO,dB⟩ tR 0 O O)
   obtain rfl:j=p.frm.length:=tO;have dB:=xS eJ ew (show zob f g s p from fun m y hm a ha=>eK m y (zt4.1 hm).1 hm a ha);refine Va 10 O tO (V.back (k+1) j2 j3 ⟨tO,dB⟩ tR 0 O O)
  obtain rfl:k=x.phis.length:=tO
  have dB:∀ (m:Nat) x',m<n+1->s.nodes[m]?=some x'->NodU f g s m x':=fun m x' hm hx=>by
   by_cases e:m=n
   .
    subst e;obtain rfl:x'=x:=Option.some.inj (hx.symm.trans dl);exact⟨fun u hu=>by obtain⟨q,hq⟩:=zv7.1 hu;exact za1 eI q u hq,fun p hp=>by obtain⟨q,hq⟩:=zv7.1 hp;exact za1 eJ q p hq⟩
   exact dO m x' tO hx
  refine Va 10 O tO (V.back (n+1) j2 j3 ⟨tO,dB⟩ tR 0 O O)
 obtain rfl:n=s.nodes.length:=tO;have eE:zcJ f g s:=ziZ (za1 dO);refine Vs 11 O (zoT results41 O (fun w hI=>⟨_,rfl,⟨(.slice (some ⟨og,0,none⟩) i oc,true),⟨rfl,⟨fun _=>eE,fun _=>rfl⟩⟩,hI.at 900 rfl,hI.k1,fun q hq=>hI.inS 1 900 O O hq⟩⟩))
def EncS (D:Nat->Prop) (w:World) (l:List St) (xs:List Value):Prop:=xs.length=l.length*10/\∀ (i:Nat) x,l[i]?=some x->RSt D w x ((xs.drop (i*10)).take 10)
theorem EncS.nil:EncS D w [] []:=⟨rfl,fun i x h=>by simp at h⟩
theorem EncS.add {l:List St} {x:St} (h:EncS D w l xs) (hx:RSt D w x cs) (hc:cs.length=10):EncS D w (l++[x]) (xs++cs):=by
 have h1:=h.1;refine⟨by rw[zsY,zsY,h1,hc,ztb];omega,fun i y hy=>?_⟩;by_cases hi:i<l.length
 .
  rw[ztg hi]at hy;rw[zuc tO,zvB (by rw[zuP];omega)];exact h.2 i y hy
 have hl:=(zt4.1 hy).1;rw[zsY,ztb]at hl;obtain rfl:i=l.length:=tO;rw[zth tO,zvX]at hy;obtain rfl:x=y:=by simpa using hy
 rw[<- h1,List.drop_left,zvC tO];exact hx
theorem zl0 (l:List St):∀ (D:Nat->Prop) (W0 W:World) (v uo:Value) (acc:List St) (xs:List Value),SlR 10 RSt D W0 v l->EqD D W0 W->EncS D W0 acc xs->(HE.row 72 10 uo acc.length xs).holds W->(∀ q,D q->uo.ownBlock ≠ some q)->acc.length+ssize l<=1000000 ->
  Calls prog 75 #[v,uo] W (Ret fun r w'=>∃ x:Value × List Value,(r=x.1/\EncS D W0 (acc++preL l) x.2)/\(HE.row 72 10 x.1 (acc++preL l).length x.2).holds w'/\Keep (HE.row 72 10 uo acc.length xs).S W w'/\∀ q,(HE.row 72 10 x.1 (acc++preL l).length x.2).S q->((HE.row 72 10 uo acc.length xs).S q\/W.heap.size<=q)/\q<w'.heap.size):=by
 induction l using zqD with
 | h l ih =>
 intro D W0 W v uo acc xs dK hY dL da dM dN;have hl:=hY.to zf dK;obtain⟨av,cv,rfl⟩:=hl.form;have d8:=hl.max;have db:∀ q,(HE.row 72 10 uo acc.length xs).S q->¬ D q:=fun q h hd=>dM q hd h;refine zqr func75 O ntmps75 O (zrz 900 (.row 72 10 uo acc.length xs) (da) trivial (fun _ h=>h) (fun q hq=>xA da hq) (Vs 13 O (zrl 900 O (e':=.row 72 10 uo (acc++preL (l.take 0)).length xs) (by rw[show acc++preL (l.take 0)=acc from zu3 _]) (Vs 1 O (zrm (σ:=Nat × Value × List Value) [7,8] [] [] O (fun e ⟨i,u,ys⟩=>(9,.int .i64 i)::(1,u)::e) (fun e ⟨i,u,ys⟩=>(900,.row 72 10 u (acc++preL (l.take i)).length ys)::e) (fun⟨i,u,ys⟩=>i<=l.length/\EncS D W0 (acc++preL (l.take i)) ys) (fun⟨i,u,ys⟩=>l.length - i) (0,uo,xs) j2 j3 j1 j1 j1 ⟨zt5 _,by rw[show acc++preL (l.take 0)=acc from zu3 _];exact dL⟩ ?_)))));rintro⟨i,u,ys⟩ ⟨hi,dD⟩;refine Vs 6 O (zoC O (fun lt=>?_) (fun lt=>?_))
 .
  refine Vs 6 O (zrh 1000 0 i tO hl O O O (fun b_ d_ h_=>by have dO:=db _ h_;first | omega | exact dO d_) (fun x d9 eb ec dc dg dE dQ dF=>?_));obtain⟨dR,dS,dT,dU,rfl,dh,dl,dm,dr⟩:=dF.get;obtain⟨dt,du,rfl⟩:=dh.form;obtain⟨dw,dx,rfl⟩:=dl.form;obtain⟨dy,dz,rfl⟩:=dm.form;obtain⟨dA,dB,rfl⟩:=dr.form;refine zqQ 1000 tR24 ts72 O dE tO _ rfl O ?_;have ed:=qk dc;have ee:=x.size_eq;have dV:=zio dc;have dW:=qe (l.take i);have dX:=qe x.thn;have dY:=qe x.els;have dH:=hY.back zf dl;have dI:=hY.back zf dm;have dZ:=hY.back yF dh;have d5:=hY.back zc dr;have dG:EncS D W0 (acc++preL (l.take i)++[x]) (ys++[.int .i64 x.act,.int .i64 x.cost,.int .i64 x.var,.int .i64 x.n,.int .i64 x.term.op,.int .i64 x.term.n,.slice dt x.term.kids.length du,.slice dw x.thn.length dx,.slice dy x.els.length dz,.slice dA x.bounds.length dB]):=dD.add (RSt.put dZ dH dI d5) rfl;have dC:acc++preL (l.take i)++[x]++preL x.thn++preL x.els=acc++preL (l.take (i+1)):=by rw[dV,x.pre_eq];simp
  have d6:ssize (l.take i)+(1+ssize x.thn+ssize x.els)<=ssize l:=tO;have ef:(acc++preL (l.take i)).length=acc.length+ssize (l.take i):=by rw[zsY,dW]
  refine Vs 1 O (V.alloc 6 tz72 O O (fun b6=>?_));refine Vs 7 O (V.bs 15 [(0,_)] tR24 ts72 tz72 tS O O tK (fun b15=>?_));refine zqV 900 15 tu24 Tryz.el72 O tS O O tO tO (fun u900=>(Vs 3 O (zrl 900 O (e':=.row 72 10 u900 (acc++preL (l.take i)++[x]).length (ys++[.int .i64 x.act,.int .i64 x.cost,.int .i64 x.var,.int .i64 x.n,.int .i64 x.term.op,.int .i64 x.term.n,.slice dt x.term.kids.length du,.slice dw x.thn.length dx,.slice dy x.els.length dz,.slice dA x.bounds.length dB])) (by rw[zsY (bs:=[x])];rfl) (Vw [1000,6,15] [] O (Vd [0,1,2,3,4] 0 tK O O O (zr8 5 900 0 (E:=fun z:Value × List Value=>.row 72 10 z.1 (acc++preL (l.take i)++[x]++preL x.thn).length z.2) call75 O tK O O iJ (fun w hI=>(ih x dg).1 D W0 w _ _ (acc++preL (l.take i)++[x]) _ dH (hY.keep hI.k0 (fun b hb=>hY.lt hb) (fun b hb hs=>db b hs hb)) dG (hI.at 900 O) UT (by simp only[zsY,ztb]at *;omega)) ?_))))));rintro u2 ⟨_,y2⟩ ⟨rfl,d7⟩;refine zr8 6 900 0 (E:=fun z:Value × List Value=>.row 72 10 z.1 (acc++preL (l.take i)++[x]++preL x.thn++preL x.els).length z.2) call75 O tK O O iJ (fun w hI=>(ih x dg).2 D W0 w _ _ (acc++preL (l.take i)++[x]++preL x.thn) _ dI (hY.keep hI.k0 (fun b hb=>hY.lt hb) (fun b hb hs=>db b hs hb)) d7 (hI.at 900 O) UT (by simp only[zsY,ztb]at *;omega)) ?_;rintro u3 ⟨_,y3⟩ ⟨rfl,dJ⟩;refine Vd [7] 0 tK O O O (VD.done tK (Va 6 O tO ?_));rw[dC]at dJ;refine zrl 900 O (e':=.row 72 10 u3 (acc++preL (l.take (i+1))).length y3) (by rw[dC]) (V.back ⟨i+1,u3,y3⟩ j2 j3 ⟨tO,dJ⟩ tR 0 O O)
 obtain rfl:i=l.length:=tO;rw[zsV]at dD;refine zrl 900 O (e':=.row 72 10 u (acc++preL l).length ys) Jk (Vs 12 O (zoT results75 O (fun w hI=>⟨_,rfl,⟨(u,ys),⟨rfl,dD⟩,hI.at 900 rfl,hI.k0,fun q hq=>hI.inS 0 900 O O hq⟩⟩)))
def jU (x:Nd) (q:Nat):List Int:=([x.next,x.other].take q).filter fun y=>decide (0<=y)
def jF (x:Nd):List Int:=jU x 2
theorem zeT (x:Nd) (q:Nat):(jU x q).length<=2:=by
 unfold jU;refine zsW (zuR _ _) ?_;rw[ztk];exact Nat.min_le_right _ _
def eds (x:Nd) (q:Nat):Int:=if q=0 then x.next else x.other
theorem zhq (x:Nd) (hq:q<2):jU x (q+1)=jU x q++if 0<=eds x q then [eds x q] else []:=by
 have h:q=0\/q=1:=tO;rcases h with rfl | rfl
 . by_cases h:0<=x.next<;>simp[jU,eds,h]
 by_cases h:0<=x.next<;>by_cases h2:0<=x.other<;>simp[jU,eds,h,h2]
theorem zmD (x:Nd) (hq:q<2):[Value.int .i64 x.next,Value.int .i64 x.other][((q:Int)).toNat]?=some (.int .i64 (eds x q)):=by
 have h:q=0\/q=1:=tO;rcases h with rfl | rfl<;>rfl
theorem mem_succ {y:Int}:y ∈ jF x ↔ 0<=y/\(x.next=y\/x.other=y):=by
 unfold jF jU;simp only[List.take,zv4,zt6,zvh,or_false,decide_eq_true_eq];constructor
 .
  rintro⟨h1 | h1,h2⟩
  . exact⟨h2,.inl h1.symm⟩
  exact⟨h2,.inr h1.symm⟩
 rintro⟨h2,h1 | h1⟩
 . exact⟨.inl h1.symm,h2⟩
 exact⟨.inr h1.symm,h2⟩
theorem zgA (x:Nd) (W:World) :
  Calls prog 76 #[.agg (xE x).toArray] W (Ret fun r w'=>SlR 1 zw (fun b=>W.heap.size<=b) w' r (jF x)/\Ext W w'):=by
 refine zqq func76 O ntmps76 O (V.inn (Vs 2 O (V.box 1 O O (fun b1=>?_))));refine Vs 15 O (zrt [Value.int IntKind.i64 0,Value.int IntKind.i64 0] [(0,1),(1,1)] [(0,_),(1,_)] O O (fun _=>tK) (Vs 3 O (zqU 900 3 1 O (Vs 1 O (zrm (σ:=Nat × Value) [10] [] [] O (fun e ⟨q,u⟩=>(11,.int .i64 q)::(3,u)::e) (fun e ⟨q,u⟩=>(900,.row 3 1 u (jU x q).length ((jU x q).map zb))::e) (fun⟨q,u⟩=>q<=2) (fun⟨q,u⟩=>2 - q) (0,.slice none 0 0) j2 j3 j1 j1 j1 (zt5 _) ?_)))));rintro⟨q,u⟩ hq;have hl:=zeT x q;refine Vs 6 O (zoC O (fun lt=>?_) (fun lt=>?_))
 .
  have hY:q<2:=tO;have da:=zhq x hY;refine Vs 6 O (zqh O (fun w hI=>zrQ tR169 ts3 tg3 O O tO (zmD x hY)) (Vs 9 O (zoC O (fun c=>?_) (fun c=>?_))))
  .
   rw[zt1 c]at da;refine Vs 3 O (V.bs 18 [(0,_)] tR27 ts3 tz3 tS O O tK (fun b18=>?_));refine zqV 900 18 tu27 Tryz.el3 O tS O O tO tO (fun u900=>(Va 8 O tO (zrl 900 O (e':=.row 3 1 u900 (jU x (q+1)).length ((jU x (q+1)).map zb)) tD (V.back ⟨q+1,u900⟩ j2 j3 tO tD 0 O O))))
  rw[zt0 c,zu3]at da;refine zrl 900 O (e':=.row 3 1 u (jU x (q+1)).length ((jU x (q+1)).map zb)) tD (Va 7 O tO (V.back ⟨q+1,u⟩ j2 j3 tO tD 0 O O))
 obtain rfl:q=2:=tO;refine Vs 12 O (zoT results76 O (fun w hI=>⟨_,rfl,zpI zb iA (hI.at 900 O) (fun g hg=>hI.own 900 0 O O g hg),hI.k0⟩))
end Go.Proofs.YtckdhgbepmpgiaaGreat
namespace Go.GL
def zfJ (_ n:Nat) (us:List Value):List Value:=(List.replicate n us).flatten
theorem zdy {n:Nat} (h:us.length=k):(zfJ k n us).length=n*k:=by
 unfold zfJ;induction n with
 | zero=>simp
 | succ n ih=>rw[zvq,zux,zsY,ih,h,zvY];omega
theorem zgB {n:Nat} (h:us.length=k) (hi:i<n):((zfJ k n us).drop (i*k)).take k=us:=by
 unfold zfJ;induction n generalizing i with
 | zero=>omega
 | succ n ih =>
  rw[zvq,zux];cases i with
  | zero=>rw[Nat.zero_mul,List.drop_zero,List.take_left' h]
  | succ i=>rw[zvY,zvH,<- zud,List.drop_left' h];exact ih tO
theorem zmE {n:Nat} (h:us.length=k) (hj:j<n*k):(zfJ k n us)[j]?=us[j % k]?:=by
 have hk:0<k:=tD;have h1:=zgB h (i:=j / k) (n:=n) ((Nat.div_lt_iff_lt_mul hk).2 hj);have h2:us[j % k]?=(((zfJ k n us).drop (j / k*k)).take k)[j % k]?:=tD;rw[h2,zuK (Nat.mod_lt _ hk),zuB,Nat.mul_comm,Nat.div_add_mod]
theorem znF {n:Nat} (hz:z.cells=us.toArray) (h:us.length=k):madeCells z.cells (n*k)=(zfJ k n us).toArray:=by
 rw[hz];apply Array.ext
 . simp[madeCells,zdy h]
 intro i h1 h2;have hi:i<n*k:=by simpa[madeCells] using h1
 have:=zmE h (n:=n) hi;rw[zsQ tO]at this;have hk:0<k:=tD;rw[zsQ tD]at this;simp only[madeCells,List.getElem_toArray,List.size_toArray];have h3:=Option.some.inj this;rw[h3];simp[h,zsQ (show i % k<us.length by grind)]
section
variable {n:Fm} {ty:TypeId} {ps:String} {g:Option (Nat × Bool)}
theorem zsa (is k j:Nat) {ts:TypeId} {x:Operand} {o:Nat} (da:∀ w,(sizeOf ts).run P w=.ok kk w) (hi:ops[is]?=some ⟨none,.store ts x y,ty,ps,aft,g⟩) (hr:Region.ready .any ops listed=[is])
  (hn:(gd ops env g,hget H k,ev env x,ev env y,L.contains is)=(some true,some (.own b cs e),some (.pointer (some ⟨b,o,none⟩)),some v,true)) (hv:v.cells=us.toArray) (hk:us.length=kk) (h1:∀ u ∈ us,u.oneCell'=true) (hj:o=j) (hl:j+kk<=cs.length)
  (h:VDx P n Q ks ops (VI B0 Hs) L fuel (listed.setIfInBounds is true) env A (hset H k (.own b (cs.take j++us++cs.drop (j+kk)) e)) Bs):VD P n Q ks ops Hs B0 L (fuel+1) listed env A H Bs:=by
 simp only[Prod.mk.injEq]at hn;subst hj;obtain⟨h2,h3,h4,h5,h6⟩:=hn;intro hH hA w hI;have hB:Blk w b cs e:=hI.at k h3;refine zrD is hi hr h2 h6 (zps da h4 h5 hv hk h1 hB hl) ?_;rintro w2 ⟨_,hY,db⟩;exact h (hA.set h3) w2 (hI.set h3 db hY trivial (fun _ h=>h) fun q hq=>⟨.inl hq,by have hq:q=b:=hq;rw[hq];exact hY.lt⟩)
end
theorem zgC {f:FuncId} (k:Nat) {n:Nat} (h:Calls P f args w (Ret fun r w'=>w'.ownsRow 0 t kk r n cs/\(∀ g,r.ownBlock=some g->w.heap.size<=g)/\Ext w w')):Calls P f args w (Ret fun r w'=>∃ x:Value,r=x/\Hands H [] [(k,.row t kk x n cs)] w w'):=by
 refine Calls.mono h ?_;rintro e' w' ⟨r,rfl,h1,h2,h3⟩;refine⟨r,rfl,r,rfl,h3.mono fun q _ hq=>hq.elim,fun y hy=>?_,zvm _ _⟩;rw[zt8]at hy;subst hy;exact UY
end Go.GL
namespace Go.Proofs.YtckdhgbepmpgiaaGreat
open Go.GL
theorem zb1 (l:List St):∀ (v:Value) (D:Nat->Prop) (w:World),SlR 10 RSt D w v l->ssize l<=1000000->Calls prog 66 #[v] w (Ret fun r w'=>r=.int .i64 (widL l)/\Ext w w'):=by
 induction l using zqD with
 | h l ih =>
 intro v D w hl dJ;have du:=zac l;obtain⟨ao,cap,rfl⟩:=hl.form;refine zqq func66 O ntmps66 O (V.inn (Vs 19 O (zrm (σ:=Nat) [6,7] [] [] O (fun e i=>(3,.int .i64 (widL (l.take i)))::(8,.int .i64 i)::e) (fun e i=>e) (fun i=>i<=l.length) (fun i=>l.length - i) 0 j2 j3 j1 j1 j1 (zt5 _) ?_)));rintro i hi;refine Vs 6 O (zoC O (fun dK=>?_) (fun dL=>?_))
 .
  refine Vs 6 O (zri 1000 0 i tO hl O O O (fun s dM dN dO hY da dg dh=>?_));obtain⟨dw,dx,dy,dz,rfl,dl,db,dc,dm⟩:=dh.get;obtain⟨dA,dB,rfl⟩:=dl.form;obtain⟨dC,dD,rfl⟩:=db.form;obtain⟨dE,dF,rfl⟩:=dc.form;obtain⟨dG,dH,rfl⟩:=dm.form;refine zqQ 1000 tR24 ts72 O dg tO _ rfl O ?_;have dQ:=qk hY;have dR:=s.size_eq;have dr:=s.wid_eq;have dt:=zbp hY;have dS:=xi l;have dI:=zad hY;have dT:=xi s.thn;have dU:=xi s.els;refine Vs 1 O (V.alloc 5 tz72 O O (fun b5=>?_));refine Vs 4 O (Vw [1000,5] [] O (Vd [0,1,2,5,6] 0 tK O O O (zr3 3 0 tc66 O tK O O (fun w hI=>(ih s da).1 _ D w io tO) (Vb [4] 0 tK O O O tO (zr3 7 0 tc66 O tK O O (fun w hI=>(ih s da).2 _ D w ij tO) (Vb [8,9,10] 0 tK O O O tO (VD.done tK (Vs 8 O (zoC O (fun h4=>?_) (fun h4=>?_))))))))))
  .
   rw[zt1 h4]at dr;refine Va 11 O tO (V.back (i+1) (Sub.cons (xB O (by rw[dt];omega)) Um) j3 tO tR 0 O O)
  rw[zt0 h4]at dr;refine Va 7 O tO (V.back (i+1) (Sub.cons (xB O (by rw[dt];omega)) Um) j3 tO tR 0 O O)
 obtain rfl:i=l.length:=tO;refine Vs 12 O (zr9 0 results66 O O Jk)
theorem zsb {R:Rel α} {ao:Option Addr} {n:Nat} {l:List α} {x:α} (h:SlR k R D w (.slice ao n c) l) (hx:l[i]?=some x):SlR k R D w (.slice (if c=(i:Int).toNat then ao else ao.map (·.add ((i:Int).toNat*k))) (((i:Int)+1).toNat - (i:Int).toNat) (c - (i:Int).toNat)) [x]:=by
 have hi:=(zt4.1 hx).1;have h1:=(h.drop i tO).take 1 (by rw[zuP];omega);rw[zbt hx]at h1;rw[ztc,show ((i:Int)+1).toNat - i=1 by omega];exact h1
theorem zj1 {vo':Value} {n:Nat} (hE:Ext w w1) (hf:∀ g,vo.ownBlock=some g->w.heap.size<=g) (hk:Keep (fun k=>vo.ownBlock=some k) w1 w2) (hY:vo'.ownBlock=vo.ownBlock\/∃ g,vo'.ownBlock=some g/\w1.heap.size<=g) (_:w1.ownsRow 0 65 4 vo n xs) :
  Ext w w2/\(∀ g,vo'.ownBlock=some g->w.heap.size<=g):=by
 refine⟨Keep.trans hE hk (fun k hk h=>by have:=hf k h;omega),fun g hg=>?_⟩;rcases hY with h | ⟨g',h,h'⟩
 . exact hf g (by rw[<- h];exact hg)
 rw[h]at hg;cases hg;have:=hE.size;omega
theorem zj2 {n:Nat} (ho:w1.ownsRow 0 65 4 vo n xs) (hk:Keep (fun k=>vo.ownBlock=some k) w1 w2) (hb:Blk w1 c cs e) (he:e ≠ 65):Blk w2 c cs e :=
 hk.blk hb (fun h=>by obtain⟨cs',hY⟩:=yZ ho h;exact he (hb.ty hY).1)
theorem znG (x:Nd):[x].flatMap xE=xE x:=tZ
theorem zj3 (l:List Nd):∀ u ∈ l.flatMap xE,u.oneCell'=true:=by
 intro u hu;obtain⟨x,_,hx⟩:=zv5.1 hu;exact jb x u hx
theorem jQ (l:List St):∀ a n e,(layL l a n e).length<=widL l:=by
 induction l using zqD with
 | h l ih =>
 have key:∀ r:List St,(∀ x ∈ r,x ∈ l)->∀ a n e,(layL r a n e).length<=widL r:=by
  intro r;induction r with
  | nil=>intro _ a n e;simp[layL]
  | cons s r ihr =>
   intro hm a n e;have h1:=(ih s (hm s (zsU ..))).1;have h2:=(ih s (hm s (zsU ..))).2;have h3:=ihr (fun y hy=>hm y im) (a+s.size) (n+s.wid) e;have hw:=s.wid_eq
   have h4:∀ a n e,(s.lay a n e).length<=s.wid:=by
    intro a n e;rw[s.lay_eq];split
    .
     rw[ztj,zsY];have:=h1 (a+1) (n+1) e;have:=h2 (a+1+ssize s.thn) (n+1+widL s.thn) e;omega
    split
    .
     rename_i a4;rw[zt1 a4]at hw;have:=h1 (a+1) (n+2) (n+1);simp only[ztj];omega
    simp;omega
   have:=h4 a n (if r.isEmpty=true then e else n+s.wid);rw[layL,zsY,widL];omega
 exact key l (fun x h=>h)
theorem zc0 {l:List α} (h:(0:Int)<(l.length:Int)):l.isEmpty=false:=by cases l<;>simp_all
theorem zc1 {l:List α} (h:¬ (0:Int)<(l.length:Int)):l.isEmpty=true:=by
 cases l
 . rfl
 simp at h
theorem znH (l:List St):∀ (v:Value) (D:Nat->Prop) (w:World) (at_ node after:Nat),SlR 10 RSt D w v l->ssize l<=10000->at_+ssize l<=100000->node+widL l<=100000->Calls prog 67 #[v,.int .i64 at_,.int .i64 node,.int .i64 after] w (Ret fun r w'=>w'.ownsRow 0 65 4 r (layL l at_ node after).length ((layL l at_ node after).flatMap xE)/\(∀ g,r.ownBlock=some g->w.heap.size<=g)/\Ext w w'):=by
 induction l using zqD with
 | h l ih =>
 intro v D w at_ node after hl dS dT dx;have dy:=zac l;have dU:=xi l;obtain⟨av,cv,rfl⟩:=hl.form;have dz:=hl.len_cap.2;refine zqt func67 O ntmps67 O (V.inn (Vs 6 O (zqU 9 65 4 O (Vs 13 O (zrm (σ:=Nat × Value × List Nd) [0,3,17,18] [] [] O (fun e ⟨i,vo,pre⟩=>(1,.int .i64 (at_+ssize (l.take i):Nat))::(2,.int .i64 (node+widL (l.take i):Nat))::(9,vo)::(19,.int .i64 i)::e) (fun e ⟨i,vo,pre⟩=>(9,.row 65 4 vo pre.length (pre.flatMap xE))::e) (fun⟨i,vo,pre⟩=>i<=l.length/\pre.length<=widL (l.take i)/\pre++layL (l.drop i) (at_+ssize (l.take i)) (node+widL (l.take i)) after=layL l at_ node after) (fun⟨i,vo,pre⟩=>l.length - i) (0,_,[]) j2 j3 j1 j1 j1 ⟨zt5 _,tZ,by simp[ssize,widL]⟩ ?_)))));rintro⟨i,vo,pre⟩ ⟨hi,dV,db⟩;change V _ _ _ _ _ ((1,.int .i64 (at_+ssize (l.take i):Nat))::(2,.int .i64 (node+widL (l.take i):Nat))::(9,vo)::(19,.int .i64 i)::_) _ ((9,.row 65 4 vo pre.length (pre.flatMap xE))::_) _;refine Vs 6 O (zoC O (fun dW=>?_) (fun dX=>?_))
 .
  refine Vs 7 O (zri 1000 0 i tO hl O O O (fun s dY dZ d5 hY dc dh dl=>?_));obtain⟨dA,dB,dC,dD,rfl,dm,da,dg,dr⟩:=dl.get;obtain⟨dE,dF,rfl⟩:=dm.form;obtain⟨dG,dH,rfl⟩:=da.form;obtain⟨dI,dJ,rfl⟩:=dg.form;obtain⟨dK,dL,rfl⟩:=dr.form;refine zqQ 1000 tR24 ts72 O dh tO _ rfl O ?_;have d6:=zad hY;have d7:=zbp hY;have d8:=qk hY;have d9:=zab hY;have dt:=s.wid_eq;have eb:=s.size_eq;have dM:=xi s.thn;have dN:=xi s.els;rw[zbt hY,layL]at db;generalize hA:at_+ssize (l.take i)=A at *;generalize hN:node+widL (l.take i)=N at *;have dO:widL [s]=s.wid:=by simp[widL]
  have dQ:ssize [s]=s.size:=by simp[ssize]
  refine Vs 1 O (V.alloc 11 tz72 O O (fun b11=>?_));refine Va 11 O tO (zqh O (fun w hI=>zpk tR24 ts72 O O O tO tO) (zr2 tc66 O (fun w hI=>zb1 [s] _ D w (zsb (Tr1 hI.k0 hl) hY) (by simp only[ssize];omega)) ?_));rw[dO];refine Va 20 O tO (zrn (σ:=Unit) [0,1,2,3,9,10,11,12,17,18,19] [9,11] [11] O (fun e u=>(13,.int .i64 (if (l.drop (i+1)).isEmpty then after else N+s.wid:Nat))::e) (fun e u=>e) (fun u=>True) j1 j1 ?_ ?_)
  .
   refine zoC O (fun dR=>?_) (fun dR=>?_)
   . refine Vs 4 O (zoQ () (Sub.cons (xB O (by rw[zt1 (by rw[zuO,List.drop_eq_nil_iff];omega)])) j2) j3 trivial 0 O O)
   refine Vs 1 O (zoQ () (Sub.cons (xB O (by rw[zt0 (by rw[zuO,List.drop_eq_nil_iff];omega)];omega)) j2) j3 trivial 0 O O)
  rintro u _;generalize hX:(if (l.drop (i+1)).isEmpty then after else N+s.wid)=X at *;refine Vs 9 O (zrn (σ:=Value) [0,1,3,10,12,17,18,19] [] [] O (fun e vo2=>(9,vo2)::e) (fun e vo2=>(9,.row 65 4 vo2 (pre++s.lay A N X).length ((pre++s.lay A N X).flatMap xE))::e) (fun vo2=>(pre++s.lay A N X).length<=widL (l.take (i+1))) j1 j1 ?_ ?_)
  .
   refine Vs 6 O (zoC O (fun a3=>?_) (fun a3=>?_))
   .
    rw[zt0 ix]at dt;refine Vs 17 O (zrn (σ:=Unit) [0,1,2,3,9,10,11,12,13,15,17,18,19] [9,11] [11] O (fun e u=>(14,.int .i64 (if s.thn.isEmpty then X else N+1:Nat))::e) (fun e u=>e) (fun u=>True) j1 j1 ?_ ?_)
    .
     refine zoC O (fun g1=>?_) (fun g1=>?_)
     . refine Va 5 O tO (zoQ () U4 j3 trivial 0 O O)
     refine Vs 1 O (zoQ () U5 j3 trivial 0 O O)
    rintro u _;refine Vs 10 O (zrn (σ:=Unit) [0,1,2,3,9,10,11,12,13,14,17,18,19] [9,11] [11] O (fun e u=>(15,.int .i64 (if s.els.isEmpty then X else N+1+widL s.thn:Nat))::e) (fun e u=>e) (fun u=>True) j1 j1 ?_ ?_)
    .
     refine zoC O (fun g1=>?_) (fun g1=>?_)
     . refine Va 5 O tO (zr2 tc66 O (fun w hI=>zb1 s.thn _ D w iV tO) (Va 3 O tO (zoQ () U4 j3 trivial 0 O O)))
     refine Vs 1 O (zoQ () U5 j3 trivial 0 O O)
    rintro u _
    have e5:s.lay A N X=⟨3,A,(if s.thn.isEmpty then X else N+1:Nat),(if s.els.isEmpty then X else N+1+widL s.thn:Nat)⟩::(layL s.thn (A+1) (N+1) X++layL s.els (A+1+ssize s.thn) (N+1+widL s.thn) X):=by
     rw[s.lay_eq,zt1 a3];simp[apply_ite (Nat.cast (R:=Int))]
    generalize (if s.thn.isEmpty then X else N+1)=Y at *;generalize (if s.els.isEmpty then X else N+1+widL s.thn)=Z at *;have h8:=jQ s.thn (A+1) (N+1) X;have h9:=jQ s.els (A+1+ssize s.thn) (N+1+widL s.thn) X;refine Vs 7 O (zrt [Value.int IntKind.i64 0,Value.int IntKind.i64 0,Value.int IntKind.i64 0,Value.int IntKind.i64 0] [(0,1),(1,1),(2,1),(3,1)] [(0,_),(1,_),(2,_),(3,_)] O O (fun _=>tK) (V.bs 72 [(0,_)] tR34 ts65 tz65 tS O O tK (fun b72=>?_)));refine zqV 9 72 tu34 Tryz.el65 O tS O O tO tO (fun u9=>(Vs 4 O (zrl 9 O (e':=.row 65 4 u9 (pre++[(⟨3,A,Y,Z⟩:Nd)]).length ((pre++[(⟨3,A,Y,Z⟩:Nd)]).flatMap xE)) (by simp[xE]) ?_)));have du:(pre++[(⟨3,A,Y,Z⟩:Nd)]).length=pre.length+1:=tZ;refine Va 9 O tO (zrM [] (Hn:=fun x:Value=>[(901,.row 65 4 x (layL s.thn (A+1) (N+1) X).length ((layL s.thn (A+1) (N+1) X).flatMap xE))]) [(11,some (11,0)),(75,some (11,7))] call67 O iA j1 (fun w hI=>zgC 901 ((ih s dc).1 _ D w (A+1) (N+1) X iV tO tO tO)) ?_);rintro _ r901 rfl;refine zrp 9 xE zJ jb (fun _ _ _ _ h=>h) tu34 Tryz.el65 O tS O (fun w hI=>⟨_,zpJ (R:=RNd) (D:=fun _=>True) tO xE zJ (fun x _=>rfl) (hI.at 901 O) (fun _ _=>trivial)⟩) tO tO (fun u9=>(Vs 3 O (Vw [11,72] [] O (Vb [0,1,2,3,4,5,6,9,10,11,12,15] 0 tK O O O tO (zr3 7 0 call56 O tK O O (fun w hI=>zct s.thn _ D w iV tO) (Vb [8] 0 tK O O O tO (zr3 13 0 tc66 O tK O O (fun w hI=>zb1 s.thn _ D w iV tO) ?_)))))));refine Vb [14] 0 tK O O O tO (zrN 16 0 [] (Hn:=fun x:Value=>[(902,.row 65 4 x (layL s.els (A+1+ssize s.thn) (N+1+widL s.thn) X).length ((layL s.els (A+1+ssize s.thn) (N+1+widL s.thn) X).flatMap xE))]) [(11,some (11,0)),(75,some (11,7)),(85,some (11,8)),(89,some (11,7)),(95,some (11,7))] call67 O tK O O j1 iA j1 (fun w hI=>zgC 902 ((ih s dc).2 _ D w (A+1+ssize s.thn) (N+1+widL s.thn) X ic tO tO tO)) ?_);rintro _ r902 rfl;refine zrq 17 9 0 xE zJ jb (fun _ _ _ _ h=>h) tu34 Tryz.el65 O tS O tK O O (fun w hI=>⟨_,zpJ (R:=RNd) (D:=fun _=>True) tO xE zJ (fun x _=>rfl) (hI.at 902 O) (fun _ _=>trivial)⟩) tO tO (fun u9=>(Vd [18] 0 tK O O O (VD.done tK (zrl 9 O (e':=.row 65 4 u9 (pre++s.lay A N X).length ((pre++s.lay A N X).flatMap xE)) (by rw[e5];simp[xE]<;>omega) ?_))));refine zoQ _ j2 j3 (by rw[e5];simp;omega) 0 O O
   refine Vs 6 O (zoC O (fun a4=>?_) (fun a4=>?_))
   .
    rw[zt1 a4]at dt;refine Va 16 O tO (zrn (σ:=Unit) [0,1,2,3,9,10,11,12,13,17,18,19] [9,11] [11] O (fun e u=>(16,.int .i64 (if s.thn.isEmpty then N+1 else N+2:Nat))::e) (fun e u=>e) (fun u=>True) j1 j1 ?_ ?_)
    .
     refine zoC O (fun g1=>?_) (fun g1=>?_)
     . refine Va 5 O tO (zoQ () U4 j3 trivial 0 O O)
     refine Vs 1 O (zoQ () U5 j3 trivial 0 O O)
    rintro u _
    have e5:s.lay A N X=⟨4,A,(N+1:Nat),-1⟩::⟨5,A,(if s.thn.isEmpty then N+1 else N+2:Nat),X⟩::layL s.thn (A+1) (N+2) (N+1):=by
     rw[s.lay_eq,zt0 a3,zt1 a4];simp[apply_ite (Nat.cast (R:=Int))]
    generalize (if s.thn.isEmpty then N+1 else N+2)=Y at *;have h8:=jQ s.thn (A+1) (N+2) (N+1);refine Va 7 O tO (zrt [Value.int IntKind.i64 0,Value.int IntKind.i64 0,Value.int IntKind.i64 0,Value.int IntKind.i64 0] [(0,1),(1,1),(2,1),(3,1)] [(0,_),(1,_),(2,_),(3,_)] O O (fun _=>tK) (Vs 3 O (zrt [Value.int IntKind.i64 0,Value.int IntKind.i64 0,Value.int IntKind.i64 0,Value.int IntKind.i64 0] [(0,1),(1,1),(2,1),(3,1)] [(0,_),(1,_),(2,_),(3,_)] O O (fun _=>tK) (V.bs 121 [(0,_),(1,_)] tR34 ts65 tz65 tS O O tK (fun b121=>?_)))));refine zqV 9 121 tu34 Tryz.el65 O tS O O tO tO (fun u9=>(Vs 3 O (zrl 9 O (e':=.row 65 4 u9 (pre++[(⟨4,A,(N+1:Nat),-1⟩:Nd),⟨5,A,Y,X⟩]).length ((pre++[(⟨4,A,(N+1:Nat),-1⟩:Nd),⟨5,A,Y,X⟩]).flatMap xE)) (by simp[xE]) ?_)));have du:(pre++[(⟨4,A,(N+1:Nat),-1⟩:Nd),⟨5,A,Y,X⟩]).length=pre.length+2:=tZ;refine Va 10 O tO (zrM [] (Hn:=fun x:Value=>[(901,.row 65 4 x (layL s.thn (A+1) (N+2) (N+1)).length ((layL s.thn (A+1) (N+2) (N+1)).flatMap xE))]) [(11,some (11,0)),(124,some (11,7))] call67 O iA j1 (fun w hI=>zgC 901 ((ih s dc).1 _ D w (A+1) (N+2) (N+1) iV tO tO tO)) ?_);rintro _ r901 rfl;refine zrp 9 xE zJ jb (fun _ _ _ _ h=>h) tu34 Tryz.el65 O tS O (fun w hI=>⟨_,zpJ (R:=RNd) (D:=fun _=>True) tO xE zJ (fun x _=>rfl) (hI.at 901 O) (fun _ _=>trivial)⟩) tO tO (fun u9=>(Vs 2 O (zrl 9 O (e':=.row 65 4 u9 (pre++s.lay A N X).length ((pre++s.lay A N X).flatMap xE)) (by rw[e5];simp[xE]<;>omega) ?_)));refine zoQ _ j2 j3 (by rw[e5];simp;omega) 0 O O
   rw[zt0 a4]at dt;have e5:s.lay A N X=[⟨2,A,X,-1⟩]:=by rw[s.lay_eq,zt0 a3,zt0 a4]
   refine Vs 4 O (zrt [Value.int IntKind.i64 0,Value.int IntKind.i64 0,Value.int IntKind.i64 0,Value.int IntKind.i64 0] [(0,1),(1,1),(2,1),(3,1)] [(0,_),(1,_),(2,_),(3,_)] O O (fun _=>tK) (V.bs 45 [(0,_)] tR34 ts65 tz65 tS O O tK (fun b45=>?_)));refine zqV 9 45 tu34 Tryz.el65 O tS O O tO tO (fun u9=>(Vs 2 O (zrl 9 O (e':=.row 65 4 u9 (pre++s.lay A N X).length ((pre++s.lay A N X).flatMap xE)) (by rw[e5];simp[xE]<;>omega) ?_)));refine zoQ _ j2 j3 (by rw[e5];simp;omega) 0 O O
  rintro vo2 dw;refine Va 9 O tO (zqh O (fun w hI=>zpk tR24 ts72 O O O tO tO) (zr2 call56 O (fun w hI=>zct [s] _ D w (zsb (Tr1 hI.k0 hl) hY) (by simp only[ssize];omega)) ?_));rw[dQ];refine Va 14 O tO (V.back ⟨i+1,vo2,pre++s.lay A N X⟩ (Sub.cons (xB O tO) (Sub.cons (xB O tO) (Sub.cons rfl Um))) j3 ⟨tO,dw,by rw[<- db,zu2,show at_+ssize (l.take (i+1))=A+s.size by omega,show node+widL (l.take (i+1))=N+s.wid by omega]⟩ tR 0 O O)
 obtain rfl:i=l.length:=tO;rw[zuf,layL,zu3]at db;refine Vs 12 O (zoT results67 O (fun w hI=>⟨_,rfl,by rw[<- db];exact hI.at 9 rfl,fun g hg=>(hI.inS 0 9 O O hg).1.elim False.elim id,hI.k0⟩))
theorem zfK (f:Fl) (v1 v2 v3:Value) (D:Nat->Prop) (w:World) (hf:RFl D w f v1 v2 v3) (dE:ssize f.body<=10000) :
  Calls prog 33 #[.agg #[v1,v2,v3]] w (Ret fun r w'=>(∃ nv,r=.agg #[nv]/\SlR 4 RNd (fun b=>w.heap.size<=b) w' nv (zd f))/\Ext w w'):=by
 have dW:=xi f.body;have dX:=jQ f.body 0 1 (1+widL f.body);refine zqq func33 O ntmps33 O (Gs 2 O (G.mem O O (M.box O O) ?_));rintro _ w1 ⟨c,rfl,hc,dY,da,dF⟩;refine G.mem O O (M.alloc (cs:=[.slice none 0 0]) tz36 O) ?_;rintro _ w2 ⟨r,rfl,hr,dZ,hY,dx⟩;replace da:=dx.blk da (fun h=>h);have dy:=dF.ext dx;refine Gs 5 O (zqk O tg24 (da.cells 2 _ O) (G.call O tc66 (zb1 f.body _ D w2 (hf.body.ext zf dy) tO) ?_));rintro _ w3 ⟨rfl,dc⟩;replace da:=dc.blk da (fun h=>h);replace hY:=dc.blk hY (fun h=>h);have dz:=dy.ext dc;refine Ga 6 O tO (zqg O O (R.build (v:=.agg #[.int .i64 0,.int .i64 (-1),.int .i64 1,.int .i64 (-1)]) [(0,_),(1,_),(2,_),(3,_)] O (fun _=>tK)) (G.mem O O (M.buildSlice (cs:=xE ⟨0,-1,1,-1⟩) [(0,_)] tR34 ts65 tz65 tS O tK) ?_));rintro _ w4 ⟨g4,rfl,d5,d6,dG,dg⟩;replace da:=dg.blk da (fun h=>h);replace hY:=dg.blk hY (fun h=>h);have dA:=dz.ext dg;have dH:w4.ownsRow 0 65 4 (.slice (some ⟨g4,0,none⟩) 1 1) 1 (xE ⟨0,-1,1,-1⟩):=zK (k:=4) (n:=1) (cap:=1) dG (ztf _) tS rfl
 have dI:∀ g,Value.ownBlock (.slice (some ⟨g4,0,none⟩) 1 1)=some g->w.heap.size<=g:=fun g hg=>by
  obtain rfl:g4=g:=Option.some.inj hg;have:=dz.size;omega
 refine Gs 7 O (zqk O tg24 (da.cells 2 _ O) (Gs 1 O (G.call O call67 (znH f.body _ D w4 0 1 (1+widL f.body) (hf.body.ext zf dA) dE tO tO) ?_)));rintro r5 w5 ⟨dJ,dK,dh⟩;replace hY:=dh.blk hY (fun h=>h);have dL:=dA.ext dh;have dl:=zi dH dh (fun _ _ h=>h);refine G.mem O O (zqA tu34 Tryz.el65 O tS O O dl dJ (zj3 _) tO tO) ?_;rintro v6 w6 ⟨dM,dN,dB⟩;obtain⟨dO,dm⟩:=zj1 dL dI dB dN dl;replace hY:=zj2 dl dB hY tS;refine Gs 6 O (zqg O O (R.build (v:=.agg #[.int .i64 1,.int .i64 (-1),.int .i64 (-1),.int .i64 (-1)]) [(0,_),(1,_),(2,_),(3,_)] O (fun _=>tK)) (G.mem O O (M.buildSlice (cs:=xE ⟨1,-1,-1,-1⟩) [(0,_)] tR34 ts65 tz65 tS O tK) ?_));rintro _ w7 ⟨g7,rfl,d7,d8,dQ,dr⟩;replace hY:=dr.blk hY (fun h=>h);have dR:=dO.ext dr;have dt:=zi dM dr (fun _ _ h=>h);refine G.mem O O (M.append tu34 Tryz.el65 O tS O O dt O (Cells.add dQ.cells) (jb _) tO tO) ?_;rintro v8 w8 ⟨du,dS,dC,_⟩;obtain⟨dT,dw⟩:=zj1 dR dm dC dS dt;replace hY:=zj2 dt dC hY tS;obtain⟨av,cv,rfl⟩:=zD du;refine zqg O O (R.build (v:=.agg #[.slice av (1+(layL f.body 0 1 (1+widL f.body)).length+1) cv]) [(0,_)] O (fun _=>tK)) (zpr O (zps ts36 O O O O tX hY tZ) ?_);rintro wf ⟨_,dU,dD⟩
 have db:=zi du dD (fun g hg h=>by
  obtain⟨cs',dV⟩:=yZ du hg
  exact dV.ne hY tS h)
 refine Gs 3 O (zp1 results33 O (kr tg36 ts36 O dU.cells) ?_);refine⟨_,rfl,⟨_,rfl,?_⟩,dT.trans dD (fun q hq h=>tO)⟩;refine zpJ tS xE zJ iA (n:=1+(layL f.body 0 1 (1+widL f.body)).length+1) (e:=65) ?_ dw;unfold zd;rw[zut,zus,znG,<- zu2];exact db
def InE (ns:List Nd) (n e1 e2:Nat):Prop:=∀ x ∈ ns,∀ to,to=x.next\/to=x.other->to=-1\/to=(e1:Int)\/to=(e2:Int)\/((n:Int)<=to/\to<(n+ns.length:Nat))
structure LoopAt (ns:List Nd) (n j:Nat) (y:Nd) (E:Nat):Prop where
 pos:0<j
 lt:n+j<E
 le:E<=n+ns.length
 out:y.other<((n+j:Nat):Int)\/(E:Int)<=y.other
 only:∀ (i:Nat) x,ns[i]?=some x->∀ to,to=x.next\/to=x.other->((n+j:Nat):Int)<=to->to<(E:Int)->(j<=i/\n+i<E)\/(i+1=j/\x.kind=4/\to=((n+j:Nat):Int))
def Loops (ns:List Nd) (n:Nat):Prop:=∀ (j:Nat) y,ns[j]?=some y->y.kind=5->∃ E,LoopAt ns n j y E
theorem InE.append {A:List Nd} {n g1 g2:Nat} (hA:InE A n e1 e2) (hB:InE B (n+A.length) f1 f2) (he:∀ e,e=e1\/e=e2->e=g1\/e=g2\/n+A.length<=e/\e<n+A.length+B.length) (hf:∀ e,e=f1\/e=f2->e=g1\/e=g2\/n<=e/\e<n+A.length):InE (A++B) n g1 g2:=by
 intro x hx to h;rw[zsY];have p1:=he e1 (.inl rfl);have p2:=he e2 (.inr rfl);have q1:=hf f1 (.inl rfl);have q2:=hf f2 (.inr rfl);rcases zt9.1 hx with hx | hx
 .
  have:=hA x hx to h;omega
 have:=hB x hx to h;omega
theorem Loops.append {A:List Nd} {n:Nat} (lA:Loops A n) (lB:Loops B (n+A.length)) (hA:InE A n e1 e2) (hB:InE B (n+A.length) f1 f2) (h1:∀ e,e=e1\/e=e2->e<=n+A.length\/n+A.length+B.length<=e) (h2:∀ e,e=f1\/e=f2->e<n\/n+A.length+B.length<=e):Loops (A++B) n:=by
 have p1:=h1 e1 (.inl rfl);have p2:=h1 e2 (.inr rfl);have q1:=h2 f1 (.inl rfl);have q2:=h2 f2 (.inr rfl);intro j y hy hk;by_cases hj:j<A.length
 .
  rw[ztg hj]at hy;obtain⟨E,p1,p2,p3,p4,p5⟩:=lA j y hy hk;refine⟨E,p1,p2,tD,p4,fun i x hx to h hl hu=>?_⟩;by_cases hi:i<A.length
  .
   rw[ztg hi]at hx;exact p5 i x hx to h hl hu
  rw[zth tO]at hx;have:=hB x (zsR hx) to h;omega
 rw[zth tO]at hy;obtain⟨E,p1,p2,p3,p4,p5⟩:=lB _ y hy hk;refine⟨E,tO,tO,tD,tO,fun i x hx to h hl hu=>?_⟩;by_cases hi:i<A.length
 .
  rw[ztg hi]at hx;have:=hA x (zsR hx) to h;omega
 rw[zth tO]at hx;rcases p5 _ x hx to h tO hu with h | h
 . omega
 omega
theorem zsc {n:Nat} (h:x.kind ≠ 5):Loops [x] n:=by
 intro j y hy hk
 grind
theorem qb {l:List St} (h:l.isEmpty=false):1<=widL l:=by
 cases l with
 | nil=>simp at h
 | cons s t=>have:=s.wid_eq;simp only[widL];omega
theorem zj4 (l:List St):plainL l=true->∀ a n e:Nat,(e<n\/n+widL l<=e)->InE (layL l a n e) n e e/\Loops (layL l a n e) n:=by
 induction l using zqD with
 | h l ih =>
 intro hp
 have key:∀ r:List St,(∀ x ∈ r,x ∈ l)->∀ a n e:Nat,(e<n\/n+widL r<=e)->InE (layL r a n e) n e e/\Loops (layL r a n e) n:=by
  intro r;induction r with
  | nil=>intro _ a n e _;exact⟨fun x hx=>by simp[layL]at hx,fun j y hy=>by simp[layL]at hy⟩
  | cons s r ihr =>
   intro hm a n e db;have hs:=yM hp s (hm s (zsU ..));have hr:plainL r=true:=zbr fun y hy=>yM hp y (hm y im);have dc:=hs;rw[s.plainB_eq,ztz,ztz]at hs;have h1:=(ih s (hm s (zsU ..))).1 hs.1.2;have h2:=(ih s (hm s (zsU ..))).2 hs.2;have hw:=s.wid_eq;simp only[widL]at db;have dr:=zA r hr (a+s.size) (n+s.wid) e
   have hY:(s.lay a n (if r.isEmpty then e else n+s.wid)).length=s.wid:=by
    have h1:=zA [s] (by rw[plainL,dc];rfl) a n (if r.isEmpty then e else n+s.wid);simpa[layL,widL] using h1
   obtain⟨r1,r2⟩:=ihr (fun y hy=>hm y im) (a+s.size) (n+s.wid) e tO;rw[layL]
   have dg:(if r.isEmpty then e else n+s.wid)=e\/(if r.isEmpty then e else n+s.wid)=n+s.wid/\1<=widL r:=by
    cases hre:r.isEmpty
    . exact .inr ⟨tZ,qb hre⟩
    grind
   generalize (if r.isEmpty then e else n+s.wid)=e' at hY dg;have dh:e'<n\/n+s.wid<=e':=tO
   have hS:InE (s.lay a n e') n e' e'/\Loops (s.lay a n e') n:=by
    rw[s.lay_eq]at hY ⊢;split
    .
     rename_i a3;rw[zt1 a3]at hY;rw[zt0 ix]at hw;obtain⟨t1,t2⟩:=h1 (a+1) (n+1) e' tO;obtain⟨u1,u2⟩:=h2 (a+1+ssize s.thn) (n+1+widL s.thn) e' tO;have da:=zA s.thn hs.1.2 (a+1) (n+1) e';have dl:=zA s.els hs.2 (a+1+ssize s.thn) (n+1+widL s.thn) e';generalize hb:layL s.thn (a+1) (n+1) e'=B at t1 t2 da ⊢;generalize hc:layL s.els (a+1+ssize s.thn) (n+1+widL s.thn) e'=C at u1 u2 dl ⊢
     have hT:∀ m1 m2:Nat,m1=(if s.thn.isEmpty then e' else n+1)->m2=(if s.els.isEmpty then e' else n+1+widL s.thn)->InE [(⟨3,a,if s.thn.isEmpty then (e':Int) else (n+1:Nat),if s.els.isEmpty then (e':Int) else (n+1+widL s.thn:Nat)⟩:Nd)] n m1 m2/\(m1=e'\/m1=n+1/\1<=widL s.thn)/\(m2=e'\/m2=n+1+widL s.thn/\1<=widL s.els):=by
      rintro m1 m2 rfl rfl;refine⟨fun x hx to h=>?_,?_,?_⟩
      . grind
      .
       cases ht:s.thn.isEmpty
       . exact .inr ⟨tZ,qb ht⟩
       grind
      cases ht:s.els.isEmpty
      . exact .inr ⟨tZ,qb ht⟩
      grind
     obtain⟨k1,k2,k3⟩:=hT _ _ rfl rfl;generalize (if s.thn.isEmpty then e' else n+1)=m1 at k1 k2;generalize (if s.els.isEmpty then e' else n+1+widL s.thn)=m2 at k1 k3;generalize dt:(⟨3,a,if s.thn.isEmpty then (e':Int) else (n+1:Nat),if s.els.isEmpty then (e':Int) else (n+1+widL s.thn:Nat)⟩:Nd)=x0 at k1 ⊢;have k0:x0.kind ≠ 5:=tD;have s1:InE ([x0]++B) n e' m2:=InE.append k1 t1 tD tO;have s2:Loops ([x0]++B) n:=Loops.append (zsc k0) t2 k1 t1 tD tD;have du:([x0]++B).length=1+widL s.thn:=tD;have u1':InE C (n+([x0]++B).length) e' e':=tD;have u2':Loops C (n+([x0]++B).length):=tD;exact⟨InE.append s1 u1' tO tO,Loops.append s2 u2' s1 u1' tO tO⟩
    rename_i a3;split
    .
     rename_i a4;rw[zt0 a3,zt1 a4]at hY;rw[zt1 a4]at hw;obtain⟨t1,t2⟩:=h1 (a+1) (n+2) (n+1) tO;have da:=zA s.thn hs.1.2 (a+1) (n+2) (n+1)
     have dm:(if s.thn.isEmpty then ((n+1:Nat):Int) else (n+2:Nat))=(n+1:Nat)\/(if s.thn.isEmpty then ((n+1:Nat):Int) else (n+2:Nat))=(n+2:Nat)/\1<=widL s.thn:=by
      cases ht:s.thn.isEmpty
      . exact .inr ⟨tZ,qb ht⟩
      grind
     generalize layL s.thn (a+1) (n+2) (n+1)=B at t1 t2 da hY ⊢;generalize (if s.thn.isEmpty then ((n+1:Nat):Int) else (n+2:Nat))=m at dm ⊢;refine⟨fun x hx to h=>?_,fun j y hy hk=>?_⟩
     .
      rw[ztj,ztj,da];rcases zt6.1 hx with rfl | hx
      . grind
      rcases zt6.1 hx with rfl | hx
      . grind
      have:=t1 x hx to h;rw[da]at this;omega
     match j with
     | 0=>simp at hy;subst hy;cases hk
     | 1 =>
      simp at hy;subst hy;refine⟨n+2+widL s.thn,tO,tO,tD,tD,fun i x hx to h hl hu=>?_⟩
      match i with
      | 0=>simp at hx;subst hx;dsimp only at h;exact .inr ⟨rfl,rfl,tO⟩
      | i+1 =>
       have:=(zt4.1 hx).1;rw[ztj,ztj,da]at this;exact .inl tO
     | j+2 =>
      rw[zuA,zuA]at hy;obtain⟨E,p1,p2,p3,p4,p5⟩:=t2 j y hy hk;rw[da]at p3;refine⟨E,tO,tO,tD,tO,fun i x hx to h hl hu=>?_⟩
      match i with
      | 0=>simp at hx;subst hx;dsimp only at h;omega
      | 1=>simp at hx;subst hx;dsimp only at h;omega
      | i+2 =>
       rw[zuA,zuA]at hx;rcases p5 i x hx to h tO hu with h | h
       . omega
       omega
    rename_i a4;refine⟨fun x hx to h=>?_,zsc (fun h=>tD)⟩;rw[zt8]at hx;subst hx;dsimp only at h;omega
   exact⟨InE.append hS.1 (by rw[hY];exact r1) tO tO,Loops.append hS.2 tD hS.1 (by rw[hY];exact r1) tO tO⟩
 exact key l (fun x h=>h)
theorem zmF (f:Fl) (hs:List Int) (x:Nd) (s:St) (σ:Sg) (rd:Int->Int):(xm f hs x s σ rd).1=x.next\/(xm f hs x s σ rd).1=x.other:=by
 unfold xm;split
 . exact .inl O
 split
 . exact .inl O
 split
 . exact .inl O
 split
 . exact .inr O
 dsimp only;split
 . exact .inl O
 exact .inr O
structure OnWalk (f:Fl) (r:Ins) (K i:Nat) (n:Nat) (x:Nd):Prop where
 at_:(xf f r i).at_=(n:Int)
 nd:(zd f)[n]?=some x
 go:i<K->xf f r (i+1)=⟨(xm f (ye f r) x (yj f x.at_) (xf f r i).σ (xf f r i).rd).1,(xm f (ye f r) x (yj f x.at_) (xf f r i).σ (xf f r i).rd).2.1,(xm f (ye f r) x (yj f x.at_) (xf f r i).σ (xf f r i).rd).2.2⟩/\(x.kind=0\/x.kind=2\/x.kind=3\/x.kind=4\/x.kind=5)
 fin:i=K->n+1=(zd f).length/\x.kind=1
theorem zj5 (vd:Valid f) (hg:GoesAll f r K) (hi:i<=K):∃ n x,OnWalk f r K i n x:=by
 have hY:=yw f vd.plain;rcases zvR i K with h | h
 .
  have h3:0<=(xf f r i).at_/\(xf f r i).at_<((zd f).length:Int) - 1:=by
   obtain⟨_,_,h2⟩:=hg
   grind
  obtain⟨h4,h5⟩:=vd.node h3.1 h3.2;refine⟨(xf f r i).at_.toNat,_,tO,h4,fun _=>⟨?_,h5.kind⟩,fun h'=>tO⟩;rw[show xf f r (i+1)=jS f (ye f r) (zd f) (xf f r i) from zcD _ _ _ _ _];rfl
 obtain rfl:i=K:=tO;obtain⟨_,h1,_⟩:=hg;have da:xf f r i=_:=h1;refine⟨(zd f).length - 1,⟨1,-1,-1,-1⟩,tD,?_,fun h'=>tO,fun _=>⟨tO,rfl⟩⟩;obtain⟨x,hx⟩:∃ x,(zd f)[(zd f).length - 1]?=some x:=iC;rw[hx,(zmA vd hx).1 tO]
theorem zmG (vd:Valid f) (hg:GoesAll f r K):1<=K/\K<=8193:=by
 obtain⟨K',rd',hK,hY⟩:=vd.walk (ye f r) (zhk f r);obtain rfl:=hg.unique ⟨rd',hY⟩;refine⟨?_,hK⟩;cases K with
 | zero =>
  obtain⟨_,h1,_⟩:=hg;have da:xf f r 0=_:=h1;have h2:(xf f r 0).at_=((zd f).length:Int) - 1:=tD;have h3:(xf f r 0).at_=0:=rfl;have:=yw f vd.plain;omega
 | succ K=>omega
theorem Valid.away (V:Valid f) (hx:(zd f)[i]?=some x):(∀ to,to=x.next\/to=x.other->to=-1\/1<=to)/\(x.kind=0->i=0):=by
 obtain⟨k1,_⟩:=zj4 f.body V.plain 0 1 (1+widL f.body) (.inr (ztf _));unfold zd at hx;cases i with
 | zero=>simp at hx;subst hx;exact⟨fun to h=>tD,fun _=>rfl⟩
 | succ i =>
  rw[zuA]at hx;rcases zt9.1 (zsR hx) with hm | hm
  .
   refine⟨fun to h=>by have:=k1 x hm to h;omega,fun h=>?_⟩;have:=kW _ _ _ _ x hm;omega
  grind
def edk (x:Nd) (k:Nat):Int:=if k=0 then x.next else x.other
theorem zmH (h:Blk w b [.int .i64 x.next,.int .i64 x.other] e) (hk:k<2):w.cell? ⟨b,0+(k:Int).toNat*1,none⟩=some (.int .i64 (edk x k)):=by
 have h0:=Blk.cells h 0 _ rfl;have h1:=Blk.cells h 1 _ rfl;rcases (show k=0\/k=1 by omega) with rfl | rfl
 . exact h0
 exact h1
end Go.Proofs.YtckdhgbepmpgiaaGreat
namespace Go.GL
theorem zgD {n:Nat} (h:w.ownsRow 0 e k (.slice (some ⟨b,0,none⟩) n n) n xs):Blk w b xs e:=by
 obtain⟨h1,h2⟩:=h;rcases h2 with⟨h2,_⟩ | ⟨b',cap,cur,hv,_,hg,hc,da,db,hY⟩
 . cases h2
 cases hv;have:cur.toList=xs:=tD;unfold Blk;rw[<- this];omega
end Go.GL
namespace Go.Proofs.YtckdhgbepmpgiaaGreat
open Go.GL
theorem zeU {l:List α} {x y:α} (hx:l[k]?=some x):y ∈ l.take (k+1) ↔ y ∈ l.take k\/y=x:=by
 rw[zvz,hx];simp
theorem zj6 (l:List Int) (x:Int) (v:Value) (D:Nat->Prop) (W:World) (hv:SlR 1 zw D W v l):Calls prog 91 #[v,.int .i64 x] W (Ret fun r w'=>(∃ i:Int,r=.int .i64 i/\(0<=i ↔ x ∈ l))/\Ext W w'):=by
 obtain⟨av,cv,rfl⟩:=hv.form;have dg:=hv.max;refine zqr func91 O ntmps91 O (V.inn (Vs 14 O (zrm (σ:=Nat) [0,1,7] [] [] O (fun e k=>(8,.int .i64 k)::e) (fun e k=>e) (fun k=>k<=l.length/\x ∉ l.take k) (fun k=>l.length - k) 0 j2 j3 j1 j1 j1 ⟨zt5 _,tZ⟩ ?_)));rintro k ⟨hk,hn⟩;refine Vs 6 O (zoC O (fun dc=>?_) (fun dc=>?_))
 .
  refine Vs 15 O (zrj 1000 0 k tO hv O O (fun y dh dl hY da db=>?_));refine zqQ 1000 tR27 ts3 O db tO _ rfl O (Vs 4 O (zoC O (fun he=>?_) (fun he=>?_)))
  . refine Vs 12 O (zoT results91 O (fun w hI=>⟨_,rfl,⟨_,rfl,by rw[he];exact⟨fun _=>da,fun _=>tO⟩⟩,hI.k0⟩))
  refine Va 7 O tO (V.back (k+1) j2 j3 ⟨tO,fun h=>((zeU hY).1 h).elim hn he⟩ tR 0 O O)
 have:k=l.length:=tO;subst this;rw[zsV]at hn;refine Vs 11 O (zoT results91 O (fun w hI=>⟨_,rfl,⟨_,rfl,⟨fun h=>tO,fun h=>absurd h hn⟩⟩,hI.k0⟩))
theorem zeV (l:List Int) (x:Int) (v:Value) (D:Nat->Prop) (W:World) (hv:SlR 1 zw D W v l):Calls prog 77 #[v,.int .i64 x] W (Ret fun r w'=>r=.bool (decide (x ∈ l))/\Ext W w'):=by
 refine zqr func77 O ntmps77 O (V.inn (Vs 9 O (zr4 call91 O (fun w hI=>zj6 l x v D w (Tr1 hI.k0 hv)) ?_)));rintro r w1 w2 db hY ⟨i,rfl,hi⟩ da;refine Vs 5 O (zr9 1 results77 O O (by simp[hi]))
structure PrOk (f:Fl) (g:List Nd):Prop where
 at_:∀ x ∈ g,x.at_<((preL f.body).length:Int)
 to:∀ x ∈ g,∀ y ∈ jF x,y<(g.length:Int)
def zdX (g:List Nd) (i:Nat) (S:List Int) (n:Nat):List Int:=List.map (fun y:Nat=>(y:Int)) (((List.range i).filter fun y:Nat=>decide ((xb g y).next=(n:Int)\/(xb g y).other=(n:Int)))++(if (n:Int) ∈ S then [i] else []))
def zaL (g:List Nd) (i:Nat) (S:List Int):List (List Int):=(List.range g.length).map (zdX g i S)
theorem zdz (g:List Nd) (i:Nat) (S:List Int):(zaL g i S).length=g.length:=by simp[zaL]
theorem zdA {n:Nat} {S:List Int} (h:n<g.length):(zaL g i S)[n]?=some (zdX g i S n):=by unfold zaL;rw[zt7,zuE h];rfl
theorem zl1 (g:List Nd) (i:Nat) (S:List Int) (n:Nat):(zdX g i S n).length<=i+1:=by
 unfold zdX;rw[zta,zsY];refine Nat.add_le_add (zsW (zuR _ _) tD) ?_;split<;>simp
theorem zgE (g:List Nd) (i n:Nat):zdX g i [] n=List.map (fun y:Nat=>(y:Int)) ((List.range i).filter fun y:Nat=>decide ((xb g y).next=(n:Int)\/(xb g y).other=(n:Int))):=by
 unfold zdX
 grind
theorem zl2 {n:Nat} {S:List Int}:(i:Int) ∈ zdX g i S n ↔ (n:Int) ∈ S:=by
 unfold zdX;rw[zv8];constructor
 .
  rintro⟨y,hy,e⟩;obtain rfl:y=i:=tO;rcases zt9.1 hy with hy | hy
  . have:=zvc.1 (zv4.1 hy).1;omega
  split at hy
  . assumption
  cases hy
 intro h;exact⟨i,zt9.2 (.inr (by rw[zt1 h];exact zt8.2 O)),rfl⟩
theorem zl3 {n:Nat} {S:List Int} (h:(n:Int) ∉ S):zdX g i (S++[(n:Int)]) n=zdX g i S n++[(i:Int)]:=by
 unfold zdX
 grind
theorem zeW {n:Nat} {S:List Int} {t:Int} (h:t ≠ (n:Int)\/t ∈ S):zdX g i (S++[t]) n=zdX g i S n:=by
 have:(n:Int) ∈ S++[t] ↔ (n:Int) ∈ S:=by
  grind
 unfold zdX;by_cases h2:(n:Int) ∈ S
 . rw[zt1 h2,zt1 (this.2 h2)]
 rw[zt0 h2,zt0 (fun e=>h2 (this.1 e))]
theorem zj7 {S:List Int} {t:Int} (h:t ∈ S):zaL g i (S++[t])=zaL g i S:=by
 unfold zaL;exact zuW fun n _=>zeW (.inr h)
theorem zl4 {n:Nat} {S:List Int} (hn:n<g.length) (h:(n:Int) ∉ S):(zaL g i S).set n (zdX g i S n++[(i:Int)])=zaL g i (S++[(n:Int)]):=by
 apply zul;intro j;rw[zuH];by_cases hj:j<g.length
 .
  rw[zdA (S:=S++[(n:Int)]) hj];by_cases e:n=j
  .
   subst e;rw[zt1 rfl,zt1 (by rw[zdz];exact hn),zl3 h]
  rw[zt0 e,zdA hj,zeW (.inl tO)]
 rw[zte (by rw[zdz];omega),zte (by rw[zdz];omega)];split
 . omega
 rfl
theorem zj8 (h:g[i]?=some x):zaL g i (jF x)=zaL g (i+1) []:=by
 unfold zaL;refine zuW fun n _=>?_;rw[zgE,zvp,zum];unfold zdX;refine congrArg (List.map _) (congrArg (List.append _) ?_);have hx:=jj h;have hm:(n:Int) ∈ jF x ↔ (x.next=(n:Int)\/x.other=(n:Int)):=by rw[mem_succ];exact⟨fun h=>h.2,fun h=>⟨tO,h⟩⟩
 by_cases hs:(n:Int) ∈ jF x
 . grind
 grind
theorem zj9 (g:List Nd):zaL g 0 []=List.replicate g.length []:=by
 unfold zaL;apply zul;intro j;by_cases hj:j<g.length
 . rw[zt7,zuE hj,zuF,zt1 hj];simp[zdX]
 rw[zte tD,zte tD]
theorem zl5 (g:List Nd):zaL g g.length []=zeM g:=by
 unfold zaL zeM;refine zuW fun n _=>?_;rw[zgE];rfl
def zfL (f:Fl) (g:List Nd) (i:Nat):List St:=(g.take i).map (stN f)++List.replicate (g.length - i) znm
def st0:List Value:=[.int .i64 0,.int .i64 0,.int .i64 0,.int .i64 0,.int .i64 0,.int .i64 0,.slice none 0 0,.slice none 0 0,.slice none 0 0,.slice none 0 0]
theorem zgF (h:i<=g.length):(zfL f g i).length=g.length:=by unfold zfL;rw[zsY,zta,ztk,zuT];omega
theorem zl6 (h:g[i]?=some x):(zfL f g i).set i (stN f x)=zfL f g (i+1):=by
 have hl:=(zt4.1 h).1;unfold zfL;rw[ze h,zvu _ _ tD,zta,ztk,show i - min i g.length=0 by omega,show g.length - i=(g.length - (i+1))+1 by omega,zvq];simp
theorem zja (h:g[i]?=some x) (hn:x.at_<0):zfL f g i=zfL f g (i+1):=by
 have hl:=(zt4.1 h).1;unfold zfL;rw[ze h,show g.length - i=(g.length - (i+1))+1 by omega,zvq];have:stN f x=znm:=by unfold stN;rw[zt0 tO]
 simp[this]
theorem EncS.set {l:List St} {x:St} (h:EncS D w l xs) (hx:RSt D w x us) (hu:us.length=10) (hi:i<l.length):EncS D w (l.set i x) (xs.take (i*10)++us++xs.drop (i*10+10)):=by
 have h1:=h.1;refine⟨tD,fun j y hy=>?_⟩;rw[zuH]at hy;have hY:(xs.take (i*10)).length=i*10:=tD;by_cases e:i=j
 . grind
 rw[zt0 e]at hy;have da:=h.2 j y hy;have db:=(zt4.1 hy).1
 have key:((xs.take (i*10)++us++xs.drop (i*10+10)).drop (j*10)).take 10=(xs.drop (j*10)).take 10:=by
  apply zul;intro q;rw[ztm,ztm];split
  .
   rename_i hq;rw[zuB,zuB];by_cases dc:j<i
   . rw[zu2,ztg tO,zuK tO]
   rw[zth tD,zsY,hY,hu,zuB];congr 1;omega
  rfl
 rw[key];exact da
theorem EncS.zero (n:Nat):EncS D w (List.replicate n znm) (zfJ 10 n st0):=by
 refine⟨by rw[zdy (k:=10) rfl,zuT],fun i x hx=>?_⟩;rw[zuF]at hx;split at hx
 .
  rename_i hi;obtain rfl:=Option.some.inj hx;rw[zgB (k:=10) rfl hi];exact RSt.put (s:=znm) SlR.nil SlR.nil SlR.nil SlR.nil
 cases hx
def zow (D0:Nat->Prop) (W0:World):Rel St:=fun _ _ x cs=>RSt D0 W0 x cs
theorem zhr (D0:Nat->Prop) (W0:World):yl (zow D0 W0):=fun _ _ _ _ _ _ _ _ h=>h
theorem zjb (l:List St) (D:Nat->Prop) (W0 W:World) (v:Value) (hl:SlR 10 RSt D W0 v l) (he:EqD D W0 W) (hs:ssize l<=1000000) :
  Calls prog 75 #[v,.slice none 0 0] W (Ret fun r w'=>SlR 10 (zow D W0) (fun q=>W.heap.size<=q) w' r (preL l)/\Ext W w'):=by
 refine Calls.mono (zl0 l D W0 W v (.slice none 0 0) [] [] hl he EncS.nil (qF _ _ _) (fun q _ h=>by cases h) (by simpa using zsW hs tO)) ?_;rintro e w' ⟨r,rfl,⟨u,xs⟩,⟨rfl,hx⟩,ho,hk,hY⟩;simp only[zvd]at hx ho hY;refine⟨_,rfl,OwnR.sl (e:=72) (D:=fun _=>False) ⟨xs,ho,hx.2⟩ tS (zhr _ _) (fun q h=>h.elim) (fun g hg=>?_),hk.mono fun q _ h=>by cases h⟩;exact((hY g hg).1).elim (fun h=>by cases h) id
theorem zl7 (n:Nat):RowsOk zb e w (List.replicate n (.slice none 0 0)) (List.replicate n []):=by
 refine⟨tZ,fun i v r hv hr=>?_,fun i j vi vj g _ hi hj h=>?_⟩
 .
  rw[zuF]at hv hr;split at hv
  .
   rename_i h;rw[zt1 h]at hr;obtain rfl:=Option.some.inj hv;obtain rfl:=Option.some.inj hr;exact qF _ _ _
  cases hv
 rw[zuF]at hi;split at hi
 .
  obtain rfl:=Option.some.inj hi;cases h
 cases hi
@[simp] theorem zoc (n:Nat):(zfJ 10 n st0).length=n*10:=zdy rfl
theorem grS {ys:List Value} (_:∀ q,D q->q<W.heap.size) (hy:EncS D W (g.map (stN f)) ys) (hE:Ext W w) (hB:Blk w b ys 72) (hb:W.heap.size<=b) (hN:g.length<=100000):SlR 10 RSt (fun q=>D q\/(W.heap.size<=q/\q<w.heap.size)) w (.slice (some ⟨b,0,none⟩) g.length g.length) (g.map (stN f)):=by
 have hl:=hy.1;have ho:=zK (k:=10) (n:=g.length) (cap:=g.length) hB (ztf _) tO (by rw[hl,zta]);rw[zvC (by rw[hl,zta];exact ztf _)]at ho;have hO:OwnR 72 10 RSt D w (.slice (some ⟨b,0,none⟩) g.length g.length) (g.map (stN f)):=⟨ys,by rw[zta];exact ho,fun i x hx=>zf D D W w (fun _ h=>h) (fun q hq hl=>hE.block q hl (fun h=>h)) x _ (hy.2 i x hx)⟩;exact hO.sl tS zf (fun q h=>.inl h) fun q h=>by cases h;exact .inr ⟨hb,hB.lt⟩
theorem grP {rv:List Value} (hY:rv.length=g.length) (hR:RowsOk zb 3 w rv (zeM g)) (hB:Blk w b rv 27) (hb:W.heap.size<=b) (hN:g.length<=100000) (hq:∀ q,(∃ (i:Nat) (v:Value),rv[i]?=some v/\v.ownBlock=some q)->W.heap.size<=q):SlR 1 (RSl 1 zw) (fun q=>D q\/(W.heap.size<=q/\q<w.heap.size)) w (.slice (some ⟨b,0,none⟩) g.length g.length) (zeM g):=by
 have hl:(zeM g).length=g.length:=by simp[zeM]
 have ho:=zK (k:=1) (n:=g.length) (cap:=g.length) hB (ztf _) tO (by rw[hY,zvV]);rw[zvC (by rw[hY,zvV];exact ztf _)]at ho;exact zbZ (by rw[hl];exact ho) hR (fun q h=>by cases h;exact .inr ⟨hb,hB.lt⟩) fun i u q h1 h2=>.inr ⟨hq q ⟨i,u,h1,h2⟩,hR.blk h1 h2⟩
theorem yA (f:Fl) (g:List Nd) (hp:PrOk f g) (hN:g.length<=100000) (ez:ssize f.body<=100000) (v1 v2 v3 gv:Value) (D:Nat->Prop) (W:World) (hf:RFl D W f v1 v2 v3) (hg:SlR 4 RNd D W gv g) (hD:∀ q,D q->q<W.heap.size) :
  Calls prog 37 #[.agg #[v1,v2,v3],.agg #[gv]] W (Ret fun r w'=>(∃ b,r=.pointer (some ⟨b,0,none⟩)/\GrO (fun q=>D q\/(W.heap.size<=q/\q<w'.heap.size)) w' f g b)/\Ext W w'):=by
 have d5:=hg;have dC:=hf;obtain⟨ag,cg,rfl⟩:=hg.form;have eA:=hg.max;obtain⟨a1,c1,rfl⟩:=hf.vars.form;obtain⟨a2,c2,rfl⟩:=hf.hatches.form;obtain⟨a3,c3,rfl⟩:=hf.body.form;have eC:=qe f.body;refine zqr func37 O ntmps37 O (V.inn (Vs 2 O (V.box 2 O O (fun b2=>?_))));refine V.box 3 O O (fun b3=>(Vs 4 O (zrn (σ:=Nat × Nat × Nat) [2,3] [2,3] [2,3] O (fun e ⟨b17,b21,b23⟩=>(5,.pointer (some ⟨b23,0,none⟩))::e) (fun e ⟨b17,b21,b23⟩=>(17,.row 72 10 (.slice (some ⟨b17,0,none⟩) g.length g.length) g.length (zfJ 10 g.length st0))::(21,.row 27 1 (.slice (some ⟨b21,0,none⟩) g.length g.length) g.length (List.replicate g.length (.slice none 0 0)))::(23,.own b23 [.slice a1 f.vars.length c1,.slice a2 f.hatches.length c2,.slice a3 f.body.length c3,.slice ag g.length cg,.slice (some ⟨b17,0,none⟩) g.length g.length,.slice (some ⟨b21,0,none⟩) g.length g.length] 113)::e) (fun⟨b17,b21,b23⟩=>True) j1 j1 ?_ ?_)))
 .
  refine Vw [2,3] [] O (Vd [0,1,2,3,4,5,7,8,9] 0 tK O O O (zrG 6 10 17 21 0 tu24 Tryz.el72 tu89 Tryz.el27 O tK O O O O ⟨tO,tO,tO,tO⟩ (by exact znF (us:=st0) O O:madeCells _ _=(zfJ 10 g.length st0).toArray) (by exact xh _ _ O:madeCells _ _=(List.replicate g.length (Value.slice none 0 0)).toArray) tZ (fun b17=>?_) (fun b21=>?_)))
  .
   refine zpv 10 21 0 tu89 Tryz.el27 O tK O O tO tO (by exact xh _ _ O:madeCells _ _=(List.replicate g.length (Value.slice none 0 0)).toArray) tZ (fun b21=>(zru 11 [Value.slice none 0 0,Value.slice none 0 0,Value.slice none 0 0,Value.slice none 0 0,Value.slice none 0 0,Value.slice none 0 0] [(0,3),(3,1),(4,1),(5,1)] [(0,_),(1,_),(2,_),(3,_)] O tK O O (fun _=>tK) (zqM 12 23 0 O tK O O (fun _ _=>M.box O O) (fun b23=>?_))));refine Vd [13] 0 tK O O O (VD.done tK (zoQ ⟨b17,b21,b23⟩ j2 j3 trivial 0 O O))
  refine zpv 6 17 0 tu24 Tryz.el72 O tK O O tO tO (by exact znF (us:=st0) O O:madeCells _ _=(zfJ 10 g.length st0).toArray) tZ (fun b17=>(zru 11 [Value.slice none 0 0,Value.slice none 0 0,Value.slice none 0 0,Value.slice none 0 0,Value.slice none 0 0,Value.slice none 0 0] [(0,3),(3,1),(4,1),(5,1)] [(0,_),(1,_),(2,_),(3,_)] O tK O O (fun _=>tK) (zqM 12 23 0 O tK O O (fun _ _=>M.box O O) (fun b23=>?_))));refine Vd [13] 0 tK O O O (VD.done tK (zoQ ⟨b17,b21,b23⟩ j2 j3 trivial 0 O O))
 rintro⟨b17,b21,b23⟩ _;refine zqO 5 23 0 O O (zrB 17 (e':=.own b17 (zfJ 10 g.length st0) 72) O (fun w hI=>zgD (hI.at 17 O)) trivial (fun _ h=>h) (fun q (hq:q=b17)=>by subst hq;rfl) (zrB 21 (e':=.own b21 (List.replicate g.length (.slice none 0 0)) 27) O (fun w hI=>zgD (hI.at 21 O)) trivial (fun _ h=>h) (fun q (hq:q=b21)=>by subst hq;rfl) (zqU 902 3 1 O (zrB 902 (e':=RowsP zb 3 (List.replicate g.length (.slice none 0 0)) (zaL g 0 [])) O (fun w hI=>by rw[zj9];exact zl7 _) RowsP.loc (fun _ h=>h) (fun q hq=>by obtain⟨i,u,h,h2⟩:=hq;rw[zuF]at h;split at h<;>cases h;cases h2) ?_))));generalize hL:preL f.body=L at *;refine Vs 5 O (zr4 call75 O (fun w hI=>(hL ▸ zjb f.body D W w _ dC.body (EqD.keep (EqD.refl hD) hI.k0 hD (fun _ _ h=>h)) tO)) ?_);rintro rr w1 w2 eD d6 dE dF;obtain⟨ast,cst,rfl⟩:=dE.form;have d7:=dE.max;refine Vs 13 O (zrm (σ:=Nat × List Value × List Value) [5,6,28,29] [23] [5] O (fun e ⟨i,ys,rv⟩=>(30,.int .i64 i)::e) (fun e ⟨i,ys,rv⟩=>(17,.own b17 ys 72)::(21,.own b21 rv 27)::(902,RowsP zb 3 rv (zaL g i []))::e) (fun⟨i,ys,rv⟩=>i<=g.length/\EncS D W (zfL f g i) ys/\rv.length=g.length) (fun⟨i,ys,rv⟩=>g.length - i) (0,zfJ 10 g.length st0,List.replicate g.length (.slice none 0 0)) j2 j3 j1 j1 j1 ⟨zt5 _,by simp only[zfL,zvF,zuZ,zvd,Nat.sub_zero];exact EncS.zero _,tZ⟩ ?_);rintro⟨i,ys,rv⟩ ⟨hi,dx,dw⟩;refine Vs 6 O (zoC O (fun lt=>?_) (fun lt=>?_))
 .
  refine Vs 7 O (zri 1000 1 i tO hg O O O (fun x eE eF eG hY dy dG dH=>?_));obtain rfl:=dH;refine zqQ 1000 tR34 ts65 O dG tO _ rfl O ?_;have d8:=hp.at_ x dy;rw[hL]at d8;have dI:=dx.1;rw[zgF hi]at dI;refine Vs 1 O (V.alloc 8 tz65 O O (fun b8=>?_));refine Vs 5 O (zrn (σ:=List Value) [5,6,7,8,28,29,30] [8,23,902] [5,8] O (fun e ys=>e) (fun e ys=>(17,.own b17 ys 72)::(21,.own b21 rv 27)::e) (fun ys=>EncS D W (zfL f g (i+1)) ys) j1 j1 ?_ ?_)
  .
   refine Vs 7 O (zoC O (fun c0=>?_) (fun c0=>?_))
   .
    have dX:0<=x.at_:=c0;obtain⟨k,hk⟩:∃ k:Nat,x.at_=(k:Int):=⟨x.at_.toNat,tO⟩;refine zrh 2000 0 k tO dE O O O (fun b_ d_ h_=>by have dJ:=dF _ h_;first | omega | exact dJ d_) (fun s eH eI eJ dK d9 dL eb da=>?_);obtain⟨ec,ed,ee,ef,rfl,dM,dN,dO,dQ⟩:=da.get;obtain⟨db,dc,rfl⟩:=dM.form;obtain⟨dg,dh,rfl⟩:=dN.form;obtain⟨dl,dm,rfl⟩:=dO.form;obtain⟨dr,dt,rfl⟩:=dQ.form;refine Vw [23,17,21,1000,8,2000] [11] O (Vd [0,1,2,3,4,5,6,7] 0 tK O O O (zqR 8 2000 tR24 ts72 O tK O dL tO (k) tO O (Vd [9] 0 tK O O O (zrw 10 O tK O (fun w=>zpf tR24 ts72 O O O tO) (zsa 11 17 (i*10) (us:=[.int .i64 s.act,.int .i64 s.cost,.int .i64 s.var,.int .i64 s.n,.int .i64 s.term.op,.int .i64 s.term.n,.slice db s.term.kids.length dc,.slice dg s.thn.length dh,.slice dl s.els.length dm,.slice dr s.bounds.length dt]) ts72 O tK O rfl O (RSt.one da) tO tO ?_)))));have eh:stN f x=s:=by unfold stN;rw[zt1 dX,hk];exact ziu (hL ▸ dK)
    have dR:EncS D W (zfL f g (i+1)) (ys.take (i*10)++[.int .i64 s.act,.int .i64 s.cost,.int .i64 s.var,.int .i64 s.n,.int .i64 s.term.op,.int .i64 s.term.n,.slice db s.term.kids.length dc,.slice dg s.thn.length dh,.slice dl s.els.length dm,.slice dr s.bounds.length dt]++ys.drop (i*10+10)):=by
     rw[<- zl6 hY,eh];exact dx.set da O (by rw[zgF hi];omega)
    refine VDx.done tK (zoQ (ys.take (i*10)++[.int .i64 s.act,.int .i64 s.cost,.int .i64 s.var,.int .i64 s.n,.int .i64 s.term.op,.int .i64 s.term.n,.slice db s.term.kids.length dc,.slice dg s.thn.length dh,.slice dl s.els.length dm,.slice dr s.bounds.length dt]++ys.drop (i*10+10)) j2 j3 (dR) 0 O O)
   have dX:¬ 0<=x.at_:=c0;have dR:EncS D W (zfL f g (i+1)) ys:=by rw[<- zja hY tO];exact dx
   refine Vs 1 O (zoQ (ys) j2 j3 (dR) 0 O O)
  rintro ys dS;generalize hS:jF x=S;have eK:S.length<=2:=by rw[<- hS];exact zeT x 2
  have ei:∀ y ∈ S,0<=y/\y<(g.length:Int):=fun y hy=>by
   rw[<- hS]at hy;exact⟨(mem_succ.1 hy).1,hp.to x dy y hy⟩
  refine Vs 4 O (zr4 call76 O (fun w hI=>zgA x w) ?_);rintro rs w3 w4 eL ej dD dz;rw[hS]at dD;obtain⟨asu,csu,rfl⟩:=dD.form;have ek:=dD.max;refine Vs 4 O (zrl 902 O (e':=RowsP zb 3 rv (zaL g i (S.take 0))) (by rw[zvF]) (Vs 1 O (zrm (σ:=Nat × List Value) [5,6,7,28,29,30,50,51] [23] [5] O (fun e ⟨q,rv⟩=>(52,.int .i64 q)::e) (fun e ⟨q,rv⟩=>(17,.own b17 ys 72)::(21,.own b21 rv 27)::(902,RowsP zb 3 rv (zaL g i (S.take q)))::e) (fun⟨q,rv⟩=>q<=S.length/\rv.length=g.length) (fun⟨q,rv⟩=>S.length - q) (0,rv) j2 j3 j1 j1 j1 ⟨zt5 _,dw⟩ ?_)));rintro⟨q,rv⟩ ⟨hq,dw⟩;refine Vs 6 O (zoC O (fun lq=>?_) (fun lq=>?_))
  .
   refine Vs 6 O (zrh 3000 0 q tO dD O O O (fun b_ d_ h_=>by have dJ:=dz _ h_;first | omega | exact dJ d_) (fun y eM eN eO dT dU dV em dW=>?_));obtain rfl:=dW;refine zqQ 3000 tR27 ts3 O dV tO _ rfl O ?_;obtain⟨er,eP⟩:=ei y dU;obtain⟨n,rfl⟩:=ztN er;have dY:n<g.length:=tO;have dZ:=ze dT;obtain⟨u,hu⟩:∃ u,rv[n]?=some u:=iC;have dA:=zdA (i:=i) (S:=S.take q) dY;have ew:=zl1 g i (S.take q) n;have dB:=zl2 (g:=g) (i:=i) (n:=n) (S:=S.take q);refine Vs 11 O (zqh O (fun w hI=>zpf tR89 ts27 O O O tO) (zqh O (fun w hI=>R.load tg27 O (zqS (hI.at 21 O) hu)) (Vs 1 O (zr2 call77 O (fun w hI=>zeV (zdX g i (S.take q) n) i _ (fun _=>True) w (zkY (hI.at 902 O) hu dA)) (zqh O (fun w hI=>zpQ O j6) (Vs 2 O (zoC O (fun m=>?_) (fun m=>?_))))))))
   .
    refine Vw [23,17,21,3000] [16] O (Vd [0,1,2,3,4,5,6,7,8,9,12] 0 tK O O O (zrw 10 O tK O (fun w=>zpf tR89 ts27 O O O tO) (zrC 11 O tK O 0 O O (fun w hI=>R.load tg27 O (zqS (hI.at 21 O) hu)) (VD.bs 13 79 0 [(0,_)] tR27 ts3 tz3 tS O tK O O tK (fun b79=>?_)))));refine zrE 14 902 79 0 (n) tu27 Tryz.el3 O O tK O O (hu) (dA) tO (fun u902 du=>(zrw 15 O tK O (fun w=>zpf tR89 ts27 O O O tO) (zrF 16 21 (n) ts27 O tK O (du) tO tO (VDx.done tK (Vs 2 O (zrl 902 O (e':=RowsP zb 3 (rv.set n u902) (zaL g i (S.take (q+1)))) (by rw[dZ,<- zl4 dY (fun h=>m (dB.2 h))]) (Va 4 O tO (V.back ⟨q+1,rv.set n u902⟩ j2 j3 ⟨tO,by rw[zuU];exact dw⟩ tR 0 O O))))))))
   have m:=zsZ.1 m;refine zrl 902 O (e':=RowsP zb 3 rv (zaL g i (S.take (q+1)))) (by rw[dZ,zj7 (dB.1 m)]) (Va 7 O tO (V.back ⟨q+1,rv⟩ j2 j3 ⟨tO,dw⟩ tR 0 O O))
  obtain rfl:q=S.length:=tO;refine zrl 902 O (e':=RowsP zb 3 rv (zaL g (i+1) [])) (by rw[zsV,<- hS,zj8 hY]) (Va 10 O tO (V.back ⟨i+1,ys,rv⟩ j2 j3 ⟨tO,dS,dw⟩ tR 1 O O))
 obtain rfl:i=g.length:=tO;rw[show zfL f g g.length=g.map (stN f) by simp[zfL]]at dx;refine Vs 12 O (zoT results37 O (fun w hI=>⟨_,rfl,⟨b23,rfl,_,_,_,_,_,_,.inr ⟨hI.own 23 1 O O b23 rfl,(show Blk _ _ _ _ from hI.at 23 O).lt⟩,Blk.cells (hI.at 23 O),⟨(dC.vars.keep yG hI.k1 (fun _ _ _ h=>h)).wide yG (fun _ h=>.inl h),(dC.hatches.keep yH hI.k1 (fun _ _ _ h=>h)).wide yH (fun _ h=>.inl h),(dC.body.keep zf hI.k1 (fun _ _ _ h=>h)).wide zf (fun _ h=>.inl h)⟩,(d5.keep zo hI.k1 (fun _ _ _ h=>h)).wide zo (fun _ h=>.inl h),grS hD dx hI.k1 (hI.at 17 O) (hI.own 17 1 O O b17 O) hN,grP dw (zl5 g ▸ hI.at 902 O) (hI.at 21 O) (hI.own 21 1 O O b21 O) hN (fun q hq=>hI.own 902 1 O O q hq)⟩,hI.k1⟩))
theorem Valid.ends (V:Valid f) (hx:(zd f)[i]?=some x):(x.at_<0->x.kind=0\/x.kind=1)/\(0<=x.at_->x.at_<((preL f.body).length:Int)):=by
 have hY:=yw f V.plain;have hi:=(zt4.1 hx).1;by_cases hl:i<(zd f).length - 1
 .
  obtain⟨h1,h2⟩:=V.node (k:=(i:Int)) tO tO;rw[ztc,hx]at h1;have e:=Option.some.inj h1;rw[<- e]at h2;by_cases k0:x.kind=0
  .
   obtain rfl:=(V.away hx).2 k0;unfold zd at hx;rw[List.getElem?_cons_zero]at hx;obtain rfl:=Option.some.inj hx;exact⟨fun _=>.inl rfl,fun h=>tD⟩
  obtain⟨h3,h4,_⟩:=h2.step k0;have:=(zt4.1 h4).1;exact⟨fun h=>tO,fun _=>tO⟩
 obtain rfl:i=(zd f).length - 1:=tO;have da:=zA f.body V.plain 0 1 (1+widL f.body);unfold zd at hx;rw[ztj,zsY,ztb,zvJ,zuA,zth (ztf _),zvX]at hx;obtain rfl:(⟨1,-1,-1,-1⟩:Nd)=x:=tD;exact⟨fun _=>.inr rfl,fun h=>tD⟩
theorem Valid.prOk (V:Valid f):PrOk f (zd f):=by
 refine⟨fun x hx=>?_,fun x hx y hy=>?_⟩
 .
  obtain⟨i,hi⟩:=zv7.1 hx;have:=(V.ends hi).2;by_cases h:0<=x.at_
  . omega
  omega
 obtain⟨i,hi⟩:=zv7.1 hx;obtain⟨h0,h1⟩:=mem_succ.1 hy;exact((V.edge hi).1 y (h1.elim (fun e=>.inl e.symm) (fun e=>.inr e.symm))).2
theorem zhs {l:List Tm} (h:∀ k ∈ l,(xM k).length<=k.nodes):(mentL l).length<=tnodes l:=by
 induction l with
 | nil=>simp[mentL]
 | cons k r ih =>
  have h1:=h k (zsU ..);have h2:=ih fun x hx=>h x (zsT _ hx);rw[mentL,zsY,tnodes];omega
theorem zht (t:Tm):(xM t).length<=t.nodes:=by
 induction t using zqB with
 | h t ih =>
  rw[kY,zsY,t.nodes_eq];have:=zhs ih;have h2:(if t.op=24 then [t.n] else []).length<=1:=tD;omega
theorem Valid.gOk (V:Valid f):GOk f (zd f):=fun i x hx=>by
 obtain⟨h1,h2⟩:=V.ends hx;refine⟨h1,fun h=>⟨h2 h,?_⟩⟩;have hg:=jP h (h2 h);have hn:=zeF f.body _ (zsR hg);have hs:=V.size;have ht:=zht (yj f x.at_).term;rw[St.nodes_eq]at hn;omega
noncomputable def yD (f:Fl) (g:List Nd) (s:Sf):Int:=by
 classical
 exact if zN f g ≠ 0 then zN f g else if RightF f g s (rdV f g) then 0 else 13
section
theorem zod (h:zN f g ≠ 0):yD f g s=zN f g:=by unfold yD;rw[zt1 h]
theorem zfM (h:¬ zN f g ≠ 0) (hr:¬ RightF f g s (rdV f g)):yD f g s=13:=by unfold yD;rw[zt0 h,zt0 hr]
theorem zjc (h:¬ zN f g ≠ 0) (hr:RightF f g s (rdV f g)):yD f g s=0:=by unfold yD;rw[zt0 h,zt1 hr]
theorem zjd (h:yD f g s=0):zN f g=0/\RightF f g s (rdV f g):=by
 unfold yD at h;split at h
 . contradiction
 rename_i h0;split at h
 . rename_i h1;exact⟨zsZ.1 h0,h1⟩
 cases h
theorem qq (h:¬ zN f g ≠ 0):ya f=0/\g=zd f:=by
 unfold zN at h;split at h
 . contradiction
 rename_i h0;split at h
 . rename_i h1;exact⟨zsZ.1 h0,h1.symm⟩
 exact absurd tS h
theorem zje (da:OfF f s) (hY:s.nodes.length=g.length) (hn:∀ (n:Nat) x,s.nodes[n]?=some x->NodF f g s (rdV f g) n x) (h1:∀ k:Nat,f.vars.length<=k->k<s.of_.length->(qo f g s).count (k:Int)=1) (hu:zcJ f g s):RightF f g s (rdV f g):=⟨⟨da,hY,hn,h1⟩,hu.1,hu.2⟩
end
theorem zo0 {P:Prop} {q:Bool} (h:q=true ↔ P):q=@decide P (Classical.propDecidable P):=by
 grind
theorem zc2 {p:Program} {n:FuncId} {a:Array Value} {P:Prop} (h:Calls p n a W (Ret fun r w'=>(∃ q:Bool,r=.bool q/\(q=true ↔ P))/\Ext W w')):Calls p n a W (Ret fun r w'=>r=.bool (@decide P (Classical.propDecidable P))/\Ext W w'):=by
 refine Calls.mono h ?_;rintro e w' ⟨r,rfl,⟨q,rfl,hq⟩,hE⟩;exact⟨_,rfl,tD,hE⟩
open Go.GL
attribute [local instance 1] Classical.propDecidable
theorem qN (f:Fl) (g:List Nd) (s:Sf) (dw:snodes f.body+zp f.hatches<=1024) (dx:sbulk f.body<=1000000) (dl:s.of_.length<=1000000/\(LP s g.length).length<=1000000) (v1 v2 v3 gv ofv nodv:Value) (D:Nat->Prop) (W:World) (hf:RFl D W f v1 v2 v3) (hg:SlR 4 RNd D W gv g) (hS:RSf D W s ofv nodv) (hD:∀ q,D q->q<W.heap.size) :
  Calls prog 16 #[.agg #[v1,v2,v3],.agg #[gv],.agg #[ofv,nodv]] W (Ret fun r w'=>r=.int .i64 (yD f g s)/\Ext W w'):=by
 have dy:=hf;have dz:=hg;have dh:=hS;obtain⟨ag,cg,rfl⟩:=hg.form;obtain⟨an,cn,rfl⟩:=hS.nodes.form;obtain⟨ao,co,rfl⟩:=hS.of_.form;have dE:=hS.nodes.max;have dF:=hg.max;refine zqs func16 O ntmps16 O (V.inn (Vs 2 O (V.box 3 O O (fun b3=>?_))));refine V.box 4 O O (fun b4=>(V.box 5 O O (fun b5=>?_)));refine Vs 8 O (zr2 call36 O (fun w hI=>zbO f g _ _ _ _ D D w (Tr1 hI.k0 dy) (Tr1 hI.k0 dz) dw dx) (Vs 9 O (zoC O (fun c0=>?_) (fun c0=>?_))))
 . refine Vs 8 O (zr9 0 tr16 O O (by rw[zod c0]))
 obtain⟨dC,dm⟩:=qq c0;have vd:Valid f:=⟨dC,dw,dx⟩;have hk:GOk f g:=by rw[dm];exact vd.gOk
 have hp:PrOk f g:=by rw[dm];exact vd.prOk
 have dA:=vd.lens;have dG:=vd.ssize
 have dr:1<=g.length/\g.length<=8000:=by
  have h1:=yw f vd.plain;have h2:=xi f.body;rw[dm];omega
 refine Vs 3 O (Vw [3,4,5] [] O (Vd [0,1,3] 0 tK O O O (zr5 2 0 tc37 O tK O O (fun w hI=>yA f g hp tO tO _ _ _ _ D w (Tr1 hI.k0 dy) (Tr1 hI.k0 dz) il) ?_)));rintro gp w1 w2 dc dt ⟨gb,rfl,hG⟩ hY
 have dB:∀ q,(D q\/(w1.heap.size<=q/\q<w2.heap.size))->q<w2.heap.size:=fun q hq=>by
  have h1:w1.heap.size<=w2.heap.size:=dt.size;have h2:W.heap.size<=w1.heap.size:=dc.k0.size;rcases hq with hq | hq
  . have:=hD q hq;omega
  omega
 refine zru 4 [Value.pointer none,Value.slice none 0 0,Value.slice none 0 0,Value.slice none 0 0,Value.slice none 0 0] [(0,1),(1,2),(3,1),(4,1)] [(0,_),(1,_)] O tK O O (fun _=>tK) (zqM 5 20 1 O tK O O (fun _ _=>M.box O O) (fun b20=>?_));refine Vd [6] 1 tK O O O (VD.done tK (Vs 5 O (zr2 call38 O (fun w hI=>zc2 (zeO f g s b20 gb _ _ _ _ D (fun q=>D q\/(w1.heap.size<=q/\q<w2.heap.size)) w (Blk.cells (hI.at 20 O)) (Tr1 hI.k1 dh.of_) iM)) (zqh O (fun w hI=>zpQ O j6) (Vs 1 O (zq9 24 O (fun n1=>?_) (fun n1=>?_)))))))
 .
  have hb:¬ RightF f g s (rdV f g):=fun h=>n1 h.of_;refine Vs 33 O JA
 have du:OfF f s:=Classical.not_not.1 n1;refine Vs 9 O (zq9 33 O (fun n2=>?_) (fun n2=>?_))
 .
  have hb:¬ RightF f g s (rdV f g):=fun h=>by have:=h.len;omega
  refine Vs 24 O JA
 have da:s.nodes.length=g.length:=tO;refine Vs 1 O (zr2 call39 O (fun w hI=>zc2 (zhp f g s hk da b20 gb _ _ _ _ D (fun q=>D q\/(w1.heap.size<=q/\q<w2.heap.size)) w (Blk.cells (hI.at 20 O)) (Tr1 hI.k1 dh) iM)) (zqh O (fun w hI=>zpQ O j6) (Vs 2 O (zq9 38 O (fun n3=>?_) (fun n3=>?_)))))
 .
  have hb:¬ RightF f g s (rdV f g):=fun h=>n3 h.nod;refine Vs 19 O JA
 have db:=Classical.not_not.1 n3;refine Vs 1 O (zr2 call40 O (fun w hI=>zc2 (zkU f g s (rdV f g) da db du.len dl b20 gb _ _ _ _ D (fun q=>D q\/(w1.heap.size<=q/\q<w2.heap.size)) w (Blk.cells (hI.at 20 O)) (Tr1 hI.k1 dh) iM)) (zqh O (fun w hI=>zpQ O j6) (Vs 2 O (zq9 43 O (fun n4=>?_) (fun n4=>?_)))))
 .
  have hb:¬ RightF f g s (rdV f g):=fun h=>n4 h.one;refine Vs 14 O JA
 have dg:=Classical.not_not.1 n4;have dD:FormF f g s (rdV f g):=⟨du,da,db,dg⟩;refine Vs 1 O (zrM [20] (Hn:=fun x:Value × Bool=>[(20,.own b20 (chk gb (.slice ao s.of_.length co) (.slice an s.nodes.length cn) x.1 (.slice none 0 0)) 97)]) [(3,some (3,0)),(4,some (4,0)),(5,some (5,0)),(8,some (20,0)),(20,some (20,0)),(21,some (20,0)),(25,some (5,1)),(28,some (4,0)),(34,some (20,0)),(39,some (20,0)),(44,some (20,0))] call41 O iA j1 (fun w hI=>zbi (k:=20) O iJ (zj0 f g s hk dD dr.1 tO tO b20 gb _ _ _ (fun q=>D q\/(w1.heap.size<=q/\q<w2.heap.size)) w (hI.at 20 O) (fun q hq=>⟨zvQ (dB q hq) (Keep.size hI.k0),by exact hI.offD 0 20 O O (dB q hq) (fun hs=>by have h1:=hY q hs;have h2:=dc.hsE 0 O hs;rcases hq with hq | hq;(· have:=hD q hq;omega);omega)⟩) ((Tr1 hI.k1 dh).wide (fun q h=>.inl h)) iM)) ?_);rintro _ ⟨u,q⟩ ⟨rfl,hq⟩;refine zqh O (fun w hI=>zpQ O j6) (Vs 3 O (V.bool O (fun n5=>?_) (fun n5=>?_)))
 .
  have hb:¬ RightF f g s (rdV f g):=fun h=>by
   have:q=true:=hq.2 ⟨h.use,h.arg⟩;rw[this]at n5;cases n5
  refine Vs 7 O JA
 have hr:RightF f g s (rdV f g):=zje du da db dg (hq.1 (by cases q;(· cases n5);rfl));refine Vs 8 O (zr9 1 tr16 O O (by rw[zjc c0 hr]))
theorem zeX (a b c:Int) (w:World) (hY:b<=c):Calls prog 46 #[.int .i64 a,.int .i64 b,.int .i64 c] w (Ret fun r w'=>r=.int .i64 (yt a b c)/\Ext w w'):=by
 refine zqs func46 O ntmps46 O (Gs 16 O (zoS results46 O ⟨_,rfl,?_,Keep.refl _ _⟩));congr 1;unfold yt;split
 . omega
 omega
def rnr (gb:Nat) (ofv nodv vv hv rv ov tv:Value):List Value:=[.pointer (some ⟨gb,0,none⟩),ofv,nodv,vv,hv,rv,ov,tv]
structure TlOk (f:Fl) (vals:List Int) (l:List (Int × Int)) (tl:List Int):Prop where
 inv:InV f.vars tl
 eq:∀ u ∈ l,lki tl u.1.toNat=lki vals u.1.toNat
def zhu (f:Fl):List Int:=f.vars.map fun v=>v.low
theorem za4 (f:Fl):(zhu f).length=f.vars.length:=zta _
theorem TlOk.start (hg:∀ v ∈ f.vars,xy (v.low,v.high)):TlOk f vals [] (zhu f):=by
 refine⟨⟨za4 f,fun i v hv=>?_⟩,fun u hu=>by cases hu⟩;have:lki (zhu f) i=v.low:=zgn (by unfold zhu;rw[zt7,hv];rfl);have h2:=(hg v (zsR hv));unfold xy at h2;rw[this];simp at h2;omega
theorem zjf {x:Int} (h:i<l.length):lki (l.set i x) j=if j=i then x else lki l j:=by
 unfold lki;by_cases e:j=i
 . subst e;rw[zt1 rfl,zuJ h];rfl
 rw[zt0 e,zuI (fun h=>e h.symm)]
theorem TlOk.next {tl:List Int} {l:List (Int × Int)} (h:TlOk f vals l tl) (hV:InV f.vars vals) {v:Nat} (hu:u.1=(v:Int)) (hv:v<f.vars.length):TlOk f vals (l++[u]) (tl.set v (lki vals v)):=by
 have hl:=h.inv.len;refine⟨⟨by rw[zuU,hl],fun i x hx=>?_⟩,fun w hw=>?_⟩
 .
  rw[zjf tO];split
  . rename_i e;subst e;exact hV.at_ i x hx
  exact h.inv.at_ i x hx
 rw[zjf tO];split
 . rename_i e;rw[e]
 rename_i e;rcases zt9.1 hw with hw | hw
 . exact h.eq w hw
 rw[zt8]at hw;subst hw;exact absurd tO e
theorem zgG (f:Fl) (g:List Nd) (s:Sf) (db:∀ v ∈ f.vars,xy (v.low,v.high)) (hR:RightF f g s (rdV f g)) (n:Nat) (hn:n<g.length) (dJ:StepOk f (stN f (xb g n))) (eC:0<=(xb g n).at_) (eD:rdB f (xb g n)=true) (eT:f.vars.length<=1000) (_:g.length<=100000) (vl vals:List Int) (hV:InV f.vars vals) (dK:InvV f g s n vl vals) (b gb:Nat) (ofv nodv vv hv rv ov tv:Value) (D Dg Dv:Nat->Prop) (W:World) (hc:Cells W b 0 (rnr gb ofv nodv vv hv rv ov tv)) (hS:RSf D W s ofv nodv) (hG:GrO Dg W f g gb) (dL:SlR 1 zw Dv W vv vl) :
  Calls prog 92 #[.pointer (some ⟨b,0,none⟩),.int .i64 n] W (Ret fun r w'=>r=.int .i64 (xH vals (stN f (xb g n)).term)/\Ext W w'):=by
 have eE:=hG;obtain⟨v1,v2,v3,gv,sv,pv,hD,dr,hf,hg,hs,eV⟩:=eE;have dM:=hf.vars;obtain⟨a1,c1,rfl⟩:=dM.form;obtain⟨as1,cs1,rfl⟩:=hs.form;have dN:=hS.nodes;obtain⟨an,cn,rfl⟩:=dN.form;obtain⟨av,cv,rfl⟩:=dL.form;have eW:=dN.max;have eX:=dL.max;have eY:(g.map (stN f)).length=g.length:=zta _;have eF:=hR.len;obtain⟨x,dt⟩:∃ x,s.nodes[n]?=some x:=iC;have dl:=hR.nod n x dt
 have dO:(g.map (stN f))[n]?=some (stN f (xb g n)):=by
  have e:=zsQ hn;rw[zt7,e,yg e];rfl
 generalize eZ:g.map (stN f)=gm at *;refine zqr func92 O ntmps92 O (V.inn (zrg 900 0 O O (fun h=>h) hc (zrg 901 0 O O (fun h=>h) dr (zqO 0 900 0 O O (Vs 11 O (zqO 15 901 0 O O (Vs 5 O (zpu 21 tu27 Tryz.el3 O tO tO (zs:=List.replicate f.vars.length (.int .i64 0)) Ja tZ (fun b21=>?_)))))))));refine zrl 21 O (e':=.row 3 1 (.slice (some ⟨b21,0,none⟩) f.vars.length f.vars.length) f.vars.length (((zhu f).take 0++List.replicate (f.vars.length - 0) 0).map zb)) UF (Vs 10 O (zqO 25 901 0 O O (Vs 9 O (zrm (σ:=Nat) [0,1,5,29,30] [900,901] [0] O (fun e i=>(31,.int .i64 i)::e) (fun e i=>(21,.row 3 1 (.slice (some ⟨b21,0,none⟩) f.vars.length f.vars.length) f.vars.length (((zhu f).take i++List.replicate (f.vars.length - i) 0).map zb))::e) (fun i=>i<=f.vars.length) (fun i=>f.vars.length - i) 0 j2 j3 j1 j1 j1 (zt5 _) ?_))));rintro i hi;refine Vs 6 O (zoC O (fun lt=>?_) (fun lt=>?_))
 .
  refine Vs 7 O (zri 1000 0 i tO dM O O O (fun vr eG eH eI du dY dw dx=>?_));obtain rfl:=dx;refine zqQ 1000 tR22 ts142 O dw tO _ rfl O ?_;have eJ:(zhu f)[i]?=some vr.low:=by unfold zhu;rw[zt7,du];rfl
  have dQ:((zhu f).take i++List.replicate (f.vars.length - i) 0).set i vr.low=(zhu f).take (i+1)++List.replicate (f.vars.length - (i+1)) 0:=by
   rw[ze eJ,zvu _ _ (by rw[ztk,za4];omega),ztk,za4,show i - min i f.vars.length=0 by omega,show f.vars.length - i=(f.vars.length - (i+1))+1 by omega,zvq];simp
  refine Vs 1 O (V.alloc 7 tz142 O O (fun b7=>?_));refine Va 10 O tO (zr0 21 (i) ts3 O tO (by simp[za4];omega) (zrl 21 O (e':=.row 3 1 (.slice (some ⟨b21,0,none⟩) f.vars.length f.vars.length) f.vars.length (((zhu f).take (i+1)++List.replicate (f.vars.length - (i+1)) 0).map zb)) (by rw[<- dQ,zv1]) (Va 7 O tO (V.back (i+1) j2 j3 tO tR 0 O O))))
 obtain rfl:i=f.vars.length:=tO;refine zrl 21 O (e':=.row 3 1 (.slice (some ⟨b21,0,none⟩) f.vars.length f.vars.length) f.vars.length ((zhu f).map zb)) (by rw[zvC (by rw[za4];omega),zvX,zvr,zu3]) (Vs 14 O (zri 2000 0 n tO dN O O O (fun x2 eK eL eM dc dZ dy dz=>?_)));obtain⟨d5,d6,rfl,dA,hY⟩:=dz;obtain⟨d7,d8,rfl⟩:=dA.form;obtain⟨d9,eb,rfl⟩:=hY.form;refine zqQ 2000 tR28 ts59 O dy tO _ rfl O ?_;obtain rfl:x2=x:=Option.some.inj (dc.symm.trans dt);have fb:=hY.max;refine Vs 7 O (zrm (σ:=Nat × List Int) [0,1,5,50,51] [900,901] [0] O (fun e ⟨k,tl⟩=>(52,.int .i64 k)::e) (fun e ⟨k,tl⟩=>(21,.row 3 1 (.slice (some ⟨b21,0,none⟩) f.vars.length f.vars.length) f.vars.length (tl.map zb))::e) (fun⟨k,tl⟩=>k<=x2.uses.length/\TlOk f vals (x2.uses.take k) tl) (fun⟨k,tl⟩=>x2.uses.length - k) (0,zhu f) j2 j3 j1 j1 j1 ⟨zt5 _,TlOk.start db⟩ ?_);rintro⟨k,tl⟩ ⟨hk,dB⟩;have dR:=dB.inv.len;refine Vs 6 O (zoC O (fun lk=>?_) (fun lk=>?_))
 .
  refine Vs 6 O (zri 3000 0 k tO hY O O O (fun u fe fg fm dS dm dT dU=>?_));obtain rfl:=dU;refine zqQ 3000 tR57 ts85 O dT tO _ rfl O ?_;have fp:=zdx hR.of_ (dl.ver u dm);have eN:=(dl.ver u dm).1;have dC:=hR.use n x2 dc u dm;obtain⟨v,hv⟩:∃ v:Nat,u.1=(v:Int):=⟨u.1.toNat,tO⟩;obtain⟨q,hq⟩:∃ q:Nat,u.2=(q:Int):=⟨u.2.toNat,tO⟩;have dV:v<f.vars.length:=tO;have da:=(dK v dV).2 (by rw[<- hv,dC];exact eN);rw[<- hv,dC,hq,ztc]at da;have dg:=zgo (l:=vals) (i:=v) (by rw[hV.len];exact dV);have fq:q<vl.length:=(zt4.1 (da.trans dg)).1;have eO:=dB.next hV hv dV;refine zrj 4000 0 q tO dL O O (fun z ft fu dW eP dX=>?_);have hz:z=lki vals v:=Option.some.inj (dW.symm.trans (da.trans dg));refine Vs 1 O (V.alloc 9 tz85 O O (fun b9=>?_));refine Vs 3 O (Vw [900,901,3000,4000,9] [] O (Vd [0,1,2,3,4,5,6,7,8] 0 tK O O O (zqR 9 4000 tR27 ts3 O tK O dX tO (q) tO O (Vb [10,11] 0 tK O O O tO (zr1 12 21 0 (v) ts3 O tK O O tO (by rw[zta];omega) (VD.done tK (Vs 2 O (zrl 21 O (e':=.row 3 1 (.slice (some ⟨b21,0,none⟩) f.vars.length f.vars.length) f.vars.length ((tl.set v (lki vals v)).map zb)) (by rw[hz,zv1]) (Va 4 O tO ?_)))))))));refine V.back ⟨k+1,tl.set v (lki vals v)⟩ j2 j3 ⟨tO,by rw[ze dS];exact eO⟩ tR 0 O O
 obtain rfl:k=x2.uses.length:=tO;rw[zsV]at dB;refine zri 5000 0 n tO hs O O O (fun st eQ eR eS dD ec dE dF=>?_);obtain⟨ed,ee,ef,eh,rfl,dh,dG,dH,dI⟩:=dF.get;obtain⟨ei,ej,rfl⟩:=dh.form;obtain⟨ek,em,rfl⟩:=dG.form;obtain⟨er,ew,rfl⟩:=dH.form;obtain⟨ez,eA,rfl⟩:=dI.form;obtain rfl:st=stN f (xb g n):=Option.some.inj (dD.symm.trans dO)
 have da:xH tl (stN f (xb g n)).term=xH vals (stN f (xb g n)).term:=zkI _ fun v hv=>by
  have dQ:stN f (xb g n)=yj f (xb g n).at_:=by unfold stN;rw[zt1 eC]
  rw[dQ]at hv;have hm:=(znz eD).2 hv;rw[show rdN f (xb g n)=x2.uses.map (·.1) from dl.use.symm]at hm;obtain⟨u,hu,rfl⟩:=zv8.1 hm;exact dB.eq u hu
 refine Vs 6 O (Vw [900,901,5000] [] O (Vd [0,1,2,3] 0 tK O O O (zqP 73 901 0 O O (Vd [4,5,6,7,8,9,10,11,12] 0 tK O O O (zqP 82 901 0 O O (Vd [13,14,15,16] 0 tK O O O (zqR 17 5000 tR24 ts72 O tK O dE tO (n) tO O (Vd [18,19] 0 tK O O O (zr3 20 0 call45 O tK O O (fun w hI=>zbR db dB.inv (stN f (xb g n)).term dJ.formed dJ.ranged dJ.small _ _ _ (fun _=>True) w _ _ (Tr1 hI.k0 dM) (zpI zb iA (show w.ownsRow 0 3 1 _ tl.length _ from dR ▸ hI.at 21 O) (fun _ _=>trivial)) (RTm.put ip)) ?_)))))))));refine Vd [21,22,23,24,25] 0 tK O O O (VD.done tK (Vs 8 O (zoT results92 O (fun w hI=>⟨_,rfl,by rw[da],hI.k0⟩))))
end Go.Proofs.YtckdhgbepmpgiaaGreat
namespace Go.GL
open Go.RowKit Go.ChangeMaps
section
variable {κ:Type} [DecidableEq κ]
variable {ke:κ->Value}
omit [DecidableEq κ] in
section
variable {ty:TypeId} {pos:String} {g:Option (Nat × Bool)} {kt:TypeId} {l:List (κ × Value)}
omit [DecidableEq κ] in
end
end
open Go.RowKit Go.ChangeMaps
section
variable {κ:Type} [DecidableEq κ] {ke:κ->Value}
section
variable {ty:TypeId} {pos:String} {g:Option (Nat × Bool)} {kt:TypeId} {l:List (κ × Value)}
omit [DecidableEq κ] in
end
end
section
variable {n:Fm}
variable {d2:Nat} {op op2:Op} {ty ty2:TypeId} {ps ps2:String} {aft2:Array Edge} {g:Option (Nat × Bool)}
theorem zsd (i k j:Nat) {β:Type} {e:HE} {E':β->HE} {r:β->Value} (hi:ops[i]?=some ⟨some d,op,ty,ps,aft,g⟩) (hr:Region.ready .any ops listed=[i]) (hn:(Nat.blt d n,gd ops env g,hget H k,qv H k,qa (Hs.map (·.1)),qj k (Hs.map (·.1)))=(true,some true,some e,none,true,true)) (hB:Bs.drop j=B0)
  (hE:∀ x,(E' x).loc/\∀ b,¬ (E' x).fz b) (hm:∀ w,VI Bs H w->xg P ⟨some d,op,ty,ps,aft,g⟩ env w (fun u w'=>∃ x,u=r x/\(E' x).holds w'/\Keep e.S w w'/\∀ q,(E' x).S q->(e.S q\/w.heap.size<=q)/\q<w'.heap.size))
  (h:∀ x,VD P n Q ks ops Hs B0 L fuel (listed.setIfInBounds i true) ((d,r x)::env) ((d,none)::A) (hset H k (E' x)) Bs):VD P n Q ks ops Hs B0 L (fuel+1) listed env A H Bs:=by
 simp only[Prod.mk.injEq]at hn;subst hB;obtain⟨h1,h2,h3,h4,h5,h6⟩:=hn;refine fun hH hA w hI=>zra i hi hr h1 h2 (.inl (hm w hI)) ?_;rintro _ w' ⟨x,rfl,hh,hk,hS⟩;have hY:=hI.set h3 hk hh (hE x).1 (hE x).2 hS;have da:Has Hs (hset H k (E' x)):=hH.set h3 h6;exact⟨(hY.drop j).pick da h5,h x da (TgOk.none (hA.res h3 h4)) w' hY⟩
theorem zs4 (i k j:Nat) {e e':HE} (hi:ops[i]?=some ⟨none,op,ty,ps,aft,g⟩) (hr:Region.ready .any ops listed=[i]) (hn:(gd ops env g,hget H k,qv H k,qa (Hs.map (·.1)),qj k (Hs.map (·.1)))=(some true,some e,none,true,true)) (hB:Bs.drop j=B0) (hl:e'.loc) (hz:∀ b,¬ e'.fz b)
  (hm:∀ w,VI Bs H w->xT P ⟨none,op,ty,ps,aft,g⟩ env w (fun w'=>e'.holds w'/\Keep e.S w w'/\∀ q,e'.S q->(e.S q\/w.heap.size<=q)/\q<w'.heap.size))
  (h:VD P n Q ks ops Hs B0 L fuel (listed.setIfInBounds i true) env A (hset H k e') Bs):VD P n Q ks ops Hs B0 L (fuel+1) listed env A H Bs:=by
 simp only[Prod.mk.injEq]at hn;subst hB;obtain⟨h1,h3,h4,h5,h6⟩:=hn;refine fun hH hA w hI=>zrd i hi hr h1 (hm w hI) ?_;rintro w' ⟨hh,hk,hS⟩;have hY:=hI.set h3 hk hh hl hz hS;have da:Has Hs (hset H k e'):=hH.set h3 h6;exact⟨(hY.drop j).pick da h5,h da (hA.res h3 h4) w' hY⟩
end
end Go.GL
namespace Go.Proofs.YtckdhgbepmpgiaaGreat
open Go.GL
theorem zgH {n:Nat} (h:w.ownsRow 0 e 1 (.slice (some ⟨b,0,none⟩) n c) n xs) (hv:xs[i]?=some v):w.cell? ⟨b,0+(i:Int).toNat*1,none⟩=some v:=by
 have:=(jI h).2.2 i v hv;simpa using this
theorem zjg {x:Int} (h:l[k]?=some x) (hn:x ∉ l.take k):l.idxOf x=k:=by
 induction l generalizing k with
 | nil=>simp at h
 | cons y l ih =>
  cases k with
  | zero=>simp at h;subst h;simp
  | succ k =>
   rw[List.take_succ_cons,zt6]at hn;have hY:(y == x)=false:=by simpa using fun e:y=x=>hn (.inl e.symm)
   rw[List.idxOf_cons,hY,cond_false,ih (by simpa using h) (fun e=>hn (.inr e))]
theorem zcK (l:List Int) (x:Int) (v:Value) (D:Nat->Prop) (W:World) (hv:SlR 1 zw D W v l) (hx:x ∈ l):Calls prog 91 #[v,.int .i64 x] W (Ret fun r w'=>r=.int .i64 ((l.idxOf x:Nat):Int)/\Ext W w'):=by
 obtain⟨av,cv,rfl⟩:=hv.form;have dg:=hv.max;refine zqr func91 O ntmps91 O (V.inn (Vs 14 O (zrm (σ:=Nat) [0,1,7] [] [] O (fun e k=>(8,.int .i64 k)::e) (fun e k=>e) (fun k=>k<=l.length/\x ∉ l.take k) (fun k=>l.length - k) 0 j2 j3 j1 j1 j1 ⟨zt5 _,tZ⟩ ?_)));rintro k ⟨hk,hn⟩;refine Vs 6 O (zoC O (fun db=>?_) (fun db=>?_))
 .
  refine Vs 15 O (zrj 1000 0 k tO hv O O (fun y dh dl hY dc da=>?_));refine zqQ 1000 tR27 ts3 O da tO _ rfl O (Vs 4 O (zoC O (fun he=>?_) (fun he=>?_)))
  . refine Vs 12 O (zr9 0 results91 O O (by rw[zjg (he ▸ hY) hn]))
  refine Va 7 O tO (V.back (k+1) j2 j3 ⟨tO,fun h=>((zeU hY).1 h).elim hn he⟩ tR 0 O O)
 have:k=l.length:=tO;subst this;rw[zsV]at hn;exact absurd hx hn
noncomputable def phV (f:Fl) (g:List Nd) (s:Sf) (y:Nat) (vl:List Int) (p:Phn):Int:=lki vl (zaG f g s y p.var).toNat
noncomputable def jo (f:Fl) (g:List Nd) (s:Sf) (y:Nat) (vl:List Int) (l:List Phn):List Int:=l.foldl (fun t p=>t.set p.ver.toNat (phV f g s y vl p)) vl
theorem zhv {y:Nat} {l:List Phn} (h:l[i]?=some p):jo f g s y vl (l.take (i+1))=(jo f g s y vl (l.take i)).set p.ver.toNat (phV f g s y vl p):=by
 unfold jo;rw[ze h,zuy];rfl
theorem zc3 {y:Nat} (l:List Phn):(jo f g s y vl l).length=vl.length:=by
 unfold jo;suffices ∀ t:List Int,(l.foldl (fun t p=>t.set p.ver.toNat (phV f g s y vl p)) t).length=t.length from this vl;induction l with
 | nil=>intro t;rfl
 | cons p l ih=>intro t;rw[zuz,ih,zuU]
theorem zl8 (f:Fl) (g:List Nd) (s:Sf) (hR:RightF f g s (rdV f g)) (n:Nat) (hn:n<g.length) (y:Nat) (hy:(zm s n).phis ≠ []->y ∈ zF g n) (_:g.length<=100000) (d7:(zm s n).phis.length<=1000000) (vl:List Int) (d8:vl.length=s.of_.length) (_:vl.length<=1000000) (b gb bv cv:Nat) (ofv nodv hv rv ov tv:Value) (D:Nat->Prop) (W:World) (hc:Cells W b 0 (rnr gb ofv nodv (.slice (some ⟨bv,0,none⟩) vl.length cv) hv rv ov tv)) (hS:RSf D W s ofv nodv) (dw:(jl (.slice (some ⟨bv,0,none⟩) vl.length cv) vl).holds W) (d9:∀ q,D q->bv ≠ q) (dD:bv ≠ b) :
  Calls prog 47 #[.pointer (some ⟨b,0,none⟩),.int .i64 y,.int .i64 n] W (Ret fun r w'=>∃ _x:Unit,r=.tuple #[]/\(jl (.slice (some ⟨bv,0,none⟩) vl.length cv) (jo f g s y vl (zm s n).phis)).holds w'/\Keep (jl (.slice (some ⟨bv,0,none⟩) vl.length cv) vl).S W w'/\∀ q,(jl (.slice (some ⟨bv,0,none⟩) vl.length cv) (jo f g s y vl (zm s n).phis)).S q->((jl (.slice (some ⟨bv,0,none⟩) vl.length cv) vl).S q\/W.heap.size<=q)/\q<w'.heap.size):=by
 have dE:=hS.nodes;obtain⟨an,cn,rfl⟩:=dE.form;have eE:=dE.max;have eb:=hR.len;obtain⟨x,dm⟩:∃ x,s.nodes[n]?=some x:=iC;have db:=hR.nod n x dm;have ec:zm s n=x:=yE dm;rw[ec]at d7 hy ⊢;have dx:∀ q,(jl (.slice (some ⟨bv,0,none⟩) vl.length cv) vl).S q->¬ D q:=fun q h hd=>d9 q hd (by cases h;rfl)
 have dF:∀ p ∈ x.phis,∃ q:Nat,p.ver=(q:Int)/\q<vl.length:=fun p hp=>by
  obtain⟨q,h1,h2⟩:=jE (db.phi.ver p hp);exact⟨q,h1,tO⟩
 refine zqs func47 O ntmps47 O (zrz 900 (.row 3 1 (.slice (some ⟨bv,0,none⟩) vl.length cv) vl.length (vl.map zb)) (dw) trivial (fun _ h=>h) (fun q hq=>xA dw hq) (zrg 901 0 O O (fun h=>dD (by cases h;rfl)) hc (zqO 0 901 0 O O (Vs 8 O (zrh 1000 0 n tO dE O O O ir (fun x2 ed ee ef dl dS dy dT dz=>?_))))));obtain⟨dU,dV,rfl,da,dA⟩:=dz;obtain⟨dW,dX,rfl⟩:=da.form;obtain⟨dY,dZ,rfl⟩:=dA.form;refine zqQ 1000 tR28 ts59 O dy tO _ rfl O ?_;obtain rfl:x2=x:=Option.some.inj (dl.symm.trans dm);refine Vs 9 O (zpu 23 tu27 Tryz.el3 O tO tO (zs:=List.replicate x2.phis.length (.int .i64 0)) Ja tZ (fun b23=>?_));generalize hm:x2.phis.length=m at *;have eh:=da.max;refine Vs 11 O (zrl 23 O (e':=.row 3 1 (.slice (some ⟨b23,0,none⟩) m m) m (((x2.phis.take 0).map (phV f g s y vl)++List.replicate (m - 0) 0).map zb)) UF (Vs 1 O (zrm (σ:=Nat) [0,1,6,7,24,25] [901] [0] O (fun e i=>(26,.int .i64 i)::e) (fun e i=>(23,.row 3 1 (.slice (some ⟨b23,0,none⟩) m m) m (((x2.phis.take i).map (phV f g s y vl)++List.replicate (m - i) 0).map zb))::(900,.row 3 1 (.slice (some ⟨bv,0,none⟩) vl.length cv) vl.length (vl.map zb))::e) (fun i=>i<=m) (fun i=>m - i) 0 j2 j3 j1 j1 j1 (zt5 _) ?_)));rintro i hi;refine Vs 6 O (zoC O (fun li=>?_) (fun li=>?_))
 .
  refine Vs 7 O (zrh 2000 0 i tO da O O O ir (fun p ei ej ek dc hY dt dG du=>?_));obtain⟨dH,dI,rfl,dg,dh⟩:=du;obtain⟨dJ,dK,rfl⟩:=dg.form;obtain⟨dL,dM,rfl⟩:=dh.form;refine zqQ 2000 tR56 ts88 O dt tO _ rfl O ?_;have em:=db.phi.frm p hY;have eF:=db.phi.len p hY;have dB:(y:Int) ∈ p.frm:=by rw[em];exact zv8.2 ⟨y,hy (fun e=>by rw[e]at hY;cases hY),rfl⟩
  generalize hj:p.frm.idxOf (y:Int)=j;have dC:j<p.frm.length:=by rw[<- hj];exact List.idxOf_lt_length_iff.2 dB
  refine zrh 3000 0 j tO dh O O O ir (fun a eG eH eI dN dO dQ er dR=>?_);obtain rfl:=dR;have ew:p.frm[j]?=some (y:Int):=by rw[zsQ dC];congr 1;subst hj;exact zuL dC
  have d5:=hR.arg n x2 dl p hY j _ a ew dN;rw[ztc]at d5;obtain⟨q,hq,d6⟩:=jE (db.phi.args p hY a dO);subst hq;have ez:phV f g s y vl p=lki vl q:=by unfold phV;rw[d5,ztc]
  refine Vs 1 O (V.alloc 9 tz88 O O (fun b9=>?_));refine Vs 4 O (Vw [901,900,2000,3000,9] [17] O (Vd [0,1,2,3,4,5,6,7,8,9,10] 0 tK O O O (zr3 11 0 call91 O tK O O (fun w hI=>zcK p.frm y _ _ w (dg.keep zc hI.k0 fun q hd _ h=>dx q h hd) dB) (zqR 12 3000 tR27 ts3 O tK O dQ tO (j) (by rw[hj]) O (Vd [13] 0 tK O O O (zrw 14 O tK O (fun w=>zpf tR27 ts3 O O O tO) (zrC 15 O tK O 0 O O (fun w hI=>R.load tg3 O (zgH (show w.ownsRow 0 3 1 (.slice (some ⟨bv,0,none⟩) vl.length cv) vl.length (vl.map zb) from hI.at 900 O) (show (vl.map zb)[q]?=some (zb (lki vl q)) by rw[zt7,zgo tO];rfl))) ?_)))))))
  have eA:(((x2.phis.take i).map (phV f g s y vl))++List.replicate (m - i) 0).set i (phV f g s y vl p)=((x2.phis.take (i+1)).map (phV f g s y vl))++List.replicate (m - (i+1)) 0:=by
   rw[ze dc,zuV,zvu _ _ (by rw[zta,ztk];omega),zta,ztk,show i - min i x2.phis.length=0 by omega,show m - i=(m - (i+1))+1 by omega,zvq];simp
  refine Vb [16] 0 tK O O O tO (zr1 17 23 0 (i) ts3 O tK O O tO tY (VD.done tK (Vs 2 O (zrl 23 O (e':=.row 3 1 (.slice (some ⟨b23,0,none⟩) m m) m (((x2.phis.take (i+1)).map (phV f g s y vl)++List.replicate (m - (i+1)) 0).map zb)) (by rw[<- eA,zv1,ez]) (Va 4 O tO (V.back (i+1) j2 j3 tO tR 0 O O))))))
 obtain rfl:i=m:=tO;refine zrl 23 O (e':=.row 3 1 (.slice (some ⟨b23,0,none⟩) i i) i ((x2.phis.map (phV f g s y vl)).map zb)) (by rw[zvC tO,zvX,zvr,zu3]) (Vs 12 O (zrl 900 O (e':=.row 3 1 (.slice (some ⟨bv,0,none⟩) vl.length cv) vl.length ((jo f g s y vl (x2.phis.take 0)).map zb)) (by rfl) (Vs 1 O (zrm (σ:=Nat) [0,7,49,50] [23,901] [0] O (fun e k=>(51,.int .i64 k)::e) (fun e k=>(900,.row 3 1 (.slice (some ⟨bv,0,none⟩) vl.length cv) vl.length ((jo f g s y vl (x2.phis.take k)).map zb))::e) (fun k=>k<=i) (fun k=>i - k) 0 j2 j3 j1 j1 j1 (zt5 _) ?_))));rintro k hk;refine Vs 6 O (zoC O (fun lk=>?_) (fun lk=>?_))
 .
  refine Vs 7 O (zrh 4000 0 k tO da O O O ir (fun p ei ej ek dc hY dt dG du=>?_));obtain⟨dH,dI,rfl,dg,dh⟩:=du;obtain⟨dJ,dK,rfl⟩:=dg.form;obtain⟨dL,dM,rfl⟩:=dh.form;refine zqQ 4000 tR56 ts88 O dt tO _ rfl O ?_;obtain⟨q,hq,d6⟩:=dF p hY;have dC:=zc3 (f:=f) (g:=g) (s:=s) (y:=y) (vl:=vl) (x2.phis.take k);refine Vs 1 O (V.alloc 11 tz88 O O (fun b11=>?_));refine Vs 4 O (Vw [23,901,4000,11] [11] O (Vb [0,1,2,3,4,5,6,7,8] 0 tK O O O tO (zrC 9 O tK O 0 O O (fun w hI=>R.load tg3 O (zgH (show w.ownsRow 0 3 1 (.slice (some ⟨b23,0,none⟩) i i) i _ from hI.at 23 O) (show ((x2.phis.map (phV f g s y vl)).map zb)[k]?=some (zb (phV f g s y vl p)) by rw[zt7,zt7,dc];rfl))) ?_)));refine zrw 10 O tK O (fun w=>zpf tR27 ts3 O O O tO) (zrH 11 900 (q) ts3 O tK O tO (by rw[zta,dC];exact d6) (VDx.done tK (Vs 2 O (zrl 900 O (e':=.row 3 1 (.slice (some ⟨bv,0,none⟩) vl.length cv) vl.length ((jo f g s y vl (x2.phis.take (k+1))).map zb)) (by rw[zhv dc,hq,ztc,zv1]) (Va 4 O tO (V.back (k+1) j2 j3 tO tR 0 O O))))))
 obtain rfl:k=i:=tO;refine zrl 900 O (e':=jl (.slice (some ⟨bv,0,none⟩) vl.length cv) (jo f g s y vl x2.phis)) (by rw[zvC tO];unfold jl;rw[zc3]) (Vs 4 O (zp8 results47 (fun w hI=>⟨_,rfl,(),rfl,hI.at 900 rfl,hI.k0,fun q hq=>hI.inS 0 900 O O hq⟩)))
theorem zjh {l:List Phn} (h:∀ p ∈ l,p.ver.toNat ≠ k):∀ t:List Int,(l.foldl (fun t p=>t.set p.ver.toNat (F p)) t)[k]?=t[k]?:=by
 induction l with
 | nil=>exact fun _=>rfl
 | cons q l ih =>
  intro t;rw[zuz,ih fun p hp=>h p (zsT _ hp),zuI (h q (zsU ..))]
theorem zl9 {l:List Phn} (hY:(l.map fun p=>p.ver.toNat).Nodup) (hp:p ∈ l):∀ t:List Int,p.ver.toNat<t.length->(l.foldl (fun t p=>t.set p.ver.toNat (F p)) t)[p.ver.toNat]?=some (F p):=by
 induction l with
 | nil=>cases hp
 | cons q l ih =>
  intro t ht;rw[zuX,zvf]at hY;rw[zuz];rcases zt6.1 hp with rfl | hp
  . rw[zjh fun r hr e=>hY.1 (zv8.2 ⟨r,hr,e⟩),zuJ ht]
  grind
theorem zhw {rd:Nat->List Int} (h:FormF f g s rd) {n:Nat} (hn:n<g.length):((zm s n).phis.map fun p=>p.ver.toNat).Nodup:=by
 have da:=(h.at hn).phi
 have h1:((zm s n).phis.map (·.ver)).Nodup:=by
  rw[List.nodup_iff_count];intro a;have db:((zm s n).phis.map (·.ver)).count a<=(dfL f g s n).count a:=by unfold dfL;rw[zu8];omega
  have dc:(dfL f g s n).count a<=(qo f g s).count a:=by
   unfold qo;rw[zuu];exact(zvx (zv8.2 ⟨n,zvc.2 hn,rfl⟩)).count_le a
  by_cases ha:a ∈ (zm s n).phis.map (·.ver)
  .
   obtain⟨h2,h3⟩:=zeI h hn (show a ∈ dfL f g s n by grind);obtain⟨k,rfl⟩:=ztN (show 0<=a by omega);have:=h.one k tO tO;omega
  grind
 rw[show ((zm s n).phis.map fun p=>p.ver.toNat)=((zm s n).phis.map (·.ver)).map Int.toNat by rw[zuY];rfl];refine List.Pairwise.map _ (fun a b hY=>hY) (List.Pairwise.imp_of_mem (fun {a b} ha hb hY e=>?_) h1);obtain⟨p,hp,rfl⟩:=zv8.1 ha;obtain⟨q,hq,rfl⟩:=zv8.1 hb;have h2:=(da.ver p hp).1;have h3:=(da.ver q hq).1;exact hY tO
theorem zji {rd:Nat->List Int} (h:RightF f g s rd) {n y:Nat} (h0:n ≠ 0) (hn:n<g.length) (hy:y ∈ zF g n) (dg:vl.length=s.of_.length) (hp:ziF f g s y vl vals):InvV f g s n (jo f g s y vl (zm s n).phis) vals:=by
 have hf:=h.toFormF;have da:=(hf.at hn).phi;have dh:=zhw hf hn;have hl:=hf.len;have e:=zsQ (show n<s.nodes.length by omega);have dl:=yE e
 have db:∀ p ∈ (zm s n).phis,∃ q:Nat,zaG f g s y p.var=(q:Int)/\q<s.of_.length:=fun p hY=>by
  have dc:(y:Int) ∈ p.frm:=by rw[da.frm p hY];exact zv8.2 ⟨y,hy,rfl⟩
  obtain⟨i,hi⟩:=zv7.1 dc;have dm:=(zt4.1 hi).1;have ha:=zsQ (show i<p.args.length by have:=da.len p hY;omega);have:=h.arg n _ e p tD i _ _ hi ha;rw[ztc]at this;rw[this];exact jE (da.args p hY _ (zsR ha))
 refine InvV.join h h0 hn hy hp (fun p hY=>?_) (fun k hk=>?_) fun p hY=>?_
 .
  obtain⟨q,hq,dr⟩:=db p hY;obtain⟨m,hm,dt⟩:=jE (da.ver p hY);unfold jo;rw[zl9 (F:=phV f g s y vl) dh hY vl tO];unfold phV;rw[hq,ztc,zgo tO]
 .
  unfold jo;exact zjh (F:=phV f g s y vl) (fun p hY e2=>hk p hY (by have:=(da.ver p hY).1;omega)) vl
 grind
def zoe:Tm:=.mk 24 0 []
def zof:Tm:=.mk 24 1 []
def zog:Tm:=.mk 0 1 []
def zla:St:=.mk 0 0 1 0 zog [] [] []
def znI:St:=.mk 3 0 0 0 zoe [zla] [] []
def znJ:St:=.mk 1 0 0 0 zof [] [] []
def exF22:Fl:=⟨[⟨⟨#[120]⟩,1,0,1,0⟩,⟨⟨#[121]⟩,0,0,1,0⟩],[],[znI,znJ]⟩
def exG22:List Nd:=[⟨0,-1,1,-1⟩,⟨3,0,2,3⟩,⟨2,1,3,-1⟩,⟨2,2,4,-1⟩,⟨1,-1,-1,-1⟩]
def exS22:Sf:=⟨[0,1,1,1],[⟨[],[],-1⟩,⟨[],[(0,0)],-1⟩,⟨[],[],2⟩,⟨[⟨1,3,[1,2],[1,2]⟩],[(1,3)],-1⟩,⟨[],[],-1⟩]⟩
theorem zhx:ya exF22=0:=by decide +kernel
theorem zcL:zd exF22=exG22:=by rfl
theorem zjj:snodes exF22.body+zp exF22.hatches<=1024:=by decide +kernel
theorem zjk:sbulk exF22.body<=1000000:=by decide +kernel
theorem zmI:OfF exF22 exS22:=by
 refine⟨tS,fun k v hk hl=>?_,fun k v hk hl=>?_⟩
 .
  match k with
  | 0=>simp[exS22]at hk;omega
  | 1=>simp[exS22]at hk;omega
  | k+2=>exact absurd hl (by show ¬ k+2<2;omega)
 match k with
 | 0=>simp[exF22]at hl
 | 1=>simp[exF22]at hl
 | 2=>simp[exS22]at hk;subst hk;exact⟨tS,_,rfl,rfl⟩
 | 3=>simp[exS22]at hk;subst hk;exact⟨tS,_,rfl,rfl⟩
 | k+4=>simp[exS22]at hk
theorem zb2 {n:Nat}:PhiF f g s n []:=⟨fun _=>rfl,List.Pairwise.nil,fun p h=>tD,fun p h=>tD,fun p h=>tD,fun p h=>tD⟩
theorem ex22_form:FormF exF22 exG22 exS22 (rdV exF22 exG22):=by
 refine⟨zmI,rfl,fun n x hx=>?_,fun k h1 h2=>?_⟩
 .
  match n with
  | 0=>simp[exS22]at hx;subst hx;exact U8
  | 1=>simp[exS22]at hx;subst hx;exact⟨zb2,fun _=>rfl,fun h=>absurd h iG,by decide +kernel,fun u h=>by simp at h;subst h;decide +kernel⟩
  | 2=>simp[exS22]at hx;subst hx;exact⟨zb2,fun h=>absurd h iG,fun _=>by decide +kernel,by decide +kernel,fun u h=>tD⟩
  | 3 =>
   simp[exS22]at hx;subst hx;refine⟨⟨fun h=>tO,zvm _ _,fun p h=>?_,fun p h=>?_,fun p h=>?_,fun p h a ha=>?_⟩,fun _=>rfl,fun h=>absurd h iG,by decide +kernel,fun u h=>?_⟩
   . rw[zt8]at h;subst h;decide +kernel
   . rw[zt8]at h;subst h;decide +kernel
   . grind
   . rw[zt8]at h;subst h;simp at ha;rcases ha with rfl | rfl<;>decide +kernel
   rw[zt8]at h;subst h;decide +kernel
  | 4=>simp[exS22]at hx;subst hx;exact U8
  | n+5=>simp[exS22]at hx
 match k with
 | 0=>exact absurd h1 tS
 | 1=>exact absurd h1 tS
 | 2=>decide +kernel
 | 3=>decide +kernel
 | k+4=>exact absurd h2 (by show ¬ k+4<4;omega)
def zck:List (List Int):=[[0,1],[0,1],[0,1],[0,3],[0,3]]
theorem zmJ:∀ i:Nat,i<5->RV exF22 exG22 exS22 0 i 0:=by
 have h0:RV exF22 exG22 exS22 0 0 0:=.ini;have h1:RV exF22 exG22 exS22 0 1 0:=.pass (y:=0) tS iG iG iG h0;have h2:RV exF22 exG22 exS22 0 2 0:=.pass (y:=1) tS iG iG iG h1;have h3:RV exF22 exG22 exS22 0 3 0:=.pass (y:=1) tS iG iG iG h1;have h4:RV exF22 exG22 exS22 0 4 0:=.pass (y:=3) tS iG iG iG h3
 grind
theorem zmK:∀ i:Nat,i<5->RV exF22 exG22 exS22 1 i (bfV zck i 1):=by
 have h0:RV exF22 exG22 exS22 1 0 1:=.ini;have h1:RV exF22 exG22 exS22 1 1 1:=.pass (y:=0) tS iG iG iG h0;have h2:RV exF22 exG22 exS22 1 2 1:=.pass (y:=1) tS iG iG iG h1;have h3:RV exF22 exG22 exS22 1 3 3:=.phi tS iG;have h4:RV exF22 exG22 exS22 1 4 3:=.pass (y:=3) tS iG iG iG h3;intro i hi
 match i with
 | 0=>exact h0
 | 1=>exact h1
 | 2=>exact h2
 | 3=>exact h3
 | 4=>exact h4
 | i+5=>omega
theorem ex22_sol:SolV exF22 exG22 exS22 2 (bfV zck):=by
 have key:∀ i:Nat,i<5->0<=bfV zck i 0/\bfV zck i 0=0/\0<=bfV zck i 1/\bfV zck i 0=eqV exG22 exS22 (yW exF22 exG22 exS22 (bfV zck)) i 0/\bfV zck i 1=eqV exG22 exS22 (yW exF22 exG22 exS22 (bfV zck)) i 1:=by decide +kernel
 refine⟨fun i hi v h0 h1=>?_,fun i hi v h0 h1=>?_⟩
 .
  obtain⟨k1,k2,k3,_⟩:=key i hi;have hv:v=0\/v=1:=tO;rcases hv with rfl | rfl
  . exact .inr (.inl ⟨k1,by rw[k2];exact zmJ i hi⟩)
  exact .inr (.inl ⟨k3,zmK i hi⟩)
 obtain⟨_,_,_,k4,k5⟩:=key i hi;have hv:v=0\/v=1:=tO;rcases hv with rfl | rfl
 . exact k4
 exact k5
theorem zhy:RightF exF22 exG22 exS22 (rdV exF22 exG22):=by
 have hs:=ex22_form.nn;have hY:∀ i:Nat,i<5->∀ v:Int,0<=v->v<2->inV exF22 exG22 exS22 i v=bfV zck i v:=fun i hi v h0 h1=>(ex22_sol.is hs h0 h1 hi).symm;refine⟨ex22_form,fun n x hx u hu=>?_,fun n x hx p hp i y a hy ha=>?_⟩
 .
  match n with
  | 0=>simp[exS22]at hx;subst hx;cases hu
  | 1=>simp[exS22]at hx;subst hx;rw[zt8]at hu;subst hu;rw[hY 1 tS 0 tS tS];decide +kernel
  | 2=>simp[exS22]at hx;subst hx;cases hu
  | 3=>simp[exS22]at hx;subst hx;rw[zt8]at hu;subst hu;rw[hY 3 tS 1 tS tS];decide +kernel
  | 4=>simp[exS22]at hx;subst hx;cases hu
  | n+5=>simp[exS22]at hx
 match n with
 | 0=>simp[exS22]at hx;subst hx;cases hp
 | 1=>simp[exS22]at hx;subst hx;cases hp
 | 2=>simp[exS22]at hx;subst hx;cases hp
 | 3 =>
  simp[exS22]at hx;subst hx;rw[zt8]at hp;subst hp
  match i with
  | 0=>simp at hy ha;subst hy;subst ha;show yW exF22 exG22 exS22 (inV exF22 exG22 exS22) 1 1=1;unfold yW;rw[hY 1 tS 1 tS tS];decide +kernel
  | 1=>simp at hy ha;subst hy;subst ha;show yW exF22 exG22 exS22 (inV exF22 exG22 exS22) 2 1=2;unfold yW;rw[hY 2 tS 1 tS tS];decide +kernel
  | i+2=>simp at hy
 | 4=>simp[exS22]at hx;subst hx;cases hp
 | n+5=>simp[exS22]at hx
def exT22:Sf:=⟨[0,1,1,1],[⟨[],[],-1⟩,⟨[],[(0,0)],-1⟩,⟨[],[],2⟩,⟨[],[(1,2)],-1⟩,⟨[],[],-1⟩]⟩
theorem zhz:¬ RightF exF22 exG22 exT22 (rdV exF22 exG22):=fun h=>absurd (h.one 3 tS tS) iG
theorem zc4:¬ zN exF22 exG22 ≠ 0:=fun h=>h (by unfold zN;rw[zt0 (by rw[zhx];exact fun h=>h rfl),zt1 zcL])
theorem zc5:yD exF22 exG22 exS22=0:=zjc zc4 zhy
theorem zhA:yD exF22 exG22 exT22=13:=zfM zc4 zhz
end Go.Proofs.YtckdhgbepmpgiaaGreat
namespace Go.GL.Dfs
structure Rows (R:List (List Int)):Prop where
 ok:∀ (a:Nat) r,R[a]?=some r->∀ y ∈ r,∃ b:Nat,y=(b:Int)/\b<R.length
def Edge (R:List (List Int)) (a b:Nat):Prop:=∃ r,R[a]?=some r/\(b:Int) ∈ r
inductive Reach (R:List (List Int)) (root:Nat):Nat->Prop
 | refl:Reach R root root
 | step {a b:Nat}:Reach R root a->Edge R a b->Reach R root b
theorem Reach.lt (hR:Rows R) {x:Nat} (hr:root<R.length) (h:Reach R root x):x<R.length:=by
 cases h with
 | refl=>exact hr
 | step _ h =>
  obtain⟨r,h1,h2⟩:=h;obtain⟨b,h3,h4⟩:=hR.ok _ r h1 _ h2;have:=Int.ofNat.inj h3;omega
structure Inv (R:List (List Int)) (root:Nat) (seen:List Bool) (st:List (Nat × Nat)) (out:List Nat):Prop where
 len:seen.length=R.length
 mark:∀ x:Nat,seen[x]?=some true ↔ x ∈ st.map Prod.fst\/x ∈ out
 nodup:(st.map Prod.fst++out).Nodup
 done:∀ x ∈ out,∀ y:Nat,Edge R x y->seen[y]?=some true
 part:∀ x e,(x,e) ∈ st->∃ r,R[x]?=some r/\e<=r.length/\∀ (i b:Nat),i<e->r[i]?=some (b:Int)->seen[b]?=some true
 reach:∀ x:Nat,seen[x]?=some true->Reach R root x
 par:∀ l c e m,st=l++(c,e)::m->c=root\/∃ p e',(p,e') ∈ l/\Edge R p c
 opar:∀ l c m,out=l++c::m->c=root\/∃ p,Edge R p c/\(p ∈ st.map Prod.fst\/p ∈ m)
 top:(st=[]/\∃ l,out=l++[root])\/∃ e m,st=(root,e)::m
section
variable {st:List (Nat × Nat)} {out:List Nat}
theorem Inv.start (hr:root<R.length):Inv R root ((List.replicate R.length false).set root true) [(root,0)] []:=by
 have hs:∀ x,((List.replicate R.length false).set root true)[x]?=some true ↔ x=root:=by
  intro x;by_cases h:root=x
  . grind
  rw[zuI h];constructor
  . grind
  omega
 refine⟨tZ,?_,tZ,tZ,?_,?_,?_,?_,.inr ⟨0,[],rfl⟩⟩
 . grind
 .
  intro x e h;simp at h;obtain⟨rfl,rfl⟩:=h;exact⟨_,zsQ hr,zt5 _,fun i b h=>tO⟩
 .
  intro x h;rw[hs]at h;subst h;exact .refl
 .
  intro l c e m h;cases l with
  | nil=>simp at h;exact .inl h.1.1.symm
  | cons a l=>simp at h
 intro l c m h;simp at h
theorem Inv.pop {x e:Nat} {r:List Int} (h:Inv R root seen (st++[(x,e)]) out) (hr:R[x]?=some r) (he:e=r.length):Inv R root seen st (out++[x]):=by
 refine⟨h.len,?_,?_,?_,?_,h.reach,?_,?_,?_⟩
 .
  intro y;rw[h.mark];simp only[zuV,zuX,zuZ,zt9,zt8];constructor
  .
   rintro ((h1 | h1) | h1)
   . exact .inl h1
   . exact .inr (.inr h1)
   exact .inr (.inl h1)
  rintro (h1 | h1 | h1)
  . exact .inl (.inl h1)
  . exact .inr h1
  exact .inl (.inr h1)
 .
  have h1:=h.nodup;simp only[zuV,zuX,zuZ]at h1;refine(List.Perm.nodup_iff ?_).1 h1;rw[zu2];exact List.Perm.append_left _ (List.perm_append_comm)
 .
  intro y hy z hz;rw[zt9,zt8]at hy;rcases hy with hy | rfl
  . exact h.done y hy z hz
  obtain⟨r',h1,h2,h3⟩:=h.part y e tZ;rw[hr]at h1;cases h1;obtain⟨r',h4,h5⟩:=hz;rw[hr]at h4;cases h4;obtain⟨i,hi,hY⟩:=zv6.1 h5;exact h3 i z tO (by rw[zsQ hi,hY])
 .
  intro y e' hy;exact h.part y e' tD
 .
  intro l c e' m hl;rcases h.par l c e' (m++[(x,e)]) tD with h1 | ⟨p,e'',h1,h2⟩
  . omega
  grind
 .
  intro l c m hl;rcases zuj m with rfl | ⟨m',z,rfl⟩
  .
   have h1:out=l/\x=c:=by
    have h2:=hl;rw[<- zu4,<- zu4]at h2;have h3:=congrArg List.getLast? hl;have h4:=congrArg List.dropLast hl
    grind
   obtain⟨rfl,rfl⟩:=h1;rcases h.par st x e [] rfl with h1 | ⟨p,e',h1,h2⟩
   . omega
   grind
  have h1:out=l++c::m'/\x=z:=by
   have h3:=congrArg List.getLast? hl;have h4:=congrArg List.dropLast hl;rw[show l++c::m'.concat z=(l++c::m')++[z] from tZ]at h3 h4;rw[zub,zub]at h4;simp only[List.getLast?_append,List.getLast?_singleton,Option.some_or,Option.some.injEq]at h3;exact⟨h4,h3⟩
  obtain⟨h1,rfl⟩:=h1;rcases h.opar l c m' h1 with h2 | ⟨p,h2,h3⟩
  . omega
  refine .inr ⟨p,h2,?_⟩;simp only[zuV,zuX,zuZ,zt9,zt8,zu4]at h3 ⊢;rcases h3 with (h3 | h3) | h3
  . grind
  . omega
  grind
 rcases h.top with⟨h1,_⟩ | ⟨e',m,h1⟩
 . simp at h1
 cases st with
 | nil =>
  simp at h1;exact .inl ⟨rfl,out,tD⟩
 | cons a s =>
  simp at h1;exact .inr ⟨e',s,tD⟩
theorem Inv.skip {x e:Nat} {r:List Int} (h:Inv R root seen (st++[(x,e)]) out) (hr:R[x]?=some r) (hb:r[e]?=some (b:Int)) (hs:seen[b]?=some true):Inv R root seen (st++[(x,e+1)]) out:=by
 have hm:(st++[(x,e+1)]).map Prod.fst=(st++[(x,e)]).map Prod.fst:=tZ;have hY:e<r.length:=(zt4.1 hb).1;refine⟨h.len,by rw[hm];exact h.mark,by rw[hm];exact h.nodup,h.done,?_,h.reach,?_,by rw[hm];exact h.opar,?_⟩
 .
  intro y e' hy;rw[zt9,zt8]at hy;rcases hy with hy | hy
  . exact h.part y e' tD
  cases hy;obtain⟨r',h1,h2,h3⟩:=h.part x e tZ;rw[hr]at h1;cases h1;refine⟨r,hr,tO,fun i c hi hc=>?_⟩;by_cases da:i<e
  . grind
  grind
 .
  intro l c e' m hl;rcases zuj m with rfl | ⟨m',z,rfl⟩
  .
   have h3:=congrArg List.getLast? hl;have h4:=congrArg List.dropLast hl;simp at h3 h4;obtain⟨rfl,rfl⟩:=h3;subst h4;exact h.par st x e [] O
  have h3:=congrArg List.getLast? hl;have h4:=congrArg List.dropLast hl;rw[show l++(c,e')::m'.concat z=(l++(c,e')::m')++[z] from tZ]at h3 h4;rw[zub,zub]at h4;exact h.par l c e' (m'++[(x,e)]) tD
 rcases h.top with⟨h1,_⟩ | ⟨e',m,h1⟩
 . simp at h1
 cases st with
 | nil =>
  simp at h1;exact .inr ⟨e+1,[],tD⟩
 | cons a s =>
  simp at h1;exact .inr ⟨e',s++[(x,e+1)],tD⟩
theorem Inv.push {x e:Nat} {r:List Int} (h:Inv R root seen (st++[(x,e)]) out) (hr:R[x]?=some r) (hb:r[e]?=some (b:Int)) (hs:seen[b]?=some false):Inv R root (seen.set b true) (st++[(x,e+1)]++[(b,0)]) out:=by
 have db:b<seen.length:=(zt4.1 hs).1
 have da:∀ y,(seen.set b true)[y]?=some true ↔ seen[y]?=some true\/y=b:=by
  intro y;by_cases hy:b=y
  . grind
  rw[zuI hy];constructor
  . exact .inl
  grind
 have hm:(st++[(x,e+1)]++[(b,0)]).map Prod.fst=(st++[(x,e)]).map Prod.fst++[b]:=tZ;have dg:e<r.length:=(zt4.1 hb).1;have hY:Edge R x b:=⟨r,hr,zsR hb⟩;have dc:seen[x]?=some true:=(h.mark x).2 (.inl tZ)
 have dh:¬ (b ∈ (st++[(x,e)]).map Prod.fst\/b ∈ out):=by
  intro h1;have:=(h.mark b).2 h1
  grind
 refine⟨by simp[h.len],?_,?_,?_,?_,?_,?_,?_,?_⟩
 .
  intro y;rw[da,h.mark,hm];simp only[zt9,zt8];constructor
  .
   rintro ((h1 | h1) | h1)
   . exact .inl (.inl h1)
   . exact .inr h1
   exact .inl (.inr h1)
  rintro ((h1 | h1) | h1)
  . exact .inl (.inl h1)
  . exact .inr h1
  exact .inl (.inr h1)
 .
  rw[hm,zu2]
  have h1:((st++[(x,e)]).map Prod.fst++([b]++out)).Perm (b::((st++[(x,e)]).map Prod.fst++out)):=by
   exact List.perm_middle
  rw[h1.nodup_iff,zvf];exact⟨tD,h.nodup⟩
 .
  intro y hy z hz;rw[da];exact .inl (h.done y hy z hz)
 .
  intro y e' hy;simp only[zt9,zt8]at hy;rcases hy with (hy | hy) | hy
  .
   obtain⟨r',h1,h2,h3⟩:=h.part y e' tD
   grind
  .
   cases hy;obtain⟨r',h1,h2,h3⟩:=h.part x e tZ;rw[hr]at h1;cases h1;refine⟨r,hr,tO,fun i c hi hc=>?_⟩;rw[da];by_cases dl:i<e
   . grind
   grind
  cases hy;exact⟨_,zsQ (by rw[<- h.len];exact db),zt5 _,fun i c hi=>tO⟩
 .
  intro y hy;rw[da]at hy;rcases hy with hy | rfl
  . exact h.reach y hy
  exact .step (h.reach x dc) hY
 .
  intro l c e' m hl;rcases zuj m with rfl | ⟨m',z,rfl⟩
  .
   have h3:=congrArg List.getLast? hl;have h4:=congrArg List.dropLast hl
   grind
  have h4:=congrArg List.dropLast hl;rw[show l++(c,e')::m'.concat z=(l++(c,e')::m')++[z] from tZ]at h4;rw[zub,zub]at h4;rcases zuj m' with rfl | ⟨m'',z',rfl⟩
  .
   have h5:=congrArg List.getLast? h4;have h6:=congrArg List.dropLast h4;simp at h5;rw[zub,zub]at h6;obtain⟨rfl,rfl⟩:=h5;subst h6;exact h.par st x e [] O
  have h6:=congrArg List.dropLast h4;rw[show l++(c,e')::m''.concat z'=(l++(c,e')::m'')++[z'] from tZ]at h6;rw[zub,zub]at h6;exact h.par l c e' (m''++[(x,e)]) (by rw[h6];simp)
 .
  intro l c m hl;rcases h.opar l c m hl with h1 | ⟨p,h1,h2⟩
  . exact .inl h1
  refine .inr ⟨p,h1,?_⟩;rw[hm,zt9];rcases h2 with h2 | h2
  . exact .inl (.inl h2)
  exact .inr h2
 rcases h.top with⟨h1,_⟩ | ⟨e',m,h1⟩
 . simp at h1
 cases st with
 | nil =>
  simp at h1;exact .inr ⟨e+1,[(b,0)],by simp[h1.1.1]⟩
 | cons a s =>
  simp at h1;exact .inr ⟨e',s++[(x,e+1)]++[(b,0)],by rw[h1.1];simp⟩
structure Order (R:List (List Int)) (root:Nat) (order:List Nat):Prop where
 head:order[0]?=some root
 nodup:order.Nodup
 mem:∀ x,x ∈ order ↔ Reach R root x
 par:∀ (i c:Nat),order[i]?=some c->c ≠ root->∃ j p:Nat,j<i/\order[j]?=some p/\Edge R p c
theorem Inv.finish (h:Inv R root seen [] out):Order R root out.reverse:=by
 obtain⟨l,hl⟩:∃ l,out=l++[root]:=by
  rcases h.top with⟨_,h1⟩ | ⟨e,m,h1⟩
  . exact h1
  cases h1
 refine⟨tD,?_,?_,?_⟩
 .
  have:=h.nodup
  grind
 .
  intro x;rw[List.mem_reverse];have hs:∀ y,seen[y]?=some true ↔ y ∈ out:=fun y=>by rw[h.mark];simp
  constructor
  . intro hx;exact h.reach x ((hs x).2 hx)
  intro hx;induction hx with
  | refl=>rw[hl];simp
  | step _ he ih=>exact(hs _).1 (h.done _ ih _ he)
 intro i c hc dc
 have hi:i<out.length:=by
  have:=(zt4.1 hc).1;simpa using this
 rw[zuG hi]at hc;obtain⟨hk,db⟩:=zt4.1 hc
 have hY:out=out.take (out.length - 1 - i)++c::out.drop (out.length - 1 - i+1):=by
  rw[<- db,<- zue hk,zvA]
 rcases h.opar _ c _ hY with h1 | ⟨p,h1,h2⟩
 . omega
 simp at h2;obtain⟨j,hj,da⟩:=zv6.1 h2;rw[zuP]at hj;refine⟨i - 1 - j,p,tO,?_,h1⟩;rw[zuG tO];rw[List.getElem_drop]at da;rw[<- da];rw[show out.length - 1 - (i - 1 - j)=out.length - 1 - i+1+j from tO];exact zsQ _
end
def deg (R:List (List Int)) (x:Nat):Nat:=(R[x]?.getD []).length
def zoh (R:List (List Int)) (seen:List Bool):Nat:=((List.range R.length).map fun x=>if seen[x]?=some false then deg R x+2 else 0).sum
def zo1 (R:List (List Int)) (st:List (Nat × Nat)):Nat:=(st.map fun f=>deg R f.1 - f.2+1).sum
theorem sum_one (f g:Nat->Nat) (b c:Nat):∀ n,b<n->(∀ i,i ≠ b->f i=g i)->f b=g b+c->((List.range n).map f).sum=((List.range n).map g).sum+c
 | 0,h,_,_=>tO
 | n+1,h,h1,h2=>by
  rw[zvp];simp only[zuV,zuX,zuZ,List.sum_append,zvy,List.sum_nil];by_cases e:b=n
  .
   subst e;have:(List.range b).map f=(List.range b).map g:=zuW (fun i hi=>h1 i tD)
   grind
  have:=sum_one f g b c n tO h1 h2
  grind
theorem zlb (hl:seen.length=R.length) (hb:seen[b]?=some false):zoh R seen=zoh R (seen.set b true)+(deg R b+2):=by
 have hY:b<seen.length:=(zt4.1 hb).1;refine sum_one _ _ b _ _ tO ?_ ?_
 .
  intro i hi;rw[zuI (fun h=>hi h.symm)]
 rw[zt1 hb,zuJ hY,zt0 tZ];omega
theorem qO (R:List (List Int)) (st:List (Nat × Nat)) (x e:Nat):zo1 R (st++[(x,e)])=zo1 R st+(deg R x - e+1):=by simp[zo1]
theorem zmb {x:Nat} {r:List Int} (h:R[x]?=some r):deg R x=r.length:=by simp[deg,h]
theorem nodup_le:∀ (n:Nat) (l:List Nat),l.Nodup->(∀ x ∈ l,x<n)->l.length<=n
 | 0,[],_,_=>ztf _
 | 0,x::_,_,h=>absurd (h x (zsU ..)) tO
 | n+1,l,hn,h=>by
  have h1:=nodup_le n (l.erase n) (hn.erase n) (fun x hx=>by
   grind)
  grind
structure Place (n:Nat) (order:List Nat) (pl:List Int):Prop where
 len:pl.length=n
 inn:∀ (i x:Nat),order[i]?=some x->pl[x]?=some (i:Int)
 out:∀ x:Nat,x<n->x ∉ order->pl[x]?=some (-1)
theorem Place.start (n:Nat):Place n [] (List.replicate n (-1)):=⟨tZ,fun i x h=>tD,fun x hx _=>tD⟩
theorem Place.step {n:Nat} {order:List Nat} {pl:List Int} {x:Nat} (h:Place n (order.take k) pl) (hn:order.Nodup) (hx:order[k]?=some x) (db:x<n):Place n (order.take (k+1)) (pl.set x (k:Int)):=by
 obtain⟨hk,rfl⟩:=zt4.1 hx
 have dc:order[k] ∉ order.take k:=by
  intro hm;obtain⟨j,hj,hY⟩:=zv6.1 hm;rw[ztk]at hj;rw[List.getElem_take]at hY;have:=(List.getElem_inj hn).1 hY;omega
 refine⟨by simp[h.len],?_,?_⟩
 .
  intro i y hy;rw[ztm]at hy;split at hy
  .
   rename_i dh;by_cases hi:i=k
   .
    subst hi;rw[hx]at hy;cases hy;rw[zuJ (by rw[h.len];exact db)]
   have da:(order.take k)[i]?=some y:=by rw[ztm,zt1 tO];exact hy
   have dg:order[k] ≠ y:=fun e=>dc (e ▸ zsR da);rw[zuI dg];exact h.inn i y da
  cases hy
 intro y hy hm;rw[zvE hk,zt9,zt8]at hm;rw[zuI (fun e=>hm (.inr e.symm))];exact h.out y hy (fun h'=>hm (.inl h'))
end Go.GL.Dfs
namespace Go.Proofs.YtckdhgbepmpgiaaGreat
open Go.GL
noncomputable def zaM (f:Fl) (g:List Nd) (s:Sf):List Bool:=(List.range s.of_.length).map fun k:Nat=>@decide (NeedV f g s (k:Int)) (Classical.propDecidable _)
theorem zlc {l:List Bool} (hl:l.length=s.of_.length) (h:∀ k:Nat,k<s.of_.length->(l[k]?=some true ↔ NeedV f g s (k:Int))):l=zaM f g s:=by
 apply zul;intro k;unfold zaM;rw[zt7];by_cases hk:k<s.of_.length
 .
  rw[zuE hk];have e:=zsQ (show k<l.length by omega);have:=h k hk;rw[e]at this ⊢;simp only[zw5,Option.some.injEq]at this ⊢;cases hb:l[k] with
  | true=>rw[hb]at this;exact(@zt2 _ (Classical.propDecidable _) (this.1 rfl)).symm
  | false=>rw[hb]at this;exact(@zt3 _ (Classical.propDecidable _) (fun hn=>tD)).symm
 rw[zte tO,zte tD];rfl
theorem zjl (f:Fl) (g:List Nd) (s:Sf):(zaM f g s).length=s.of_.length:=by simp[zaM]
def zc6 (x:Sn):List (Int × List Int):=x.phis.map (fun p=>(p.ver,p.args))++if 0<=x.dfn then [(x.dfn,x.uses.map (·.2))] else []
def zka (t:List (List Int)) (l:List (Int × List Int)):List (List Int):=l.foldl (fun t z=>t.set z.1.toNat z.2) t
theorem zld (l:List (Int × List Int)):∀ t:List (List Int),(zka t l).length=t.length:=by
 induction l with
 | nil=>exact fun _=>rfl
 | cons z l ih=>intro t;exact(ih _).trans zuU
theorem zb3 (t:List (List Int)) (a b:List (Int × List Int)):zka t (a++b)=zka (zka t a) b:=by unfold zka;rw[zuy]
theorem zmL {l:List (Int × List Int)} (h:∀ z ∈ l,z.1.toNat ≠ k):∀ t,(zka t l)[k]?=t[k]?:=by
 induction l with
 | nil=>exact fun _=>rfl
 | cons z l ih =>
  intro t;exact(ih (fun y hy=>h y im) _).trans (zuI (h z (zsU ..)))
theorem zle {l:List (Int × List Int)} (hn:(l.map fun z=>z.1.toNat).Nodup) {z:Int × List Int} (hz:z ∈ l):∀ t,z.1.toNat<t.length->(zka t l)[z.1.toNat]?=some z.2:=by
 induction l with
 | nil=>cases hz
 | cons y l ih =>
  intro t ht;rw[zuX,zvf]at hn;rcases zt6.1 hz with rfl | hz
  . exact(zmL (fun r hr e=>hn.1 (zv8.2 ⟨r,hr,e⟩)) _).trans (zuJ ht)
  exact ih hn.2 hz _ tD
theorem zlf {l:List (Int × List Int)} {v:List Int}:∀ {t},(zka t l)[k]?=some v->t[k]?=some v\/∃ z ∈ l,z.1.toNat=k/\z.2=v:=by
 induction l with
 | nil=>exact fun h=>.inl h
 | cons z l ih =>
  intro t h;rcases ih (t:=t.set z.1.toNat z.2) h with h1 | ⟨y,hy,h1⟩
  .
   rw[zuH]at h1;split at h1
   . grind
   grind
  grind
def zc7 (s:Sf) (i:Nat):List (Int × List Int):=(s.nodes.take i).flatMap zc6
def xN (s:Sf) (i:Nat):List (List Int):=zka (List.replicate s.of_.length []) (zc7 s i)
theorem zcM {x:Sn} (h:s.nodes[i]?=some x):zc7 s (i+1)=zc7 s i++zc6 x:=by unfold zc7;rw[ze h,zus,zuw]
theorem zeY (s:Sf) (i:Nat):(xN s i).length=s.of_.length:=by unfold xN;rw[zld,zuT]
def zcl (s:Sf) (i:Nat) (x:Sn) (j:Nat):List (List Int):=zka (xN s i) ((x.phis.take j).map fun p=>(p.ver,p.args))
theorem zhB {x:Sn} (h:x.phis[j]?=some p):zcl s i x (j+1)=(zcl s i x j).set p.ver.toNat p.args:=by
 unfold zcl;rw[ze h,zuV,zb3];rfl
theorem zjm {x:Sn} (h:s.nodes[i]?=some x) (hd:0<=x.dfn):xN s (i+1)=(zcl s i x x.phis.length).set x.dfn.toNat (x.uses.map (·.2)):=by
 unfold zcl xN;rw[zcM h,zb3,zsV];unfold zc6;rw[zt1 hd,zb3];rfl
theorem zdB {x:Sn} (h:s.nodes[i]?=some x) (hd:¬ 0<=x.dfn):xN s (i+1)=zcl s i x x.phis.length:=by
 unfold zcl xN;rw[zcM h,zb3,zsV];unfold zc6
 grind
theorem zlg (hl:s.nodes.length=g.length):s.nodes=(List.range g.length).map (zm s):=by
 apply zul;intro k;rw[zt7];by_cases hk:k<g.length
 .
  rw[zuE hk,zsQ (show k<s.nodes.length by omega)];simp only[zw5];rw[yE (zsQ (show k<s.nodes.length by omega))]
 rw[zte tO,zte tD];rfl
theorem zcN (hl:s.nodes.length=g.length):s.nodes.take g.length=(List.range g.length).map (zm s):=(zvC tO).trans (zlg hl)
section
variable {rd:Nat->List Int}
theorem FormF.dfn (h:FormF f g s rd) {n:Nat} (hn:n<g.length):(0<=(zm s n).dfn ↔ 0<=yr f g n):=by
 have hx:=h.at hn;constructor
 .
  intro h1;by_cases h2:0<=yr f g n
  . exact h2
  have:=hx.no tO;omega
 exact fun h1=>(hx.yes h1).1
theorem zc8 (h:FormF f g s rd):((zc7 s g.length).map (·.1))=qo f g s:=by
 unfold zc7 qo;rw[zcN h.len,zuv,List.map_flatMap];rw[zuu,zuu];congr 1;refine zuW fun n hn=>?_;have hd:=h.dfn (zvc.1 hn);unfold zc6 dfL;rw[zuV,zuY];congr 1;by_cases h1:0<=yr f g n
 . grind
 grind
theorem zfN (h:FormF f g s rd):(qo f g s).Nodup:=by
 rw[List.nodup_iff_count];intro a;by_cases ha:a ∈ qo f g s
 .
  obtain⟨h2,h3⟩:=xL h ha;obtain⟨k,rfl⟩:=ztN (show 0<=a by omega);have:=h.one k tO tO;omega
 grind
theorem zhC (h:FormF f g s rd):((zc7 s g.length).map fun z=>z.1.toNat).Nodup:=by
 rw[show ((zc7 s g.length).map fun z=>z.1.toNat)=((zc7 s g.length).map (·.1)).map Int.toNat by rw[zuY];rfl,zc8 h];refine List.Pairwise.map _ (fun a b hY=>hY) (List.Pairwise.imp_of_mem (fun {a b} ha hb hY e=>?_) (zfN h));have h2:=(xL h ha).1;have h3:=(xL h hb).1;exact hY tO
theorem zgI (h:FormF f g s rd) {z:Int × List Int}:z ∈ zc7 s g.length ↔ ∃ n,n<g.length/\z ∈ zc6 (zm s n):=by
 unfold zc7;rw[zcN h.len,zuv,zv5];constructor
 . rintro⟨n,hn,hz⟩;exact⟨n,zvc.1 hn,hz⟩
 rintro⟨n,hn,hz⟩;exact⟨n,zvc.2 hn,hz⟩
theorem zgJ (h:FormF f g s rd) {n:Nat} (hn:n<g.length) {z:Int × List Int} (hz:z ∈ zc6 (zm s n)):(xN s g.length)[z.1.toNat]?=some z.2:=by
 have hm:=(zgI h).2 ⟨n,hn,hz⟩;have hk:z.1 ∈ qo f g s:=by rw[<- zc8 h];exact zv8.2 ⟨z,hm,rfl⟩
 have:=xL h hk;exact zle (zhC h) hm _ tD
theorem zlh (h:FormF f g s rd) (hk:(xN s g.length)[k]?=some l):l=[]\/∃ n,n<g.length/\∃ z ∈ zc6 (zm s n),z.1=(k:Int)/\z.2=l:=by
 rcases zlf hk with h1 | ⟨z,hz,h1,h2⟩
 .
  rw[zuF]at h1;split at h1
  . grind
  cases h1
 obtain⟨n,hn,da⟩:=(zgI h).1 hz;have hY:z.1 ∈ qo f g s:=by rw[<- zc8 h];exact zv8.2 ⟨z,hz,rfl⟩
 have:=xL h hY
 grind
theorem zmc (h:FormF f g s rd) {n:Nat} (hn:n<g.length) (hu:u ∈ (zm s n).uses):∃ q:Nat,u.2=(q:Int)/\q<s.of_.length:=jE ((h.at hn).ver u hu)
theorem znK (h:FormF f g s rd) {n:Nat} (hn:n<g.length) (hp:p ∈ (zm s n).phis) (ha:a ∈ p.args):∃ q:Nat,a=(q:Int)/\q<s.of_.length:=jE ((h.at hn).phi.args p hp a ha)
theorem zhD (h:FormF f g s rd) (hk:(xN s g.length)[k]?=some l) (hN:NeedV f g s (k:Int)) (ha:a ∈ l):NeedV f g s a/\∃ q:Nat,a=(q:Int)/\q<s.of_.length:=by
 rcases zlh h hk with rfl | ⟨n,hn,z,hz,h1,rfl⟩
 . cases ha
 unfold zc6 at hz;rcases zt9.1 hz with hz | hz
 .
  obtain⟨p,hp,rfl⟩:=zv8.1 hz;exact⟨.arg hn hp tD ha,znK h hn hp ha⟩
 split at hz
 .
  rename_i hd;rw[zt8]at hz;subst hz;obtain⟨u,hu,rfl⟩:=zv8.1 ha;exact⟨.use hn hd tD hu,zmc h hn hu⟩
 cases hz
noncomputable def yq (f:Fl) (g:List Nd) (s:Sf) (i:Nat):List Int:=(List.range i).flatMap fun n=>if jT f g s n=true then (zm s n).uses.map (·.2) else []
theorem jG (h:jT f g s i=true):yq f g s (i+1)=yq f g s i++(zm s i).uses.map (·.2):=by unfold yq;rw[zvp,zus,zuw,zt1 h]
theorem za5 (h:¬ jT f g s i=true):yq f g s (i+1)=yq f g s i:=by unfold yq;rw[zvp,zus,zuw,zt0 h,zu3]
theorem zeZ (i:Nat):(yq f g s i).length<=((s.nodes.take i).map fun x=>x.uses.length).sum:=by
 induction i with
 | zero=>simp[yq]
 | succ i ih =>
  by_cases hi:i<s.nodes.length
  .
   have e:=zsQ hi;rw[ze e,zuV,List.sum_append];by_cases h:jT f g s i=true
   . rw[jG h,zsY,yE e];simp only[zuX,zuZ,zvy,List.sum_nil,zta];omega
   rw[za5 h];simp only[zuX,zuZ,zvy,List.sum_nil];omega
  rw[zvC tO];rw[zvC tO]at ih
  have:yq f g s (i+1)=yq f g s i:=by
   by_cases h:jT f g s i=true
   . rw[jG h,zao hi];simp
   exact za5 h
  rw[this];exact ih
theorem zli (h:i<=m):(yq f g s i).length<=(yq f g s m).length:=by
 induction m with
 | zero =>
  obtain rfl:i=0:=tO;exact ztf _
 | succ m ih =>
  by_cases e:i=m+1
  . grind
  refine zsW (ih tO) ?_;by_cases hs:jT f g s m=true
  . rw[jG hs,zsY];omega
  rw[za5 hs];exact ztf _
structure WkN (f:Fl) (g:List Nd) (s:Sf) (nl:List Bool) (wl:List Int):Prop where
 len:nl.length=s.of_.length
 snd:∀ k:Nat,nl[k]?=some true->NeedV f g s (k:Int)
 wrk:∀ v ∈ wl,NeedV f g s v/\∃ q:Nat,v=(q:Int)/\q<s.of_.length
 sink:∀ n,n<g.length->jT f g s n=true->∀ u ∈ (zm s n).uses,nl[u.2.toNat]?=some true\/u.2 ∈ wl
 cls:∀ k:Nat,nl[k]?=some true->∀ l,(xN s g.length)[k]?=some l->∀ a ∈ l,nl[a.toNat]?=some true\/a ∈ wl
theorem WkN.start (h:FormF f g s rd):WkN f g s (List.replicate s.of_.length false) (yq f g s g.length):=by
 have hY:∀ k:Nat,(List.replicate s.of_.length false)[k]? ≠ some true:=fun k e=>by
  grind
 refine⟨tZ,fun k e=>absurd e (hY k),fun v hv=>?_,fun n hn hs u hu=>.inr ?_,fun k e=>absurd e (hY k)⟩
 .
  unfold yq at hv;obtain⟨n,hn,hv⟩:=zv5.1 hv;have hn:=zvc.1 hn;split at hv
  .
   rename_i hs;obtain⟨u,hu,rfl⟩:=zv8.1 hv;exact⟨.sink hn hs hu,zmc h hn hu⟩
  cases hv
 unfold yq
 grind
theorem WkN.skip {v:Nat} (h:WkN f g s nl (wl++[(v:Int)])) (hv:nl[v]?=some true):WkN f g s nl wl:=by
 have key:∀ a:Int,nl[a.toNat]?=some true\/a ∈ wl++[(v:Int)]->nl[a.toNat]?=some true\/a ∈ wl:=fun a ha=>by
  grind
 exact⟨h.len,h.snd,fun x hx=>h.wrk x (zv2 _ hx),fun n hn hs u hu=>key _ (h.sink n hn hs u hu),fun k hk l hl a ha=>key _ (h.cls k hk l hl a ha)⟩
theorem WkN.take (hF:FormF f g s rd) {v:Nat} (h:WkN f g s nl (wl++[(v:Int)])) (hl:(xN s g.length)[v]?=some l):WkN f g s (nl.set v true) (wl++l):=by
 obtain⟨hN,q,hq,hY⟩:=h.wrk v tZ;obtain rfl:v=q:=tO;have db:v<nl.length:=by rw[h.len];exact hY
 have hset:∀ k:Nat,(nl.set v true)[k]?=some true ↔ nl[k]?=some true\/k=v:=fun k=>by
  by_cases e:k=v
  . grind
  rw[zuI (fun h=>e h.symm)];simp[e]
 have key:∀ a:Int,nl[a.toNat]?=some true\/a ∈ wl++[(v:Int)]->(nl.set v true)[a.toNat]?=some true\/a ∈ wl++l:=fun a ha=>by
  grind
 refine⟨by rw[zuU,h.len],fun k hk=>?_,fun x hx=>?_,fun n hn hs u hu=>key _ (h.sink n hn hs u hu),fun k hk l' da a ha=>?_⟩
 .
  rcases (hset k).1 hk with h1 | rfl
  . exact h.snd k h1
  exact hN
 .
  rcases zt9.1 hx with hx | hx
  . exact h.wrk x (zv2 _ hx)
  exact zhD hF hl hN hx
 rcases (hset k).1 hk with h1 | rfl
 . exact key _ (h.cls k h1 l' da a ha)
 grind
theorem WkN.fin (hF:FormF f g s rd) (h:WkN f g s nl []):nl=zaM f g s:=by
 refine zlc h.len fun k hk=>⟨h.snd k,fun hN=>?_⟩;have hY:nl[((k:Nat):Int).toNat]?=some true:=NeedV.all (P:=fun a=>nl[a.toNat]?=some true) f g s (fun n hn hs u hu=>(h.sink n hn hs u hu).resolve_right tZ) (fun n hn hd hP u hu=>?_) (fun n hn p hp hP a ha=>?_) hN
 . grind
 . exact(h.cls _ hP _ (zgJ hF hn (z:=((zm s n).dfn,(zm s n).uses.map (·.2))) (by unfold zc6;rw[zt1 hd];simp)) _ (zv8.2 ⟨u,hu,rfl⟩)).resolve_right tZ
 exact(h.cls _ hP _ (zgJ hF hn (z:=(p.ver,p.args)) (by unfold zc6;exact zv2 _ (zv8.2 ⟨p,hp,rfl⟩))) _ ha).resolve_right tZ
def muN (s:Sf) (m:Nat) (nl:List Bool):Nat:=((List.range s.of_.length).map fun k=>if nl[k]?=some true then 0 else ((xN s m)[k]?.getD []).length+1).sum
theorem zmM {v:Nat} (hl:(xN s m)[v]?=some l) (hv:nl[v]? ≠ some true) (hY:v<nl.length):muN s m nl=muN s m (nl.set v true)+(l.length+1):=by
 have da:v<s.of_.length:=by rw[<- zeY s m];exact(zt4.1 hl).1
 unfold muN;refine Dfs.sum_one _ _ v _ s.of_.length da (fun i hi=>?_) ?_
 . rw[zuI (fun e=>hi e.symm)]
 rw[zt0 hv,zuJ hY,zt1 rfl,hl,zw1];omega
end
end Go.Proofs.YtckdhgbepmpgiaaGreat
namespace Go.GL
def Held (E:Hp) (w:World):Prop:=(∀ x ∈ E,x.2.holds w/\x.2.loc/\(∀ b,¬ x.2.fz b)/\∀ q,x.2.S q->q<w.heap.size)/\E.Pairwise (fun x y=>∀ q,x.2.S q->¬ y.2.S q)
structure GBack (E E':Hp) (w w':World):Prop where
 keep:Keep (HS E) w w'
 held:Held E' w'
 new:∀ x ∈ E',∀ q,x.2.S q->HS E q\/w.heap.size<=q
def HE.nz:HE->Bool
 | .fro ..=>false
 | .dat ..=>false
 | _=>true
theorem zse {e:HE} (h:e.nz=true):∀ b,¬ e.fz b:=by
 cases e with
 | fro b o cs=>cases h
 | dat F p=>cases h
 | _=>exact fun _ h=>h
theorem VI.held (hI:VI Bs H w) (hE:E.map (fun x=>hget H x.1)=E.map (fun x=>some x.2)) (hu:qa (E.map (·.1))=true) (hz:E.all (fun x=>x.2.nz)=true):Held E w:=by
 have h:=hI.pick (Has.of hE) hu;exact⟨fun x hx=>⟨h.holds x hx,h.loc x hx,zse (ztZ.1 hz x hx),h.low x hx⟩,h.apart⟩
theorem VI.back (hI:VI Bs H w) (j:Nat) (hj:Bs[j]?=some (w0,HS E)) (hE:E'.map (fun x=>hget H x.1)=E'.map (fun x=>some x.2)) (hu:qa (E'.map (·.1))=true) (hz:E'.all (fun x=>x.2.nz)=true):GBack E E' w0 w:=by
 have hb:=zsR hj;exact⟨(hI.base _ hb).1,hI.held hE hu hz,fun x hx q hq=>((hI.pick (Has.of hE) hu).base _ hb).2 x hx q hq⟩
theorem VI.back0 (hI:VI Bs H w) (j:Nat) (hj:Bs[j]?=some (w0,fun _=>False)) (hE:E'.map (fun x=>hget H x.1)=E'.map (fun x=>some x.2)) (hu:qa (E'.map (·.1))=true) (hz:E'.all (fun x=>x.2.nz)=true):GBack [] E' w0 w:=by
 have hb:=zsR hj;exact⟨(hI.base _ hb).1.mono fun q _ h=>h.elim,hI.held hE hu hz,fun x hx q hq=>.inr ((((hI.pick (Has.of hE) hu).base _ hb).2 x hx q hq).resolve_left fun h=>h)⟩
theorem znL {ks:List Nat} (hE:E.map (fun x=>hget H x.1)=E.map (fun x=>some x.2)) (hk:E.all (fun x=>zh2 x.1 ks)=true) (hq:HS E q):InS H ks q:=by
 obtain⟨x,hx,hs⟩:=hq;exact⟨x,zn (Has.of hE x hx),ztZ.1 hk x hx,hs⟩
theorem zfO (hE:E.map (fun x=>hget H x.1)=E.map (fun x=>some x.2)) (hq:HS E q):HS H q:=by
 obtain⟨x,hx,hs⟩:=hq;exact⟨_,zn (Has.of hE x hx),hs⟩
theorem yX {f:FuncId} {ks:List Nat} {E':α->Hp} {Φ:Value->α->Prop} (hE:E.map (fun x=>hget H x.1)=E.map (fun x=>some x.2)) (hk:E.all (fun x=>zh2 x.1 ks)=true) (h:Calls P f args w (Ret fun r w'=>∃ x,Φ r x/\GBack E (E' x) w w')):Calls P f args w (Ret fun r w'=>∃ x,Φ r x/\Hands H ks (E' x) w w'):=by
 refine Calls.mono h ?_;rintro e' w' ⟨r,rfl,x,h1,h2⟩;exact⟨r,rfl,x,h1,h2.keep.mono fun q _ hq=>znL hE hk hq,fun y hy=>⟨(h2.held.1 y hy).1,(h2.held.1 y hy).2.1,(h2.held.1 y hy).2.2.1,fun q hq=>⟨(h2.new y hy q hq).imp (znL hE hk) id,(h2.held.1 y hy).2.2.2 q hq⟩⟩,h2.held.2⟩
theorem VI.offE (hI:VI Bs H w) (j:Nat) (hj:Bs[j]?=some (w0,HS E)) (hE:E'.map (fun x=>hget H x.1)=E'.map (fun x=>some x.2)) (hD:∀ q,D q->q<w0.heap.size) (ho:∀ q,HS E q->¬ D q):∀ q,HS E' q->¬ D q:=by
 rintro q ⟨x,hx,hq⟩ hd;rcases (hI.base _ (zsR hj)).2 _ (zn (Has.of hE x hx)) q hq with h1 | h1
 . grind
 grind
def rho:List (Nat × Nat)->Nat->Nat
 | [],k=>k
 | (a,b)::r,k=>cond (Nat.beq a k) b (rho r k)
def zmd (ρ:List (Nat × Nat)):Hp->Hp
 | []=>[]
 | x::r=>(rho ρ x.1,x.2)::zmd ρ r
theorem zfP (ρ:List (Nat × Nat)):∀ H:Hp,zmd ρ H=H.map fun x=>(rho ρ x.1,x.2)
 | []=>rfl
 | x::r=>by rw[zmd,zfP ρ r];rfl
theorem VI.ren (ρ:List (Nat × Nat)) (h:VI Bs H w):VI Bs (zmd ρ H) w:=by
 have hm:∀ x ∈ zmd ρ H,∃ y ∈ H,y.2=x.2:=fun x hx=>by
  rw[zfP]at hx
  grind
 refine⟨fun x hx=>?_,fun x hx=>?_,?_,fun x hx y hy=>?_,fun x hx=>?_,fun p hp=>⟨(h.base p hp).1,fun x hx=>?_⟩⟩
 . obtain⟨y,hy,e⟩:=hm x hx;rw[<- e];exact h.holds y hy
 . obtain⟨y,hy,e⟩:=hm x hx;rw[<- e];exact h.loc y hy
 . rw[zfP];exact List.Pairwise.map _ (fun _ _ h=>h) h.apart
 . obtain⟨x',hY,e⟩:=hm x hx;obtain⟨y',da,e'⟩:=hm y hy;rw[<- e,<- e'];exact h.froz x' hY y' da
 . obtain⟨y,hy,e⟩:=hm x hx;rw[<- e];exact h.low y hy
 obtain⟨y,hy,e⟩:=hm x hx;rw[<- e];exact(h.base p hp).2 y hy
section
variable {n:Fm} {pos:Pos}
theorem V.ren (ρ:List (Nat × Nat)) (A1:Tgs) (hY:A1.map (fun p=>zdT env p.1)=A1.map (fun p=>jw (zmd ρ H) p.2)) (da:A1.all (fun p=>(jw (zmd ρ H) p.2).isSome)=true) (h:V P n Q ks pos env A1 (zmd ρ H) Bs):V P n Q ks pos env A H Bs :=
 fun _ w hI=>h (TgOk.of hY da) w (hI.ren ρ)
theorem zsf (k1 k2:Nat) {F1 F2:Nat->Prop} {p1 p2:World->Prop} (hn:(hget H k1,hget H k2)=(some (.dat F1 p1),some (.dat F2 p2))) (h:∀ w,p1 w->p2 w->(∀ b,F1 b\/F2 b->b<w.heap.size)->(∀ b,HS H b->¬ F1 b)->(∀ b,HS H b->¬ F2 b)->V P n Q ks pos env A H ((w,HS H)::Bs)):V P n Q ks pos env A H Bs:=by
 simp only[Prod.mk.injEq]at hn;intro hA w hI;have h1:=hI.at k1 hn.1;have h2:=hI.at k2 hn.2;exact h w h1.1 h2.1 (fun b hb=>hb.elim (h1.2 b) (h2.2 b)) (fun b hb hF=>hI.offF k1 hn.1 b hF hb) (fun b hb hF=>hI.offF k2 hn.2 b hF hb) hA w hI.here
end
def AllR {α:Type} (R:Rel α) (D:Nat->Prop) (w:World):List α->List (List Value)->Prop
 | [],[]=>True
 | x::l,c::cs=>R D w x c/\AllR R D w l cs
 | _,_=>False
theorem AllR.at {α:Type} {R:Rel α} {D:Nat->Prop} {w:World}:∀ {l:List α} {cs:List (List Value)},AllR R D w l cs->∀ {i:Nat} {x:α},l[i]?=some x->∃ c,cs[i]?=some c/\R D w x c
 | [],[],_,i,x,h=>tD
 | y::l,c::cs,h,0,x,hx=>by simp at hx;subst hx;exact⟨c,rfl,h.1⟩
 | y::l,c::cs,h,i+1,x,hx=>by
  obtain⟨c',h1,h2⟩:=AllR.at h.2 (i:=i) (x:=x) tD
  grind
 | [],_::_,h,_,_,_=>h.elim
 | _::_,[],h,_,_,_=>h.elim
theorem zgK {k:Nat}:∀ {cs:List (List Value)} {i j:Nat} {c:List Value} {u:Value},(∀ c ∈ cs,c.length=k)->cs[i]?=some c->c[j]?=some u->cs.flatten[i*k+j]?=some u
 | [],i,j,c,u,_,h,_=>tD
 | y::cs,0,j,c,u,hk,h,hu=>by
  simp at h;subst h;rw[Nat.zero_mul,zvZ,zux,ztg (zt4.1 hu).1];exact hu
 | y::cs,i+1,j,c,u,hk,h,hu=>by
  have hy:=hk y (zsU ..);rw[zux,zvY,zth tO,show i*k+k+j - y.length=i*k+j by omega];exact zgK (fun c hc=>hk c (zsT _ hc)) tD hu
theorem zsg {R:Rel α} {l:List α} (cs:List (List Value)) (hb:Blk w b cs.flatten e) (hD:D b) (hk:∀ c ∈ cs,c.length=k) (hm:l.length<=9223372036854775807) (h:AllR R D w l cs):SlR k R D w (.slice (some ⟨b,0,none⟩) l.length l.length) l :=
 zpG hb hD rfl (ztf _) hm fun i x hx=>by
  obtain⟨c,h1,h2⟩:=h.at hx;exact⟨c,hk c (zsR h1),fun j u hu=>zgK hk h1 hu,h2⟩
section
variable {fn:Func} {R:Ending->World->Prop} {n:Nat}
theorem zsh {s p:Tmp} {t1 t2:TypeId} {k1 o1 k2 o2 z1 z2:Nat} {c1 c2 l1 l2:List Value} (h:fn.results=#[.cell s t1,.cell p t2]) (hY:∀ w,(isAgg t1).run P w=.ok true w) (da:∀ w,(isAgg t2).run P w=.ok true w) (db:∀ w,(sizeOf t1).run P w=.ok z1 w) (dc:∀ w,(sizeOf t2).run P w=.ok z2 w) (dg:tgt A s=some (k1,o1)) (dh:tgt A p=some (k2,o2)) (dl:cellAt H k1=some c1) (dm:cellAt H k2=some c2) (dr:zlZ z1 o1 c1=some l1) (dt:zlZ z2 o2 c2=some l2)
  (hR:∀ w,VI Bs H w->R (.returned (.tuple #[.agg l1.toArray,.agg l2.toArray])) w):V P n (bodyPost P fn R) [] (.e .ret) env A H Bs:=fun hA w hw=>by
 obtain⟨a1,h1,h2⟩:=zaT hA hw dg dl dr hY db;obtain⟨a2,h3,h4⟩:=zaT hA hw dh dm dt da dc;intro a' ha;have g1:=ha.get s _ h1;have g2:=ha.get p _ h3;refine bodyPost_ret (v:=.tuple #[.agg l1.toArray,.agg l2.toArray]) ?_ ha.defs (hR w hw);simp[results,h,g1,g2,asAddr,h2,h4]
end
end Go.GL
namespace Go.Proofs.YtckdhgbepmpgiaaGreat
open Go.GL
abbrev B22:=Nat × Nat × Nat × Nat × Nat × Nat × Nat × Nat × Nat × Nat
abbrev zhE (bv bb b4 bo b9 bf ba bp bu bn:Nat) (ph:Value) (u:Int):Hp:=[
 (906,.own bv [.string ⟨#[120]⟩,.int .i64 1,.int .i64 0,.int .i64 1,.int .i64 0,.string ⟨#[121]⟩,.int .i64 0,.int .i64 0,.int .i64 1,.int .i64 0] 142),
 (910,.own bb [.int .i64 0,.int .i64 0,.int .i64 1,.int .i64 0,.int .i64 0,.int .i64 1,.slice none 0 0,.slice none 0 0,.slice none 0 0,.slice none 0 0] 72),
 (914,.own b4 [.int .i64 3,.int .i64 0,.int .i64 0,.int .i64 0,.int .i64 24,.int .i64 0,.slice none 0 0,.slice (some ⟨bb,0,none⟩) 1 1,.slice none 0 0,.slice none 0 0,.int .i64 1,.int .i64 0,.int .i64 0,.int .i64 0,.int .i64 24,.int .i64 1,.slice none 0 0,.slice none 0 0,.slice none 0 0,.slice none 0 0] 72),
 (916,.own bo [.int .i64 0,.int .i64 1,.int .i64 1,.int .i64 1] 3),
 (919,.own b9 [.int .i64 0,.int .i64 0] 85),
 (922,.own bf [.int .i64 1,.int .i64 2] 3),
 (923,.own ba [.int .i64 1,.int .i64 2] 3),
 (925,.own bp [.int .i64 1,.int .i64 3,.slice (some ⟨bf,0,none⟩) 2 2,.slice (some ⟨ba,0,none⟩) 2 2] 88),
 (927,.own bu [.int .i64 1,.int .i64 u] 85),
 (930,.own bn [.slice none 0 0,.slice none 0 0,.int .i64 (-1),.slice none 0 0,.slice (some ⟨b9,0,none⟩) 1 1,.int .i64 (-1),.slice none 0 0,.slice none 0 0,.int .i64 2,ph,.slice (some ⟨bu,0,none⟩) 1 1,.int .i64 (-1),.slice none 0 0,.slice none 0 0,.int .i64 (-1)] 59)]
theorem zf0 (W:World):Calls prog 31 #[] W (Ret fun r w'=>∃ b:B22,r=.tuple #[.agg #[.slice (some ⟨b.1,0,none⟩) 2 2,.slice none 0 0,.slice (some ⟨b.2.2.1,0,none⟩) 2 2],.agg #[.slice (some ⟨b.2.2.2.1,0,none⟩) 4 4,.slice (some ⟨b.2.2.2.2.2.2.2.2.2,0,none⟩) 5 5]]/\GBack [] (zhE b.1 b.2.1 b.2.2.1 b.2.2.2.1 b.2.2.2.2.1 b.2.2.2.2.2.1 b.2.2.2.2.2.2.1 b.2.2.2.2.2.2.2.1 b.2.2.2.2.2.2.2.2.1 b.2.2.2.2.2.2.2.2.2 (.slice (some ⟨b.2.2.2.2.2.2.2.1,0,none⟩) 1 1) 3) W w'):=by
 refine zqp func31 O ntmps31 (V.inn (Vs 2 O (V.alloc 0 tz26 O O (fun b0=>?_))));refine V.alloc 1 tz30 O O (fun b1=>(Vs 4 O (zrt [Value.string { data:=#[] },Value.int IntKind.i64 0,Value.int IntKind.i64 0,Value.int IntKind.i64 0,Value.int IntKind.i64 0] [(0,1),(1,1),(2,1),(3,1),(4,1)] [(0,_),(1,_),(3,_)] O O (fun _=>tK) (zrt [Value.string { data:=#[] },Value.int IntKind.i64 0,Value.int IntKind.i64 0,Value.int IntKind.i64 0,Value.int IntKind.i64 0] [(0,1),(1,1),(2,1),(3,1),(4,1)] [(0,_),(3,_)] O O (fun _=>tK) (V.bs 6 [(0,_),(1,_)] tR22 ts142 tz142 tS O O tK (fun b6=>?_))))));refine zrt [Value.int IntKind.i64 0,Value.int IntKind.i64 0,Value.slice none 0 0] [(0,1),(1,1),(2,1)] [(0,_)] O O (fun _=>tK) (zrt [Value.int IntKind.i64 0,Value.int IntKind.i64 0,Value.slice none 0 0] [(0,1),(1,1),(2,1)] [(1,_)] O O (fun _=>tK) (zrt [Value.int IntKind.i64 0,Value.int IntKind.i64 0,Value.int IntKind.i64 0,Value.int IntKind.i64 0,Value.int IntKind.i64 0,Value.int IntKind.i64 0,Value.slice none 0 0,Value.slice none 0 0,Value.slice none 0 0,Value.slice none 0 0] [(0,1),(1,1),(2,1),(3,1),(4,3),(7,1),(8,1),(9,1)] [(0,_),(2,_),(4,_)] O O (fun _=>tK) ?_));refine V.bs 10 [(0,_)] tR24 ts72 tz72 tS O O tK (fun b10=>(zrt [Value.int IntKind.i64 0,Value.int IntKind.i64 0,Value.int IntKind.i64 0,Value.int IntKind.i64 0,Value.int IntKind.i64 0,Value.int IntKind.i64 0,Value.slice none 0 0,Value.slice none 0 0,Value.slice none 0 0,Value.slice none 0 0] [(0,1),(1,1),(2,1),(3,1),(4,3),(7,1),(8,1),(9,1)] [(0,_),(4,_),(5,_)] O O (fun _=>tK) (zrt [Value.int IntKind.i64 0,Value.int IntKind.i64 0,Value.slice none 0 0] [(0,1),(1,1),(2,1)] [(0,_),(1,_)] O O (fun _=>tK) ?_)));refine zrt [Value.int IntKind.i64 0,Value.int IntKind.i64 0,Value.int IntKind.i64 0,Value.int IntKind.i64 0,Value.int IntKind.i64 0,Value.int IntKind.i64 0,Value.slice none 0 0,Value.slice none 0 0,Value.slice none 0 0,Value.slice none 0 0] [(0,1),(1,1),(2,1),(3,1),(4,3),(7,1),(8,1),(9,1)] [(0,_),(4,_)] O O (fun _=>tK) (V.bs 14 [(0,_),(1,_)] tR24 ts72 tz72 tS O O tK (fun b14=>?_));refine zrt [Value.slice none 0 0,Value.slice none 0 0,Value.slice none 0 0] [(0,1),(1,1),(2,1)] [(0,_),(2,_)] O O (fun _=>tK) (V.alloc 2 tz26 O O (fun b2=>?_));refine Vs 5 O (V.bs 16 [(0,_),(1,_),(2,_),(3,_)] tR27 ts3 tz3 tS O O tK (fun b16=>?_));refine zrt [Value.slice none 0 0,Value.slice none 0 0,Value.int IntKind.i64 0] [(0,1),(1,1),(2,1)] [(2,_)] O O (fun _=>tK) (zrt [Value.int IntKind.i64 0,Value.int IntKind.i64 0] [(0,1),(1,1)] [(0,_),(1,_)] O O (fun _=>tK) (V.bs 19 [(0,_)] tR57 ts85 tz85 tS O O tK (fun b19=>?_)));refine zrt [Value.slice none 0 0,Value.slice none 0 0,Value.int IntKind.i64 0] [(0,1),(1,1),(2,1)] [(1,_),(2,_)] O O (fun _=>tK) (zrt [Value.slice none 0 0,Value.slice none 0 0,Value.int IntKind.i64 0] [(0,1),(1,1),(2,1)] [(2,_)] O O (fun _=>tK) (V.bs 22 [(0,_),(1,_)] tR27 ts3 tz3 tS O O tK (fun b22=>?_)));refine V.bs 23 [(0,_),(1,_)] tR27 ts3 tz3 tS O O tK (fun b23=>(zrt [Value.int IntKind.i64 0,Value.int IntKind.i64 0,Value.slice none 0 0,Value.slice none 0 0] [(0,1),(1,1),(2,1),(3,1)] [(0,_),(1,_),(2,_),(3,_)] O O (fun _=>tK) (V.bs 25 [(0,_)] tR56 ts88 tz88 tS O O tK (fun b25=>?_))));refine zrt [Value.int IntKind.i64 0,Value.int IntKind.i64 0] [(0,1),(1,1)] [(0,_),(1,_)] O O (fun _=>tK) (V.bs 27 [(0,_)] tR57 ts85 tz85 tS O O tK (fun b27=>?_));refine zrt [Value.slice none 0 0,Value.slice none 0 0,Value.int IntKind.i64 0] [(0,1),(1,1),(2,1)] [(0,_),(1,_),(2,_)] O O (fun _=>tK) (zrt [Value.slice none 0 0,Value.slice none 0 0,Value.int IntKind.i64 0] [(0,1),(1,1),(2,1)] [(2,_)] O O (fun _=>tK) (V.bs 30 [(0,_),(1,_),(2,_),(3,_),(4,_)] tR28 ts59 tz59 tS O O tK (fun b30=>?_)));refine zrt [Value.slice none 0 0,Value.slice none 0 0] [(0,1),(1,1)] [(0,_),(1,_)] O O (fun _=>tK) (V.alloc 3 tz30 O O (fun b3=>?_));refine Vs 4 O (V.ren [(6,906),(10,910),(14,914),(16,916),(19,919),(22,922),(23,923),(25,925),(27,927),(30,930)] [(0,some (0,0)),(1,some (1,0)),(2,some (2,0)),(3,some (3,0))] O O (Vw [1,906,910,914,2,916,919,922,923,925,927,930,3] [3] O (Vd [0,1] 0 tK O O O (Ve 2 0 O tK O O O (Vl 3 O tK O (VDx.done tK (Vs 2 O (zsh results31 tg26 tg30 ts26 ts30 O O O O O O (fun w hI=>⟨_,rfl,(b6,b10,b14,b16,b19,b22,b23,b25,b27,b30),rfl,hI.back0 0 O O O rfl⟩)))))))))
theorem zf1 (f:Fl) (v1 v2 v3:Value) (D:Nat->Prop) (W:World) (hf:RFl D W f v1 v2 v3) (hY:ssize f.body<=10000) :
  Calls prog 14 #[.agg #[v1,v2,v3]] W (Ret fun r w'=>(∃ nv,r=.agg #[nv]/\SlR 4 RNd (fun b=>W.heap.size<=b) w' nv (zd f))/\Ext W w'):=by
 refine zqq func14 O ntmps14 O (V.inn (Vs 2 O (V.box 1 O O (fun b1=>?_))));refine V.alloc 2 tz36 O O (fun b2=>(Vs 5 O (zr4 call33 O (fun w hI=>zfK f v1 v2 v3 D w JQ hY) ?_)));rintro rr w1 w2 da db ⟨nv,rfl,hnv⟩ dc;have dg:W.heap.size<=w1.heap.size:=da.k0.size;obtain⟨an,cn,rfl⟩:=hnv.form;refine Vs 4 O (zp2 results14 tg36 ts36 O O O (fun w hI=>⟨_,rfl,⟨_,rfl,(hnv.keep zo hI.k0 fun b hb _ hs=>tD).wide zo fun b hb=>tO⟩,hI.k1⟩))
section
variable {bv bb b4 bo b9 bf ba bp bu bn:Nat} {ph:Value} {u:Int}
theorem za6 (hE:∀ x ∈ zhE bv bb b4 bo b9 bf ba bp bu bn ph u,x.2.holds w) (hD:∀ q,q<w.heap.size->D q):RFl D w exF22 (.slice (some ⟨bv,0,none⟩) 2 2) (.slice none 0 0) (.slice (some ⟨b4,0,none⟩) 2 2):=by
 have h1:=hE _ (zsU ..);replace h1:Blk w bv _ 142:=h1;have h2:=hE _ (zsT _ (zsU ..));replace h2:Blk w bb _ 72:=h2;have h3:=hE _ (zsT _ (zsT _ (zsU ..)));replace h3:Blk w b4 _ 72:=h3;have kA:SlR 10 RSt D w (.slice (some ⟨bb,0,none⟩) 1 1) [zla]:=zsg (R:=RSt) (l:=[zla]) [[.int .i64 0,.int .i64 0,.int .i64 1,.int .i64 0,.int .i64 0,.int .i64 1,.slice none 0 0,.slice none 0 0,.slice none 0 0,.slice none 0 0]] h2 (hD _ h2.lt) UA tS ⟨RSt.put (s:=zla) SlR.nil SlR.nil SlR.nil SlR.nil,trivial⟩;refine⟨?_,SlR.nil,?_⟩
 . exact zsg (R:=RVr) (l:=exF22.vars)  [[.string ⟨#[120]⟩,.int .i64 1,.int .i64 0,.int .i64 1,.int .i64 0],[.string ⟨#[121]⟩,.int .i64 0,.int .i64 0,.int .i64 1,.int .i64 0]] h1 (hD _ h1.lt) J8 tS ⟨rfl,rfl,trivial⟩
 exact zsg (R:=RSt) (l:=exF22.body)  [[.int .i64 3,.int .i64 0,.int .i64 0,.int .i64 0,.int .i64 24,.int .i64 0,.slice none 0 0,.slice (some ⟨bb,0,none⟩) 1 1,.slice none 0 0,.slice none 0 0],[.int .i64 1,.int .i64 0,.int .i64 0,.int .i64 0,.int .i64 24,.int .i64 1,.slice none 0 0,.slice none 0 0,.slice none 0 0,.slice none 0 0]] h3 (hD _ h3.lt) J8 tS ⟨RSt.put (s:=znI) SlR.nil kA SlR.nil SlR.nil,RSt.put (s:=znJ) SlR.nil SlR.nil SlR.nil SlR.nil,trivial⟩
theorem zcO (hE:∀ x ∈ zhE bv bb b4 bo b9 bf ba bp bu bn ph u,x.2.holds w) (hD:∀ q,q<w.heap.size->D q):SlR 1 zw D w (.slice (some ⟨bo,0,none⟩) 4 4) [0,1,1,1]:=by
 have h4:=hE _ (zsT _ (zsT _ (zsT _ (zsU ..))));replace h4:Blk w bo _ 3:=h4;exact zsg (R:=zw) (l:=[(0:Int),1,1,1]) [[.int .i64 0],[.int .i64 1],[.int .i64 1],[.int .i64 1]] h4 (hD _ h4.lt) (fun c hc=>tD) tS ⟨rfl,rfl,rfl,rfl,trivial⟩
theorem zcP {phis:List Phn} (hE:∀ x ∈ zhE bv bb b4 bo b9 bf ba bp bu bn ph u,x.2.holds w) (hD:∀ q,q<w.heap.size->D q) (hp:SlR 4 zm9 D w ph phis):SlR 3 RSn D w (.slice (some ⟨bn,0,none⟩) 5 5) [⟨[],[],-1⟩,⟨[],[(0,0)],-1⟩,⟨[],[],2⟩,⟨phis,[(1,u)],-1⟩,⟨[],[],-1⟩]:=by
 have h5:=hE _ iq;replace h5:Blk w b9 _ 85:=h5;have h9:=hE _ (zsT _ (zsT _ (zsT _ (zsT _ iq))));replace h9:Blk w bu _ 85:=h9;have hY:=hE _ (zsT _ (zsT _ (zsT _ (zsT _ (zsT _ iq)))));replace hY:Blk w bn _ 59:=hY;have k5:SlR 2 xo D w (.slice (some ⟨b9,0,none⟩) 1 1) [(0,0)]:=zsg (R:=xo) (l:=[((0:Int),(0:Int))]) [[.int .i64 0,.int .i64 0]] h5 (hD _ h5.lt) (fun c hc=>tD) tS ⟨rfl,trivial⟩;have k9:SlR 2 xo D w (.slice (some ⟨bu,0,none⟩) 1 1) [(1,u)]:=zsg (R:=xo) (l:=[((1:Int),u)]) [[.int .i64 1,.int .i64 u]] h9 (hD _ h9.lt) (fun c hc=>tD) tZ ⟨rfl,trivial⟩
 exact zsg (R:=RSn) (l:=[⟨[],[],-1⟩,⟨[],[(0,0)],-1⟩,⟨[],[],2⟩,⟨phis,[(1,u)],-1⟩,⟨[],[],-1⟩]) [[.slice none 0 0,.slice none 0 0,.int .i64 (-1)],[.slice none 0 0,.slice (some ⟨b9,0,none⟩) 1 1,.int .i64 (-1)],[.slice none 0 0,.slice none 0 0,.int .i64 2],[ph,.slice (some ⟨bu,0,none⟩) 1 1,.int .i64 (-1)],[.slice none 0 0,.slice none 0 0,.int .i64 (-1)]] hY (hD _ hY.lt) (fun c hc=>tD) tZ
  ⟨⟨_,_,rfl,SlR.nil,SlR.nil⟩,⟨_,_,rfl,SlR.nil,k5⟩,⟨_,_,rfl,SlR.nil,SlR.nil⟩,⟨_,_,rfl,hp,k9⟩,⟨_,_,rfl,SlR.nil,SlR.nil⟩,trivial⟩
theorem zdC (hE:∀ x ∈ zhE bv bb b4 bo b9 bf ba bp bu bn (.slice (some ⟨bp,0,none⟩) 1 1) 3,x.2.holds w) (hD:∀ q,q<w.heap.size->D q):RSf D w exS22 (.slice (some ⟨bo,0,none⟩) 4 4) (.slice (some ⟨bn,0,none⟩) 5 5):=by
 have h6:=hE _ (zsT _ iq);replace h6:Blk w bf _ 3:=h6;have h7:=hE _ (zsT _ (zsT _ iq));replace h7:Blk w ba _ 3:=h7;have h8:=hE _ (zsT _ (zsT _ (zsT _ iq)));replace h8:Blk w bp _ 88:=h8;have k6:SlR 1 zw D w (.slice (some ⟨bf,0,none⟩) 2 2) [1,2]:=zsg (R:=zw) (l:=[(1:Int),2]) [[.int .i64 1],[.int .i64 2]] h6 (hD _ h6.lt) (fun c hc=>tD) tS ⟨rfl,rfl,trivial⟩;have k7:SlR 1 zw D w (.slice (some ⟨ba,0,none⟩) 2 2) [1,2]:=zsg (R:=zw) (l:=[(1:Int),2]) [[.int .i64 1],[.int .i64 2]] h7 (hD _ h7.lt) (fun c hc=>tD) tS ⟨rfl,rfl,trivial⟩;refine⟨zcO hE hD,zcP (phis:=[⟨1,3,[1,2],[1,2]⟩]) hE hD ?_⟩;exact zsg (R:=zm9) (l:=[⟨1,3,[1,2],[1,2]⟩]) [[.int .i64 1,.int .i64 3,.slice (some ⟨bf,0,none⟩) 2 2,.slice (some ⟨ba,0,none⟩) 2 2]] h8 (hD _ h8.lt) UA tS ⟨⟨_,_,rfl,k6,k7⟩,trivial⟩
theorem zjn (hE:∀ x ∈ zhE bv bb b4 bo b9 bf ba bp bu bn (.slice none 0 0) 2,x.2.holds w) (hD:∀ q,q<w.heap.size->D q):RSf D w exT22 (.slice (some ⟨bo,0,none⟩) 4 4) (.slice (some ⟨bn,0,none⟩) 5 5):=⟨zcO hE hD,zcP (phis:=[]) hE hD SlR.nil⟩
end
def zjo:Ins:=⟨[1],[],[]⟩
theorem zhF:zh exF22.vars zjo=0:=by decide +kernel
theorem zjp:(zbV exF22 zjo).outs=[1]:=by decide +kernel
theorem zf2 (hk:k<s.of_.length) (hN:NeedV f g s (k:Int)):(zaM f g s)[k]?=some true:=by
 unfold zaM;rw[zt7,zuE hk];simp only[zw5];rw[@zt2 _ (Classical.propDecidable _) hN]
theorem zhG:(zaM exF22 exG22 exS22)[0]?=some true:=zf2 tS (NeedV.sink (n:=1) (u:=(0,0)) tS iG iG)
theorem zhH:(zaM exF22 exG22 exS22)[3]?=some true:=zf2 tS (NeedV.sink (n:=3) (u:=(1,3)) tS iG iG)
theorem zmN:(yq exF22 exG22 exS22 exG22.length).length+muN exS22 exG22.length (List.replicate exS22.of_.length false)<=1000000000:=by decide +kernel
open Go.GL
def zmO (f:Fl) (s:Sf) (r:Ins) (i:Nat) (vl:List Int):Prop:=(i=0->∀ v:Nat,v<f.vars.length->vl[v]?=(zt f.vars r)[v]?)/\∀ j,i=j+1->∀ y:Nat,(xf f r j).at_=(y:Int)->ziF f (zd f) s y vl (xf f r i).σ.vals
theorem zjq (vd:Valid f) {n n':Nat} {x':Nd} (hw:OnWalk f r K i n x) (hY:OnWalk f r K (i+1) n' x') (hi:i<K):n ∈ zF (zd f) n'/\n' ≠ 0:=by
 have hn:=(zt4.1 hw.nd).1;have h1:=(hw.go hi).1;have h2:(xf f r (i+1)).at_=_:=congrArg Mc.at_ h1;rw[hY.at_]at h2;dsimp only at h2;have h3:=zmF f (ye f r) x (yj f x.at_) (xf f r i).σ (xf f r i).rd;rw[<- h2]at h3;have h4:=(vd.away hw.nd).1 _ h3;refine⟨pred_mem.2 ⟨hn,?_⟩,tO⟩;rw[yg hw.nd];rcases h3 with h3 | h3
 . omega
 omega
theorem zlj {n:Nat} (hw:OnWalk f r K 0 n x):n=0:=by
 have h:(xf f r 0).at_=0:=rfl;have:=hw.at_;omega
theorem zoi {rd:Nat->List Int} (h:FormF f g s rd) (hg:0<g.length):(zm s 0).phis=[]:=(h.at hg).phi.zero rfl
theorem zlk (vd:Valid f) (h:RightF f (zd f) s (rdV f (zd f))) {n y:Nat} (hg:GoesAll f r K) (hi:i<=K) (hw:OnWalk f r K i n x) (hy:(xf f r (i - 1)).at_=(y:Int)) (hY:vl.length=s.of_.length) (hp:zmO f s r i vl) :
  InvV f (zd f) s n (jo f (zd f) s y vl (zm s n).phis) (xf f r i).σ.vals/\((zm s n).phis ≠ []->y ∈ zF (zd f) n):=by
 have hn:=(zt4.1 hw.nd).1;cases i with
 | zero =>
  obtain rfl:=zlj hw;have h0:=zoi h.toFormF hn;rw[h0];exact⟨InvV.start h.toFormF (hp.1 O),fun h=>absurd O h⟩
 | succ j =>
  obtain⟨n0,x0,da⟩:=zj5 vd hg (show j<=K by omega);rw[zvJ,da.at_]at hy;obtain rfl:n0=y:=tO;obtain⟨h1,h2⟩:=zjq vd da hw tO;exact⟨zji h h2 hn h1 hY (hp.2 j O n0 da.at_),fun _=>h1⟩
theorem zll {n:Nat} (hw:OnWalk f r K i n x) (h:ziF f (zd f) s n vl (xf f r (i+1)).σ.vals):zmO f s r (i+1) vl:=by
 refine⟨fun h=>tO,fun j hj y hy=>?_⟩;obtain rfl:i=j:=tO;rw[hw.at_]at hy;obtain rfl:n=y:=tO;exact h
theorem zhI (f:Fl):CtOk f (List.replicate (zd f).length 0) (fun _=>0):=fun i x hx _=>by
 rw[zuF,zt1 (zt4.1 hx).1]
theorem zdD (_:Valid f) (h:RightF f (zd f) s (rdV f (zd f))) {n:Nat} (hx:(zd f)[n]?=some x) {σ:Sg} (_:InV f.vars σ.vals) (hI:InvV f (zd f) s n vl σ.vals) (_:List Int) (hn:zdr f x=false):ziF f (zd f) s n vl σ.vals:=by
 refine hI.pass h ?_;unfold yr;rw[yg hx,hn,zt0 tS];decide
theorem zmP (h:RightF f (zd f) s (rdV f (zd f))) {n:Nat} (hx:(zd f)[n]?=some x) (hV:InV f.vars vals) (hI:InvV f (zd f) s n vl vals) (hl:vl.length=s.of_.length) (ha:zdr f x=true) {v:Vr} (hk:(yj f x.at_).var=(k:Int)) (hv:f.vars[k]?=some v) (m:Int):ziF f (zd f) s n (vl.set (zm s n).dfn.toNat (yt m v.low v.high)) (zdU f.vars vals (yj f x.at_).var m)/\∃ q:Nat,(zm s n).dfn=(q:Int)/\q<vl.length:=by
 have da:=(zt4.1 hv).1;have hd:yr f (zd f) n=(k:Int):=by unfold yr;rw[yg hx,ha,zt1 rfl,hk]
 have db:=(zt4.1 hx).1;have hY:=(h.toFormF.at db).yes tO;have hs:zdU f.vars vals (yj f x.at_).var m=vals.set k (yt m v.low v.high):=by unfold zdU;rw[hk,ztc,hv]
 rw[hs];refine⟨hI.set h db hd da (by rw[hV.len];exact da) tO _,?_⟩;obtain⟨q,hq,dc⟩:=jE hY;exact⟨q,hq,tO⟩
abbrev rnH (b gb:Nat) (ofv nodv vv hv rv ov:Value) (vl rl outs:List Int) (t:Int):Hp:=[(900,.own b (rnr gb ofv nodv vv hv rv ov (.int .i64 t)) 107),(901,jl vv vl),(902,jl rv rl),(903,jl ov outs)]
abbrev znM (f:Fl) (s:Sf) (n:Nat) (b gb:Nat) (ofv nodv vv hv rv ov:Value) (vl ro:List Int) (outs:List Int) (t:Int) (σ':Sg) (W w':World):Prop:=∃ (x:List Int × Value),(x.1.length=vl.length/\ziF f (zd f) s n x.1 σ'.vals)/\GBack (rnH b gb ofv nodv vv hv rv ov vl ro outs t) (rnH b gb ofv nodv vv hv rv x.2 x.1 ro σ'.outs σ'.time) W w'
theorem zmQ (k2:x.kind=2):zdr f x=(decide ((yj f x.at_).act=0) || decide ((yj f x.at_).act=5)):=by unfold zdr;rw[zt2 k2,ztK]
theorem zmR (f:Fl) (s:Sf) (vd:Valid f) (hR:RightF f (zd f) s (rdV f (zd f))) (hs:List Int) (em:hs.length=f.hatches.length) (n:Nat) (x:Nd) (hx:(zd f)[n]?=some x) (k2:x.kind=2) (σ:Sg) (hV:InV f.vars σ.vals) (er:σ.outs.length<=1000000000) (vl ro:List Int) (d5:vl.length=s.of_.length) (dc:InvV f (zd f) s n vl σ.vals)
  (b gb:Nat) (ofv nodv vv hv rv ov:Value) (D Dh:Nat->Prop) (W:World) (hE:Held (rnH b gb ofv nodv vv hv rv ov vl ro σ.outs (σ.time+(yj f x.at_).cost)) W) (hS:RSf D W s ofv nodv) (hG:GrO D W f (zd f) gb) (hh:SlR 1 zw Dh W hv hs) (da:∀ q,HS (rnH b gb ofv nodv vv hv rv ov vl ro σ.outs (σ.time+(yj f x.at_).cost)) q->¬ D q) (dr:∀ q,HS (rnH b gb ofv nodv vv hv rv ov vl ro σ.outs (σ.time+(yj f x.at_).cost)) q->¬ Dh q)
  (a1:Option Addr) (n1:Nat) (a2:Option Addr) (n2:Nat) (a3:Option Addr) (n3:Nat) (a4:Option Addr) (n4:Nat) (hb:SlR 1 zw D W (.slice a4 (yj f x.at_).bounds.length n4) (yj f x.at_).bounds) :
  Calls prog 93 #[.pointer (some ⟨b,0,none⟩),.int .i64 n,.agg #[.int .i64 (yj f x.at_).act,.int .i64 (yj f x.at_).cost,.int .i64 (yj f x.at_).var,.int .i64 (yj f x.at_).n,.int .i64 (yj f x.at_).term.op,.int .i64 (yj f x.at_).term.n,.slice a1 (yj f x.at_).term.kids.length n1,.slice a2 (yj f x.at_).thn.length n2,.slice a3 (yj f x.at_).els.length n3,.slice a4 (yj f x.at_).bounds.length n4]] W (Ret fun r w'=>r=.tuple #[]/\znM f s n b gb ofv nodv vv hv rv ov vl ro σ.outs (σ.time+(yj f x.at_).cost) (xI f hs (yj f x.at_) σ) W w'):=by
 have d6:=(zt4.1 hx).1;obtain⟨h0,d7,_⟩:=vd.gOk.at hx (.inl k2);have hget:=jP h0 d7;obtain⟨dI,ew,_⟩:=vd.step _ (zsR hget);have dl:xb (zd f) n=x:=yg hx;have dt:stN f (xb (zd f) n)=yj f x.at_:=by rw[dl];unfold stN;rw[zt1 h0]
 have hl:=vd.lens;have ez:=vd.ssize;have eA:=yw f vd.plain;have eC:=xi f.body;have db:=zmQ (f:=f) k2;have d8:=hR.len;obtain⟨xs,du⟩:∃ xs,s.nodes[n]?=some xs:=iC;have d9:=yE du;obtain⟨v1,v2,v3,gv,sv,pv,hD,dw,hf,_,_,_⟩:=id hG;have dR:=hf.vars;obtain⟨av,cv,rfl⟩:=dR.form;have dx:=hS.nodes;obtain⟨an,cn,rfl⟩:=dx.form;obtain⟨ah,ch,rfl⟩:=hh.form;have eD:=hS.of_.max;generalize dH:yj f x.at_=st at *;refine zqs func93 O ntmps93 O (zrL [(900,.own b [.pointer (some ⟨gb,0,none⟩),ofv,.slice an s.nodes.length cn,vv,.slice ah hs.length ch,rv,ov,.int .i64 (σ.time+st.cost)] 107),(901,.row 3 1 vv vl.length (vl.map zb)),(902,.row 3 1 rv ro.length (ro.map zb)),(903,.row 3 1 ov σ.outs.length (σ.outs.map zb))] hE.1 hE.2 (zrg 904 0 O O (fun h=>da _ h hD) dw (zqO 0 900 0 O O ?_)));have dh:rdB f x=true->∀ w,Keep (HS (rnH b gb ofv (.slice an s.nodes.length cn) vv (.slice ah hs.length ch) rv ov vl ro σ.outs (σ.time+st.cost))) W w->Cells w b 0 (rnr gb ofv (.slice an s.nodes.length cn) vv (.slice ah hs.length ch) rv ov (.int .i64 (σ.time+st.cost)))->w.ownsRow 0 3 1 vv vl.length (vl.map zb)->Calls prog 92 #[.pointer (some ⟨b,0,none⟩),.int .i64 n] w (Ret fun r w'=>r=.int .i64 (xH σ.vals st.term)/\Ext w w'):=fun dy w hk hc hv=>dt ▸ zgG f (zd f) s vd.good hR n d6 (dt ▸ dI) (by rw[dl];exact h0) (by rw[dl];exact dy) tO tO vl σ.vals hV dc b gb _ _ _ _ _ _ _ D D (fun _=>True) w hc (hS.keep hk fun q hq _ h=>da q h hq) (hG.keep hk fun q hq _ h=>da q h hq) (zpI zb iA hv (fun _ _=>trivial));refine Vs 2 O (V.box 5 O O (fun b5=>?_));refine Vs 15 O (zoC O (fun a1=>?_) (fun a1=>?_))
 .
  have dy:rdB f x=true:=by unfold rdB;rw[dH];simp[k2,a1]
  have dm:xI f hs st σ={ σ with outs:=σ.outs++[xH σ.vals st.term],time:=σ.time+st.cost }:=by unfold xI;rw[zt0 tO,zt1 a1]
  have hY:=zdD vd hR hx hV dc hs (by rw[db];simp[a1]);refine Vw [900,904,5] [14] O (Vd [0,1,2,3,4,5,6,7] 0 tK O O O (zr3 8 0 call92 O tK O O (fun w hI=>dh dy w hI.k0 (hI.at 900 O).cells (hI.at 901 O)) (VD.bs 9 21 0 [(0,_)] tR27 ts3 tz3 tS O tK O O tK (fun b21=>?_))));refine zqW 10 903 21 0 tu27 Tryz.el3 O tS O tK O O O tO tO (fun u903=>(Vd [11,12,13] 0 tK O O O (zqY 903 O tO ?_)));rintro bo co rfl dz;refine Vl 14 O tK O (VDx.done tK (Vs 1 O (zrl 903 O (e':=.row 3 1 (.slice (some ⟨bo,0,none⟩) (σ.outs.length+1) co) (σ.outs++[xH σ.vals st.term]).length ((σ.outs++[xH σ.vals st.term]).map zb)) UF (zp8 tr93 (fun w hI=>⟨_,rfl,rfl,dm ▸ ⟨(vl,.slice (some ⟨bo,0,none⟩) (σ.outs.length+1) co),⟨rfl,hY⟩,hI.back 0 O O O rfl⟩⟩)))))
 refine Vs 6 O (zoC O (fun a6=>?_) (fun a6=>?_))
 .
  have dm:xI f hs st σ={ σ with time:=qm st.bounds (σ.time+st.cost) }:=by unfold xI;rw[zt0 tO,zt0 a1,zt0 tO,zt1 a6]
  have hY:=zdD vd hR hx hV dc hs (by rw[db];simp[a6]);refine Vw [900,904,5] [12] O (Vd [0,1,2,3,4,5,6,7] 0 tK O O O (zr3 8 0 call134 O tK O O (fun w hI=>zci st.bounds (σ.time+st.cost) _ D w (hb.keep zc hI.k0 fun q hq _ h=>da q h hq)) (Vd [9,10,11] 0 tK O O O (Vl 12 O tK O (VDx.done tK (Vs 1 O Jm))))))
 refine Vs 1 O (zrn (σ:=Bool) [0,1,5] [5,900,901,902,903,904] [0,5] O (fun e a=>(40,.bool a)::e) (fun e a=>e) (fun a=>a=zdr f x) j1 j1 ?_ ?_)
 .
  refine Vs 6 O (zoC O (fun a0=>?_) (fun a0=>?_))
  . refine Vs 1 O (zoQ (true) j2 j3 (by rw[db];simp[a0]) 0 O O)
  refine Vs 4 O (zoQ (decide (st.act=5)) j2 j3 (by rw[db];simp[a0]) 0 O O)
 rintro a ha;refine Vs 1 O (V.bool O (fun t=>?_) (fun t=>?_))
 .
  have dg:zdr f x=true:=ha ▸ t;have eb:st.act=0\/st.act=5:=by rw[db]at dg;simpa using dg
  have ec:=dI.var eb;obtain⟨k,hk⟩:∃ k:Nat,st.var=(k:Int):=⟨st.var.toNat,tO⟩;refine Vs 6 O (zrn (σ:=Int) [0,1,5] [5,900,901,902,903,904] [0,5] O (fun e m=>(6,.int .i64 m)::e) (fun e m=>e) (fun m=>xI f hs st σ={ σ with vals:=zdU f.vars σ.vals st.var m,time:=σ.time+st.cost }) j1 j1 ?_ ?_)
  .
   refine Vs 7 O (zoC O (fun b0=>?_) (fun b0=>?_))
   .
    have dy:rdB f x=true:=by unfold rdB;rw[dH];simp[k2,b0]
    refine Vs 3 O (zr2 call92 O (fun w hI=>dh dy w hI.k0 (hI.at 900 O).cells (hI.at 901 O)) (Vs 2 O (zoQ (xH σ.vals st.term) j2 j3 (by unfold xI;rw[zt1 b0]) 0 O O)))
   have a5:st.act=5:=tO;have ed:=dI.num a5;refine zrh 1000 0 st.n.toNat tO hh O O O (fun b_ d_ h_=>by have dA:=dr _ h_;first | omega | exact dA d_) (fun y eE eF eG dJ ee dK ef dL=>?_);obtain rfl:=dL;refine Vq tK (Vs 6 O (zqT 1000 tR27 ts3 O dK tO (st.n.toNat) tO O (Vs 3 O (zoQ (y) j2 j3 (by unfold xI;rw[zt0 b0,zt0 a1,zt1 a5,zgn dJ]) 0 O O))))
  rintro m dm;refine Vs 2 O (zrh 2000 0 k tO dR O O O (fun b_ d_ h_=>by have dA:=da _ h_;first | omega | exact dA d_) (fun v eH eI eJ dM dN dO eh dQ=>?_));obtain rfl:=dQ;refine Vw [5,900,904,2000] [] O (Vd [0,1,2,3] 0 tK O O O (zqP 60 904 0 O O (Vd [4,5,6,7,8,9] 0 tK O O O (zqR 10 2000 tR22 ts142 O tK O dO tO (k) tO O ?_))));obtain⟨hY,q,hq,eK⟩:=zmP (m:=m) hR hx hV dc d5 dg (dH ▸ hk) dM;rw[dH]at hY;refine Vd [11] 0 tK O O O (zqM 12 7 0 O tK O O (fun _ _=>M.alloc tz142 O) (fun b7=>?_));refine Ve 13 0 O tK O O O (VD.done tK (Vs 1 O (zqX 901 O tO ?_)));rintro bv cq rfl dB;refine zrh 3000 0 n tO dx O O O (fun b_ d_ h_=>by have dA:=da _ h_;first | omega | exact dA d_) (fun xn ei ej ek dC dS dD dT dE=>?_);obtain⟨dU,dV,rfl,dF,dG⟩:=dE;obtain⟨dW,dX,rfl⟩:=dF.form;obtain⟨dY,dZ,rfl⟩:=dG.form;obtain rfl:xs=xn:=Option.some.inj (du.symm.trans dC);rw[d9]at hq hY;refine Vw [5,900,904,2000,7,3000] [] O (Vd [0,1,2,3,4,5,6,7,8,9,13,14,15,16,17] 0 tK O O O (zqR 10 3000 tR28 ts59 O tK O dD tO (n) tO O (Vd [11,12] 0 tK O O O (zr3 18 0 call46 O tK O O (fun w hI=>zeX m v.low v.high w (vd.good v dN).2.1) (Vb [19] 0 tK O O O tO (zr1 20 901 0 (q) ts3 O tK O O tO tY (VD.done tK (Vs 1 O (zrl 901 O (e':=.row 3 1 (.slice (some ⟨bv,0,none⟩) vl.length cq) (vl.set q (yt m v.low v.high)).length ((vl.set q (yt m v.low v.high)).map zb)) (by rw[zv1,zuU]) ?_)))))))));refine zp8 tr93 (fun w hI=>⟨_,rfl,rfl,dm ▸ ⟨(vl.set q (yt m v.low v.high),ov),⟨zuU,by have:=hY;rw[hq,ztc]at this;exact this⟩,hI.back 0 O O O rfl⟩⟩)
 have dg:zdr f x=false:=ha ▸ t
 have dm:xI f hs st σ={ σ with time:=σ.time+st.cost }:=by
  rw[db]at dg;simp at dg;unfold xI;rw[zt0 dg.1,zt0 a1,zt0 dg.2,zt0 a6]
 have hY:=zdD vd hR hx hV dc hs dg;refine Vs 2 O Jm
abbrev zjr (f:Fl) (s:Sf) (r:Ins) (i n:Nat) (b gb:Nat) (ofv nodv vv hv rv ov:Value) (vl ro:List Int) (rr:Value) (W w':World):Prop:=∃ (x:List Int × List Int × Value),(rr=.int .i64 (xf f r (i+1)).at_/\x.1.length=vl.length/\ziF f (zd f) s n x.1 (xf f r (i+1)).σ.vals/\x.2.1.length=ro.length/\CtOk f x.2.1 (xf f r (i+1)).rd)/\GBack (rnH b gb ofv nodv vv hv rv ov vl ro (xf f r i).σ.outs (xf f r i).σ.time) (rnH b gb ofv nodv vv hv rv x.2.2 x.1 x.2.1 (xf f r (i+1)).σ.outs (xf f r (i+1)).σ.time) W w'
theorem znN {f:FuncId} {Φ:α->Prop} {E':α->Hp} (h:Calls P f args w (Ret fun r w'=>r=.tuple #[]/\∃ x,Φ x/\GBack E (E' x) w w')):Calls P f args w (Ret fun r w'=>∃ x,(r=.tuple #[]/\Φ x)/\GBack E (E' x) w w'):=by
 refine Calls.mono h ?_;rintro e' w' ⟨r,rfl,h1,x,h2,h3⟩;exact⟨_,rfl,x,⟨h1,h2⟩,h3⟩
theorem zlm (f:Fl) (s:Sf) (vd:Valid f) (hR:RightF f (zd f) s (rdV f (zd f))) (r:Ins) (e0:zh f.vars r=0) (K:Nat) (hg:GoesAll f r K) (i:Nat) (hi:i<K) (n:Nat) (x:Nd) (hw:OnWalk f r K i n x) (vl ro:List Int) (ei:vl.length=s.of_.length) (dR:ro.length=(zd f).length) (dr:InvV f (zd f) s n vl (xf f r i).σ.vals) (dc:CtOk f ro (xf f r i).rd)
  (b gb:Nat) (ofv nodv vv hv rv ov:Value) (D Dh:Nat->Prop) (W:World) (dS:∀ q,D q\/Dh q->q<W.heap.size) (hE:Held (rnH b gb ofv nodv vv hv rv ov vl ro (xf f r i).σ.outs (xf f r i).σ.time) W) (hS:RSf D W s ofv nodv) (hG:GrO D W f (zd f) gb) (hh:SlR 1 zw Dh W hv (ye f r)) (da:∀ q,HS (rnH b gb ofv nodv vv hv rv ov vl ro (xf f r i).σ.outs (xf f r i).σ.time) q->¬ D q) (dg:∀ q,HS (rnH b gb ofv nodv vv hv rv ov vl ro (xf f r i).σ.outs (xf f r i).σ.time) q->¬ Dh q) :
  Calls prog 48 #[.pointer (some ⟨b,0,none⟩),.int .i64 n] W (Ret fun rr w'=>zjr f s r i n b gb ofv nodv vv hv rv ov vl ro rr W w'):=by
 have ej:=(zt4.1 hw.nd).1;have hx:=hw.nd;obtain⟨ek,em⟩:=hw.go hi;have dK:=ziT vd e0 hg i tO;have hV:=dK.inv;have ht:=dK.time;have eJ:=dK.outs;have eK:=dK.rd x.at_;have hK:=(zmG vd hg).2;have hl:=vd.lens;have eL:=vd.ssize;have eM:=yw f vd.plain;have eN:=xi f.body;have db:xb (zd f) n=x:=yg hx;have hY:zdr f x=false->ziF f (zd f) s n vl (xf f r i).σ.vals:=fun ha=>zdD vd hR hx hV dr [] ha;have dt:x.kind ≠ 2->zdr f x=false:=fun h=>by unfold zdr;rw[zt3 h,ztD]
 obtain⟨v1,v2,v3,gv,sv,pv,hD,du,hf,dN,dw,_⟩:=id hG;obtain⟨ag,cg,rfl⟩:=dN.form;obtain⟨as1,cs1,rfl⟩:=dw.form;have er:=dN.max;have dT:((zd f).map (stN f)).length=(zd f).length:=zta _;have dx:((zd f).map (stN f))[n]?=some (stN f x):=by rw[zt7,hx];rfl
 have ew:(ye f r).length=f.hatches.length:=by simp[zgs]
 unfold zjr at *;rw[ek];generalize hm:xf f r i=m at *;generalize eO:(zd f).map (stN f)=gm at *;obtain⟨at_,σ,rd⟩:=m;dsimp only at *;refine zqr func48 O ntmps48 O (zrL [(900,.own b [.pointer (some ⟨gb,0,none⟩),ofv,nodv,vv,hv,rv,ov,.int .i64 σ.time] 107),(901,.row 3 1 vv vl.length (vl.map zb)),(902,.row 3 1 rv ro.length (ro.map zb)),(903,.row 3 1 ov σ.outs.length (σ.outs.map zb))] hE.1 hE.2 (zrg 904 0 O O (fun h=>da _ h hD) du (zqO 0 900 0 O O (zqX 902 O tO ?_))));rintro br cr rfl dy;refine Vs 6 O (zrh 1000 0 n tO dN O O O (fun b_ d_ h_=>by have dO:=da _ h_;first | omega | exact dO d_) (fun x2 ez eA eC dz dU dA dV dB=>?_));obtain rfl:=dB;obtain rfl:x2=x:=Option.some.inj (dz.symm.trans hx);refine zrh 2000 0 n tO dw O O O (fun b_ d_ h_=>by have dO:=da _ h_;first | omega | exact dO d_) (fun st eD eE eF dC dW dD dX dE=>?_);obtain⟨dY,dZ,d5,d6,rfl,dF,dG,dH,dh⟩:=dE.get;obtain⟨d7,d8,rfl⟩:=dF.form;obtain⟨d9,eb,rfl⟩:=dG.form;obtain⟨ec,ed,rfl⟩:=dH.form;obtain⟨ee,ef,rfl⟩:=dh.form;have dL:st=stN f x2:=Option.some.inj (dC.symm.trans dx);refine Vw [900,904,1000,2000] [] O (Vd [0,1,2,3] 0 tK O O O (zqP 10 904 0 O O (Vd [4,5,6,7,10,11,12,13] 0 tK O O O (zqP 20 904 0 O O (Vd [14,15,16,17] 0 tK O O O ?_)))));refine zqR 8 1000 tR34 ts65 O tK O dA tO _ rfl O (Vd [9] 0 tK O O O ?_);refine zqR 18 2000 tR24 ts72 O tK O dD tO _ rfl O (Vd [19] 0 tK O O O (zrZ 2 0 [(20,5,[],false),(21,6,[],false)] (psi [(5,phA 5 [Value.int IntKind.i64 0,Value.int IntKind.i64 0,Value.int IntKind.i64 0,Value.int IntKind.i64 0] 65),(6,phA 6 [Value.int IntKind.i64 0,Value.int IntKind.i64 0,Value.int IntKind.i64 0,Value.int IntKind.i64 0,Value.int IntKind.i64 0,Value.int IntKind.i64 0,Value.slice none 0 0,Value.slice none 0 0,Value.slice none 0 0,Value.slice none 0 0] 72)]) tK tK O O ⟨?_,?_,True.intro⟩ ?_))
 . exact MP.alloc 5 O O tz65 O O
 . exact MP.alloc 6 O O tz72 O O
 rintro val hn ⟨⟨b5,e5,n5⟩,⟨b6,e6,n6⟩,_⟩;refine VD.cast [(0,some (900,0)),(7,some (900,0)),(8,some (900,0)),(9,some (900,0)),(10,some (904,0)),(11,some (904,0)),(12,some (904,3)),(15,some (1000,0)),(17,some (900,0)),(18,some (900,0)),(19,some (900,0)),(20,some (904,0)),(21,some (904,0)),(22,some (904,4)),(25,some (2000,0)),(5,some (5,0)),(6,some (6,0))] _ _ (zhe e5 (zhe e6 rfl)) (znl n5 (znl n6 rfl)) O O O ?_;clear n5 n6
 have dM:x2.kind ≠ 0->0<=x2.at_/\(preL f.body)[x2.at_.toNat]?=some (yj f x2.at_)/\stN f x2=yj f x2.at_:=fun h0=>by
  have h1:=(vd.gOk n x2 hx);have h2:=(vd.ends hx).1
  have h3:0<=x2.at_:=by
   by_cases h:x2.at_<0
   . have:=h2 h;rcases em with h | h | h | h | h<;>omega
   omega
  exact⟨h3,jP h3 ((vd.ends hx).2 h3),by unfold stN;rw[zt1 h3]⟩
 have dl:rdB f x2=true->x2.kind ≠ 0->∀ t:Int,∀ rl:List Int,∀ w,Keep (HS (rnH b gb ofv nodv vv hv (.slice (some ⟨br,0,none⟩) ro.length cr) ov vl ro σ.outs σ.time)) W w->Cells w b 0 (rnr gb ofv nodv vv hv (.slice (some ⟨br,0,none⟩) ro.length cr) ov (.int .i64 t))->w.ownsRow 0 3 1 vv vl.length (vl.map zb)->Calls prog 92 #[.pointer (some ⟨b,0,none⟩),.int .i64 n] w (Ret fun r w'=>r=.int .i64 (xH σ.vals st.term)/\Ext w w'):=fun dI k0 t rl w hk hc hv=>by
  obtain⟨h1,h2,h3⟩:=dM k0;have h4:=zgG f (zd f) s vd.good hR n ej (by rw[db,h3];exact(vd.step _ (zsR h2)).1) (by rw[db];exact h1) (by rw[db];exact dI) tO tO vl σ.vals hV dr b gb _ _ _ _ _ _ _ D D (fun _=>True) w hc (hS.keep hk fun q hq _ h=>da q h hq) (hG.keep hk fun q hq _ h=>da q h hq) (zpI zb iA hv (fun _ _=>trivial));rw[db,<- dL]at h4;exact h4
 refine Ve 22 0 O tK O O O (Ve 23 0 O tK O O O (VD.done tK (Vs 15 O (zoC O (fun k4=>?_) (fun k4=>?_)))))
 .
  obtain⟨g0,y,hy,eG,eH⟩:=(vd.part hx).2.1 k4;have eP:=(zt4.1 hy).1;have hp:xm f (ye f r) x2 (yj f x2.at_) σ rd=(x2.next,σ,zdV rd x2.at_ 0):=by unfold xm;rw[zt0 tO,zt0 tO,zt1 k4]
  rw[hp];have dJ:=dc.set vd dR hy eG 0;rw[eH]at dJ;refine Vs 1 O (Vw [900,904,1000,2000,5,6] [] O (Vb [0,1,2,3,4,5,6] 0 tK O O O tO (zr1 7 902 0 (x2.next.toNat) ts3 O tK O O tO tY (VD.done tK (Vs 2 O (zrl 902 O (e':=.row 3 1 (.slice (some ⟨br,0,none⟩) ro.length cr) (ro.set x2.next.toNat 0).length ((ro.set x2.next.toNat 0).map zb)) (by rw[zv1,zuU]<;>rfl) (Vs 9 O (zoT tr48 O (fun w hI=>⟨_,rfl,(vl,ro.set x2.next.toNat 0,ov),⟨rfl,rfl,hY (dt tO),zuU,dJ⟩,hI.back 0 O O O rfl⟩)))))))))
 refine Vs 6 O (zoC O (fun k5=>?_) (fun k5=>?_))
 .
  obtain⟨h1,h2,h3⟩:=dM tO;have eh:=dc n x2 hx k5;have hN:=((vd.step _ (zsR h2)).2.2 ((vd.part hx).2.2 k5));have dm:=(vd.step _ (zsR h2)).1.cost;obtain rfl:st=yj f x2.at_:=dL.trans h3;refine Vs 2 O (Vq tK (Va 6 O tO (V.rlQ 902 (n) tg3 O tO (show _=some (Value.int .i64 (rd x2.at_)) by rw[zt7,eh];rfl) ?_)));refine Vs 5 O (zoC O (fun c=>?_) (fun c=>?_))
  .
   have hp:xm f (ye f r) x2 (yj f x2.at_) σ rd=(x2.other,σ,rd):=by unfold xm;rw[zt0 tO,zt0 tO,zt0 k4,zt1 ⟨k5,c⟩]
   rw[hp];refine Vs 11 O iQ
  have hp:xm f (ye f r) x2 (yj f x2.at_) σ rd=(if xH σ.vals (yj f x2.at_).term ≠ 0 then x2.next else x2.other,{ σ with time:=σ.time+(yj f x2.at_).cost },zdV rd x2.at_ (rd x2.at_+1)):=by unfold xm;rw[zt0 tO,zt0 tO,zt0 k4,zt0 (fun h=>c h.2),zt1 k5]
  rw[hp];have dJ:=dc.set vd dR hx k5 (rd x2.at_+1);have dI:rdB f x2=true:=by unfold rdB;simp[k5]
  refine Va 10 O tO (zqZ 902 (n) tg3 O tO (show _=some (Value.int .i64 (rd x2.at_)) by rw[zt7,eh];rfl) ?_);refine Va 2 O tO (zr0 902 (n) ts3 O tO tY (zrl 902 O (e':=.row 3 1 (.slice (some ⟨br,0,none⟩) ro.length cr) (ro.set n (rd x2.at_+1)).length ((ro.set n (rd x2.at_+1)).map zb)) (by rw[zv1,zuU]<;>rfl) (Vs 3 O (Vw [900,904,1000,2000,5,6] [11] O (Vb [0,1,2,3,4,5,6,7,8,9,10] 0 tK O O O tO (Vl 11 O tK O (VDx.done tK (Vs 6 O (zr2 call92 O (fun w hI=>dl dI tO _ ro w hI.k0 (hI.at 900 O).cells (hI.at 901 O)) ?_)))))))));refine Vs 3 O (zoC O (fun z=>?_) (fun z=>?_))
  .
   rw[zt0 (ztd z)];refine Vs 11 O JK
  rw[zt1 z];refine Vs 12 O JK
 refine Vs 6 O (zoC O (fun k3=>?_) (fun k3=>?_))
 .
  obtain⟨h1,h2,h3⟩:=dM tO;have dm:=(vd.step _ (zsR h2)).1.cost;obtain rfl:st=yj f x2.at_:=dL.trans h3;have hp:xm f (ye f r) x2 (yj f x2.at_) σ rd=(if xH σ.vals (yj f x2.at_).term ≠ 0 then x2.next else x2.other,{ σ with time:=σ.time+(yj f x2.at_).cost },rd):=by unfold xm;rw[zt0 tO,zt0 tO,zt0 k4,zt0 (fun h=>k5 h.1),zt0 k5]
  rw[hp];have dI:rdB f x2=true:=by unfold rdB;simp[k3]
  refine Vs 1 O (Vw [900,904,1000,2000,5,6] [11] O (Vb [0,1,2,3,4,5,6,7,8,9,10] 0 tK O O O tO (Vl 11 O tK O (VDx.done tK (Vs 6 O (zr2 call92 O (fun w hI=>dl dI tO _ ro w hI.k0 (hI.at 900 O).cells (hI.at 901 O)) (Vs 3 O (zoC O (fun z=>?_) (fun z=>?_)))))))))
  .
   rw[zt0 (ztd z)];refine Vs 11 O iQ
  rw[zt1 z];refine Vs 12 O iQ
 refine Vs 6 O (zoC O (fun k2=>?_) (fun k2=>?_))
 .
  obtain⟨h1,h2,h3⟩:=dM tO;have dm:=(vd.step _ (zsR h2)).1.cost;obtain rfl:st=yj f x2.at_:=dL.trans h3;have hp:xm f (ye f r) x2 (yj f x2.at_) σ rd=(x2.next,xI f (ye f r) (yj f x2.at_) σ,rd):=by unfold xm;rw[zt0 tO,zt1 k2]
  rw[hp];refine Vs 1 O (Vw [900,904,1000,2000,5,6] [11] O (Vb [0,1,2,3,4,5,6,7,8,9,10] 0 tK O O O tO (Vl 11 O tK O (VDx.done tK (Vs 5 O (zrM [900,901,902,903] (Hn:=fun y:List Int × Value=>[(900,.own b [.pointer (some ⟨gb,0,none⟩),ofv,nodv,vv,hv,.slice (some ⟨br,0,none⟩) ro.length cr,y.2,.int .i64 (xI f (ye f r) (yj f x2.at_) σ).time] 107),(901,.row 3 1 vv y.1.length (y.1.map zb)),(902,.row 3 1 (.slice (some ⟨br,0,none⟩) ro.length cr) ro.length (ro.map zb)),(903,.row 3 1 y.2 (xI f (ye f r) (yj f x2.at_) σ).outs.length ((xI f (ye f r) (yj f x2.at_) σ).outs.map zb))]) [(0,some (900,0)),(5,some (5,0)),(6,some (6,0)),(7,some (900,0)),(8,some (900,0)),(9,some (900,0)),(10,some (904,0)),(11,some (904,0)),(12,some (904,3)),(15,some (1000,0)),(17,some (900,0)),(18,some (900,0)),(19,some (900,0)),(20,some (904,0)),(21,some (904,0)),(22,some (904,4)),(25,some (2000,0)),(27,some (5,0)),(105,some (900,0)),(106,some (900,0)),(107,some (900,6)),(108,some (900,7)),(110,some (6,1)),(113,some (900,0)),(114,some (900,6)),(115,some (900,7)),(116,some (900,0))] call93 O iA j1 (fun w hI=>yX O O (znN (zmR f s vd hR (ye f r) ew n x2 hx k2 σ hV tO vl ro ei dr b gb ofv nodv vv hv _ ov D Dh w (hI.held O O O) (hS.keep hI.k0 fun q hq _ h=>da q h hq) (hG.keep hI.k0 fun q hq _ h=>da q h hq) (hh.keep zc hI.k0 fun q hq _ h=>dg q h hq) (hI.offE 0 O O (fun q h=>dS q (.inl h)) da) (hI.offE 0 O O (fun q h=>dS q (.inr h)) dg) _ _ _ _ _ _ _ _ (dh.keep zc hI.k0 fun q hq _ h=>da q h hq)))) ?_))))));rintro _ ⟨vl',ov'⟩ ⟨rfl,eI,dQ⟩;refine Vs 11 O (zoT tr48 O (fun w hI=>⟨_,rfl,(vl',ro,ov'),⟨rfl,eI,dQ,rfl,dc⟩,hI.back 0 O O O rfl⟩))
 have k0:x2.kind=0:=tO;have hp:xm f (ye f r) x2 (yj f x2.at_) σ rd=(x2.next,σ,rd):=by unfold xm;rw[zt1 k0]
 rw[hp];refine Vs 11 O iQ
end Go.Proofs.YtckdhgbepmpgiaaGreat
namespace Go.GL
abbrev MIP (m:Nat) (l:List (Int × Value)):HE:=.res (fun q=>q=m) (fun w=>MapI w m l)
abbrev MEP (m:Nat) (l:List (Int × Value)) (k:Int) (st:Nat):HE:=.res (fun q=>q=m) (fun w=>MapE w m l k st)
theorem MapE.lt {st:Nat} {k:Int} {l:List (Int × Value)} (h:MapE w m l k st):m<w.heap.size:=h.map.lt
theorem MIP.loc {l:List (Int × Value)}:(MIP m l).loc:=fun w w' T h hk hT=>by
 have h:MapI w m l:=h;exact h.keep hk (hT m h.lt O)
theorem MEP.loc {st:Nat} {k:Int} {l:List (Int × Value)}:(MEP m l k st).loc:=fun w w' T h hk hT=>by
 have h:MapE w m l k st:=h;exact h.keep hk (hT m h.lt O)
section
variable {ty:TypeId} {pos:String} {g:Option (Nat × Bool)} {kt:TypeId} {l:List (Int × Value)}
theorem zsi:xg P ⟨dst,.makeMap t none,ty,pos,aft,g⟩ env w (fun u w'=>∃ b,u=.map (some b)/\MapI w' b []/\Ext w w'/\∀ q,q=b->w.heap.size<=q/\q<w'.heap.size):=by
 obtain⟨u,w',h0,b,h1,h2,h3,h4,h5⟩:=M.makeMap (P:=P) (env:=env) (w:=w) (dst:=dst) (ty:=ty) (pos:=pos) (aft:=aft) (g:=g) (t:=t);exact⟨u,w',h0,b,h1,h4,h5,fun q hq=>tO⟩
theorem zsj {x u:Operand} {k:Int} (h:MapI w m l) (ht:P.underlying t=some (.map kt et)) (hk:P.underlying kt=some (.int .i64)) (hx:ev env x=some (.map (some m))) (hy:ev env y=some (.int .i64 k)) (hu:ev env u=some v) (hl:zhT l k v=l') :
  xT P ⟨dst,.insert t x y u,ty,pos,aft,g⟩ env w (fun w'=>MapI w' m l'/\Keep (fun q=>q=m) w w'/\∀ q,q=m->(q=m\/w.heap.size<=q)/\q<w'.heap.size):=by
 subst hl;obtain⟨w',h0,h1,h2,h3⟩:=M.insert (dst:=dst) (ty:=ty) (pos:=pos) (aft:=aft) (g:=g) h ht hk hx hy hu;exact⟨w',h0,h1,h2,fun q hq=>⟨.inl hq,by have:=h1.lt;omega⟩⟩
theorem zsk {x:Operand} {k:Int} (h:MapI w m l) (hv:(zm6 l k).getD z=v) (ht:P.underlying t=some (.map kt et)) (hk:P.underlying kt=some (.int .i64)) (hz:∀ w,(zeroValue et).run P w=.ok z w) (hx:ev env x=some (.map (some m))) (hy:ev env y=some (.int .i64 k)) :
  yk P ⟨dst,.lookup t x y false,ty,pos,aft,g⟩ env w v w:=hv ▸ zs0 h ht hk hz hx hy
theorem zsl {x:Operand} {k:Int} (h:MapI w m l) (hv:zm6 l k=some v) (ht:P.underlying t=some (.map kt et)) (hk:P.underlying kt=some (.int .i64)) (hx:ev env x=some (.map (some m))) (hy:ev env y=some (.int .i64 k)) :
  xg P ⟨dst,.mapEntry t x y,ty,pos,aft,g⟩ env w (fun u w'=>∃ st:Nat,u=.tuple #[v,.int .i64 st]/\MapE w' m l k st/\Keep (fun q=>q=m) w w'/\∀ q,q=m->(q=m\/w.heap.size<=q)/\q<w'.heap.size):=by
 obtain⟨u,w',h0,st,h1,h2,h3,h4⟩:=M.mapEntry (dst:=dst) (ty:=ty) (pos:=pos) (aft:=aft) (g:=g) h hv ht hk hx hy;exact⟨u,w',h0,st,h1,h2,h3,fun q hq=>⟨.inl hq,by have:=h2.lt;omega⟩⟩
theorem zsm {x u:Operand} {k:Int} {st:Nat} (h:MapE w m l k st) (hx:ev env x=some (.map (some m))) (hy:ev env y=some (.int .i64 st)) (hu:ev env u=some v) (hl:zhT l k v=l') :
  xT P ⟨dst,.entryStore t x y u,ty,pos,aft,g⟩ env w (fun w'=>MapI w' m l'/\Keep (fun q=>q=m) w w'/\∀ q,q=m->(q=m\/w.heap.size<=q)/\q<w'.heap.size):=by
 subst hl;obtain⟨w',h0,h1,h2,h3⟩:=M.entryStore (dst:=dst) (ty:=ty) (pos:=pos) (aft:=aft) (g:=g) (t:=t) h hx hy hu;exact⟨w',h0,h1,h2,fun q hq=>⟨.inl hq,by have:=h1.lt;omega⟩⟩
end
end Go.GL
namespace Go.Proofs.YtckdhgbepmpgiaaGreat
open Go.GL
def zdE (q:Int->Value):List (Int × Value):=[(1,q 1),(2,q 2),(3,q 3)]
theorem zf3 {q:Int->Value} {k:Int} (hk:1<=k/\k<=3):zm6 (zdE q) k=some (q k):=by
 rcases JT with rfl | rfl | rfl<;>rfl
theorem zjs {q:Int->Value} {k:Int} {u:Value} (hk:1<=k/\k<=3):zhT (zdE q) k u=zdE (fun j=>if j=k then u else q j):=by
 rcases JT with rfl | rfl | rfl<;>rfl
theorem zln (f:Fl) (r:Ins) (v1 v2 v3 s1 s2 s3:Value) (D:Nat->Prop) (W:World) (hf:RFl D W f v1 v2 v3) (dI:SlR 1 zw D W s1 r.secret) (dJ:SlR 1 zw D W s2 r.pub) (dK:SlR 1 zw D W s3 r.random) (du:∀ v ∈ f.vars,0<=v.kind/\v.kind<=3) (dz:f.vars.length<=1000) (hb:∀ k,(yV r k).length<=1000000000) :
  Calls prog 44 #[.agg #[v1,v2,v3],.agg #[s1,s2,s3]] W (Ret fun rr w'=>(∃ u,rr=.tuple #[u,.int .i64 (zh f.vars r)]/\(zh f.vars r=0->SlR 1 zw (fun b=>W.heap.size<=b) w' u (zt f.vars r)))/\Ext W w'):=by
 have dg:=hf.vars;obtain⟨av,cv,rfl⟩:=dg.form;have dL:=dg.max;refine zqr func44 O ntmps44 O (V.inn (Vs 2 O (V.box 2 O O (fun b2=>?_))));refine V.box 3 O O (fun b3=>(Vs 6 O (zs5 901 (E:=fun m=>MIP m []) (u:=fun m=>.map (some m)) O (fun _=>⟨MIP.loc,fun _ h=>h⟩) (fun w hI=>zsi) (fun m901=>?_))));refine Vs 2 O (zs3 901 (e':=MIP m901 [(1,s1)]) O MIP.loc (fun _ h=>h) (fun w hI=>zsj (hI.at 901 O) tu156 tu100 O O O O) (Vs 2 O (zs3 901 (e':=MIP m901 [(1,s1),(2,s2)]) O MIP.loc (fun _ h=>h) (fun w hI=>zsj (hI.at 901 O) tu156 tu100 O O O O) (Vs 2 O (zs3 901 (e':=MIP m901 [(1,s1),(2,s2),(3,s3)]) O MIP.loc (fun _ h=>h) (fun w hI=>zsj (hI.at 901 O) tu156 tu100 O O O O) (Vs 5 O (zqU 902 3 1 O (Vs 19 O (zrm (σ:=Nat × StS × (Int->Value) × Bool × Value) [6,22,23] [] [] O (fun e ⟨i,s,q,o,u⟩=>(7,u)::(8,.bool o)::(24,.int .i64 i)::e) (fun e ⟨i,s,q,o,u⟩=>(901,MIP m901 (zdE q))::(902,.row 3 1 u s.vals.length (s.vals.map zb))::e) (fun⟨i,s,q,o,u⟩=>i<=f.vars.length/\(f.vars.take i).foldl (zl r) (some ⟨[],0,0,0⟩)=some s/\LeftOk D W r s q/\o=((f.vars.take i).zip s.vals).all inB) (fun⟨i,s,q,o,u⟩=>f.vars.length - i) (0,⟨[],0,0,0⟩,fun k=>if k=1 then s1 else if k=2 then s2 else s3,true,.slice none 0 0) j2 j3 j1 j1 j1 ⟨zt5 _,rfl,fun k h1 h3=>by rcases JT with rfl | rfl | rfl<;>assumption,rfl⟩ ?_)))))))));rintro⟨i,s,q,o,u⟩ ⟨hi,hS,hL,ho⟩;refine Vs 6 O (zoC O (fun dA=>?_) (fun dA=>?_))
 .
  refine Vs 6 O (zri 1000 0 i tO dg O O O (fun x dM dN dO db dh dl dm=>?_));obtain rfl:=dm;refine zqQ 1000 tR22 ts142 O dl tO _ rfl O ?_;obtain⟨dB,_⟩:=zal i s hi hS;have dQ:=du x dh;refine Vs 1 O (V.alloc 10 tz142 O O (fun b10=>?_));refine Vs 11 O (zrn (σ:=Int × (Int->Value) × StS) [6,7,8,10,22,23,24] [10,902] [10] O (fun e ⟨n,q',s'⟩=>(11,.int .i64 n)::e) (fun e ⟨n,q',s'⟩=>(901,MIP m901 (zdE q'))::e) (fun⟨n,q',s'⟩=>zl r (some s) x=some s'/\s'.vals=s.vals++[n]/\LeftOk D W r s' q') j1 j1 ?_ ?_)
  .
   refine Vs 7 O (zoC O (fun hk=>?_) (fun hk=>?_))
   .
    have da:1<=x.kind/\x.kind<=3:=tO;obtain⟨rest,hY⟩:∃ rest,rest=(yV r x.kind).drop (jY s x.kind):=UX;have hq:=hL x.kind da.1 da.2;rw[<- hY]at hq;obtain⟨aq,cq,dw⟩:=hq.form;rw[dw]at hq;have dx:=zkM da hY.symm;refine Vs 5 O (zqh O (fun w hI=>zsk (v:=.slice aq rest.length cq) (hI.at 901 O) (by rw[zf3 da,dw];rfl) tu156 tu100 tz27 O O) (Vs 11 O (zoC O (fun z=>?_) (fun z=>?_))))
    .
     have hn:(f.vars.take (i+1)).foldl (zl r) (some ⟨[],0,0,0⟩)=none:=by
      rw[ze db,zuy,hS];exact ziM da (by rw[dx,zte tO])
     have h1:zh f.vars r=1:=by unfold zh;rw[zbS hn]
     refine Vs 15 O Jp
    refine zrj 2000 0 0 tO hq O O (fun y dR dS dr dC dt=>?_);have dD:(yV r x.kind)[jY s x.kind]?=some y:=by rw[dx,dr]
    refine Vs 2 O (Vw [1000,10,2000] [9] O (Vd [0,1,2,3,6] 0 tK O O O ?_));refine zqR 4 2000 tR27 ts3 O tK O dt tO _ rfl O (Vd [5,8] 0 tK O O O (zrw 7 O tK O (fun w=>zpi tR27 ts3 O O tO) (zsd 9 901 0 (E':=fun st=>MEP m901 (zdE q) x.kind st) (r:=fun st=>.tuple #[q x.kind,.int .i64 st]) O tK O O (fun _=>⟨MEP.loc,fun _ h=>h⟩) (fun w hI=>zsl (hI.at 901 O) (zf3 da) tu156 tu100 O O) (fun st=>?_))));refine Vd [10] 0 tK O O O (zs4 11 901 0 (e':=MIP m901 (zdE fun j=>if j=x.kind then (.slice (if cq=1 then aq else aq.map (·.add (1*1))) (rest.length - 1) (cq - 1)) else q j)) O tK O O MIP.loc (fun _ h=>h) (fun w hI=>zsm (hI.at 901 O) O O O (zjs da)) (VD.done tK (zoQ ⟨y,fun j=>if j=x.kind then (.slice (if cq=1 then aq else aq.map (·.add (1*1))) (rest.length - 1) (cq - 1)) else q j,zak s x.kind y⟩ j2 j3 ⟨zkN da dD,zhh _ _ _,hL.next da hY hq tO⟩ 0 O O)))
   refine Vs 1 O (zoQ ⟨x.init,q,⟨s.vals++[x.init],s.a,s.b,s.c⟩⟩ j2 j3 ⟨ziL tO,rfl,hL⟩ 0 O O)
  rintro⟨n,q',s'⟩ ⟨dE,dy,dF⟩;refine Vs 2 O (zrn (σ:=Bool) [6,7,11,22,23,24] [901,902] [] O (fun e o'=>(8,.bool o')::e) (fun e o'=>e) (fun o'=>o'=(o&&inB (x,n))) j1 j1 ?_ ?_)
  .
   refine Vs 3 O (zqb 51 O (fun b1=>?_) (fun b1=>?_))
   .
    subst b1;refine Vs 6 O (zq9 57 O (fun b2=>?_) (fun b2=>?_))
    . refine Vs 7 O (zoQ (decide (n<=x.high)) j2 j3 (by simp[inB,b2]) 0 O O)
    refine Vs 7 O (zoQ (false) j2 j3 (by simp[inB];omega) 0 O O)
   subst b1;refine Vs 13 O (zoQ (false) j2 j3 tZ 0 O O)
  rintro o' dG;refine Vs 4 O (V.bs 65 [(0,_)] tR27 ts3 tz3 tS O O tK (fun b65=>?_));refine zqV 902 65 tu27 Tryz.el3 O tS O O tO tO (fun u902=>(Va 8 O tO (zrl 902 O (e':=.row 3 1 u902 s'.vals.length (s'.vals.map zb)) (by rw[dy];simp[zb]) (V.back ⟨i+1,s',q',o',u902⟩ j2 j3 ⟨tO,zhl db hS dE,dF,by rw[dG,ho,dy,zkA db s.vals dB n]⟩ tR 0 O O))))
 obtain rfl:i=f.vars.length:=tO;rw[zsV]at hS ho;have dc:kT f.vars r=some s:=hS;obtain⟨a1,c1,e1⟩:=(hL 1 tS tS).form;obtain⟨a2,c2,e2⟩:=(hL 2 tS tS).form;obtain⟨a3,c3,e3⟩:=(hL 3 tS tS).form;have dH:zt f.vars r=s.vals:=by unfold zt;rw[dc]
 have hm:∀ k,((yV r k).drop (jY s k)).length<=1000000000:=fun k=>by rw[zuP];have:=hb k;omega
 have dT:=hm 1;have dU:=hm 2;have dV:=hm 3;refine Vs 9 O (zqh O (fun w hI=>zsk (v:=.slice a1 ((yV r 1).drop (jY s 1)).length c1) (hI.at 901 O) (by rw[<- e1];rfl) tu156 tu100 tz27 O O) (Vs 2 O (zqh O (fun w hI=>zsk (v:=.slice a2 ((yV r 2).drop (jY s 2)).length c2) (hI.at 901 O) (by rw[<- e2];rfl) tu156 tu100 tz27 O O) (Va 3 O tO (zqh O (fun w hI=>zsk (v:=.slice a3 ((yV r 3).drop (jY s 3)).length c3) (hI.at 901 O) (by rw[<- e3];rfl) tu156 tu100 tz27 O O) ?_)))));refine Va 5 O tO (zoC O (fun z=>?_) (fun z=>?_))
 .
  have h1:zh f.vars r=1:=by
   rcases (show 0<((yV r 1).drop (jY s 1)).length\/0<((yV r 2).drop (jY s 2)).length\/0<((yV r 3).drop (jY s 3)).length by omega) with h | h | h
   . exact zaq dc (k:=1) tS h
   . exact zaq dc (k:=2) tS h
   exact zaq dc (k:=3) tS h
  refine Vs 8 O Jp
 have hc:=ziN dc du (fun k h1 h3=>by rcases JT with rfl | rfl | rfl<;>omega);rw[<- ho]at hc;refine Vs 6 O (zqh O (fun w hI=>zpQ O j6) (Vs 2 O (V.bool O (fun y=>?_) (fun y=>?_))))
 .
  have h3:zh f.vars r=3:=by rw[hc];cases o;(· rfl);cases y
  refine Vs 8 O (zoW tr44 O O (fun w hI=>⟨_,rfl,⟨_,by rw[h3],fun h=>by rw[h3]at h;cases h⟩,hI.k0⟩))
 have h0:zh f.vars r=0:=by rw[hc];cases o;(· cases y);rfl
 refine Vs 10 O (zoW tr44 O O (fun w hI=>⟨_,rfl,⟨_,by rw[h0],fun _=>dH ▸ zpI (R:=zw) (D:=fun b=>W.heap.size<=b) zb (fun _ _=>rfl) (hI.at 902 O) (fun q hq=>hI.own 902 0 O O q hq)⟩,hI.k0⟩))
end Go.Proofs.YtckdhgbepmpgiaaGreat
namespace Go.GL
open Go.RowKit Go.Row
section
variable {ty:TypeId} {pos:String} {gu:Option (Nat × Bool)}
theorem zsn {x:Operand} {g:Nat} {news:List Value} {a0:Addr} {cs:Nat} (hu:P.underlying t=some (.slice e)) (he:(P.info? e).map (fun i=>(i.zero,i.size,i.bytes))=some (some z,1,by'))
  (hx:ev env x=some (.slice (some ⟨g,0,none⟩) m c)) (hy:ev env y=some (.slice (some a0) j cs)) (da:(HE.row e 1 (.slice (some ⟨g,0,none⟩) m c) m xs).holds w) (hl:news.length=j) (dr:j<=m) (db:∀ q u,news[q]?=some u->w.cell? (a0.add q)=some u) (h1:∀ u ∈ news,u.oneCell'=true) (hz:news++xs.drop j=zs) :
  xg P ⟨dst,.call ⟨.builtin .copy,#[x,y],#[t,t]⟩,ty,pos,aft,gu⟩ env w (fun u w'=>u=.int .i64 (j:Int)/\(HE.row e 1 (.slice (some ⟨g,0,none⟩) m c) m zs).holds w'/\Keep (HE.row e 1 (.slice (some ⟨g,0,none⟩) m c) m xs).S w w'/\∀ q,(HE.row e 1 (.slice (some ⟨g,0,none⟩) m c) m zs).S q->((HE.row e 1 (.slice (some ⟨g,0,none⟩) m c) m xs).S q\/w.heap.size<=q)/\q<w'.heap.size):=by
 subst hz;have da:w.ownsRow 0 e 1 (.slice (some ⟨g,0,none⟩) m c) m xs:=da;obtain⟨i,hi,dt,du,dw⟩:=info_parts he;obtain⟨dc,h2⟩:=da;rcases h2 with⟨h2,_⟩ | ⟨g0,cap,cur,hv,dg,hg,hc,dh,dl,hY⟩
 . cases h2
 cases hv;rw[zvV]at dl hY dc;have hr:=run_copy_row (P:=P) w t t ty e g 0 m c a0 j cs cur e news hu tD hg tD db tO h1;have dm:=(zts.1 hg).1;refine⟨.int .i64 (j:Int),w.setRow g (cur.toList.take 0++news++cur.toList.drop (0+news.length)).toArray,fun n a ha=>?_,rfl,⟨?_,.inr ⟨g,c,_,rfl,dg,setRow_heap w g cur _ e _ hg,hc,dh,?_,?_⟩⟩,⟨rfl,rfl,rfl,ztf _,tZ,fun k _ hk=>setRow_other w g k _ (fun e=>hk (by simp[HE.S,Value.ownBlock,e]))⟩,fun q hq=>⟨.inl hq,?_⟩⟩
 .
  rw[<- hl];simp[execOp,resolve,invoke,builtin,ha.eval hx,ha.eval hy,hr,goInt]
 . grind
 . grind
 .
  rw[zvV,zvF,zvd,zvZ,hl];show (news++cur.toList.drop j).take m=_;rw[List.take_append,zvC tO,hl,<- hY,List.drop_take]
 have hq:some g=some q:=hq;cases hq;simpa using dm
theorem zso {x:Operand} {g:Nat} {vy:Value} (hu:P.underlying t=some (.slice e)) (he:(P.info? e).map (fun i=>(i.zero,i.size,i.bytes))=some (some z,1,by'))
  (hx:ev env x=some (.slice (some ⟨g,0,none⟩) m c)) (hy:ev env y=some vy) (hY:(HE.row e 1 (.slice (some ⟨g,0,none⟩) m c) m xs).holds w) (da:SlR 1 zw D w vy l) (dc:l.length<=m) (hz:l.map (Value.int .i64)++xs.drop l.length=zs) :
  xg P ⟨dst,.call ⟨.builtin .copy,#[x,y],#[t,t]⟩,ty,pos,aft,gu⟩ env w (fun u w'=>u=.int .i64 (l.length:Int)/\(HE.row e 1 (.slice (some ⟨g,0,none⟩) m c) m zs).holds w'/\Keep (HE.row e 1 (.slice (some ⟨g,0,none⟩) m c) m xs).S w w'/\∀ q,(HE.row e 1 (.slice (some ⟨g,0,none⟩) m c) m zs).S q->((HE.row e 1 (.slice (some ⟨g,0,none⟩) m c) m xs).S q\/w.heap.size<=q)/\q<w'.heap.size):=by
 obtain⟨ao,cap,rfl⟩:=da.form;cases l with
 | nil =>
  have hz:xs=zs:=hz;subst hz;obtain⟨i,hi,dg,dh,dl⟩:=info_parts he;have hr:=run_copy_none (P:=P) w t t ty e (some ⟨g,0,none⟩) ao m c 0 cap hu tD tZ;refine⟨.int .i64 0,w,fun n a ha=>?_,rfl,hY,Keep.refl _ _,fun q hq=>⟨.inl hq,xA (show w.ownsRow 0 e 1 _ m _ from hY) hq⟩⟩;have dm:(Builtin.copy_ #[t,t] ty #[.slice (some ⟨g,0,none⟩) m c,.slice ao ([]:List Int).length cap]).run P w=.ok (goInt 0) w:=hr;simp[execOp,resolve,invoke,builtin,ha.eval hx,ha.eval hy,hr,goInt]
 | cons v0 l =>
  obtain⟨b,o,cs,rfl,_⟩:=da.at (i:=0) (x:=v0) rfl;refine zsn hu he hx hy hY (zta _) dc (fun q u hq=>?_) (fun u hu=>?_) hz
  .
   rw[zt7]at hq;obtain⟨v,hv,rfl⟩:=zw4.1 hq;obtain⟨b',o',cs,e1,_,h3,h4⟩:=da.at hv;cases e1;obtain rfl:cs=[.int .i64 v]:=h4;have:=h3 0 _ rfl;by_cases db:q=0
   . subst db;simpa[Addr.add] using this
   simpa[Addr.add,db] using this
  obtain⟨v,_,rfl⟩:=zv8.1 hu;rfl
end
section
variable {n:Fm}
def VT (P:Program) (n:Fm) (Q:Exit->Act->World->Prop) (ks:List Fr) (ops:Array Oper) (Hs:Hp) (B0:zq) (L:List Nat) (fuel:Nat) (listed:Array Bool) (env:Env) (A:Tgs) (H:Hp) (Bs:zq) (i:Nat):Prop :=
 Has Hs H->TgOk A env H->∀ w,VI Bs H w->∀ a,Ok n env a->wpOp P ops (NQ (QK P Q ks)) i (fun a' w'=>(i ∉ L->VI B0 Hs w->VI B0 Hs w')/\jV P .any ops (NQ (QK P Q ks)) (VI B0 Hs) L fuel (listed.setIfInBounds i true) a' w') a w
def VTs (P:Program) (n:Fm) (Q:Exit->Act->World->Prop) (ks:List Fr) (ops:Array Oper) (Hs:Hp) (B0:zq) (L:List Nat) (fuel:Nat) (listed:Array Bool) (env:Env) (A:Tgs) (H:Hp) (Bs:zq):List Nat->Prop
 | []=>True
 | i::r=>VT P n Q ks ops Hs B0 L fuel listed env A H Bs i/\VTs P n Q ks ops Hs B0 L fuel listed env A H Bs r
theorem VTs.all:∀ {l:List Nat},VTs P n Q ks ops Hs B0 L fuel listed env A H Bs l->∀ i ∈ l,VT P n Q ks ops Hs B0 L fuel listed env A H Bs i
 | x::r,h,i,hi=>by
  rcases zt6.1 hi with rfl | hi
  . exact h.1
  exact VTs.all h.2 i hi
theorem zsp (i:Nat) (r:List Nat) (hr:Region.ready .any ops listed=i::r) (h:VTs P n Q ks ops Hs B0 L fuel listed env A H Bs (i::r)):VD P n Q ks ops Hs B0 L (fuel+1) listed env A H Bs:=by
 intro hH hA w hI a ha;exact⟨fun h0=>tD,fun k hk=>h.all k (hr ▸ hk) hH hA w hI a ha⟩
variable {op:Op} {ty:TypeId} {ps:String} {g:Option (Nat × Bool)}
theorem zrb (hi:ops[i]?=some ⟨some d,op,ty,ps,aft,g⟩) (hn:Nat.blt d n=true) (hg:gd ops env g=some true) {R:World->Value->World->Prop}
  (hm:∀ w,VI Bs H w->Does P ⟨some d,op,ty,ps,aft,g⟩ env w (R w)) (h:Has Hs H->TgOk A env H->∀ w,VI Bs H w->∀ v w',R w v w'->VI B0 Hs w'/\WD P n ops (QK P Q ks) (VI B0 Hs) L fuel (listed.setIfInBounds i true) ((d,v)::env) w'):VT P n Q ks ops Hs B0 L fuel listed env A H Bs i:=by
 intro hH hA w hI a ha;have hd:=hm w hI;have h:=h hH hA w hI;unfold wpOp;simp only[hi];rw[zt1 (xZ hg a ha)];refine .inl ?_;unfold Oper.wp;rcases hd with⟨v,w',hY,hR⟩ | ⟨f,args,hm,hc⟩
 .
  rw[hY n a ha,Oper.upon_value];exact iU
 rw[hm n a ha,Oper.upon_enter];refine hc.mono ?_;rintro e w' ⟨v,rfl,hR⟩;exact iU
theorem zr6 (i j:Nat) {f:FuncId} {xs:Array Operand} {ts:Array TypeId} {vs:List Value} {Φ:Value->World->World->Prop} (hf:∀ args w,(callFunc f args).run P w=.ok (.enter f args) w) (hi:ops[i]?=some ⟨some d,.call ⟨.value (.func f),xs,ts⟩,ty,ps,aft,g⟩) (hn:(Nat.blt d n,gd ops env g,qI env xs.toList,qa (Hs.map (·.1)))=(true,some true,some vs,true)) (hB:Bs.drop j=B0)
  (hc:∀ w,VI Bs H w->Calls P f vs.toArray w (Ret fun r w'=>Φ r w w'/\Ext w w'))
  (h:∀ r w w',VI Bs H w->Ext w w'->Φ r w w'->(∀ q,HS H q->q<w.heap.size)->VD P n Q ks ops Hs B0 L fuel (listed.setIfInBounds i true) ((d,r)::env) ((d,none)::A) H ((w',HS H)::Bs)):VT P n Q ks ops Hs B0 L fuel listed env A H Bs i:=by
 simp only[Prod.mk.injEq]at hn;subst hB;refine zrb hi hn.1 hn.2.1 (fun w hI=>.inr ⟨f,_,F.call hf (yu hn.2.2.1),hc w hI⟩) fun hH hA w hI=>?_;rintro r w' ⟨hP,hk⟩;exact x9
theorem zpw (i k j:Nat) {x:Operand} {kl kc:IntKind} (hu:P.underlying t=some (.slice e)) (he:(P.info? e).map (fun i=>(i.zero,i.size,i.bytes))=some (some z,kk,by'))
  (hi:ops[i]?=some ⟨some d,.makeSlice t x y,ty,ps,aft,g⟩) (hn:(Nat.blt d n,gd ops env g,(hget H k).isNone,ev env x,ev env y,qa (Hs.map (·.1)))=(true,some true,true,some (.int kl (m:Int)),some (.int kc (m:Int)),true)) (hB:Bs.drop j=B0)
  (hb:by'*m<=281474976710656) (hm:m<=9223372036854775807) (hz:madeCells z.cells (m*kk)=zs.toArray) (hl:zs.length=m*kk)
  (h:∀ b,VD P n Q ks ops Hs B0 L fuel (listed.setIfInBounds i true) ((d,.slice (some ⟨b,0,none⟩) m m)::env) ((d,none)::A) ((k,.row e kk (.slice (some ⟨b,0,none⟩) m m) m zs)::H) Bs):VT P n Q ks ops Hs B0 L fuel listed env A H Bs i:=by
 simp only[Prod.mk.injEq,zw2]at hn;subst hB;obtain⟨h1,h2,h3,h4,h5,h6⟩:=hn;refine zrb hi h1 h2 (fun w hI=>.inl (zpt hu he h4 h5 hb hm hz)) fun hH hA w hI=>?_;rintro _ w1 ⟨b,rfl,hN⟩;have hY:=hI.row k hm hl hN;have da:Has Hs ((k,.row e kk (.slice (some ⟨b,0,none⟩) m m) m zs)::H):=hH.new h3;exact⟨(hY.drop j).pick da h6,h b da J0 w1 hY⟩
end
end Go.GL
