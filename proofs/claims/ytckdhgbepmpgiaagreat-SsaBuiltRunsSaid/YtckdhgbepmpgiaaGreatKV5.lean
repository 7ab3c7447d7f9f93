/-
  Contracts and the mathematics that the proof needs. Nothing here is a claim.
-/
import Derived.Test.YtckdhgbepmpgiaaGreatKV4
theorem iG {p:Prop}(h:p:=by decide +kernel):p:=h
theorem iN {p:Prop}(h:p:=by exact hG.keep hI.k0 (fun q hq _ hs=>by have h1:=hY q hs;have h2:=dc.hsE 0 O hs;rcases hq with hq | hq;(· have:=hD q hq;omega);omega)):p:=h
theorem iS {p:Prop}(h:p:=by exact zpl tr48 O (fun w hI=>⟨_,rfl,(vl,ro,ov),⟨rfl,rfl,hY (dr tO),rfl,db⟩,hI.back 0 O O O rfl⟩)):p:=h
theorem ib {p:Prop}(h:p:=by exact fun b_ d_ h_=>by have db:=dh _ h_;first | omega | exact db d_):p:=h
theorem ip {p:Prop}(h:p:=by exact fun q hq=>zws (hD q hq) (Keep.size hI.k0)):p:=h
theorem ir {p:Prop}(h:p:=by exact ztq _ (ztq _ (ztq _ (ztq _ (ztr ..))))):p:=h
theorem iv {p:Prop}(h:p:=by exact fun b_ d_ h_=>by have dr:=dx _ h_;first | omega | exact dr d_):p:=h
theorem JH {p:Prop}(h:p:=by exact zrz 1 tr16 O O (by rw[zhP c0 hb])):p:=h
theorem JN {p:Prop}(h:p:=by exact zpl tr48 O (fun w hI=>⟨_,rfl,(vl,ro.set n (rd x2.at_+1),ov),⟨rfl,rfl,hY (dr tO),zvu,dH⟩,hI.back 0 O O O rfl⟩)):p:=h
theorem Jj {p:Prop}(h:p:=by exact zpA tr93 (fun w hI=>⟨_,rfl,rfl,dg ▸ ⟨(vl,ov),⟨rfl,hY⟩,hI.back 0 O O O rfl⟩⟩)):p:=h
theorem J6 {p:Prop}(h:p:=by exact fun c hc=>by simp only[ztD,zvS,or_false]at hc;rcases hc with rfl | rfl<;>rfl):p:=h
theorem UI {p:Prop}(h:p:=by exact zpo tr44 O O (fun w hI=>⟨_,rfl,⟨_,by rw[h1],fun h=>tO⟩,hI.k0⟩)):p:=h
theorem UR {p:Prop}(h:p:=by exact fun q hq=>by exact hI.offD 0 900 O O (hY.lt hq) (fun h=>db q h hq)):p:=h
theorem UW {p:Prop}(h:p:=by exact ⟨h1,trivial,fun _ h=>h,fun q hq=>⟨.inr (h2 q hq),xp h1 hq⟩⟩):p:=h
theorem Ux {p:Prop}(h:p:=by exact Sub.cons (qg O (by rw[zcf g1];simp)) j2):p:=h
theorem U1 {p:Prop}(h:p:=by exact ⟨zbh,fun _=>rfl,fun h=>absurd h iG,by decide +kernel,fun u h=>tD⟩):p:=h
open Go.Proofs.Tryz
variable {α:Type} {f:Go.GL.Fl} {s:Go.Proofs.YtckdhgbepmpgiaaGreat.Sf} {k q i j fuel d kk b c e1 e2 f1 f2 K m root by':Nat} {g B:List Go.GL.Nd} {D:Nat->Prop} {w w1 w2 W w0:Go.World} {xs cs us zs:List Go.Value} {x:Go.GL.Nd} {z v vo:Go.Value} {P:Go.Program} {Q:Go.Exit->Go.Act->Go.World->Prop} {ks:List Go.GL.Fr} {env:Go.GL.Env} {A:Go.GL.Tgs} {H Hs E E':Go.GL.Hp} {Bs B0:Go.GL.zq} {ops:Array Go.Oper} {L:List Nat} {listed:Array Bool} {aft:Array Go.Edge} {y:Go.Operand} {e t et:Go.TypeId} {dst:Option Go.Tmp} {args:Array Go.Value} {r:Go.GL.Ins} {vals l vl wl:List Int} {u:Int × Int} {p:Go.Proofs.YtckdhgbepmpgiaaGreat.Phn} {F:Go.Proofs.YtckdhgbepmpgiaaGreat.Phn->Int} {R:List (List Int)} {seen nl:List Bool} {a:Int} {l':List (Int × Go.Value)}
namespace Go.Proofs.YtckdhgbepmpgiaaGreat
open Go.GL
theorem zo5 (h:OfF f s) {v:Int} (hv:s.of_[k]?=some v):0<=v/\v<(f.vars.length:Int):=by
 by_cases hk:k<f.vars.length
 . have:=h.ini k v hv hk;omega
 obtain⟨h1,x,hx,_⟩:=h.new k v hv tO;have:=(ztB.1 hx).1;omega
theorem zdQ (h:OfF f s) {k v:Int} {b:Bool} (hv:zay f s k v b):0<=v/\v<(f.vars.length:Int):=zo5 h hv.2.1
def zoD (f:Fl) (g:List Nd) (s:Sf) (p:Phn):Prop:=∀ (m:Nat) y,p.frm[m]?=some y->∀ a,p.args[m]?=some a->zaV f g s y.toNat p.var=a
structure NodU (f:Fl) (g:List Nd) (s:Sf) (n:Nat) (x:Sn):Prop where
 use:∀ u ∈ x.uses,inV f g s n u.1=u.2
 arg:∀ p ∈ x.phis,zoD f g s p
theorem zjk (h:∀ (n:Nat) x,s.nodes[n]?=some x->NodU f g s n x):zd2 f g s :=
 ⟨fun n x hx u hu=>(h n x hx).use u hu,fun n x hx p hp i y a hy ha=>(h n x hx).arg p hp i y hy a ha⟩
theorem zn2 {B:Nat->Int->Int} {v:Int} (h:B q v=inV f g s q v):xc f g s B q v=zaV f g s q v:=by
 unfold zaV xc;rw[h]
theorem zg2 (f:Fl) (g:List Nd) (s:Sf) (hk:GOk f g) (hY:s.nodes.length=g.length) (rows:List (List Int)) (nv:Nat) (da:Shp rows g.length nv) (i:Nat) (v:Int) (hi:i<g.length) (h0:0<=v) (hv:v<(nv:Int)) (b gb:Nat) (ofv nodv bv dv:Value) (D D' Db:Nat->Prop) (W:World) (hc:Cells W b 0 (chk gb ofv nodv bv dv)) (hS:RSf D W s ofv nodv) (hG:GrO D' W f g gb) (hr:SlR 1 (RSl 1 zv) Db W bv rows) :
  Calls prog 84 #[.pointer (some ⟨b,0,none⟩),.int .i64 i,.int .i64 v] W (Ret fun r w'=>r=.int .i64 (xc f g s (bfV rows) i v)/\Ext W w'):=by
 obtain⟨n,rfl⟩:=zul h0;exact zd1 f g s hk hY rows nv da i n hi tO b gb ofv nodv bv dv D D' Db W hc hS hG hr
theorem zjl (f:Fl) (g:List Nd) (s:Sf) (hk:GOk f g) (hF:FormF f g s (rdV f g)) (fN:1<=g.length) (eJ:g.length<=100000) (fO:f.vars.length<=1000) (b gb:Nat) (ofv nodv dv:Value) (D:Nat->Prop) (W:World) (hB:(HE.own b (chk gb ofv nodv (.slice none 0 0) dv) 97).holds W) (eD:∀ q,D q->q<W.heap.size/\q ≠ b) (hS:RSf D W s ofv nodv) (hG:GrO D W f g gb) :
  Calls prog 41 #[.pointer (some ⟨b,0,none⟩)] W (Ret fun r w'=>∃ x:Value × Bool,(r=.bool x.2/\(x.2=true ↔ zd2 f g s))/\(HE.own b (chk gb ofv nodv x.1 dv) 97).holds w'/\Keep (HE.own b (chk gb ofv nodv (.slice none 0 0) dv) 97).S W w'/\∀ q,(HE.own b (chk gb ofv nodv x.1 dv) 97).S q->((HE.own b (chk gb ofv nodv (.slice none 0 0) dv) 97).S q\/W.heap.size<=q)/\q<w'.heap.size):=by
 have eK:=hG;obtain⟨v1,v2,v3,gv,sv,pv,hD,dE,hf,hg,hs,fP⟩:=eK;obtain⟨av,cv,rfl⟩:=hf.vars.form;obtain⟨ag,cg,rfl⟩:=hg.form;have fQ:=hS;have dT:=hS.nodes;have fR:=dT.max;obtain⟨an,cn,rfl⟩:=dT.form;have eL:=hF.len;have dU:=hF.nn;have dh:∀ q,(HE.own b (chk gb ofv (.slice an s.nodes.length cn) (.slice none 0 0) dv) 97).S q->¬ D q:=fun q h hd=>(eD q hd).2 h;have fS:g.length*(f.vars.length*2)<=100000*(1000*2):=zww eJ tO;generalize hnv:f.vars.length=nv at *;generalize hN:g.length=N at *;refine zqQ func41 O ntmps41 O (zs3 900 (.own b [.pointer (some ⟨gb,0,none⟩),ofv,.slice an s.nodes.length cn,.slice none 0 0,dv] 97) (hB) trivial (fun _ h=>h) (fun q hq=>by have hq:q=b:=hq;subst hq;exact(show Blk W q _ _ from hB).lt) (zrG 901 0 O O (fun h=>(eD _ hD).2 h) dE (zre 0 900 0 O O (Vs 11 O (zre 23 901 0 O O (Vs 15 O (zre 32 901 0 O O (Vs 7 O (zrk 903 27 1 O (zrk 902 3 1 O (zs4 902 (e':=RowsP zb 3 [] []) O (fun w hI=>RowsOk.nil) RowsP.loc (fun _ h=>h) (fun q hq=>by obtain⟨i,u,h,_⟩:=hq;simp at h) ?_)))))))))));refine Vs 1 O (zrM (σ:=Nat × Value × List Value) [0,3,36] [901] [0] O (fun e ⟨i,u,hv⟩=>(37,.int .i64 i)::e) (fun e ⟨i,u,hv⟩=>(900,.own b [.pointer (some ⟨gb,0,none⟩),ofv,.slice an s.nodes.length cn,u,dv] 97)::(903,.row 27 1 u i hv)::(902,RowsP zb 3 hv ((rows0 nv N).take i))::e) (fun⟨i,u,hv⟩=>i<=N/\hv.length=i) (fun⟨i,u,hv⟩=>N - i) (0,.slice none 0 0,[]) j2 j3 j1 j1 j1 y8 ?_);rintro⟨i,u,hv⟩ ⟨hi,fT⟩;refine Vs 6 O (zp4 O (fun lt=>?_) (fun lt=>?_))
 .
  refine Vs 13 O (zpW 41 tu27 Tryz.el3 O tO tO (zs:=List.replicate nv (.int .i64 0)) JY tR (fun b41=>?_));refine zrL 41 O (e':=.row 3 1 (.slice (some ⟨b41,0,none⟩) nv nv) nv (((zfF nv i).take 0++List.replicate (nv - 0) 0).map zb)) tR (Vs 12 O (zrM (σ:=Nat) [0,3,4,5,36,37,43] [900,901,902,903] [0] O (fun e k=>(44,.int .i64 k)::e) (fun e k=>(41,.row 3 1 (.slice (some ⟨b41,0,none⟩) nv nv) nv (((zfF nv i).take k++List.replicate (nv - k) 0).map zb))::e) (fun k=>k<=nv) (fun k=>nv - k) 0 j2 j3 j1 j1 j1 (ztC _) ?_));rintro k eM;have eN:=zdP nv i;refine Vs 6 O (zp4 O (fun lk=>?_) (fun lk=>?_))
  .
   have dQ:=zll (i:=i) (show k<nv by omega);have fU:((zfF nv i).take k++List.replicate (nv - k) (0:Int)).length=nv:=tD;refine Va 15 O tO (zrq 41 (k) ts3 O tO tD (Vs 3 O (zqD (p:=i=0) (fun z0=>?_) (fun z0=>?_))))
   .
    refine Vs 5 O (zp4 O (fun z1=>?_) (fun z1=>?_))
    .
     refine Va 5 O tO (zrq 41 (k) ts3 O tO tD ?_);rw[zty z0]at dQ;refine zrL 41 O (e':=.row 3 1 (.slice (some ⟨b41,0,none⟩) nv nv) nv (((zfF nv i).take (k+1)++List.replicate (nv - (k+1)) 0).map zb)) (by rw[zw5,<- dQ,zvB]) (Va 7 O tO (V.back (k+1) j2 j3 tO tO 0 O O))
    omega
   refine Vs 5 O (zp4 O (fun z1=>?_) (fun z1=>?_))
   . omega
   rw[ztx z0]at dQ;refine zrL 41 O (e':=.row 3 1 (.slice (some ⟨b41,0,none⟩) nv nv) nv (((zfF nv i).take (k+1)++List.replicate (nv - (k+1)) 0).map zb)) (by rw[<- dQ,zvB]) (Va 7 O tO (V.back (k+1) j2 j3 tO tO 0 O O))
  obtain rfl:k=nv:=tO;refine zrL 41 O (e':=.row 3 1 (.slice (some ⟨b41,0,none⟩) k k) (zfF k i).length ((zfF k i).map zb)) tD (Vs 12 O (zrP 63 [(0,_)] tR89 ts27 tz27 tS O O tK (fun b63=>?_)));refine zrl 903 63 tu89 Tryz.el27 O tS O O tO tO (fun u903=>(Vs 2 O (zrn 903 O tO ?_)));rintro ob oc rfl dc;refine Va 8 O tO (zsC 902 41 (e':=RowsP zb 3 (hv++[Value.slice (some ⟨b41,0,none⟩) k k]) ((rows0 k N).take (i+1))) [(0,some (900,0)),(57,some (900,0)),(58,some (900,0)),(59,some (900,0)),(60,some (900,3)),(65,some (900,0)),(66,some (900,3))] O O O (fun w hI=>(by rw[ze (zfb (nv:=k) (show i<N by omega))];exact(show RowsOk _ _ _ _ _ from hI.at 902 O).add (hI.at 41 O) (fun g hg i v hv eO=>hI.sep (k:=902) (k2:=41) O O tS ⟨i,v,hv,eO⟩ hg))) RowsP.loc (fun _ h=>h) (fun q (hq:∃ (i:Nat) (v:Value),(hv++[Value.slice (some ⟨b41,0,none⟩) k k])[i]?=some v/\v.ownBlock=some q)=>zo4 hq) ?_);refine V.back ⟨i+1,.slice (some ⟨ob,0,none⟩) (i+1) oc,hv++[.slice (some ⟨b41,0,none⟩) k k]⟩ j2 j3 Jn tD 0 O O
 obtain rfl:i=N:=tO;have eP:(rows0 nv i).length=i:=(zfa nv i).len;have dV:Shp (rows0 nv i) g.length nv:=by rw[hN];exact zfa nv i
 have dF:RunV f g s nv (bfV (rows0 nv i)):=by have:=zjj f g s nv;rwa [hN]at this
 have dW:∀ v:Int,0<=v->v<(nv:Int)->bfV (rows0 nv i) 0 v=v:=fun v h0 h1=>by rw[zgW tO h0 h1,zty rfl]
 have fV:∀ q,(fun _:Nat=>True) q:=fun _=>trivial;refine zrn 903 O tO ?_;rintro og oc rfl dc;refine zrL 902 O (e':=RowsP zb 3 hv (rows0 nv i)) tD (Vs 12 O (zrM (σ:=Bool × List (List Int)) [0,3] [900,901,903] [0] O (fun e ⟨ch,rows⟩=>(7,.bool ch)::e) (fun e ⟨ch,rows⟩=>(902,RowsP zb 3 hv rows)::e) (fun⟨ch,rows⟩=>Shp rows g.length nv/\RunV f g s nv (bfV rows)/\(∀ v:Int,0<=v->v<(nv:Int)->bfV rows 0 v=v)/\(ch=false->SolV f g s nv (bfV rows))) (fun⟨ch,rows⟩=>(g.length*(nv*2) - rkT rows)*2+ch.toNat) (true,rows0 nv i) j2 j3 j1 j1 j1 ⟨dV,dF,dW,fun h=>tD⟩ ?_));rintro⟨ch,rows⟩ ⟨dR,dX,eQ,eR⟩;refine Vs 6 O (V.bool O (fun c1=>?_) (fun c1=>?_))
 .
  subst c1;refine Vs 14 O (zrM (σ:=Nat × Bool × List (List Int)) [0,3] [900,901,903] [0] O (fun e ⟨j,c2,Q1⟩=>(8,.int .i64 j)::(7,.bool c2)::e) (fun e ⟨j,c2,Q1⟩=>(902,RowsP zb 3 hv Q1)::e) (fun⟨j,c2,Q1⟩=>1<=j/\j<=i/\PassV f g s nv rows Q1 c2 (fun a u=>1<=a/\a<j/\u<nv)/\∀ v:Int,0<=v->v<(nv:Int)->bfV Q1 0 v=v) (fun⟨j,c2,Q1⟩=>i - j) (1,false,rows) j2 j3 j1 j1 j1 ⟨ztM _,tO,PassV.start dR dX (fun a u h=>tO),eQ⟩ ?_);rintro⟨j,c2,Q1⟩ ⟨fW,hj,dt,hz⟩;refine Vs 8 O (zre 73 901 0 O O (Vs 7 O (zp4 O (fun lj=>?_) (fun lj=>?_))))
  .
   refine Vs 11 O (zrM (σ:=Nat × Bool × List (List Int)) [0,3,8,81] [900,901,903] [0] O (fun e ⟨v,c3,Q3⟩=>(82,.int .i64 v)::(7,.bool c3)::e) (fun e ⟨v,c3,Q3⟩=>(902,RowsP zb 3 hv Q3)::e) (fun⟨v,c3,Q3⟩=>v<=nv/\PassV f g s nv rows Q3 c3 (fun a u=>1<=a/\((a<j/\u<nv)\/(a=j/\u<v)))/\∀ v:Int,0<=v->v<(nv:Int)->bfV Q3 0 v=v) (fun⟨v,c3,Q3⟩=>nv - v) (0,c2,Q1) j2 j3 j1 j1 j1 ⟨ztC _,dt.imp (fun a u h=>tO),hz⟩ ?_);rintro⟨v,c3,Q3⟩ ⟨fX,hY,dS⟩;refine Vs 6 O (zp4 O (fun lv=>?_) (fun lv=>?_))
   .
    obtain⟨r,dG,eN⟩:=hY.shp.at (show j<g.length by omega);obtain⟨old,eE⟩:∃ z,r[v]?=some z:=iA;have fY:=zjg dG eE;obtain⟨hu,dH⟩:∃ z,hv[j]?=some z:=iA;refine zr8 (p:=∃ ao ch,hu=.slice ao r.length ch/\(0<r.length->∃ g,ao=some ⟨g,0,none⟩)) (fun w hI=>zac (show RowsOk _ _ _ _ _ from hI.at 902 O) dH dG) (fun eS=>?_);obtain⟨ao,cu,rfl,eT⟩:=eS;obtain⟨gu,rfl⟩:=eT tO;have dY:Q3.length=i:=by have:=hY.shp.len;omega
    refine Va 18 O tO (zrp 903 (j) tg27 O tO (dH) (Vs 1 O (zqH O (fun w hI=>zpH tR27 ts3 O O O tO) (zqH O (fun w hI=>R.load tg3 O (zji (hI.at 902 O) dH dG eE)) (Vs 9 O (zp4 O (fun o1=>?_) (fun o1=>?_)))))))
    .
     refine Vs 5 O (zrs call83 O (fun w hI=>zlj f g s hk tO Q3 nv hY.shp j v tO tO tO b gb _ _ _ _ D D (fun _=>True) w (Blk.cells (hI.at 900 O)) (hS.keep hI.k0 fun q hd _ h=>dh q h hd) (hG.keep hI.k0 fun q hd _ h=>dh q h hd) (zce (show w.ownsRow 0 _ 1 _ _ _ from dY ▸ hI.at 903 O) (hI.at 902 O) (fun _ _=>trivial) (fun _ _ _ _ _=>trivial))) (Vs 9 O (V.sp 104 O (fun n1=>?_) (fun n1=>?_))))
     .
      refine Vs 5 O (zp4 O (fun n2=>?_) (fun n2=>?_))
      .
       have hset:PassV f g s nv rows (zgU Q3 j v (eqV g s (xc f g s (bfV Q3)) j v)) true (fun a u=>1<=a/\((a<j/\u<nv)\/(a=j/\u<v+1))):=hY.set dU (i:=j) (v:=v) tO tO tO
       have eU:∀ u:Int,0<=u->u<(nv:Int)->bfV (zgU Q3 j v (eqV g s (xc f g s (bfV Q3)) j v)) 0 u=u:=fun u h0 h1=>by
        rw[zmx hY.shp tO tO _ h0];unfold zkz
        grind
       generalize eqV g s (xc f g s (bfV Q3)) j v=now at *;refine Va 8 O tO (zrp 903 (j) tg27 O tO (dH) (Vs 2 O (zqH O (fun w hI=>zpH tR27 ts3 O O O tO) (zsx 902 (e':=RowsP zb 3 hv (Q3.set j (r.set v now))) O RowsP.loc (fun _ h=>h) (fun w hI=>zsG ts3 (hI.at 902 O) dH dG tO O O O) (zrL 902 O (e':=RowsP zb 3 hv (zgU Q3 j v now)) (by unfold zgU;rw[dG];rfl) (Va 11 O tO (V.back ⟨v+1,true,zgU Q3 j v now⟩ j2 j3 ⟨tO,hset,eU⟩ tD 0 O O)))))))
      have da:PassV f g s nv rows Q3 c3 (fun a u=>1<=a/\((a<j/\u<nv)\/(a=j/\u<v+1))):=hY.skip (i:=j) (v:=v) (.inr (.inr tO)) (fun a u h=>tO);refine Va 7 O tO (V.back ⟨v+1,c3,Q3⟩ j2 j3 ⟨tO,da,dS⟩ tD 0 O O)
     have da:PassV f g s nv rows Q3 c3 (fun a u=>1<=a/\((a<j/\u<nv)\/(a=j/\u<v+1))):=hY.skip (i:=j) (v:=v) (.inr (.inl tO)) (fun a u h=>tO);refine Va 13 O tO (V.back ⟨v+1,c3,Q3⟩ j2 j3 ⟨tO,da,dS⟩ tD 0 O O)
    have da:PassV f g s nv rows Q3 c3 (fun a u=>1<=a/\((a<j/\u<nv)\/(a=j/\u<v+1))):=hY.skip (i:=j) (v:=v) (.inl tO) (fun a u h=>tO);refine Va 7 O tO (V.back ⟨v+1,c3,Q3⟩ j2 j3 ⟨tO,da,dS⟩ tD 0 O O)
   refine Va 11 O tO (V.back ⟨j+1,c3,Q3⟩ j2 j3 ⟨tO,tO,hY.imp (fun a u h=>tO),dS⟩ tD 0 O O)
  have fZ:(g.length*(nv*2) - rkT Q1)*2+c2.toNat<(g.length*(nv*2) - rkT rows)*2+true.toNat:=by
   have:=rk_le dt.shp;cases c2 with
   | true=>have:=dt.yes rfl;simp only[Bool.toNat_true];omega
   | false=>rw[(dt.no rfl).1];simp only[Bool.toNat_true,Bool.toNat_false];omega
  have dI:c2=false->SolV f g s nv (bfV Q1):=fun e=>by
   subst e;exact dt.done (fun a u h1 h2 h3=>tO) hz
  refine Vs 5 O (V.back ⟨c2,Q1⟩ j2 j3 ⟨dt.shp,dt.run,hz,dI⟩ tO 0 O O)
 subst c1;have dJ:=eR rfl;have dK:rows.length=i:=by have:=dR.len;omega
 have dL:=dR.row;refine zsC 903 902 (e':=.res (fun q=>(Value.slice (some ⟨og,0,none⟩) i oc).ownBlock=some q\/∃ (k:Nat) (u:Value),hv[k]?=some u/\u.ownBlock=some q) (fun w=>SlR 1 (RSl 1 zv) (fun q=>(Value.slice (some ⟨og,0,none⟩) i oc).ownBlock=some q\/∃ (k:Nat) (u:Value),hv[k]?=some u/\u.ownBlock=some q) w (.slice (some ⟨og,0,none⟩) i oc) rows)) [(0,some (900,0))] O O O (fun w hI=>zce (show w.ownsRow 0 _ 1 _ _ _ from dK ▸ hI.at 903 O) (hI.at 902 O) (fun _ h=>.inl h) (fun k u q h h2=>.inr ⟨k,u,h,h2⟩)) (fun w w' T h hk hT=>h.keep (zP zc) hk fun b hb hl=>hT b hl hb) (fun _ h=>h) (fun q hq=>hq) ?_;refine zsF 903 O (p:=(fun w=>SlR 1 (RSl 1 zv) (fun q=>(Value.slice (some ⟨og,0,none⟩) i oc).ownBlock=some q\/∃ (k:Nat) (u:Value),hv[k]?=some u/\u.ownBlock=some q) w (.slice (some ⟨og,0,none⟩) i oc) rows)) (fun w w' T h hk hT=>h.keep (zP zc) hk fun b hb _=>hT b hb) (fun w hI=>hI.at 903 O) (fun wp dM du=>(Vs 18 O (zrM (σ:=Nat) [0,123,124] [900,901,903] [0] O (fun e n=>(125,.int .i64 n)::e) (fun e n=>e) (fun n=>n<=s.nodes.length/\(∀ (m:Nat) x,m<n->s.nodes[m]?=some x->NodU f g s m x)) (fun n=>s.nodes.length - n) 0 j2 j3 j1 j1 j1 ⟨ztC _,fun m x h=>absurd h (zwz _)⟩ ?_)));rintro n ⟨hn,dZ⟩;refine Vs 6 O (zp4 O (fun ln=>?_) (fun ln=>?_))
 .
  refine Vs 7 O (zrH 1000 1 n tO dT O O O ib (fun x f0 f5 f7 dl eV d5 eW d6=>?_));obtain⟨eX,eY,rfl,dw,dx⟩:=d6;obtain⟨eZ,fb,rfl⟩:=dw.form;obtain⟨fe,fg,rfl⟩:=dx.form;refine zrg 1000 tR28 ts59 O d5 tO _ rfl O ?_;have dm:=hF.nod n x dl;have f8:=dx.max;have f9:=dw.max;have fm:n<g.length:=tO;refine Vs 1 O (V.alloc 13 tz59 O O (fun b13=>?_));refine Vs 14 O (zrM (σ:=Nat) [0,12,13,123,124,125,131,132] [13,900,901,903] [0,13] O (fun e k=>(133,.int .i64 k)::e) (fun e k=>e) (fun k=>k<=x.uses.length/\(∀ (j:Nat) u,j<k->x.uses[j]?=some u->inV f g s n u.1=u.2)) (fun k=>x.uses.length - k) 0 j2 j3 j1 j1 j1 ⟨ztC _,fun j u h=>absurd h (zwz _)⟩ ?_);rintro k ⟨eM,eF⟩;refine Vs 6 O (zp4 O (fun lk=>?_) (fun lk=>?_))
  .
   refine Vs 6 O (zrH 2000 1 k tO dx O O O ib (fun u gc gf gh d7 dN d8 fp d9=>?_));obtain rfl:=d9;refine zrg 2000 tR57 ts85 O d8 tO _ rfl O ?_;have fq:=zdQ hF.of_ (dm.ver u dN);obtain⟨u1,u2⟩:=u;dsimp only at fq;obtain⟨v,rfl⟩:∃ v:Nat,u1=(v:Int):=⟨u1.toNat,tO⟩;refine zrH 3000 0 n tO dM O O O (fun b_ d_ h_=>by have db:=du _ h_;first | omega | exact db d_) (fun r gl gq gr eb ec ed ft ee=>?_);obtain⟨fu,rfl,dO⟩:=ee;obtain⟨fw,fy,rfl⟩:=dO.form;have gs:=dL r ec;refine zrH 4000 0 v tO dO O O O (fun b_ d_ h_=>by have db:=du _ h_;first | omega | exact db d_) (fun y fA fB fC dg ef dy eh dz=>?_);obtain rfl:=dz;have ei:y=inV f g s n v:=by rw[<- zjg eb dg];exact dJ.is dU tO tO fm
   refine Vs 1 O (V.alloc 15 tz85 O O (fun b15=>?_));refine Vs 4 O (Vq tK (Vs 5 O (zrj 3000 tR89 ts27 O ed tO (n) tO O (Vs 3 O (zrj 4000 tR27 ts3 O dy tO (v) tO O (Vs 6 O (zp4 O (fun e1=>?_) (fun e1=>?_))))))))
   .
    have dA:¬ zd2 f g s:=fun h=>e1 (by rw[ei];exact h.1 n x dl _ dN);refine Vs 16 O (zpl results41 O (fun w hI=>⟨_,rfl,⟨(.slice (some ⟨og,0,none⟩) i oc,false),⟨rfl,⟨fun h=>tD,fun h=>absurd h dA⟩⟩,hI.at 900 rfl,hI.k1,fun q hq=>hI.inS 1 900 O O hq⟩⟩))
   have dB:=xX eF d7 (show inV f g s n v=u2 by omega);refine Va 7 O tO (V.back (k+1) j2 j3 ⟨tO,dB⟩ tO 0 O O)
  obtain rfl:k=x.uses.length:=tO;refine Vs 14 O (zrM (σ:=Nat) [0,123,124,125,153,154] [900,901,903] [0] O (fun e k=>(155,.int .i64 k)::e) (fun e k=>e) (fun k=>k<=x.phis.length/\(∀ (j:Nat) p,j<k->x.phis[j]?=some p->zoD f g s p)) (fun k=>x.phis.length - k) 0 j2 j3 j1 j1 j1 ⟨ztC _,fun j u h=>absurd h (zwz _)⟩ ?_);rintro k ⟨gt,eG⟩;refine Vs 6 O (zp4 O (fun lp=>?_) (fun lp=>?_))
  .
   refine Vs 6 O (zrH 5000 1 k tO dw O O O ib (fun p gw gx gy ej dr ek fD em=>?_));obtain⟨fE,fF,rfl,dC,dD⟩:=em;obtain⟨fG,fH,rfl⟩:=dC.form;obtain⟨fI,fJ,rfl⟩:=dD.form;refine zrg 5000 tR56 ts88 O ek tO _ rfl O ?_;have fK:=dm.phi.frm p dr;have gz:=dm.phi.len p dr;have gA:=zdQ hF.of_ (dm.phi.ver p dr);have gB:=dC.max;have gC:=dD.max;refine Vs 1 O (V.alloc 17 tz88 O O (fun b17=>?_));refine Vs 12 O (zrM (σ:=Nat) [0,17,123,124,125,153,154,155,160,161] [17,900,901,903] [0,17] O (fun e j=>(162,.int .i64 j)::e) (fun e j=>e) (fun j=>j<=p.frm.length/\(∀ (m:Nat) y,m<j->p.frm[m]?=some y->∀ a,p.args[m]?=some a->zaV f g s y.toNat p.var=a)) (fun j=>p.frm.length - j) 0 j2 j3 j1 j1 j1 ⟨ztC _,fun m y h=>absurd h (zwz _)⟩ ?_);rintro j ⟨hj,eH⟩;refine Vs 6 O (zp4 O (fun lj=>?_) (fun lj=>?_))
   .
    refine Vs 7 O (zrH 6000 1 j tO dC O O O ib (fun y fA fB fC dg ef dy eh dz=>?_));obtain rfl:=dz;refine zrg 6000 tR27 ts3 O dy tO _ rfl O ?_;obtain⟨q,rfl,gD,eI⟩:=zf9 (fK ▸ dg);refine zrH 7000 1 j tO dD O O O ib (fun a gE gF gG er fL ew fM ez=>?_);obtain rfl:=ez;have eA:xc f g s (bfV rows) q p.var=zaV f g s q p.var:=zn2 (dJ.is dU tO tO eI);refine Vs 6 O (Vw [17,900,901,6000,7000] [] O (Vd [0,1,2,3,5,6,7] 0 tK O O O (zrh 8 7000 tR27 ts3 O tK O ew tO (j) tO O (Vd [9] 0 tK O O O (zrt 4 0 call84 O tK O O (fun w hI=>zg2 f g s hk tO rows nv dR q p.var eI tO tO b gb _ _ _ _ D D _ w (Blk.cells (hI.at 900 O)) (hS.keep hI.k1 fun q hd _ h=>dh q h hd) (hG.keep hI.k1 fun q hd _ h=>dh q h hd) (dM.keep (zP zc) hI.k0 fun q hd _ hs=>du q hs hd)) ?_)))));refine Vd [10] 0 tK O O O (VD.done tK (Vs 1 O (zp4 O (fun e1=>?_) (fun e1=>?_))))
    .
     have dA:¬ zd2 f g s:=fun h=>e1 (by rw[eA];exact h.2 n x dl p dr j _ a dg er);refine Vs 19 O (zpl results41 O (fun w hI=>⟨_,rfl,⟨(.slice (some ⟨og,0,none⟩) i oc,false),⟨rfl,⟨fun h=>tD,fun h=>absurd h dA⟩⟩,hI.at 900 rfl,hI.k1,fun q hq=>hI.inS 1 900 O O hq⟩⟩))
    have dB:=xX eH dg (show ∀ a',p.args[j]?=some a'->zaV f g s (Int.toNat (q:Int)) p.var=a' from fun a' gH=>by
     grind)
    refine Va 7 O tO (V.back (j+1) j2 j3 ⟨tO,dB⟩ tO 0 O O)
   obtain rfl:j=p.frm.length:=tO;have dB:=xX eG ej (show zoD f g s p from fun m y hm a ha=>eH m y (ztB.1 hm).1 hm a ha);refine Va 10 O tO (V.back (k+1) j2 j3 ⟨tO,dB⟩ tO 0 O O)
  obtain rfl:k=x.phis.length:=tO
  have dB:∀ (m:Nat) x',m<n+1->s.nodes[m]?=some x'->NodU f g s m x':=fun m x' hm hx=>by
   by_cases e:m=n
   .
    subst e;obtain rfl:x'=x:=Option.some.inj (hx.symm.trans dl);exact⟨fun u hu=>by obtain⟨q,hq⟩:=zvH.1 hu;exact zaa eF q u hq,fun p hp=>by obtain⟨q,hq⟩:=zvH.1 hp;exact zaa eG q p hq⟩
   grind
  refine Va 10 O tO (V.back (n+1) j2 j3 ⟨tO,dB⟩ tO 0 O O)
 obtain rfl:n=s.nodes.length:=tO;have eC:zd2 f g s:=zjk (zaa dZ);refine Vs 11 O (zpl results41 O (fun w hI=>⟨_,rfl,⟨(.slice (some ⟨og,0,none⟩) i oc,true),⟨rfl,⟨fun _=>eC,fun _=>rfl⟩⟩,hI.at 900 rfl,hI.k1,fun q hq=>hI.inS 1 900 O O hq⟩⟩))
def EncS (D:Nat->Prop) (w:World) (l:List St) (xs:List Value):Prop:=xs.length=l.length*10/\∀ (i:Nat) x,l[i]?=some x->RSt D w x ((xs.drop (i*10)).take 10)
theorem EncS.nil:EncS D w [] []:=⟨rfl,fun i x h=>tD⟩
theorem EncS.add {l:List St} {x:St} (h:EncS D w l xs) (hx:RSt D w x cs) (hc:cs.length=10):EncS D w (l++[x]) (xs++cs):=by
 have h1:=h.1;refine⟨tD,fun i y hy=>?_⟩;by_cases hi:i<l.length
 .
  rw[ztN hi]at hy;rw[zuM tO,zwb tD];exact h.2 i y hy
 have hl:=(ztB.1 hy).1;rw[ztv,ztI]at hl;obtain rfl:i=l.length:=tO;rw[ztO tO,zwA]at hy;obtain rfl:x=y:=tD;rw[<- h1,List.drop_left,zwc tO];exact hx
theorem zlm (l:List St):∀ (D:Nat->Prop) (W0 W:World) (v uo:Value) (acc:List St) (xs:List Value),SlR 10 RSt D W0 v l->EqD D W0 W->EncS D W0 acc xs->(HE.row 72 10 uo acc.length xs).holds W->(∀ q,D q->uo.ownBlock ≠ some q)->acc.length+ssize l<=1000000 ->
  Calls prog 75 #[v,uo] W (Ret fun r w'=>∃ x:Value × List Value,(r=x.1/\EncS D W0 (acc++preL l) x.2)/\(HE.row 72 10 x.1 (acc++preL l).length x.2).holds w'/\Keep (HE.row 72 10 uo acc.length xs).S W w'/\∀ q,(HE.row 72 10 x.1 (acc++preL l).length x.2).S q->((HE.row 72 10 uo acc.length xs).S q\/W.heap.size<=q)/\q<w'.heap.size):=by
 induction l using zr3 with
 | h l ih =>
 intro D W0 W v uo acc xs dK hY dL da dM dN;have hl:=hY.to zg dK;obtain⟨av,cv,rfl⟩:=hl.form;have d7:=hl.max;have db:∀ q,(HE.row 72 10 uo acc.length xs).S q->¬ D q:=fun q h hd=>dM q hd h;refine zqR func75 O ntmps75 O (zs3 900 (.row 72 10 uo acc.length xs) (da) trivial (fun _ h=>h) (fun q hq=>xp da hq) (Vs 13 O (zrL 900 O (e':=.row 72 10 uo (acc++preL (l.take 0)).length xs) (by rw[show acc++preL (l.take 0)=acc from zuF _]) (Vs 1 O (zrM (σ:=Nat × Value × List Value) [7,8] [] [] O (fun e ⟨i,u,ys⟩=>(9,.int .i64 i)::(1,u)::e) (fun e ⟨i,u,ys⟩=>(900,.row 72 10 u (acc++preL (l.take i)).length ys)::e) (fun⟨i,u,ys⟩=>i<=l.length/\EncS D W0 (acc++preL (l.take i)) ys) (fun⟨i,u,ys⟩=>l.length - i) (0,uo,xs) j2 j3 j1 j1 j1 ⟨ztC _,by rw[show acc++preL (l.take 0)=acc from zuF _];exact dL⟩ ?_)))));rintro⟨i,u,ys⟩ ⟨hi,dC⟩;refine Vs 6 O (zp4 O (fun lt=>?_) (fun lt=>?_))
 .
  refine Vs 6 O (zrH 1000 0 i tO hl O O O (fun b_ d_ h_=>by have dO:=db _ h_;first | omega | exact dO d_) (fun x d8 d9 eb dc dg dD dQ dE=>?_));obtain⟨dR,dS,dT,dU,rfl,dh,dl,dm,dr⟩:=dE.get;obtain⟨dt,du,rfl⟩:=dh.form;obtain⟨dw,dx,rfl⟩:=dl.form;obtain⟨dy,dz,rfl⟩:=dm.form;obtain⟨dA,dB,rfl⟩:=dr.form;refine zrg 1000 tR24 ts72 O dD tO _ rfl O ?_;have ec:=qs dc;have ed:=x.size_eq;have dV:=ziM dc;have ee:=qk (l.take i);have dW:=qk x.thn;have dX:=qk x.els;have dH:=hY.back zg dl;have dI:=hY.back zg dm;have dY:=hY.back yN dh;have dZ:=hY.back zc dr;have dF:EncS D W0 (acc++preL (l.take i)++[x]) (ys++[.int .i64 x.act,.int .i64 x.cost,.int .i64 x.var,.int .i64 x.n,.int .i64 x.term.op,.int .i64 x.term.n,.slice dt x.term.kids.length du,.slice dw x.thn.length dx,.slice dy x.els.length dz,.slice dA x.bounds.length dB]):=dC.add (RSt.put dY dH dI dZ) rfl;have dG:acc++preL (l.take i)++[x]++preL x.thn++preL x.els=acc++preL (l.take (i+1)):=by rw[dV,x.pre_eq];simp
  have d5:ssize (l.take i)+(1+ssize x.thn+ssize x.els)<=ssize l:=tO;have ef:(acc++preL (l.take i)).length=acc.length+ssize (l.take i):=tD;refine Vs 1 O (V.alloc 6 tz72 O O (fun b6=>?_));refine Vs 7 O (zrP 15 [(0,_)] tR24 ts72 tz72 tS O O tK (fun b15=>?_));refine zrl 900 15 tu24 Tryz.el72 O tS O O tO tO (fun u900=>(Vs 3 O (zrL 900 O (e':=.row 72 10 u900 (acc++preL (l.take i)++[x]).length (ys++[.int .i64 x.act,.int .i64 x.cost,.int .i64 x.var,.int .i64 x.n,.int .i64 x.term.op,.int .i64 x.term.n,.slice dt x.term.kids.length du,.slice dw x.thn.length dx,.slice dy x.els.length dz,.slice dA x.bounds.length dB])) tD (Vw [1000,6,15] [] O (Vd [0,1,2,3,4] 0 tK O O O (zry 5 900 0 (E:=fun z:Value × List Value=>.row 72 10 z.1 (acc++preL (l.take i)++[x]++preL x.thn).length z.2) call75 O tK O O iK (fun w hI=>(ih x dg).1 D W0 w _ _ (acc++preL (l.take i)++[x]) _ dH (hY.keep hI.k0 (fun b hb=>hY.lt hb) (fun b hb hs=>db b hs hb)) dF (hI.at 900 O) UR tD) ?_))))));rintro u2 ⟨_,y2⟩ ⟨rfl,d6⟩;refine zry 6 900 0 (E:=fun z:Value × List Value=>.row 72 10 z.1 (acc++preL (l.take i)++[x]++preL x.thn++preL x.els).length z.2) call75 O tK O O iK (fun w hI=>(ih x dg).2 D W0 w _ _ (acc++preL (l.take i)++[x]++preL x.thn) _ dI (hY.keep hI.k0 (fun b hb=>hY.lt hb) (fun b hb hs=>db b hs hb)) d6 (hI.at 900 O) UR tD) ?_;rintro u3 ⟨_,y3⟩ ⟨rfl,dJ⟩;refine Vd [7] 0 tK O O O (VD.done tK (Va 6 O tO ?_));rw[dG]at dJ;refine zrL 900 O (e':=.row 72 10 u3 (acc++preL (l.take (i+1))).length y3) tD (V.back ⟨i+1,u3,y3⟩ j2 j3 ⟨tO,dJ⟩ tD 0 O O)
 obtain rfl:i=l.length:=tO;rw[zts]at dC;refine zrL 900 O (e':=.row 72 10 u (acc++preL l).length ys) tD (Vs 12 O (zpl results75 O (fun w hI=>⟨_,rfl,⟨(u,ys),⟨rfl,dC⟩,hI.at 900 rfl,hI.k0,fun q hq=>hI.inS 0 900 O O hq⟩⟩)))
def km (x:Nd) (q:Nat):List Int:=([x.next,x.other].take q).filter fun y=>decide (0<=y)
def jM (x:Nd):List Int:=km x 2
theorem zfc (x:Nd) (q:Nat):(km x q).length<=2:=by
 unfold km;refine ztt (zvr _ _) ?_;rw[ztR];exact Nat.min_le_right _ _
def eds (x:Nd) (q:Nat):Int:=if q=0 then x.next else x.other
theorem zhL (x:Nd) (hq:q<2):km x (q+1)=km x q++if 0<=eds x q then [eds x q] else []:=by
 have h:q=0\/q=1:=tO;rcases h with rfl | rfl
 . by_cases h:0<=x.next<;>simp[km,eds,h]
 by_cases h:0<=x.next<;>by_cases h2:0<=x.other<;>simp[km,eds,h,h2]
theorem zn3 (x:Nd) (hq:q<2):[Value.int .i64 x.next,Value.int .i64 x.other][((q:Int)).toNat]?=some (.int .i64 (eds x q)):=by
 have h:q=0\/q=1:=tO;rcases h with rfl | rfl<;>rfl
theorem mem_succ {y:Int}:y ∈ jM x ↔ 0<=y/\(x.next=y\/x.other=y):=by
 unfold jM km;simp only[List.take,zvE,ztD,zvS,or_false,decide_eq_true_eq];constructor
 .
  rintro⟨h1 | h1,h2⟩
  . exact⟨h2,.inl h1.symm⟩
  exact⟨h2,.inr h1.symm⟩
 rintro⟨h2,h1 | h1⟩
 . exact⟨.inl h1.symm,h2⟩
 exact⟨.inr h1.symm,h2⟩
theorem zgX (x:Nd) (W:World) :
  Calls prog 76 #[.agg (xV x).toArray] W (Ret fun r w'=>SlR 1 zv (fun b=>W.heap.size<=b) w' r (jM x)/\Ext W w'):=by
 refine zqQ func76 O ntmps76 O (V.inn (Vs 2 O (V.box 1 O O (fun b1=>?_))));refine Vs 15 O (zrW [Value.int IntKind.i64 0,Value.int IntKind.i64 0] [(0,1),(1,1)] [(0,_),(1,_)] O O (fun _=>tK) (Vs 3 O (zrk 900 3 1 O (Vs 1 O (zrM (σ:=Nat × Value) [10] [] [] O (fun e ⟨q,u⟩=>(11,.int .i64 q)::(3,u)::e) (fun e ⟨q,u⟩=>(900,.row 3 1 u (km x q).length ((km x q).map zb))::e) (fun⟨q,u⟩=>q<=2) (fun⟨q,u⟩=>2 - q) (0,.slice none 0 0) j2 j3 j1 j1 j1 (ztC _) ?_)))));rintro⟨q,u⟩ hq;have hl:=zfc x q;refine Vs 6 O (zp4 O (fun lt=>?_) (fun lt=>?_))
 .
  have hY:q<2:=tO;have da:=zhL x hY;refine Vs 6 O (zqH O (fun w hI=>zsj tR169 ts3 tg3 O O tO (zn3 x hY)) (Vs 9 O (zp4 O (fun c=>?_) (fun c=>?_))))
  .
   rw[zty c]at da;refine Vs 3 O (zrP 18 [(0,_)] tR27 ts3 tz3 tS O O tK (fun b18=>?_));refine zrl 900 18 tu27 Tryz.el3 O tS O O tO tO (fun u900=>(Va 8 O tO (zrL 900 O (e':=.row 3 1 u900 (km x (q+1)).length ((km x (q+1)).map zb)) tD (V.back ⟨q+1,u900⟩ j2 j3 tO tD 0 O O))))
  rw[ztx c,zuF]at da;refine zrL 900 O (e':=.row 3 1 u (km x (q+1)).length ((km x (q+1)).map zb)) tD (Va 7 O tO (V.back ⟨q+1,u⟩ j2 j3 tO tD 0 O O))
 obtain rfl:q=2:=tO;refine Vs 12 O (zpl results76 O (fun w hI=>⟨_,rfl,zqa zb j9 (hI.at 900 O) (fun g hg=>hI.own 900 0 O O g hg),hI.k0⟩))
end Go.Proofs.YtckdhgbepmpgiaaGreat
namespace Go.GL
def zg3 (_ n:Nat) (us:List Value):List Value:=(List.replicate n us).flatten
theorem zdR {n:Nat} (h:us.length=k):(zg3 k n us).length=n*k:=by
 unfold zg3;induction n with
 | zero=>simp
 | succ n ih=>rw[zw1,zv7,ztv,ih,h,zwB];omega
theorem zgY {n:Nat} (h:us.length=k) (hi:i<n):((zg3 k n us).drop (i*k)).take k=us:=by
 unfold zg3;induction n generalizing i with
 | zero=>omega
 | succ n ih =>
  rw[zw1,zv7];cases i with
  | zero=>rw[Nat.zero_mul,List.drop_zero,List.take_left' h]
  | succ i=>rw[zwB,zwh,<- zuN,List.drop_left' h];exact ih tO
theorem zn4 {n:Nat} (h:us.length=k) (hj:j<n*k):(zg3 k n us)[j]?=us[j % k]?:=by
 have hk:0<k:=tD;have h1:=zgY h (i:=j / k) (n:=n) ((zwo hk).2 hj);have h2:us[j % k]?=(((zg3 k n us).drop (j / k*k)).take k)[j % k]?:=tD;rw[h2,zvl (zwv _ hk),zvc,Nat.mul_comm,zwn]
theorem zo6 {n:Nat} (hz:z.cells=us.toArray) (h:us.length=k):madeCells z.cells (n*k)=(zg3 k n us).toArray:=by
 rw[hz];apply Array.ext
 . simp[madeCells,zdR h]
 intro i h1 h2;have hi:i<n*k:=by simpa[madeCells] using h1
 have:=zn4 h (n:=n) hi;rw[ztn tO]at this;have hk:0<k:=tD;rw[ztn tD]at this;simp only[madeCells,List.getElem_toArray,List.size_toArray];have h3:=Option.some.inj this;rw[h3];simp[h,ztn (show i % k<us.length by grind)]
section
variable {n:Fm} {ty:TypeId} {ps:String} {g:Option (Nat × Bool)}
theorem zsH (is k j:Nat) {ts:TypeId} {x:Operand} {o:Nat} (da:∀ w,(sizeOf ts).run P w=.ok kk w) (hi:ops[is]?=some ⟨none,.store ts x y,ty,ps,aft,g⟩) (hr:Region.ready .any ops listed=[is])
  (hn:(gd ops env g,hget H k,ev env x,ev env y,L.contains is)=(some true,some (.own b cs e),some (.pointer (some ⟨b,o,none⟩)),some v,true)) (hv:v.cells=us.toArray) (hk:us.length=kk) (h1:∀ u ∈ us,u.oneCell'=true) (hj:o=j) (hl:j+kk<=cs.length)
  (h:VDx P n Q ks ops (VI B0 Hs) L fuel (listed.setIfInBounds is true) env A (hset H k (.own b (cs.take j++us++cs.drop (j+kk)) e)) Bs):VD P n Q ks ops Hs B0 L (fuel+1) listed env A H Bs:=by
 simp only[Prod.mk.injEq]at hn;subst hj;obtain⟨h2,h3,h4,h5,h6⟩:=hn;intro hH hA w hI;have hB:Blk w b cs e:=hI.at k h3;refine zs6 is hi hr h2 h6 (zpU da h4 h5 hv hk h1 hB hl) ?_;rintro w2 ⟨_,hY,db⟩;exact h (hA.set h3) w2 (hI.set h3 db hY trivial (fun _ h=>h) fun q hq=>⟨.inl hq,by have hq:q=b:=hq;rw[hq];exact hY.lt⟩)
end
section
variable {ty:TypeId} {pos:String} {g:Option (Nat × Bool)}
theorem M.bs0 (hu:∀ w,(underlying t).run P w=.ok (.slice e) w) (hs:∀ w,(sizeOf e).run P w=.ok k w) :
  yM P ⟨dst,.buildSlice t 0 #[],ty,pos,aft,g⟩ env w (fun u w'=>∃ b,u=.slice (some ⟨b,0,none⟩) 0 0/\New w [] e b w'):=by
 refine⟨.slice (some ⟨w.heap.size,0,none⟩) 0 0,w.alloc (.cells #[] e),?_,_,rfl,New.mk w [] e⟩;intro n a ha;have h0:Array.range 0=#[]:=Array.eq_empty_of_size_eq_zero tR;simp[execOp,Instr.buildSlice,hu,hs,newRow,Instr.fill,h0]
end
end Go.GL
namespace Go.Proofs.YtckdhgbepmpgiaaGreat
open Go.GL
theorem zgZ (vs:List Vr) (k:Int) (vv:Value) (D:Nat->Prop) (w:World) (du:SlR 5 RVr D w vv vs) (dJ:vs.length<=1000000):Calls prog 85 #[vv,.int .i64 k] w (Ret fun r w'=>SlR 5 RVr (fun b=>w.heap.size<=b) w' r (zf k vs)/\Ext w w'):=by
 obtain⟨av,nv,rfl⟩:=du.form;have dx:=du;have hE:=Keep.refl (fun _=>False) w;refine zqR func85 O ntmps85 O (Gs 7 O (G.mem O O (M.bs0 tR22 ts142) ?_));rintro _ w0 ⟨b0,rfl,dA,dB,dc,dg⟩;obtain⟨hE,du⟩:=Tr2 dg hE du;have dK:w0.ownsRow 0 142 5 (.slice (some ⟨b0,0,none⟩) 0 0) 0 []:=zG (k:=5) (n:=0) (cap:=0) dc (ztM _) tS rfl;refine Gs 10 O (G.loop (σ:=Nat × Value) (fun⟨i,vl⟩=>[(0,.slice av vs.length nv),(1,.int .i64 k),(5,vl),(6,.int .i64 i)]) (fun⟨i,vl⟩=>fun w'=>i<=vs.length/\w'.ownsRow 0 142 5 vl (zf k (vs.take i)).length ((zf k (vs.take i)).flatMap zgB)/\(∀ q,vl.ownBlock=some q->w.heap.size<=q)/\Ext w w') (fun⟨i,vl⟩=>vs.length - i) (0,.slice (some ⟨b0,0,none⟩) 0 0) j2 ⟨ztC _,dK,fun q hq=>by obtain rfl:b0=q:=Option.some.inj hq;omega,hE⟩ ?_);rintro⟨i,vl⟩ w2 ⟨hi,da,dC,dw⟩;have dy:=dx.ext yI dw;refine Gs 9 O (zp3 O (fun dL=>?_) (fun dL=>?_))
 .
  obtain⟨x,dh,dM⟩:=gE_ vs (i) tO;obtain⟨dN,dT,dU,dl,_,db,dm⟩:=dy.at dh;have dO:=RVr.one dm;obtain rfl:=dm;have dD:dN<_:=ztp _ _ (db 0 _ rfl);have dE:=qt (k:=k) dh;have dQ:=qn k (vs.take i);rw[ztR]at dQ;refine Gs 8 O (zqG O O (zpH tR22 ts142 O O dl tO) (Gs 1 O (zqK O tg100 (db 1 _ O) (Gs 4 O (zp3 O (fun dz=>?_) (fun dz=>?_))))))
  .
   rw[zty dz]at dE;refine Gs 4 O (zqG O O (zpH tR22 ts142 O O dl tO) (zqM O tg142 ts142 db O (G.mem O O (M.buildSlice (cs:=zgB x) [(0,_)] tR22 ts142 tz142 tS O tK) ?_)));rintro _ w5 ⟨b5,rfl,dF,dG,dr,hY⟩;have dt:=zj da hY (fun _ _ h=>h);have dH:=dw.ext hY;have dV:=dH.size;refine G.mem O O (M.append underlying22 Tryz.el142 O tS O O dt O (Cells.add dr.cells) (zgD _) tO tO) ?_;rintro vl' w6 ⟨dI,dR,dS,_⟩;refine Ga 9 O tO (G.back (i+1,vl') j2 ⟨tO,?_,?_,dH.trans dS (fun q hq h=>tD)⟩ tD)
   . grind
   grind
  rw[ztx dz,zuF]at dE;refine Ga 8 O tO (G.back (i+1,vl) j2 ⟨tO,tD,dC,dw⟩ tD)
 obtain rfl:i=vs.length:=tO;rw[zts]at da;refine Gs 12 O (zpk results85 O ⟨_,rfl,zqb tO zgB zgC J3 da dC,dw⟩)
end Go.Proofs.YtckdhgbepmpgiaaGreat
namespace Go.GL
theorem zh0 {f:FuncId} (k:Nat) {n:Nat} (h:Calls P f args w (Ret fun r w'=>w'.ownsRow 0 t kk r n cs/\(∀ g,r.ownBlock=some g->w.heap.size<=g)/\Ext w w')):Calls P f args w (Ret fun r w'=>∃ x:Value,r=x/\Hands H [] [(k,.row t kk x n cs)] w w'):=by
 refine Calls.mono h ?_;rintro e' w' ⟨r,rfl,h1,h2,h3⟩;refine⟨r,rfl,r,rfl,h3.mono fun q _ hq=>hq.elim,fun y hy=>?_,zvX _ _⟩;rw[ztF]at hy;subst hy;exact UW
end Go.GL
namespace Go.Proofs.YtckdhgbepmpgiaaGreat
open Go.GL
theorem zbg (l:List St):∀ (v:Value) (D:Nat->Prop) (w:World),SlR 10 RSt D w v l->ssize l<=1000000->Calls prog 66 #[v] w (Ret fun r w'=>r=.int .i64 (widL l)/\Ext w w'):=by
 induction l using zr3 with
 | h l ih =>
 intro v D w hl dI;have dt:=zan l;obtain⟨ao,cap,rfl⟩:=hl.form;refine zqQ func66 O ntmps66 O (V.inn (Vs 19 O (zrM (σ:=Nat) [6,7] [] [] O (fun e i=>(3,.int .i64 (widL (l.take i)))::(8,.int .i64 i)::e) (fun e i=>e) (fun i=>i<=l.length) (fun i=>l.length - i) 0 j2 j3 j1 j1 j1 (ztC _) ?_)));rintro i hi;refine Vs 6 O (zp4 O (fun dJ=>?_) (fun dK=>?_))
 .
  refine Vs 6 O (zrI 1000 0 i tO hl O O O (fun s dL dM dN hY da dg dh=>?_));obtain⟨du,dw,dx,dy,rfl,dl,db,dc,dm⟩:=dh.get;obtain⟨dz,dA,rfl⟩:=dl.form;obtain⟨dB,dC,rfl⟩:=db.form;obtain⟨dD,dE,rfl⟩:=dc.form;obtain⟨dF,dG,rfl⟩:=dm.form;refine zrg 1000 tR24 ts72 O dg tO _ rfl O ?_;have dO:=qs hY;have dQ:=s.size_eq;have dr:=s.wid_eq;have dR:=zbE hY;have dS:=xk l;have dH:=zao hY;have dT:=xk s.thn;have dU:=xk s.els;refine Vs 1 O (V.alloc 5 tz72 O O (fun b5=>?_));refine Vs 4 O (Vw [1000,5] [] O (Vd [0,1,2,5,6] 0 tK O O O (zrt 3 0 tc66 O tK O O (fun w hI=>(ih s da).1 _ D w iQ tO) (Vb [4] 0 tK O O O tO (zrt 7 0 tc66 O tK O O (fun w hI=>(ih s da).2 _ D w JK tO) (Vb [8,9,10] 0 tK O O O tO (VD.done tK (Vs 8 O (zp4 O (fun h4=>?_) (fun h4=>?_))))))))))
  .
   rw[zty h4]at dr;refine Va 11 O tO (V.back (i+1) Uf j3 tO tO 0 O O)
  rw[ztx h4]at dr;refine Va 7 O tO (V.back (i+1) Uf j3 tO tO 0 O O)
 obtain rfl:i=l.length:=tO;refine Vs 12 O (zrz 0 results66 O O tD)
theorem zsI {R:Rel α} {ao:Option Addr} {n:Nat} {l:List α} {x:α} (h:SlR k R D w (.slice ao n c) l) (hx:l[i]?=some x):SlR k R D w (.slice (if c=(i:Int).toNat then ao else ao.map (·.add ((i:Int).toNat*k))) (((i:Int)+1).toNat - (i:Int).toNat) (c - (i:Int).toNat)) [x]:=by
 have hi:=(ztB.1 hx).1;have h1:=(h.drop i tO).take 1 tD;rw[zbI hx]at h1;rw[ztJ,show ((i:Int)+1).toNat - i=1 by omega];exact h1
theorem zjm {vo':Value} {n:Nat} (hE:Ext w w1) (hf:∀ g,vo.ownBlock=some g->w.heap.size<=g) (hk:Keep (fun k=>vo.ownBlock=some k) w1 w2) (hY:vo'.ownBlock=vo.ownBlock\/∃ g,vo'.ownBlock=some g/\w1.heap.size<=g) (_:w1.ownsRow 0 65 4 vo n xs) :
  Ext w w2/\(∀ g,vo'.ownBlock=some g->w.heap.size<=g):=by
 refine⟨Keep.trans hE hk (fun k hk h=>tD),fun g hg=>?_⟩;rcases hY with h | ⟨g',h,h'⟩
 . grind
 rw[h]at hg;cases hg;have:=hE.size;omega
theorem zjn {n:Nat} (ho:w1.ownsRow 0 65 4 vo n xs) (hk:Keep (fun k=>vo.ownBlock=some k) w1 w2) (hb:Blk w1 c cs e) (he:e ≠ 65):Blk w2 c cs e :=
 hk.blk hb (fun h=>by obtain⟨cs',hY⟩:=xe ho h;exact he (hb.ty hY).1)
theorem zo7 (x:Nd):[x].flatMap xV=xV x:=tR
theorem zjo (l:List Nd):∀ u ∈ l.flatMap xV,u.oneCell'=true:=by
 intro u hu;obtain⟨x,_,hx⟩:=zvF.1 hu;exact jh x u hx
theorem jZ (l:List St):∀ a n e,(layL l a n e).length<=widL l:=by
 induction l using zr3 with
 | h l ih =>
 have key:∀ r:List St,(∀ x ∈ r,x ∈ l)->∀ a n e,(layL r a n e).length<=widL r:=by
  intro r;induction r with
  | nil=>intro _ a n e;simp[layL]
  | cons s r ihr =>
   intro hm a n e;have h1:=(ih s (hm s (ztr ..))).1;have h2:=(ih s (hm s (ztr ..))).2;have h3:=ihr (fun y hy=>hm y iq) (a+s.size) (n+s.wid) e;have hw:=s.wid_eq
   have h4:∀ a n e,(s.lay a n e).length<=s.wid:=by
    intro a n e;rw[s.lay_eq];split
    .
     rw[ztQ,ztv];have:=h1 (a+1) (n+1) e;have:=h2 (a+1+ssize s.thn) (n+1+widL s.thn) e;omega
    split
    .
     rename_i a4;rw[zty a4]at hw;have:=h1 (a+1) (n+2) (n+1);simp only[ztQ];omega
    simp;omega
   have:=h4 a n (if r.isEmpty=true then e else n+s.wid);rw[layL,ztv,widL];omega
 exact key l (fun x h=>h)
theorem zo8 {l:List α} (h:(0:Int)<(l.length:Int)):l.isEmpty=false:=tD
theorem zcf {l:List α} (h:¬ (0:Int)<(l.length:Int)):l.isEmpty=true:=by
 cases l
 . rfl
 grind
theorem zo9 (l:List St):∀ (v:Value) (D:Nat->Prop) (w:World) (at_ node after:Nat),SlR 10 RSt D w v l->ssize l<=10000->at_+ssize l<=100000->node+widL l<=100000->Calls prog 67 #[v,.int .i64 at_,.int .i64 node,.int .i64 after] w (Ret fun r w'=>w'.ownsRow 0 65 4 r (layL l at_ node after).length ((layL l at_ node after).flatMap xV)/\(∀ g,r.ownBlock=some g->w.heap.size<=g)/\Ext w w'):=by
 induction l using zr3 with
 | h l ih =>
 intro v D w at_ node after hl dS dT dx;have dy:=zan l;have dU:=xk l;obtain⟨av,cv,rfl⟩:=hl.form;have dz:=hl.len_cap.2;refine zqT func67 O ntmps67 O (V.inn (Vs 6 O (zrk 9 65 4 O (Vs 13 O (zrM (σ:=Nat × Value × List Nd) [0,3,17,18] [] [] O (fun e ⟨i,vo,pre⟩=>(1,.int .i64 (at_+ssize (l.take i):Nat))::(2,.int .i64 (node+widL (l.take i):Nat))::(9,vo)::(19,.int .i64 i)::e) (fun e ⟨i,vo,pre⟩=>(9,.row 65 4 vo pre.length (pre.flatMap xV))::e) (fun⟨i,vo,pre⟩=>i<=l.length/\pre.length<=widL (l.take i)/\pre++layL (l.drop i) (at_+ssize (l.take i)) (node+widL (l.take i)) after=layL l at_ node after) (fun⟨i,vo,pre⟩=>l.length - i) (0,_,[]) j2 j3 j1 j1 j1 ⟨ztC _,tR,by simp[ssize,widL]⟩ ?_)))));rintro⟨i,vo,pre⟩ ⟨hi,dV,db⟩;change V _ _ _ _ _ ((1,.int .i64 (at_+ssize (l.take i):Nat))::(2,.int .i64 (node+widL (l.take i):Nat))::(9,vo)::(19,.int .i64 i)::_) _ ((9,.row 65 4 vo pre.length (pre.flatMap xV))::_) _;refine Vs 6 O (zp4 O (fun dW=>?_) (fun dX=>?_))
 .
  refine Vs 7 O (zrI 1000 0 i tO hl O O O (fun s dY dZ d5 hY dc dh dl=>?_));obtain⟨dA,dB,dC,dD,rfl,dm,da,dg,dr⟩:=dl.get;obtain⟨dE,dF,rfl⟩:=dm.form;obtain⟨dG,dH,rfl⟩:=da.form;obtain⟨dI,dJ,rfl⟩:=dg.form;obtain⟨dK,dL,rfl⟩:=dr.form;refine zrg 1000 tR24 ts72 O dh tO _ rfl O ?_;have d6:=zao hY;have d7:=zbE hY;have d8:=qs hY;have d9:=zam hY;have dt:=s.wid_eq;have eb:=s.size_eq;have dM:=xk s.thn;have dN:=xk s.els;rw[zbI hY,layL]at db;generalize hA:at_+ssize (l.take i)=A at *;generalize hN:node+widL (l.take i)=N at *;have dO:widL [s]=s.wid:=by simp[widL]
  have dQ:ssize [s]=s.size:=by simp[ssize]
  refine Vs 1 O (V.alloc 11 tz72 O O (fun b11=>?_));refine Va 11 O tO (zqH O (fun w hI=>zpM tR24 ts72 O O O tO tO) (zrs tc66 O (fun w hI=>zbg [s] _ D w (zsI (Tr1 hI.k0 hl) hY) tO) ?_));rw[dO];refine Va 20 O tO (zrN (σ:=Unit) [0,1,2,3,9,10,11,12,17,18,19] [9,11] [11] O (fun e u=>(13,.int .i64 (if (l.drop (i+1)).isEmpty then after else N+s.wid:Nat))::e) (fun e u=>e) (fun u=>True) j1 j1 ?_ ?_)
  .
   refine zp4 O (fun dR=>?_) (fun dR=>?_)
   . refine Vs 4 O (zpi () (Sub.cons (qg O (by rw[zty (by rw[zvp,List.drop_eq_nil_iff];omega)])) j2) j3 trivial 0 O O)
   refine Vs 1 O (zpi () (Sub.cons (qg O (by rw[ztx (by rw[zvp,List.drop_eq_nil_iff];omega)];omega)) j2) j3 trivial 0 O O)
  rintro u _;generalize hX:(if (l.drop (i+1)).isEmpty then after else N+s.wid)=X at *;refine Vs 9 O (zrN (σ:=Value) [0,1,3,10,12,17,18,19] [] [] O (fun e vo2=>(9,vo2)::e) (fun e vo2=>(9,.row 65 4 vo2 (pre++s.lay A N X).length ((pre++s.lay A N X).flatMap xV))::e) (fun vo2=>(pre++s.lay A N X).length<=widL (l.take (i+1))) j1 j1 ?_ ?_)
  .
   refine Vs 6 O (zp4 O (fun a3=>?_) (fun a3=>?_))
   .
    rw[ztx i3]at dt;refine Vs 17 O (zrN (σ:=Unit) [0,1,2,3,9,10,11,12,13,15,17,18,19] [9,11] [11] O (fun e u=>(14,.int .i64 (if s.thn.isEmpty then X else N+1:Nat))::e) (fun e u=>e) (fun u=>True) j1 j1 ?_ ?_)
    .
     refine zp4 O (fun g1=>?_) (fun g1=>?_)
     . refine Va 5 O tO (zpi () (Sub.cons (qg O tD) j2) j3 trivial 0 O O)
     refine Vs 1 O (zpi () Ux j3 trivial 0 O O)
    rintro u _;refine Vs 10 O (zrN (σ:=Unit) [0,1,2,3,9,10,11,12,13,14,17,18,19] [9,11] [11] O (fun e u=>(15,.int .i64 (if s.els.isEmpty then X else N+1+widL s.thn:Nat))::e) (fun e u=>e) (fun u=>True) j1 j1 ?_ ?_)
    .
     refine zp4 O (fun g1=>?_) (fun g1=>?_)
     . refine Va 5 O tO (zrs tc66 O (fun w hI=>zbg s.thn _ D w iT tO) (Va 3 O tO (zpi () (Sub.cons (qg O tD) j2) j3 trivial 0 O O)))
     refine Vs 1 O (zpi () Ux j3 trivial 0 O O)
    rintro u _
    have e5:s.lay A N X=⟨3,A,(if s.thn.isEmpty then X else N+1:Nat),(if s.els.isEmpty then X else N+1+widL s.thn:Nat)⟩::(layL s.thn (A+1) (N+1) X++layL s.els (A+1+ssize s.thn) (N+1+widL s.thn) X):=by
     rw[s.lay_eq,zty a3];simp[apply_ite (Nat.cast (R:=Int))]
    generalize (if s.thn.isEmpty then X else N+1)=Y at *;generalize (if s.els.isEmpty then X else N+1+widL s.thn)=Z at *;have h8:=jZ s.thn (A+1) (N+1) X;have h9:=jZ s.els (A+1+ssize s.thn) (N+1+widL s.thn) X;refine Vs 7 O (zrW [Value.int IntKind.i64 0,Value.int IntKind.i64 0,Value.int IntKind.i64 0,Value.int IntKind.i64 0] [(0,1),(1,1),(2,1),(3,1)] [(0,_),(1,_),(2,_),(3,_)] O O (fun _=>tK) (zrP 72 [(0,_)] tR34 ts65 tz65 tS O O tK (fun b72=>?_)));refine zrl 9 72 tu34 Tryz.el65 O tS O O tO tO (fun u9=>(Vs 4 O (zrL 9 O (e':=.row 65 4 u9 (pre++[(⟨3,A,Y,Z⟩:Nd)]).length ((pre++[(⟨3,A,Y,Z⟩:Nd)]).flatMap xV)) (by simp[xV]) ?_)));have du:(pre++[(⟨3,A,Y,Z⟩:Nd)]).length=pre.length+1:=tR;refine Va 9 O tO (zsf [] (Hn:=fun x:Value=>[(901,.row 65 4 x (layL s.thn (A+1) (N+1) X).length ((layL s.thn (A+1) (N+1) X).flatMap xV))]) [(11,some (11,0)),(75,some (11,7))] call67 O j9 j1 (fun w hI=>zh0 901 ((ih s dc).1 _ D w (A+1) (N+1) X iT tO tO tO)) ?_);rintro _ r901 rfl;refine zrS 9 xV zN jh (fun _ _ _ _ h=>h) tu34 Tryz.el65 O tS O (fun w hI=>⟨_,zqb (R:=RNd) (D:=fun _=>True) tO xV zN (fun x _=>rfl) (hI.at 901 O) (fun _ _=>trivial)⟩) tO tO (fun u9=>(Vs 3 O (Vw [11,72] [] O (Vb [0,1,2,3,4,5,6,9,10,11,12,15] 0 tK O O O tO (zrt 7 0 call56 O tK O O (fun w hI=>zcM s.thn _ D w iT tO) (Vb [8] 0 tK O O O tO (zrt 13 0 tc66 O tK O O (fun w hI=>zbg s.thn _ D w iT tO) ?_)))))));refine Vb [14] 0 tK O O O tO (zsg 16 0 [] (Hn:=fun x:Value=>[(902,.row 65 4 x (layL s.els (A+1+ssize s.thn) (N+1+widL s.thn) X).length ((layL s.els (A+1+ssize s.thn) (N+1+widL s.thn) X).flatMap xV))]) [(11,some (11,0)),(75,some (11,7)),(85,some (11,8)),(89,some (11,7)),(95,some (11,7))] call67 O tK O O j1 j9 j1 (fun w hI=>zh0 902 ((ih s dc).2 _ D w (A+1+ssize s.thn) (N+1+widL s.thn) X il tO tO tO)) ?_);rintro _ r902 rfl;refine zrT 17 9 0 xV zN jh (fun _ _ _ _ h=>h) tu34 Tryz.el65 O tS O tK O O (fun w hI=>⟨_,zqb (R:=RNd) (D:=fun _=>True) tO xV zN (fun x _=>rfl) (hI.at 902 O) (fun _ _=>trivial)⟩) tO tO (fun u9=>(Vd [18] 0 tK O O O (VD.done tK (zrL 9 O (e':=.row 65 4 u9 (pre++s.lay A N X).length ((pre++s.lay A N X).flatMap xV)) tD ?_))));refine zpi _ j2 j3 tD 0 O O
   refine Vs 6 O (zp4 O (fun a4=>?_) (fun a4=>?_))
   .
    rw[zty a4]at dt;refine Va 16 O tO (zrN (σ:=Unit) [0,1,2,3,9,10,11,12,13,17,18,19] [9,11] [11] O (fun e u=>(16,.int .i64 (if s.thn.isEmpty then N+1 else N+2:Nat))::e) (fun e u=>e) (fun u=>True) j1 j1 ?_ ?_)
    .
     refine zp4 O (fun g1=>?_) (fun g1=>?_)
     . refine Va 5 O tO (zpi () (Sub.cons (qg O tD) j2) j3 trivial 0 O O)
     refine Vs 1 O (zpi () Ux j3 trivial 0 O O)
    rintro u _
    have e5:s.lay A N X=⟨4,A,(N+1:Nat),-1⟩::⟨5,A,(if s.thn.isEmpty then N+1 else N+2:Nat),X⟩::layL s.thn (A+1) (N+2) (N+1):=by
     rw[s.lay_eq,ztx a3,zty a4];simp[apply_ite (Nat.cast (R:=Int))]
    generalize (if s.thn.isEmpty then N+1 else N+2)=Y at *;have h8:=jZ s.thn (A+1) (N+2) (N+1);refine Va 7 O tO (zrW [Value.int IntKind.i64 0,Value.int IntKind.i64 0,Value.int IntKind.i64 0,Value.int IntKind.i64 0] [(0,1),(1,1),(2,1),(3,1)] [(0,_),(1,_),(2,_),(3,_)] O O (fun _=>tK) (Vs 3 O (zrW [Value.int IntKind.i64 0,Value.int IntKind.i64 0,Value.int IntKind.i64 0,Value.int IntKind.i64 0] [(0,1),(1,1),(2,1),(3,1)] [(0,_),(1,_),(2,_),(3,_)] O O (fun _=>tK) (zrP 121 [(0,_),(1,_)] tR34 ts65 tz65 tS O O tK (fun b121=>?_)))));refine zrl 9 121 tu34 Tryz.el65 O tS O O tO tO (fun u9=>(Vs 3 O (zrL 9 O (e':=.row 65 4 u9 (pre++[(⟨4,A,(N+1:Nat),-1⟩:Nd),⟨5,A,Y,X⟩]).length ((pre++[(⟨4,A,(N+1:Nat),-1⟩:Nd),⟨5,A,Y,X⟩]).flatMap xV)) (by simp[xV]) ?_)));have du:(pre++[(⟨4,A,(N+1:Nat),-1⟩:Nd),⟨5,A,Y,X⟩]).length=pre.length+2:=tR;refine Va 10 O tO (zsf [] (Hn:=fun x:Value=>[(901,.row 65 4 x (layL s.thn (A+1) (N+2) (N+1)).length ((layL s.thn (A+1) (N+2) (N+1)).flatMap xV))]) [(11,some (11,0)),(124,some (11,7))] call67 O j9 j1 (fun w hI=>zh0 901 ((ih s dc).1 _ D w (A+1) (N+2) (N+1) iT tO tO tO)) ?_);rintro _ r901 rfl;refine zrS 9 xV zN jh (fun _ _ _ _ h=>h) tu34 Tryz.el65 O tS O (fun w hI=>⟨_,zqb (R:=RNd) (D:=fun _=>True) tO xV zN (fun x _=>rfl) (hI.at 901 O) (fun _ _=>trivial)⟩) tO tO (fun u9=>(Vs 2 O (zrL 9 O (e':=.row 65 4 u9 (pre++s.lay A N X).length ((pre++s.lay A N X).flatMap xV)) (by rw[e5];simp[xV]<;>omega) ?_)));refine zpi _ j2 j3 (by rw[e5];simp;omega) 0 O O
   rw[ztx a4]at dt;have e5:s.lay A N X=[⟨2,A,X,-1⟩]:=by rw[s.lay_eq,ztx a3,ztx a4]
   refine Vs 4 O (zrW [Value.int IntKind.i64 0,Value.int IntKind.i64 0,Value.int IntKind.i64 0,Value.int IntKind.i64 0] [(0,1),(1,1),(2,1),(3,1)] [(0,_),(1,_),(2,_),(3,_)] O O (fun _=>tK) (zrP 45 [(0,_)] tR34 ts65 tz65 tS O O tK (fun b45=>?_)));refine zrl 9 45 tu34 Tryz.el65 O tS O O tO tO (fun u9=>(Vs 2 O (zrL 9 O (e':=.row 65 4 u9 (pre++s.lay A N X).length ((pre++s.lay A N X).flatMap xV)) (by rw[e5];simp[xV]<;>omega) ?_)));refine zpi _ j2 j3 (by rw[e5];simp;omega) 0 O O
  rintro vo2 dw;refine Va 9 O tO (zqH O (fun w hI=>zpM tR24 ts72 O O O tO tO) (zrs call56 O (fun w hI=>zcM [s] _ D w (zsI (Tr1 hI.k0 hl) hY) (by simp only[ssize];omega)) ?_));rw[dQ];refine Va 14 O tO (V.back ⟨i+1,vo2,pre++s.lay A N X⟩ (Sub.cons (qg O tO) (Sub.cons (qg O tO) (Sub.cons rfl YB))) j3 ⟨tO,dw,by rw[<- db,zuE,show at_+ssize (l.take (i+1))=A+s.size by omega,show node+widL (l.take (i+1))=N+s.wid by omega]⟩ tZ 0 O O)
 obtain rfl:i=l.length:=tO;rw[zuP,layL,zuF]at db;refine Vs 12 O (zpl results67 O (fun w hI=>⟨_,rfl,by rw[<- db];exact hI.at 9 rfl,fun g hg=>(hI.inS 0 9 O O hg).1.elim False.elim id,hI.k0⟩))
theorem zg4 (f:Fl) (v1 v2 v3:Value) (D:Nat->Prop) (w:World) (hf:RFl D w f v1 v2 v3) (dE:ssize f.body<=10000) :
  Calls prog 33 #[.agg #[v1,v2,v3]] w (Ret fun r w'=>(∃ nv,r=.agg #[nv]/\SlR 4 RNd (fun b=>w.heap.size<=b) w' nv (zd f))/\Ext w w'):=by
 have dW:=xk f.body;have dX:=jZ f.body 0 1 (1+widL f.body);refine zqQ func33 O ntmps33 O (Gs 2 O (G.mem O O (M.box O O) ?_));rintro _ w1 ⟨c,rfl,hc,dY,da,dF⟩;refine G.mem O O (M.alloc (cs:=[.slice none 0 0]) tz36 O) ?_;rintro _ w2 ⟨r,rfl,hr,dZ,hY,dx⟩;replace da:=dx.blk da (fun h=>h);have dy:=dF.ext dx;refine Gs 5 O (zqK O tg24 (da.cells 2 _ O) (G.call O tc66 (zbg f.body _ D w2 (hf.body.ext zg dy) tO) ?_));rintro _ w3 ⟨rfl,dc⟩;replace da:=dc.blk da (fun h=>h);replace hY:=dc.blk hY (fun h=>h);have dz:=dy.ext dc;refine Ga 6 O tO (zqG O O (R.build (v:=.agg #[.int .i64 0,.int .i64 (-1),.int .i64 1,.int .i64 (-1)]) [(0,_),(1,_),(2,_),(3,_)] O (fun _=>tK)) (G.mem O O (M.buildSlice (cs:=xV ⟨0,-1,1,-1⟩) [(0,_)] tR34 ts65 tz65 tS O tK) ?_));rintro _ w4 ⟨g4,rfl,d5,d6,dG,dg⟩;replace da:=dg.blk da (fun h=>h);replace hY:=dg.blk hY (fun h=>h);have dA:=dz.ext dg;have dH:w4.ownsRow 0 65 4 (.slice (some ⟨g4,0,none⟩) 1 1) 1 (xV ⟨0,-1,1,-1⟩):=zG (k:=4) (n:=1) (cap:=1) dG (ztM _) tS rfl
 have dI:∀ g,Value.ownBlock (.slice (some ⟨g4,0,none⟩) 1 1)=some g->w.heap.size<=g:=fun g hg=>by
  obtain rfl:g4=g:=Option.some.inj hg;have:=dz.size;omega
 refine Gs 7 O (zqK O tg24 (da.cells 2 _ O) (Gs 1 O (G.call O call67 (zo9 f.body _ D w4 0 1 (1+widL f.body) (hf.body.ext zg dA) dE tO tO) ?_)));rintro r5 w5 ⟨dJ,dK,dh⟩;replace hY:=dh.blk hY (fun h=>h);have dL:=dA.ext dh;have dl:=zj dH dh (fun _ _ h=>h);refine G.mem O O (zr0 tu34 Tryz.el65 O tS O O dl dJ (zjo _) tO tO) ?_;rintro v6 w6 ⟨dM,dN,dB⟩;obtain⟨dO,dm⟩:=zjm dL dI dB dN dl;replace hY:=zjn dl dB hY tS;refine Gs 6 O (zqG O O (R.build (v:=.agg #[.int .i64 1,.int .i64 (-1),.int .i64 (-1),.int .i64 (-1)]) [(0,_),(1,_),(2,_),(3,_)] O (fun _=>tK)) (G.mem O O (M.buildSlice (cs:=xV ⟨1,-1,-1,-1⟩) [(0,_)] tR34 ts65 tz65 tS O tK) ?_));rintro _ w7 ⟨g7,rfl,d7,d8,dQ,dr⟩;replace hY:=dr.blk hY (fun h=>h);have dR:=dO.ext dr;have dt:=zj dM dr (fun _ _ h=>h);refine G.mem O O (M.append tu34 Tryz.el65 O tS O O dt O (Cells.add dQ.cells) (jh _) tO tO) ?_;rintro v8 w8 ⟨du,dS,dC,_⟩;obtain⟨dT,dw⟩:=zjm dR dm dC dS dt;replace hY:=zjn dt dC hY tS;obtain⟨av,cv,rfl⟩:=zI du;refine zqG O O (R.build (v:=.agg #[.slice av (1+(layL f.body 0 1 (1+widL f.body)).length+1) cv]) [(0,_)] O (fun _=>tK)) (zpT O (zpU ts36 O O O O tY hY tR) ?_);rintro wf ⟨_,dU,dD⟩
 have db:=zj du dD (fun g hg h=>by
  obtain⟨cs',dV⟩:=xe du hg
  exact dV.ne hY tS h)
 refine Gs 3 O (zpt results33 O (kH tg36 ts36 O dU.cells) ?_);refine⟨_,rfl,⟨_,rfl,?_⟩,dT.trans dD (fun q hq h=>tO)⟩;refine zqb tS xV zN j9 (n:=1+(layL f.body 0 1 (1+widL f.body)).length+1) (e:=65) ?_ dw;unfold zd;rw[zv4,zv3,zo7,<- zuE];exact db
def InE (ns:List Nd) (n e1 e2:Nat):Prop:=∀ x ∈ ns,∀ to,to=x.next\/to=x.other->to=-1\/to=(e1:Int)\/to=(e2:Int)\/((n:Int)<=to/\to<(n+ns.length:Nat))
structure LoopAt (ns:List Nd) (n j:Nat) (y:Nd) (E:Nat):Prop where
 pos:0<j
 lt:n+j<E
 le:E<=n+ns.length
 out:y.other<((n+j:Nat):Int)\/(E:Int)<=y.other
 only:∀ (i:Nat) x,ns[i]?=some x->∀ to,to=x.next\/to=x.other->((n+j:Nat):Int)<=to->to<(E:Int)->(j<=i/\n+i<E)\/(i+1=j/\x.kind=4/\to=((n+j:Nat):Int))
def Loops (ns:List Nd) (n:Nat):Prop:=∀ (j:Nat) y,ns[j]?=some y->y.kind=5->∃ E,LoopAt ns n j y E
theorem InE.append {A:List Nd} {n g1 g2:Nat} (hA:InE A n e1 e2) (hB:InE B (n+A.length) f1 f2) (he:∀ e,e=e1\/e=e2->e=g1\/e=g2\/n+A.length<=e/\e<n+A.length+B.length) (hf:∀ e,e=f1\/e=f2->e=g1\/e=g2\/n<=e/\e<n+A.length):InE (A++B) n g1 g2:=by
 intro x hx to h;rw[ztv];have p1:=he e1 (.inl rfl);have p2:=he e2 (.inr rfl);have q1:=hf f1 (.inl rfl);have q2:=hf f2 (.inr rfl);rcases ztG.1 hx with hx | hx
 .
  have:=hA x hx to h;omega
 have:=hB x hx to h;omega
theorem Loops.append {A:List Nd} {n:Nat} (lA:Loops A n) (lB:Loops B (n+A.length)) (hA:InE A n e1 e2) (hB:InE B (n+A.length) f1 f2) (h1:∀ e,e=e1\/e=e2->e<=n+A.length\/n+A.length+B.length<=e) (h2:∀ e,e=f1\/e=f2->e<n\/n+A.length+B.length<=e):Loops (A++B) n:=by
 have p1:=h1 e1 (.inl rfl);have p2:=h1 e2 (.inr rfl);have q1:=h2 f1 (.inl rfl);have q2:=h2 f2 (.inr rfl);intro j y hy hk;by_cases hj:j<A.length
 .
  rw[ztN hj]at hy;obtain⟨E,p1,p2,p3,p4,p5⟩:=lA j y hy hk;refine⟨E,p1,p2,tD,p4,fun i x hx to h hl hu=>?_⟩;by_cases hi:i<A.length
  .
   rw[ztN hi]at hx;exact p5 i x hx to h hl hu
  rw[ztO tO]at hx;have:=hB x (zto hx) to h;omega
 rw[ztO tO]at hy;obtain⟨E,p1,p2,p3,p4,p5⟩:=lB _ y hy hk;refine⟨E,tO,tO,tD,tO,fun i x hx to h hl hu=>?_⟩;by_cases hi:i<A.length
 .
  rw[ztN hi]at hx;have:=hA x (zto hx) to h;omega
 rw[ztO tO]at hx;rcases p5 _ x hx to h tO hu with h | h
 . omega
 omega
theorem zsJ {n:Nat} (h:x.kind ≠ 5):Loops [x] n:=by
 intro j y hy hk
 grind
theorem qh {l:List St} (h:l.isEmpty=false):1<=widL l:=by
 cases l with
 | nil=>simp at h
 | cons s t=>have:=s.wid_eq;simp only[widL];omega
theorem zjp (l:List St):plainL l=true->∀ a n e:Nat,(e<n\/n+widL l<=e)->InE (layL l a n e) n e e/\Loops (layL l a n e) n:=by
 induction l using zr3 with
 | h l ih =>
 intro hp
 have key:∀ r:List St,(∀ x ∈ r,x ∈ l)->∀ a n e:Nat,(e<n\/n+widL r<=e)->InE (layL r a n e) n e e/\Loops (layL r a n e) n:=by
  intro r;induction r with
  | nil=>intro _ a n e _;exact⟨fun x hx=>by simp[layL]at hx,fun j y hy=>by simp[layL]at hy⟩
  | cons s r ihr =>
   intro hm a n e db;have hs:=yV hp s (hm s (ztr ..));have hr:plainL r=true:=zbG fun y hy=>yV hp y (hm y iq);have dc:=hs;rw[s.plainB_eq,zu8,zu8]at hs;have h1:=(ih s (hm s (ztr ..))).1 hs.1.2;have h2:=(ih s (hm s (ztr ..))).2 hs.2;have hw:=s.wid_eq;simp only[widL]at db;have dr:=zB r hr (a+s.size) (n+s.wid) e
   have hY:(s.lay a n (if r.isEmpty then e else n+s.wid)).length=s.wid:=by
    have h1:=zB [s] (by rw[plainL,dc];rfl) a n (if r.isEmpty then e else n+s.wid);simpa[layL,widL] using h1
   obtain⟨r1,r2⟩:=ihr (fun y hy=>hm y iq) (a+s.size) (n+s.wid) e tO;rw[layL]
   have dg:(if r.isEmpty then e else n+s.wid)=e\/(if r.isEmpty then e else n+s.wid)=n+s.wid/\1<=widL r:=by
    cases hre:r.isEmpty
    . exact .inr ⟨tR,qh hre⟩
    grind
   generalize (if r.isEmpty then e else n+s.wid)=e' at hY dg;have dh:e'<n\/n+s.wid<=e':=tO
   have hS:InE (s.lay a n e') n e' e'/\Loops (s.lay a n e') n:=by
    rw[s.lay_eq]at hY ⊢;split
    .
     rename_i a3;rw[zty a3]at hY;rw[ztx i3]at hw;obtain⟨t1,t2⟩:=h1 (a+1) (n+1) e' tO;obtain⟨u1,u2⟩:=h2 (a+1+ssize s.thn) (n+1+widL s.thn) e' tO;have da:=zB s.thn hs.1.2 (a+1) (n+1) e';have dl:=zB s.els hs.2 (a+1+ssize s.thn) (n+1+widL s.thn) e';generalize hb:layL s.thn (a+1) (n+1) e'=B at t1 t2 da ⊢;generalize hc:layL s.els (a+1+ssize s.thn) (n+1+widL s.thn) e'=C at u1 u2 dl ⊢
     have hT:∀ m1 m2:Nat,m1=(if s.thn.isEmpty then e' else n+1)->m2=(if s.els.isEmpty then e' else n+1+widL s.thn)->InE [(⟨3,a,if s.thn.isEmpty then (e':Int) else (n+1:Nat),if s.els.isEmpty then (e':Int) else (n+1+widL s.thn:Nat)⟩:Nd)] n m1 m2/\(m1=e'\/m1=n+1/\1<=widL s.thn)/\(m2=e'\/m2=n+1+widL s.thn/\1<=widL s.els):=by
      rintro m1 m2 rfl rfl;refine⟨fun x hx to h=>?_,?_,?_⟩
      . grind
      .
       cases ht:s.thn.isEmpty
       . exact .inr ⟨tR,qh ht⟩
       grind
      cases ht:s.els.isEmpty
      . exact .inr ⟨tR,qh ht⟩
      grind
     obtain⟨k1,k2,k3⟩:=hT _ _ rfl rfl;generalize (if s.thn.isEmpty then e' else n+1)=m1 at k1 k2;generalize (if s.els.isEmpty then e' else n+1+widL s.thn)=m2 at k1 k3;generalize dt:(⟨3,a,if s.thn.isEmpty then (e':Int) else (n+1:Nat),if s.els.isEmpty then (e':Int) else (n+1+widL s.thn:Nat)⟩:Nd)=x0 at k1 ⊢;have k0:x0.kind ≠ 5:=tD;have s1:InE ([x0]++B) n e' m2:=InE.append k1 t1 tD tO;have s2:Loops ([x0]++B) n:=Loops.append (zsJ k0) t2 k1 t1 tD tD;have du:([x0]++B).length=1+widL s.thn:=tD;have u1':InE C (n+([x0]++B).length) e' e':=tD;have u2':Loops C (n+([x0]++B).length):=tD;exact⟨InE.append s1 u1' tO tO,Loops.append s2 u2' s1 u1' tO tO⟩
    rename_i a3;split
    .
     rename_i a4;rw[ztx a3,zty a4]at hY;rw[zty a4]at hw;obtain⟨t1,t2⟩:=h1 (a+1) (n+2) (n+1) tO;have da:=zB s.thn hs.1.2 (a+1) (n+2) (n+1)
     have dm:(if s.thn.isEmpty then ((n+1:Nat):Int) else (n+2:Nat))=(n+1:Nat)\/(if s.thn.isEmpty then ((n+1:Nat):Int) else (n+2:Nat))=(n+2:Nat)/\1<=widL s.thn:=by
      cases ht:s.thn.isEmpty
      . exact .inr ⟨tR,qh ht⟩
      grind
     generalize layL s.thn (a+1) (n+2) (n+1)=B at t1 t2 da hY ⊢;generalize (if s.thn.isEmpty then ((n+1:Nat):Int) else (n+2:Nat))=m at dm ⊢;refine⟨fun x hx to h=>?_,fun j y hy hk=>?_⟩
     .
      rw[ztQ,ztQ,da];rcases ztD.1 hx with rfl | hx
      . grind
      rcases ztD.1 hx with rfl | hx
      . grind
      have:=t1 x hx to h;rw[da]at this;omega
     match j with
     | 0=>simp at hy;subst hy;cases hk
     | 1 =>
      simp at hy;subst hy;refine⟨n+2+widL s.thn,tO,tO,tD,tD,fun i x hx to h hl hu=>?_⟩
      match i with
      | 0=>simp at hx;subst hx;dsimp only at h;exact .inr ⟨rfl,rfl,tO⟩
      | i+1 =>
       have:=(ztB.1 hx).1;rw[ztQ,ztQ,da]at this;exact .inl tO
     | j+2 =>
      rw[zva,zva]at hy;obtain⟨E,p1,p2,p3,p4,p5⟩:=t2 j y hy hk;rw[da]at p3;refine⟨E,tO,tO,tD,tO,fun i x hx to h hl hu=>?_⟩
      match i with
      | 0=>simp at hx;subst hx;dsimp only at h;omega
      | 1=>simp at hx;subst hx;dsimp only at h;omega
      | i+2 =>
       rw[zva,zva]at hx;rcases p5 i x hx to h tO hu with h | h
       . omega
       omega
    rename_i a4;refine⟨fun x hx to h=>?_,zsJ (fun h=>tD)⟩;rw[ztF]at hx;subst hx;dsimp only at h;omega
   exact⟨InE.append hS.1 (by rw[hY];exact r1) tO tO,Loops.append hS.2 tD hS.1 (by rw[hY];exact r1) tO tO⟩
 exact key l (fun x h=>h)
theorem zn5 (f:Fl) (hs:List Int) (x:Nd) (s:St) (σ:Sg) (rd:Int->Int):(xt f hs x s σ rd).1=x.next\/(xt f hs x s σ rd).1=x.other:=by
 unfold xt;split
 . exact .inl O
 split
 . exact .inl O
 split
 . exact .inl O
 split
 . exact .inr O
 dsimp only;split
 . exact .inl O
 exact .inr O
structure OnWalk (f:Fl) (r:Ins) (K i:Nat) (n:Nat) (x:Nd):Prop where
 at_:(xi f r i).at_=(n:Int)
 nd:(zd f)[n]?=some x
 go:i<K->xi f r (i+1)=⟨(xt f (yk f r) x (yp f x.at_) (xi f r i).σ (xi f r i).rd).1,(xt f (yk f r) x (yp f x.at_) (xi f r i).σ (xi f r i).rd).2.1,(xt f (yk f r) x (yp f x.at_) (xi f r i).σ (xi f r i).rd).2.2⟩/\(x.kind=0\/x.kind=2\/x.kind=3\/x.kind=4\/x.kind=5)
 fin:i=K->n+1=(zd f).length/\x.kind=1
theorem zjq (vd:Valid f) (hg:GoesAll f r K) (hi:i<=K):∃ n x,OnWalk f r K i n x:=by
 have hY:=yD f vd.plain;rcases zwt i K with h | h
 .
  have h3:0<=(xi f r i).at_/\(xi f r i).at_<((zd f).length:Int) - 1:=by
   obtain⟨_,_,h2⟩:=hg
   grind
  obtain⟨h4,h5⟩:=vd.node h3.1 h3.2;refine⟨(xi f r i).at_.toNat,_,tO,h4,fun _=>⟨?_,h5.kind⟩,fun h'=>tO⟩;rw[show xi f r (i+1)=kg f (yk f r) (zd f) (xi f r i) from zcV _ _ _ _ _];rfl
 obtain rfl:i=K:=tO;obtain⟨_,h1,_⟩:=hg;have da:xi f r i=_:=h1;refine⟨(zd f).length - 1,⟨1,-1,-1,-1⟩,tD,?_,fun h'=>tO,fun _=>⟨tO,rfl⟩⟩;obtain⟨x,hx⟩:∃ x,(zd f)[(zd f).length - 1]?=some x:=iA;rw[hx,(zn0 vd hx).1 tO]
theorem zn6 (vd:Valid f) (hg:GoesAll f r K):1<=K/\K<=8193:=by
 obtain⟨K',rd',hK,hY⟩:=vd.walk (yk f r) (zhG f r);obtain rfl:=hg.unique ⟨rd',hY⟩;refine⟨?_,hK⟩;cases K with
 | zero =>
  obtain⟨_,h1,_⟩:=hg;have da:xi f r 0=_:=h1;have h2:(xi f r 0).at_=((zd f).length:Int) - 1:=tD;have h3:(xi f r 0).at_=0:=rfl;have:=yD f vd.plain;omega
 | succ K=>omega
theorem Valid.away (V:Valid f) (hx:(zd f)[i]?=some x):(∀ to,to=x.next\/to=x.other->to=-1\/1<=to)/\(x.kind=0->i=0):=by
 obtain⟨k1,_⟩:=zjp f.body V.plain 0 1 (1+widL f.body) (.inr (ztM _));unfold zd at hx;cases i with
 | zero=>simp at hx;subst hx;exact⟨fun to h=>tD,fun _=>rfl⟩
 | succ i =>
  rw[zva]at hx;rcases ztG.1 (zto hx) with hm | hm
  .
   refine⟨fun to h=>by have:=k1 x hm to h;omega,fun h=>?_⟩;have:=za5 _ _ _ _ x hm;omega
  grind
def edk (x:Nd) (k:Nat):Int:=if k=0 then x.next else x.other
theorem zn7 (h:Blk w b [.int .i64 x.next,.int .i64 x.other] e) (hk:k<2):w.cell? ⟨b,0+(k:Int).toNat*1,none⟩=some (.int .i64 (edk x k)):=by
 have h0:=Blk.cells h 0 _ rfl;have h1:=Blk.cells h 1 _ rfl;rcases (show k=0\/k=1 by omega) with rfl | rfl
 . exact h0
 exact h1
end Go.Proofs.YtckdhgbepmpgiaaGreat
namespace Go.GL
theorem zh1 {n:Nat} (h:w.ownsRow 0 e k (.slice (some ⟨b,0,none⟩) n n) n xs):Blk w b xs e:=by
 obtain⟨h1,h2⟩:=h;rcases h2 with⟨h2,_⟩ | ⟨b',cap,cur,hv,_,hg,hc,da,db,hY⟩
 . cases h2
 cases hv;have:cur.toList=xs:=tD;unfold Blk;rw[<- this];omega
end Go.GL
namespace Go.Proofs.YtckdhgbepmpgiaaGreat
open Go.GL
theorem zfd {l:List α} {x y:α} (hx:l[k]?=some x):y ∈ l.take (k+1) ↔ y ∈ l.take k\/y=x:=by
 rw[zw9,hx];simp
theorem zjr (l:List Int) (x:Int) (v:Value) (D:Nat->Prop) (W:World) (hv:SlR 1 zv D W v l):Calls prog 91 #[v,.int .i64 x] W (Ret fun r w'=>(∃ i:Int,r=.int .i64 i/\(0<=i ↔ x ∈ l))/\Ext W w'):=by
 obtain⟨av,cv,rfl⟩:=hv.form;have dg:=hv.max;refine zqR func91 O ntmps91 O (V.inn (Vs 14 O (zrM (σ:=Nat) [0,1,7] [] [] O (fun e k=>(8,.int .i64 k)::e) (fun e k=>e) (fun k=>k<=l.length/\x ∉ l.take k) (fun k=>l.length - k) 0 j2 j3 j1 j1 j1 ⟨ztC _,tR⟩ ?_)));rintro k ⟨hk,hn⟩;refine Vs 6 O (zp4 O (fun db=>?_) (fun db=>?_))
 .
  refine Vs 15 O (zrJ 1000 0 k tO hv O O (fun y dh dl hY dc da=>?_));refine zrg 1000 tR27 ts3 O da tO _ rfl O (Vs 4 O (zp4 O (fun he=>?_) (fun he=>?_)))
  . refine Vs 12 O (zpl results91 O (fun w hI=>⟨_,rfl,⟨_,rfl,tD⟩,hI.k0⟩))
  refine Va 7 O tO (V.back (k+1) j2 j3 ⟨tO,fun h=>((zfd hY).1 h).elim hn he⟩ tO 0 O O)
 have:k=l.length:=tO;subst this;rw[zts]at hn;refine Vs 11 O (zpl results91 O (fun w hI=>⟨_,rfl,⟨_,rfl,⟨fun h=>tO,fun h=>absurd h hn⟩⟩,hI.k0⟩))
theorem zfe (l:List Int) (x:Int) (v:Value) (D:Nat->Prop) (W:World) (hv:SlR 1 zv D W v l):Calls prog 77 #[v,.int .i64 x] W (Ret fun r w'=>r=.bool (decide (x ∈ l))/\Ext W w'):=by
 refine zqR func77 O ntmps77 O (V.inn (Vs 9 O (zru call91 O (fun w hI=>zjr l x v D w (Tr1 hI.k0 hv)) ?_)));rintro r w1 w2 db hY ⟨i,rfl,hi⟩ da;refine Vs 5 O (zrz 1 results77 O O tD)
structure PrOk (f:Fl) (g:List Nd):Prop where
 at_:∀ x ∈ g,x.at_<((preL f.body).length:Int)
 to:∀ x ∈ g,∀ y ∈ jM x,y<(g.length:Int)
def zeg (g:List Nd) (i:Nat) (S:List Int) (n:Nat):List Int:=List.map (fun y:Nat=>(y:Int)) (((List.range i).filter fun y:Nat=>decide ((xf g y).next=(n:Int)\/(xf g y).other=(n:Int)))++(if (n:Int) ∈ S then [i] else []))
def zb0 (g:List Nd) (i:Nat) (S:List Int):List (List Int):=(List.range g.length).map (zeg g i S)
theorem zdS (g:List Nd) (i:Nat) (S:List Int):(zb0 g i S).length=g.length:=by simp[zb0]
theorem zdT {n:Nat} {S:List Int} (h:n<g.length):(zb0 g i S)[n]?=some (zeg g i S n):=by unfold zb0;rw[ztE,zvf h];rfl
theorem zln (g:List Nd) (i:Nat) (S:List Int) (n:Nat):(zeg g i S n).length<=i+1:=by
 unfold zeg;rw[ztH,ztv];refine Nat.add_le_add (ztt (zvr _ _) tD) ?_;split<;>simp
theorem zh2 (g:List Nd) (i n:Nat):zeg g i [] n=List.map (fun y:Nat=>(y:Int)) ((List.range i).filter fun y:Nat=>decide ((xf g y).next=(n:Int)\/(xf g y).other=(n:Int))):=by
 unfold zeg
 grind
theorem zlo {n:Nat} {S:List Int}:(i:Int) ∈ zeg g i S n ↔ (n:Int) ∈ S:=by
 unfold zeg;rw[zvI];constructor
 .
  rintro⟨y,hy,e⟩;obtain rfl:y=i:=tO;rcases ztG.1 hy with hy | hy
  . have:=zvN.1 (zvE.1 hy).1;omega
  split at hy
  . assumption
  cases hy
 intro h;exact⟨i,ztG.2 (.inr (by rw[zty h];exact ztF.2 O)),rfl⟩
theorem zlp {n:Nat} {S:List Int} (h:(n:Int) ∉ S):zeg g i (S++[(n:Int)]) n=zeg g i S n++[(i:Int)]:=by
 unfold zeg
 grind
theorem zff {n:Nat} {S:List Int} {t:Int} (h:t ≠ (n:Int)\/t ∈ S):zeg g i (S++[t]) n=zeg g i S n:=by
 have:(n:Int) ∈ S++[t] ↔ (n:Int) ∈ S:=by
  grind
 unfold zeg;by_cases h2:(n:Int) ∈ S
 . rw[zty h2,zty (this.2 h2)]
 rw[ztx h2,ztx (fun e=>h2 (this.1 e))]
theorem zjs {S:List Int} {t:Int} (h:t ∈ S):zb0 g i (S++[t])=zb0 g i S:=by
 unfold zb0;exact zvw fun n _=>zff (.inr h)
theorem zlq {n:Nat} {S:List Int} (hn:n<g.length) (h:(n:Int) ∉ S):(zb0 g i S).set n (zeg g i S n++[(i:Int)])=zb0 g i (S++[(n:Int)]):=by
 apply zuW;intro j;rw[zvi];by_cases hj:j<g.length
 .
  rw[zdT (S:=S++[(n:Int)]) hj];by_cases e:n=j
  .
   subst e;rw[zty rfl,zty (by rw[zdS];exact hn),zlp h]
  rw[ztx e,zdT hj,zff (.inl tO)]
 rw[ztL (by rw[zdS];omega),ztL (by rw[zdS];omega)];split
 . omega
 rfl
theorem zjt (h:g[i]?=some x):zb0 g i (jM x)=zb0 g (i+1) []:=by
 unfold zb0;refine zvw fun n _=>?_;rw[zh2,zw0,zuX];unfold zeg;refine congrArg (List.map _) (congrArg (List.append _) ?_);have hx:=jp h;have hm:(n:Int) ∈ jM x ↔ (x.next=(n:Int)\/x.other=(n:Int)):=by rw[mem_succ];exact⟨fun h=>h.2,fun h=>⟨tO,h⟩⟩
 by_cases hs:(n:Int) ∈ jM x
 . grind
 grind
theorem zju (g:List Nd):zb0 g 0 []=List.replicate g.length []:=by
 unfold zb0;apply zuW;intro j;by_cases hj:j<g.length
 . rw[ztE,zvf hj,zvg,zty hj];simp[zeg]
 rw[ztL tD,ztL tD]
theorem zlr (g:List Nd):zb0 g g.length []=zf5 g:=by
 unfold zb0 zf5;refine zvw fun n _=>?_;rw[zh2];rfl
def zg5 (f:Fl) (g:List Nd) (i:Nat):List St:=(g.take i).map (stN f)++List.replicate (g.length - i) znN
def st0:List Value:=[.int .i64 0,.int .i64 0,.int .i64 0,.int .i64 0,.int .i64 0,.int .i64 0,.slice none 0 0,.slice none 0 0,.slice none 0 0,.slice none 0 0]
theorem zh3 (h:i<=g.length):(zg5 f g i).length=g.length:=by unfold zg5;rw[ztv,ztH,ztR,zvt];omega
theorem zls (h:g[i]?=some x):(zg5 f g i).set i (stN f x)=zg5 f g (i+1):=by
 have hl:=(ztB.1 h).1;unfold zg5;rw[ze h,zw4 _ _ tD,ztH,ztR,show i - min i g.length=0 by omega,show g.length - i=(g.length - (i+1))+1 by omega,zw1];simp
theorem zjv (h:g[i]?=some x) (hn:x.at_<0):zg5 f g i=zg5 f g (i+1):=by
 have hl:=(ztB.1 h).1;unfold zg5;rw[ze h,show g.length - i=(g.length - (i+1))+1 by omega,zw1];have:stN f x=znN:=by unfold stN;rw[ztx tO]
 simp[this]
theorem EncS.set {l:List St} {x:St} (h:EncS D w l xs) (hx:RSt D w x us) (hu:us.length=10) (hi:i<l.length):EncS D w (l.set i x) (xs.take (i*10)++us++xs.drop (i*10+10)):=by
 have h1:=h.1;refine⟨tD,fun j y hy=>?_⟩;rw[zvi]at hy;have hY:(xs.take (i*10)).length=i*10:=tD;by_cases e:i=j
 . grind
 rw[ztx e]at hy;have da:=h.2 j y hy;have db:=(ztB.1 hy).1
 have key:((xs.take (i*10)++us++xs.drop (i*10+10)).drop (j*10)).take 10=(xs.drop (j*10)).take 10:=by
  apply zuW;intro q;rw[ztT,ztT];split
  .
   rename_i hq;rw[zvc,zvc];by_cases dc:j<i
   . rw[zuE,ztN tO,zvl tO]
   rw[ztO tD,ztv,hY,hu,zvc];congr 1;omega
  rfl
 rw[key];exact da
theorem EncS.zero (n:Nat):EncS D w (List.replicate n znN) (zg3 10 n st0):=by
 refine⟨by rw[zdR (k:=10) rfl,zvt],fun i x hx=>?_⟩;rw[zvg]at hx;split at hx
 .
  rename_i hi;obtain rfl:=Option.some.inj hx;rw[zgY (k:=10) rfl hi];exact RSt.put (s:=znN) SlR.nil SlR.nil SlR.nil SlR.nil
 cases hx
def zoW (D0:Nat->Prop) (W0:World):Rel St:=fun _ _ x cs=>RSt D0 W0 x cs
theorem zhM (D0:Nat->Prop) (W0:World):ye (zoW D0 W0):=fun _ _ _ _ _ _ _ _ h=>h
theorem zjw (l:List St) (D:Nat->Prop) (W0 W:World) (v:Value) (hl:SlR 10 RSt D W0 v l) (he:EqD D W0 W) (hs:ssize l<=1000000) :
  Calls prog 75 #[v,.slice none 0 0] W (Ret fun r w'=>SlR 10 (zoW D W0) (fun q=>W.heap.size<=q) w' r (preL l)/\Ext W w'):=by
 refine Calls.mono (zlm l D W0 W v (.slice none 0 0) [] [] hl he EncS.nil (qq _ _ _) (fun q _ h=>by cases h) tD) ?_;rintro e w' ⟨r,rfl,⟨u,xs⟩,⟨rfl,hx⟩,ho,hk,hY⟩;simp only[zvO]at hx ho hY;refine⟨_,rfl,OwnR.sl (e:=72) (D:=fun _=>False) ⟨xs,ho,hx.2⟩ tS (zhM _ _) (fun q h=>h.elim) (fun g hg=>?_),hk.mono fun q _ h=>by cases h⟩;exact((hY g hg).1).elim (fun h=>by cases h) id
theorem zlt (n:Nat):RowsOk zb e w (List.replicate n (.slice none 0 0)) (List.replicate n []):=by
 refine⟨tR,fun i v r hv hr=>?_,fun i j vi vj g _ hi hj h=>?_⟩
 .
  rw[zvg]at hv hr;split at hv
  .
   rename_i h;rw[zty h]at hr;obtain rfl:=Option.some.inj hv;obtain rfl:=Option.some.inj hr;exact qq _ _ _
  cases hv
 rw[zvg]at hi;split at hi
 .
  obtain rfl:=Option.some.inj hi;cases h
 cases hi
@[simp] theorem zoE (n:Nat):(zg3 10 n st0).length=n*10:=zdR rfl
theorem grS {ys:List Value} (_:∀ q,D q->q<W.heap.size) (hy:EncS D W (g.map (stN f)) ys) (hE:Ext W w) (hB:Blk w b ys 72) (hb:W.heap.size<=b) (hN:g.length<=100000):SlR 10 RSt (fun q=>D q\/(W.heap.size<=q/\q<w.heap.size)) w (.slice (some ⟨b,0,none⟩) g.length g.length) (g.map (stN f)):=by
 have hl:=hy.1;have ho:=zG (k:=10) (n:=g.length) (cap:=g.length) hB (ztM _) tO tD;rw[zwc tD]at ho;have hO:OwnR 72 10 RSt D w (.slice (some ⟨b,0,none⟩) g.length g.length) (g.map (stN f)):=⟨ys,tD,fun i x hx=>zg D D W w (fun _ h=>h) (fun q hq hl=>hE.block q hl (fun h=>h)) x _ (hy.2 i x hx)⟩;exact hO.sl tS zg (fun q h=>.inl h) fun q h=>by cases h;exact .inr ⟨hb,hB.lt⟩
theorem grP {rv:List Value} (hY:rv.length=g.length) (hR:RowsOk zb 3 w rv (zf5 g)) (hB:Blk w b rv 27) (hb:W.heap.size<=b) (hN:g.length<=100000) (hq:∀ q,(∃ (i:Nat) (v:Value),rv[i]?=some v/\v.ownBlock=some q)->W.heap.size<=q):SlR 1 (RSl 1 zv) (fun q=>D q\/(W.heap.size<=q/\q<w.heap.size)) w (.slice (some ⟨b,0,none⟩) g.length g.length) (zf5 g):=by
 have hl:(zf5 g).length=g.length:=by simp[zf5]
 have ho:=zG (k:=1) (n:=g.length) (cap:=g.length) hB (ztM _) tO tO;rw[zwc tO]at ho;exact zce tD hR (fun q h=>by cases h;exact .inr ⟨hb,hB.lt⟩) fun i u q h1 h2=>.inr ⟨hq q ⟨i,u,h1,h2⟩,hR.blk h1 h2⟩
theorem yF (f:Fl) (g:List Nd) (hp:PrOk f g) (hN:g.length<=100000) (ez:ssize f.body<=100000) (v1 v2 v3 gv:Value) (D:Nat->Prop) (W:World) (hf:RFl D W f v1 v2 v3) (hg:SlR 4 RNd D W gv g) (hD:∀ q,D q->q<W.heap.size) :
  Calls prog 37 #[.agg #[v1,v2,v3],.agg #[gv]] W (Ret fun r w'=>(∃ b,r=.pointer (some ⟨b,0,none⟩)/\GrO (fun q=>D q\/(W.heap.size<=q/\q<w'.heap.size)) w' f g b)/\Ext W w'):=by
 have d5:=hg;have dC:=hf;obtain⟨ag,cg,rfl⟩:=hg.form;have eA:=hg.max;obtain⟨a1,c1,rfl⟩:=hf.vars.form;obtain⟨a2,c2,rfl⟩:=hf.hatches.form;obtain⟨a3,c3,rfl⟩:=hf.body.form;have eC:=qk f.body;refine zqR func37 O ntmps37 O (V.inn (Vs 2 O (V.box 2 O O (fun b2=>?_))));refine V.box 3 O O (fun b3=>(Vs 4 O (zrN (σ:=Nat × Nat × Nat) [2,3] [2,3] [2,3] O (fun e ⟨b17,b21,b23⟩=>(5,.pointer (some ⟨b23,0,none⟩))::e) (fun e ⟨b17,b21,b23⟩=>(17,.row 72 10 (.slice (some ⟨b17,0,none⟩) g.length g.length) g.length (zg3 10 g.length st0))::(21,.row 27 1 (.slice (some ⟨b21,0,none⟩) g.length g.length) g.length (List.replicate g.length (.slice none 0 0)))::(23,.own b23 [.slice a1 f.vars.length c1,.slice a2 f.hatches.length c2,.slice a3 f.body.length c3,.slice ag g.length cg,.slice (some ⟨b17,0,none⟩) g.length g.length,.slice (some ⟨b21,0,none⟩) g.length g.length] 113)::e) (fun⟨b17,b21,b23⟩=>True) j1 j1 ?_ ?_)))
 .
  refine Vw [2,3] [] O (Vd [0,1,2,3,4,5,7,8,9] 0 tK O O O (zs9 6 10 17 21 0 tu24 Tryz.el72 tu89 Tryz.el27 O tK O O O O ⟨tO,tO,tO,tO⟩ (by exact zo6 (us:=st0) O O:madeCells _ _=(zg3 10 g.length st0).toArray) (by exact xj _ _ O:madeCells _ _=(List.replicate g.length (Value.slice none 0 0)).toArray) tR (fun b17=>?_) (fun b21=>?_)))
  .
   refine zpX 10 21 0 tu89 Tryz.el27 O tK O O tO tO (by exact xj _ _ O:madeCells _ _=(List.replicate g.length (Value.slice none 0 0)).toArray) tR (fun b21=>(zrX 11 [Value.slice none 0 0,Value.slice none 0 0,Value.slice none 0 0,Value.slice none 0 0,Value.slice none 0 0,Value.slice none 0 0] [(0,3),(3,1),(4,1),(5,1)] [(0,_),(1,_),(2,_),(3,_)] O tK O O (fun _=>tK) (zrc 12 23 0 O tK O O (fun _ _=>M.box O O) (fun b23=>?_))));refine Vd [13] 0 tK O O O (VD.done tK (zpi ⟨b17,b21,b23⟩ j2 j3 trivial 0 O O))
  refine zpX 6 17 0 tu24 Tryz.el72 O tK O O tO tO (by exact zo6 (us:=st0) O O:madeCells _ _=(zg3 10 g.length st0).toArray) tR (fun b17=>(zrX 11 [Value.slice none 0 0,Value.slice none 0 0,Value.slice none 0 0,Value.slice none 0 0,Value.slice none 0 0,Value.slice none 0 0] [(0,3),(3,1),(4,1),(5,1)] [(0,_),(1,_),(2,_),(3,_)] O tK O O (fun _=>tK) (zrc 12 23 0 O tK O O (fun _ _=>M.box O O) (fun b23=>?_))));refine Vd [13] 0 tK O O O (VD.done tK (zpi ⟨b17,b21,b23⟩ j2 j3 trivial 0 O O))
 rintro⟨b17,b21,b23⟩ _;refine zre 5 23 0 O O (zs4 17 (e':=.own b17 (zg3 10 g.length st0) 72) O (fun w hI=>zh1 (hI.at 17 O)) trivial (fun _ h=>h) (fun q (hq:q=b17)=>by subst hq;rfl) (zs4 21 (e':=.own b21 (List.replicate g.length (.slice none 0 0)) 27) O (fun w hI=>zh1 (hI.at 21 O)) trivial (fun _ h=>h) (fun q (hq:q=b21)=>by subst hq;rfl) (zrk 902 3 1 O (zs4 902 (e':=RowsP zb 3 (List.replicate g.length (.slice none 0 0)) (zb0 g 0 [])) O (fun w hI=>by rw[zju];exact zlt _) RowsP.loc (fun _ h=>h) (fun q hq=>by obtain⟨i,u,h,h2⟩:=hq;rw[zvg]at h;split at h<;>cases h;cases h2) ?_))));generalize hL:preL f.body=L at *;refine Vs 5 O (zru call75 O (fun w hI=>(hL ▸ zjw f.body D W w _ dC.body (EqD.keep (EqD.refl hD) hI.k0 hD (fun _ _ h=>h)) tO)) ?_);rintro rr w1 w2 eD d6 dE dF;obtain⟨ast,cst,rfl⟩:=dE.form;have d7:=dE.max;refine Vs 13 O (zrM (σ:=Nat × List Value × List Value) [5,6,28,29] [23] [5] O (fun e ⟨i,ys,rv⟩=>(30,.int .i64 i)::e) (fun e ⟨i,ys,rv⟩=>(17,.own b17 ys 72)::(21,.own b21 rv 27)::(902,RowsP zb 3 rv (zb0 g i []))::e) (fun⟨i,ys,rv⟩=>i<=g.length/\EncS D W (zg5 f g i) ys/\rv.length=g.length) (fun⟨i,ys,rv⟩=>g.length - i) (0,zg3 10 g.length st0,List.replicate g.length (.slice none 0 0)) j2 j3 j1 j1 j1 ⟨ztC _,by simp only[zg5,zwf,zvz,zvO,Nat.sub_zero];exact EncS.zero _,tR⟩ ?_);rintro⟨i,ys,rv⟩ ⟨hi,dx,dw⟩;refine Vs 6 O (zp4 O (fun lt=>?_) (fun lt=>?_))
 .
  refine Vs 7 O (zrI 1000 1 i tO hg O O O (fun x eE eF eG hY dy dG dH=>?_));obtain rfl:=dH;refine zrg 1000 tR34 ts65 O dG tO _ rfl O ?_;have d8:=hp.at_ x dy;rw[hL]at d8;have dI:=dx.1;rw[zh3 hi]at dI;refine Vs 1 O (V.alloc 8 tz65 O O (fun b8=>?_));refine Vs 5 O (zrN (σ:=List Value) [5,6,7,8,28,29,30] [8,23,902] [5,8] O (fun e ys=>e) (fun e ys=>(17,.own b17 ys 72)::(21,.own b21 rv 27)::e) (fun ys=>EncS D W (zg5 f g (i+1)) ys) j1 j1 ?_ ?_)
  .
   refine Vs 7 O (zp4 O (fun c0=>?_) (fun c0=>?_))
   .
    have dX:0<=x.at_:=c0;obtain⟨k,hk⟩:∃ k:Nat,x.at_=(k:Int):=⟨x.at_.toNat,tO⟩;refine zrH 2000 0 k tO dE O O O (fun b_ d_ h_=>by have dJ:=dF _ h_;first | omega | exact dJ d_) (fun s eH eI eJ dK d9 dL eb da=>?_);obtain⟨ec,ed,ee,ef,rfl,dM,dN,dO,dQ⟩:=da.get;obtain⟨db,dc,rfl⟩:=dM.form;obtain⟨dg,dh,rfl⟩:=dN.form;obtain⟨dl,dm,rfl⟩:=dO.form;obtain⟨dr,dt,rfl⟩:=dQ.form;refine Vw [23,17,21,1000,8,2000] [11] O (Vd [0,1,2,3,4,5,6,7] 0 tK O O O (zrh 8 2000 tR24 ts72 O tK O dL tO (k) tO O (Vd [9] 0 tK O O O (zrZ 10 O tK O (fun w=>zpH tR24 ts72 O O O tO) (zsH 11 17 (i*10) (us:=[.int .i64 s.act,.int .i64 s.cost,.int .i64 s.var,.int .i64 s.n,.int .i64 s.term.op,.int .i64 s.term.n,.slice db s.term.kids.length dc,.slice dg s.thn.length dh,.slice dl s.els.length dm,.slice dr s.bounds.length dt]) ts72 O tK O rfl O (RSt.one da) tO tO ?_)))));have eh:stN f x=s:=by unfold stN;rw[zty dX,hk];exact ziR (hL ▸ dK)
    have dR:EncS D W (zg5 f g (i+1)) (ys.take (i*10)++[.int .i64 s.act,.int .i64 s.cost,.int .i64 s.var,.int .i64 s.n,.int .i64 s.term.op,.int .i64 s.term.n,.slice db s.term.kids.length dc,.slice dg s.thn.length dh,.slice dl s.els.length dm,.slice dr s.bounds.length dt]++ys.drop (i*10+10)):=by
     rw[<- zls hY,eh];exact dx.set da O (by rw[zh3 hi];omega)
    refine VDx.done tK (zpi (ys.take (i*10)++[.int .i64 s.act,.int .i64 s.cost,.int .i64 s.var,.int .i64 s.n,.int .i64 s.term.op,.int .i64 s.term.n,.slice db s.term.kids.length dc,.slice dg s.thn.length dh,.slice dl s.els.length dm,.slice dr s.bounds.length dt]++ys.drop (i*10+10)) j2 j3 (dR) 0 O O)
   have dX:¬ 0<=x.at_:=c0;have dR:EncS D W (zg5 f g (i+1)) ys:=by rw[<- zjv hY tO];exact dx
   refine Vs 1 O (zpi (ys) j2 j3 (dR) 0 O O)
  rintro ys dS;generalize hS:jM x=S;have eK:S.length<=2:=by rw[<- hS];exact zfc x 2
  have ei:∀ y ∈ S,0<=y/\y<(g.length:Int):=fun y hy=>by
   rw[<- hS]at hy;exact⟨(mem_succ.1 hy).1,hp.to x dy y hy⟩
  refine Vs 4 O (zru call76 O (fun w hI=>zgX x w) ?_);rintro rs w3 w4 eL ej dD dz;rw[hS]at dD;obtain⟨asu,csu,rfl⟩:=dD.form;have ek:=dD.max;refine Vs 4 O (zrL 902 O (e':=RowsP zb 3 rv (zb0 g i (S.take 0))) (by rw[zwf]) (Vs 1 O (zrM (σ:=Nat × List Value) [5,6,7,28,29,30,50,51] [23] [5] O (fun e ⟨q,rv⟩=>(52,.int .i64 q)::e) (fun e ⟨q,rv⟩=>(17,.own b17 ys 72)::(21,.own b21 rv 27)::(902,RowsP zb 3 rv (zb0 g i (S.take q)))::e) (fun⟨q,rv⟩=>q<=S.length/\rv.length=g.length) (fun⟨q,rv⟩=>S.length - q) (0,rv) j2 j3 j1 j1 j1 ⟨ztC _,dw⟩ ?_)));rintro⟨q,rv⟩ ⟨hq,dw⟩;refine Vs 6 O (zp4 O (fun lq=>?_) (fun lq=>?_))
  .
   refine Vs 6 O (zrH 3000 0 q tO dD O O O (fun b_ d_ h_=>by have dJ:=dz _ h_;first | omega | exact dJ d_) (fun y eM eN eO dT dU dV em dW=>?_));obtain rfl:=dW;refine zrg 3000 tR27 ts3 O dV tO _ rfl O ?_;obtain⟨er,eP⟩:=ei y dU;obtain⟨n,rfl⟩:=zul er;have dY:n<g.length:=tO;have dZ:=ze dT;obtain⟨u,hu⟩:∃ u,rv[n]?=some u:=iA;have dA:=zdT (i:=i) (S:=S.take q) dY;have ew:=zln g i (S.take q) n;have dB:=zlo (g:=g) (i:=i) (n:=n) (S:=S.take q);refine Vs 11 O (zqH O (fun w hI=>zpH tR89 ts27 O O O tO) (zqH O (fun w hI=>R.load tg27 O (zri (hI.at 21 O) hu)) (Vs 1 O (zrs call77 O (fun w hI=>zfe (zeg g i (S.take q) n) i _ (fun _=>True) w (zlk (hI.at 902 O) hu dA)) (zqH O (fun w hI=>zqi O j6) (Vs 2 O (zp4 O (fun m=>?_) (fun m=>?_))))))))
   .
    refine Vw [23,17,21,3000] [16] O (Vd [0,1,2,3,4,5,6,7,8,9,12] 0 tK O O O (zrZ 10 O tK O (fun w=>zpH tR89 ts27 O O O tO) (zs5 11 O tK O 0 O O (fun w hI=>R.load tg27 O (zri (hI.at 21 O) hu)) (zrQ 13 79 0 [(0,_)] tR27 ts3 tz3 tS O tK O O tK (fun b79=>?_)))));refine zs7 14 902 79 0 (n) tu27 Tryz.el3 O O tK O O (hu) (dA) tO (fun u902 du=>(zrZ 15 O tK O (fun w=>zpH tR89 ts27 O O O tO) (zs8 16 21 (n) ts27 O tK O (du) tO tO (VDx.done tK (Vs 2 O (zrL 902 O (e':=RowsP zb 3 (rv.set n u902) (zb0 g i (S.take (q+1)))) (by rw[dZ,<- zlq dY (fun h=>m (dB.2 h))]) (Va 4 O tO (V.back ⟨q+1,rv.set n u902⟩ j2 j3 ⟨tO,by rw[zvu];exact dw⟩ tZ 0 O O))))))))
   have m:=ztw.1 m;refine zrL 902 O (e':=RowsP zb 3 rv (zb0 g i (S.take (q+1)))) (by rw[dZ,zjs (dB.1 m)]) (Va 7 O tO (V.back ⟨q+1,rv⟩ j2 j3 ⟨tO,dw⟩ tZ 0 O O))
  obtain rfl:q=S.length:=tO;refine zrL 902 O (e':=RowsP zb 3 rv (zb0 g (i+1) [])) (by rw[zts,<- hS,zjt hY]) (Va 10 O tO (V.back ⟨i+1,ys,rv⟩ j2 j3 ⟨tO,dS,dw⟩ tZ 1 O O))
 obtain rfl:i=g.length:=tO;rw[show zg5 f g g.length=g.map (stN f) by simp[zg5]]at dx;refine Vs 12 O (zpl results37 O (fun w hI=>⟨_,rfl,⟨b23,rfl,_,_,_,_,_,_,.inr ⟨hI.own 23 1 O O b23 rfl,(show Blk _ _ _ _ from hI.at 23 O).lt⟩,Blk.cells (hI.at 23 O),⟨(dC.vars.keep yI hI.k1 (fun _ _ _ h=>h)).wide yI (fun _ h=>.inl h),(dC.hatches.keep yO hI.k1 (fun _ _ _ h=>h)).wide yO (fun _ h=>.inl h),(dC.body.keep zg hI.k1 (fun _ _ _ h=>h)).wide zg (fun _ h=>.inl h)⟩,(d5.keep zC hI.k1 (fun _ _ _ h=>h)).wide zC (fun _ h=>.inl h),grS hD dx hI.k1 (hI.at 17 O) (hI.own 17 1 O O b17 O) hN,grP dw (zlr g ▸ hI.at 902 O) (hI.at 21 O) (hI.own 21 1 O O b21 O) hN (fun q hq=>hI.own 902 1 O O q hq)⟩,hI.k1⟩))
theorem Valid.ends (V:Valid f) (hx:(zd f)[i]?=some x):(x.at_<0->x.kind=0\/x.kind=1)/\(0<=x.at_->x.at_<((preL f.body).length:Int)):=by
 have hY:=yD f V.plain;have hi:=(ztB.1 hx).1;by_cases hl:i<(zd f).length - 1
 .
  obtain⟨h1,h2⟩:=V.node (k:=(i:Int)) tO tO;rw[ztJ,hx]at h1;have e:=Option.some.inj h1;rw[<- e]at h2;by_cases k0:x.kind=0
  .
   obtain rfl:=(V.away hx).2 k0;unfold zd at hx;rw[zvb]at hx;obtain rfl:=Option.some.inj hx;exact⟨fun _=>.inl rfl,fun h=>tD⟩
  obtain⟨h3,h4,_⟩:=h2.step k0;have:=(ztB.1 h4).1;exact⟨fun h=>tO,fun _=>tO⟩
 obtain rfl:i=(zd f).length - 1:=tO;have da:=zB f.body V.plain 0 1 (1+widL f.body);unfold zd at hx;rw[ztQ,ztv,ztI,zwj,zva,ztO (ztM _),zwA]at hx;obtain rfl:(⟨1,-1,-1,-1⟩:Nd)=x:=tD;exact⟨fun _=>.inr rfl,fun h=>tD⟩
theorem Valid.prOk (V:Valid f):PrOk f (zd f):=by
 refine⟨fun x hx=>?_,fun x hx y hy=>?_⟩
 .
  obtain⟨i,hi⟩:=zvH.1 hx;have:=(V.ends hi).2;by_cases h:0<=x.at_
  . omega
  omega
 obtain⟨i,hi⟩:=zvH.1 hx;obtain⟨h0,h1⟩:=mem_succ.1 hy;exact((V.edge hi).1 y (h1.elim (fun e=>.inl e.symm) (fun e=>.inr e.symm))).2
theorem zhN {l:List Tm} (h:∀ k ∈ l,(xP k).length<=k.nodes):(mentL l).length<=tnodes l:=by
 induction l with
 | nil=>simp[mentL]
 | cons k r ih =>
  have h1:=h k (ztr ..);have h2:=ih fun x hx=>h x Jq;rw[mentL,ztv,tnodes];omega
theorem zhO (t:Tm):(xP t).length<=t.nodes:=by
 induction t using zr1 with
 | h t ih =>
  rw[za7,ztv,t.nodes_eq];have:=zhN ih;have h2:(if t.op=24 then [t.n] else []).length<=1:=tD;omega
theorem Valid.gOk (V:Valid f):GOk f (zd f):=fun i x hx=>by
 obtain⟨h1,h2⟩:=V.ends hx;refine⟨h1,fun h=>⟨h2 h,?_⟩⟩;have hg:=jY h (h2 h);have hn:=zeV f.body _ (zto hg);have hs:=V.size;have ht:=zhO (yp f x.at_).term;rw[St.nodes_eq]at hn;omega
noncomputable def yG (f:Fl) (g:List Nd) (s:Sf):Int:=by
 classical
 exact if yw f g ≠ 0 then yw f g else if RightF f g s (rdV f g) then 0 else 13
section
theorem sc_g (h:yw f g ≠ 0):yG f g s=yw f g:=by unfold yG;rw[zty h]
theorem zhP (h:¬ yw f g ≠ 0) (hr:¬ RightF f g s (rdV f g)):yG f g s=13:=by unfold yG;rw[ztx h,ztx hr]
theorem zjx (h:¬ yw f g ≠ 0) (hr:RightF f g s (rdV f g)):yG f g s=0:=by unfold yG;rw[ztx h,zty hr]
theorem zjy (h:yG f g s=0):yw f g=0/\RightF f g s (rdV f g):=by
 unfold yG at h;split at h
 . contradiction
 rename_i h0;split at h
 . rename_i h1;exact⟨ztw.1 h0,h1⟩
 cases h
theorem jt (h:¬ yw f g ≠ 0):yq f=0/\g=zd f:=by
 unfold yw at h;split at h
 . contradiction
 rename_i h0;split at h
 . rename_i h1;exact⟨ztw.1 h0,h1.symm⟩
 exact absurd tS h
theorem zjz (da:OfF f s) (hY:s.nodes.length=g.length) (hn:∀ (n:Nat) x,s.nodes[n]?=some x->NodF f g s (rdV f g) n x) (h1:∀ k:Nat,f.vars.length<=k->k<s.of_.length->(qx f g s).count (k:Int)=1) (hu:zd2 f g s):RightF f g s (rdV f g):=⟨⟨da,hY,hn,h1⟩,hu.1,hu.2⟩
end
theorem zos {P:Prop} {q:Bool} (h:q=true ↔ P):q=@decide P (Classical.propDecidable P):=by
 grind
theorem zcg {p:Program} {n:FuncId} {a:Array Value} {P:Prop} (h:Calls p n a W (Ret fun r w'=>(∃ q:Bool,r=.bool q/\(q=true ↔ P))/\Ext W w')):Calls p n a W (Ret fun r w'=>r=.bool (@decide P (Classical.propDecidable P))/\Ext W w'):=by
 refine Calls.mono h ?_;rintro e w' ⟨r,rfl,⟨q,rfl,hq⟩,hE⟩;exact⟨_,rfl,tD,hE⟩
open Go.GL
attribute [local instance 1] Classical.propDecidable
theorem zad (f:Fl) (g:List Nd) (s:Sf) (du:snodes f.body+zz f.hatches<=1024) (dw:sbulk f.body<=1000000) (dl:s.of_.length<=1000000/\(LP s g.length).length<=1000000) (v1 v2 v3 gv ofv nodv:Value) (D:Nat->Prop) (W:World) (hf:RFl D W f v1 v2 v3) (hg:SlR 4 RNd D W gv g) (hS:RSf D W s ofv nodv) (hD:∀ q,D q->q<W.heap.size) :
  Calls prog 16 #[.agg #[v1,v2,v3],.agg #[gv],.agg #[ofv,nodv]] W (Ret fun r w'=>r=.int .i64 (yG f g s)/\Ext W w'):=by
 have dx:=hf;have dy:=hg;have dh:=hS;obtain⟨ag,cg,rfl⟩:=hg.form;obtain⟨an,cn,rfl⟩:=hS.nodes.form;obtain⟨ao,co,rfl⟩:=hS.of_.form;have dE:=hS.nodes.max;have dF:=hg.max;refine zqS func16 O ntmps16 O (V.inn (Vs 2 O (V.box 3 O O (fun b3=>?_))));refine V.box 4 O O (fun b4=>(V.box 5 O O (fun b5=>?_)));refine Vs 8 O (zrs call36 O (fun w hI=>zc3 f g _ _ _ _ D D w (Tr1 hI.k0 dx) (Tr1 hI.k0 dy) du dw) (Vs 9 O (zp4 O (fun c0=>?_) (fun c0=>?_))))
 . refine Vs 8 O (zrz 0 tr16 O O (by rw[sc_g c0]))
 obtain⟨dC,dz⟩:=jt c0;have vd:Valid f:=⟨dC,du,dw⟩;have hk:GOk f g:=by rw[dz];exact vd.gOk
 have hp:PrOk f g:=by rw[dz];exact vd.prOk
 have dA:=vd.lens;have dG:=vd.ssize
 have dm:1<=g.length/\g.length<=8000:=by
  have h1:=yD f vd.plain;have h2:=xk f.body
  grind
 refine Vs 3 O (Vw [3,4,5] [] O (Vd [0,1,3] 0 tK O O O (zrv 2 0 tc37 O tK O O (fun w hI=>yF f g hp tO tO _ _ _ _ D w (Tr1 hI.k0 dx) (Tr1 hI.k0 dy) ip) ?_)));rintro gp w1 w2 dc dr ⟨gb,rfl,hG⟩ hY
 have dB:∀ q,(D q\/(w1.heap.size<=q/\q<w2.heap.size))->q<w2.heap.size:=fun q hq=>by
  have h1:w1.heap.size<=w2.heap.size:=dr.size;have h2:W.heap.size<=w1.heap.size:=dc.k0.size;rcases hq with hq | hq
  . have:=hD q hq;omega
  omega
 refine zrX 4 [Value.pointer none,Value.slice none 0 0,Value.slice none 0 0,Value.slice none 0 0,Value.slice none 0 0] [(0,1),(1,2),(3,1),(4,1)] [(0,_),(1,_)] O tK O O (fun _=>tK) (zrc 5 20 1 O tK O O (fun _ _=>M.box O O) (fun b20=>?_));refine Vd [6] 1 tK O O O (VD.done tK (Vs 5 O (zrs call38 O (fun w hI=>zcg (zf7 f g s b20 gb _ _ _ _ D (fun q=>D q\/(w1.heap.size<=q/\q<w2.heap.size)) w (Blk.cells (hI.at 20 O)) (Tr1 hI.k1 dh.of_) iN)) (zqH O (fun w hI=>zqi O j6) (Vs 1 O (V.sp 24 O (fun n1=>?_) (fun n1=>?_)))))))
 .
  have hb:¬ RightF f g s (rdV f g):=fun h=>n1 h.of_;refine Vs 33 O JH
 have dt:OfF f s:=Classical.not_not.1 n1;refine Vs 9 O (V.sp 33 O (fun n2=>?_) (fun n2=>?_))
 .
  have hb:¬ RightF f g s (rdV f g):=fun h=>by have:=h.len;omega
  refine Vs 24 O JH
 have da:s.nodes.length=g.length:=tO;refine Vs 1 O (zrs call39 O (fun w hI=>zcg (zhK f g s hk da b20 gb _ _ _ _ D (fun q=>D q\/(w1.heap.size<=q/\q<w2.heap.size)) w (Blk.cells (hI.at 20 O)) (Tr1 hI.k1 dh) iN)) (zqH O (fun w hI=>zqi O j6) (Vs 2 O (V.sp 38 O (fun n3=>?_) (fun n3=>?_)))))
 .
  have hb:¬ RightF f g s (rdV f g):=fun h=>n3 h.nod;refine Vs 19 O JH
 have db:=Classical.not_not.1 n3;refine Vs 1 O (zrs call40 O (fun w hI=>zcg (zlg f g s (rdV f g) da db dt.len dl b20 gb _ _ _ _ D (fun q=>D q\/(w1.heap.size<=q/\q<w2.heap.size)) w (Blk.cells (hI.at 20 O)) (Tr1 hI.k1 dh) iN)) (zqH O (fun w hI=>zqi O j6) (Vs 2 O (V.sp 43 O (fun n4=>?_) (fun n4=>?_)))))
 .
  have hb:¬ RightF f g s (rdV f g):=fun h=>n4 h.one;refine Vs 14 O JH
 have dg:=Classical.not_not.1 n4;have dD:FormF f g s (rdV f g):=⟨dt,da,db,dg⟩;refine Vs 1 O (zsf [20] (Hn:=fun x:Value × Bool=>[(20,.own b20 (chk gb (.slice ao s.of_.length co) (.slice an s.nodes.length cn) x.1 (.slice none 0 0)) 97)]) [(3,some (3,0)),(4,some (4,0)),(5,some (5,0)),(8,some (20,0)),(20,some (20,0)),(21,some (20,0)),(25,some (5,1)),(28,some (4,0)),(34,some (20,0)),(39,some (20,0)),(44,some (20,0))] call41 O j9 j1 (fun w hI=>zbx (k:=20) O iK (zjl f g s hk dD dm.1 tO tO b20 gb _ _ _ (fun q=>D q\/(w1.heap.size<=q/\q<w2.heap.size)) w (hI.at 20 O) (fun q hq=>⟨zws (dB q hq) (Keep.size hI.k0),by exact hI.offD 0 20 O O (dB q hq) (fun hs=>by have h1:=hY q hs;have h2:=dc.hsE 0 O hs;rcases hq with hq | hq;(· have:=hD q hq;omega);omega)⟩) ((Tr1 hI.k1 dh).wide (fun q h=>.inl h)) iN)) ?_);rintro _ ⟨u,q⟩ ⟨rfl,hq⟩;refine zqH O (fun w hI=>zqi O j6) (Vs 3 O (V.bool O (fun n5=>?_) (fun n5=>?_)))
 .
  have hb:¬ RightF f g s (rdV f g):=fun h=>by
   have:q=true:=hq.2 ⟨h.use,h.arg⟩
   grind
  refine Vs 7 O JH
 have hr:RightF f g s (rdV f g):=zjz dt da db dg (hq.1 tD);refine Vs 8 O (zrz 1 tr16 O O (by rw[zjx c0 hr]))
theorem zfg (a b c:Int) (w:World) (hY:b<=c):Calls prog 46 #[.int .i64 a,.int .i64 b,.int .i64 c] w (Ret fun r w'=>r=.int .i64 (yA a b c)/\Ext w w'):=by
 refine zqS func46 O ntmps46 O (Gs 16 O (zpk results46 O ⟨_,rfl,?_,Keep.refl _ _⟩));congr 1;unfold yA;split
 . omega
 omega
def rnr (gb:Nat) (ofv nodv vv hv rv ov tv:Value):List Value:=[.pointer (some ⟨gb,0,none⟩),ofv,nodv,vv,hv,rv,ov,tv]
structure TlOk (f:Fl) (vals:List Int) (l:List (Int × Int)) (tl:List Int):Prop where
 inv:InV f.vars tl
 eq:∀ u ∈ l,lki tl u.1.toNat=lki vals u.1.toNat
def zhQ (f:Fl):List Int:=f.vars.map fun v=>v.low
theorem zdU (f:Fl):(zhQ f).length=f.vars.length:=ztH _
theorem TlOk.start (hg:∀ v ∈ f.vars,yT (v.low,v.high)):TlOk f vals [] (zhQ f):=by
 refine⟨⟨zdU f,fun i v hv=>?_⟩,fun u hu=>tD⟩;have:lki (zhQ f) i=v.low:=zgI (by unfold zhQ;rw[ztE,hv];rfl);have h2:=(hg v (zto hv));unfold yT at h2;rw[this];simp at h2;omega
theorem zjA {x:Int} (h:i<l.length):lki (l.set i x) j=if j=i then x else lki l j:=by
 unfold lki;by_cases e:j=i
 . subst e;rw[zty rfl,zvk h];rfl
 rw[ztx e,zvj (fun h=>e h.symm)]
theorem TlOk.next {tl:List Int} {l:List (Int × Int)} (h:TlOk f vals l tl) (hV:InV f.vars vals) {v:Nat} (hu:u.1=(v:Int)) (hv:v<f.vars.length):TlOk f vals (l++[u]) (tl.set v (lki vals v)):=by
 have hl:=h.inv.len;refine⟨⟨tD,fun i x hx=>?_⟩,fun w hw=>?_⟩
 .
  rw[zjA tO];split
  . rename_i e;subst e;exact hV.at_ i x hx
  exact h.inv.at_ i x hx
 rw[zjA tO];split
 . grind
 rename_i e;rcases ztG.1 hw with hw | hw
 . exact h.eq w hw
 grind
theorem zh4 (f:Fl) (g:List Nd) (s:Sf) (db:∀ v ∈ f.vars,yT (v.low,v.high)) (hR:RightF f g s (rdV f g)) (n:Nat) (hn:n<g.length) (dI:StepOk f (stN f (xf g n))) (eC:0<=(xf g n).at_) (eD:rdB f (xf g n)=true) (eS:f.vars.length<=1000) (_:g.length<=100000) (vl vals:List Int) (hV:InV f.vars vals) (dJ:InvV f g s n vl vals) (b gb:Nat) (ofv nodv vv hv rv ov tv:Value) (D Dg Dv:Nat->Prop) (W:World) (hc:Cells W b 0 (rnr gb ofv nodv vv hv rv ov tv)) (hS:RSf D W s ofv nodv) (hG:GrO Dg W f g gb) (dK:SlR 1 zv Dv W vv vl) :
  Calls prog 92 #[.pointer (some ⟨b,0,none⟩),.int .i64 n] W (Ret fun r w'=>r=.int .i64 (xK vals (stN f (xf g n)).term)/\Ext W w'):=by
 have eE:=hG;obtain⟨v1,v2,v3,gv,sv,pv,hD,dr,hf,hg,hs,eU⟩:=eE;have dL:=hf.vars;obtain⟨a1,c1,rfl⟩:=dL.form;obtain⟨as1,cs1,rfl⟩:=hs.form;have dM:=hS.nodes;obtain⟨an,cn,rfl⟩:=dM.form;obtain⟨av,cv,rfl⟩:=dK.form;have eV:=dM.max;have eW:=dK.max;have eX:(g.map (stN f)).length=g.length:=ztH _;have eF:=hR.len;obtain⟨x,dt⟩:∃ x,s.nodes[n]?=some x:=iA;have dl:=hR.nod n x dt
 have dN:(g.map (stN f))[n]?=some (stN f (xf g n)):=by
  have e:=ztn hn;rw[ztE,e,yl e];rfl
 generalize eY:g.map (stN f)=gm at *;refine zqR func92 O ntmps92 O (V.inn (zrG 900 0 O O (fun h=>h) hc (zrG 901 0 O O (fun h=>h) dr (zre 0 900 0 O O (Vs 11 O (zre 15 901 0 O O (Vs 5 O (zpW 21 tu27 Tryz.el3 O tO tO (zs:=List.replicate f.vars.length (.int .i64 0)) JY tR (fun b21=>?_)))))))));refine zrL 21 O (e':=.row 3 1 (.slice (some ⟨b21,0,none⟩) f.vars.length f.vars.length) f.vars.length (((zhQ f).take 0++List.replicate (f.vars.length - 0) 0).map zb)) (by simp[zb]) (Vs 10 O (zre 25 901 0 O O (Vs 9 O (zrM (σ:=Nat) [0,1,5,29,30] [900,901] [0] O (fun e i=>(31,.int .i64 i)::e) (fun e i=>(21,.row 3 1 (.slice (some ⟨b21,0,none⟩) f.vars.length f.vars.length) f.vars.length (((zhQ f).take i++List.replicate (f.vars.length - i) 0).map zb))::e) (fun i=>i<=f.vars.length) (fun i=>f.vars.length - i) 0 j2 j3 j1 j1 j1 (ztC _) ?_))));rintro i hi;refine Vs 6 O (zp4 O (fun lt=>?_) (fun lt=>?_))
 .
  refine Vs 7 O (zrI 1000 0 i tO dL O O O (fun vr eG eH eI du dY dw dx=>?_));obtain rfl:=dx;refine zrg 1000 tR22 ts142 O dw tO _ rfl O ?_;have eJ:(zhQ f)[i]?=some vr.low:=by unfold zhQ;rw[ztE,du];rfl
  have dO:((zhQ f).take i++List.replicate (f.vars.length - i) 0).set i vr.low=(zhQ f).take (i+1)++List.replicate (f.vars.length - (i+1)) 0:=by
   rw[ze eJ,zw4 _ _ tD,ztR,zdU,show i - min i f.vars.length=0 by omega,show f.vars.length - i=(f.vars.length - (i+1))+1 by omega,zw1];simp
  refine Vs 1 O (V.alloc 7 tz142 O O (fun b7=>?_));refine Va 10 O tO (zrq 21 (i) ts3 O tO tD (zrL 21 O (e':=.row 3 1 (.slice (some ⟨b21,0,none⟩) f.vars.length f.vars.length) f.vars.length (((zhQ f).take (i+1)++List.replicate (f.vars.length - (i+1)) 0).map zb)) (by rw[<- dO,zvB]) (Va 7 O tO (V.back (i+1) j2 j3 tO tO 0 O O))))
 obtain rfl:i=f.vars.length:=tO;refine zrL 21 O (e':=.row 3 1 (.slice (some ⟨b21,0,none⟩) f.vars.length f.vars.length) f.vars.length ((zhQ f).map zb)) (by rw[zwc (by rw[zdU];omega),zwA,List.replicate_zero,zuF]) (Vs 14 O (zrI 2000 0 n tO dM O O O (fun x2 eK eL eM dc dZ dy dz=>?_)));obtain⟨d5,d6,rfl,dA,hY⟩:=dz;obtain⟨d7,d8,rfl⟩:=dA.form;obtain⟨d9,eb,rfl⟩:=hY.form;refine zrg 2000 tR28 ts59 O dy tO _ rfl O ?_;obtain rfl:x2=x:=Option.some.inj (dc.symm.trans dt);have eZ:=hY.max;refine Vs 7 O (zrM (σ:=Nat × List Int) [0,1,5,50,51] [900,901] [0] O (fun e ⟨k,tl⟩=>(52,.int .i64 k)::e) (fun e ⟨k,tl⟩=>(21,.row 3 1 (.slice (some ⟨b21,0,none⟩) f.vars.length f.vars.length) f.vars.length (tl.map zb))::e) (fun⟨k,tl⟩=>k<=x2.uses.length/\TlOk f vals (x2.uses.take k) tl) (fun⟨k,tl⟩=>x2.uses.length - k) (0,zhQ f) j2 j3 j1 j1 j1 ⟨ztC _,TlOk.start db⟩ ?_);rintro⟨k,tl⟩ ⟨hk,dB⟩;have dQ:=dB.inv.len;refine Vs 6 O (zp4 O (fun lk=>?_) (fun lk=>?_))
 .
  refine Vs 6 O (zrI 3000 0 k tO hY O O O (fun u fb fe fg dR dm dS dT=>?_));obtain rfl:=dT;refine zrg 3000 tR57 ts85 O dS tO _ rfl O ?_;have fm:=zdQ hR.of_ (dl.ver u dm);have fp:=(dl.ver u dm).1;have dU:=hR.use n x2 dc u dm;obtain⟨v,hv⟩:∃ v:Nat,u.1=(v:Int):=⟨u.1.toNat,tO⟩;obtain⟨q,hq⟩:∃ q:Nat,u.2=(q:Int):=⟨u.2.toNat,tO⟩;have dV:v<f.vars.length:=tO;have da:=(dJ v dV).2 tD;rw[<- hv,dU,hq,ztJ]at da;have dg:=zgJ (l:=vals) (i:=v) (by rw[hV.len];exact dV);have fq:q<vl.length:=(ztB.1 (da.trans dg)).1;have eN:=dB.next hV hv dV;refine zrJ 4000 0 q tO dK O O (fun z ft fu dW eO dX=>?_);have hz:z=lki vals v:=Option.some.inj (dW.symm.trans (da.trans dg));refine Vs 1 O (V.alloc 9 tz85 O O (fun b9=>?_));refine Vs 3 O (Vw [900,901,3000,4000,9] [] O (Vd [0,1,2,3,4,5,6,7,8] 0 tK O O O (zrh 9 4000 tR27 ts3 O tK O dX tO (q) tO O (Vb [10,11] 0 tK O O O tO (zrr 12 21 0 (v) ts3 O tK O O tO tD (VD.done tK (Vs 2 O (zrL 21 O (e':=.row 3 1 (.slice (some ⟨b21,0,none⟩) f.vars.length f.vars.length) f.vars.length ((tl.set v (lki vals v)).map zb)) (by rw[hz,zvB]) (Va 4 O tO (V.back ⟨k+1,tl.set v (lki vals v)⟩ j2 j3 ⟨tO,by rw[ze dR];exact eN⟩ tD 0 O O))))))))))
 obtain rfl:k=x2.uses.length:=tO;rw[zts]at dB;refine zrI 5000 0 n tO hs O O O (fun st eP eQ eR dC ec dD dE=>?_);obtain⟨ed,ee,ef,eh,rfl,dh,dF,dG,dH⟩:=dE.get;obtain⟨ei,ej,rfl⟩:=dh.form;obtain⟨ek,em,rfl⟩:=dF.form;obtain⟨er,ew,rfl⟩:=dG.form;obtain⟨ez,eA,rfl⟩:=dH.form;obtain rfl:st=stN f (xf g n):=Option.some.inj (dC.symm.trans dN)
 have da:xK tl (stN f (xf g n)).term=xK vals (stN f (xf g n)).term:=zl5 _ fun v hv=>by
  have dO:stN f (xf g n)=yp f (xf g n).at_:=by unfold stN;rw[zty eC]
  rw[dO]at hv;have hm:=(zo0 eD).2 hv;rw[show rdN f (xf g n)=x2.uses.map (·.1) from dl.use.symm]at hm;obtain⟨u,hu,rfl⟩:=zvI.1 hm;exact dB.eq u hu
 refine Vs 6 O (Vw [900,901,5000] [] O (Vd [0,1,2,3] 0 tK O O O (zrf 73 901 0 O O (Vd [4,5,6,7,8,9,10,11,12] 0 tK O O O (zrf 82 901 0 O O (Vd [13,14,15,16] 0 tK O O O (zrh 17 5000 tR24 ts72 O tK O dD tO (n) tO O (Vd [18,19] 0 tK O O O (zrt 20 0 call45 O tK O O (fun w hI=>zc6 db dB.inv (stN f (xf g n)).term dI.formed dI.ranged dI.small _ _ _ (fun _=>True) w _ _ (Tr1 hI.k0 dL) (zqa zb j9 (show w.ownsRow 0 3 1 _ tl.length _ from dQ ▸ hI.at 21 O) (fun _ _=>trivial)) (RTm.put im)) ?_)))))))));refine Vd [21,22,23,24,25] 0 tK O O O (VD.done tK (Vs 8 O (zpl results92 O iR)))
end Go.Proofs.YtckdhgbepmpgiaaGreat
namespace Go.GL
open Go.RowKit Go.ChangeMaps
section
variable {κ:Type} [DecidableEq κ]
variable {ke:κ->Value}
omit [DecidableEq κ] in
section
variable {ty:TypeId} {pos:String} {g:Option (Nat × Bool)} {kt:TypeId} {l:List (κ × Value)}
omit [DecidableEq κ] in
end
end
open Go.RowKit Go.ChangeMaps
section
variable {κ:Type} [DecidableEq κ] {ke:κ->Value}
section
variable {ty:TypeId} {pos:String} {g:Option (Nat × Bool)} {kt:TypeId} {l:List (κ × Value)}
omit [DecidableEq κ] in
end
end
section
variable {n:Fm}
variable {d2:Nat} {op op2:Op} {ty ty2:TypeId} {ps ps2:String} {aft2:Array Edge} {g:Option (Nat × Bool)}
theorem zsK (i k j:Nat) {β:Type} {e:HE} {E':β->HE} {r:β->Value} (hi:ops[i]?=some ⟨some d,op,ty,ps,aft,g⟩) (hr:Region.ready .any ops listed=[i]) (hn:(Nat.blt d n,gd ops env g,hget H k,qA H k,qd (Hs.map (·.1)),qr k (Hs.map (·.1)))=(true,some true,some e,none,true,true)) (hB:Bs.drop j=B0)
  (hE:∀ x,(E' x).loc/\∀ b,¬ (E' x).fz b) (hm:∀ w,VI Bs H w->yM P ⟨some d,op,ty,ps,aft,g⟩ env w (fun u w'=>∃ x,u=r x/\(E' x).holds w'/\Keep e.S w w'/\∀ q,(E' x).S q->(e.S q\/w.heap.size<=q)/\q<w'.heap.size))
  (h:∀ x,VD P n Q ks ops Hs B0 L fuel (listed.setIfInBounds i true) ((d,r x)::env) ((d,none)::A) (hset H k (E' x)) Bs):VD P n Q ks ops Hs B0 L (fuel+1) listed env A H Bs:=by
 simp only[Prod.mk.injEq]at hn;subst hB;obtain⟨h1,h2,h3,h4,h5,h6⟩:=hn;refine fun hH hA w hI=>zrA i hi hr h1 h2 (.inl (hm w hI)) ?_;rintro _ w' ⟨x,rfl,hh,hk,hS⟩;have hY:=hI.set h3 hk hh (hE x).1 (hE x).2 hS;have da:Has Hs (hset H k (E' x)):=hH.set h3 h6;exact⟨(hY.drop j).pick da h5,h x da (TgOk.none (hA.res h3 h4)) w' hY⟩
theorem zsy (i k j:Nat) {e e':HE} (hi:ops[i]?=some ⟨none,op,ty,ps,aft,g⟩) (hr:Region.ready .any ops listed=[i]) (hn:(gd ops env g,hget H k,qA H k,qd (Hs.map (·.1)),qr k (Hs.map (·.1)))=(some true,some e,none,true,true)) (hB:Bs.drop j=B0) (hl:e'.loc) (hz:∀ b,¬ e'.fz b)
  (hm:∀ w,VI Bs H w->xY P ⟨none,op,ty,ps,aft,g⟩ env w (fun w'=>e'.holds w'/\Keep e.S w w'/\∀ q,e'.S q->(e.S q\/w.heap.size<=q)/\q<w'.heap.size))
  (h:VD P n Q ks ops Hs B0 L fuel (listed.setIfInBounds i true) env A (hset H k e') Bs):VD P n Q ks ops Hs B0 L (fuel+1) listed env A H Bs:=by
 simp only[Prod.mk.injEq]at hn;subst hB;obtain⟨h1,h3,h4,h5,h6⟩:=hn;refine fun hH hA w hI=>zrD i hi hr h1 (hm w hI) ?_;rintro w' ⟨hh,hk,hS⟩;have hY:=hI.set h3 hk hh hl hz hS;have da:Has Hs (hset H k e'):=hH.set h3 h6;exact⟨(hY.drop j).pick da h5,h da (hA.res h3 h4) w' hY⟩
end
end Go.GL
namespace Go.Proofs.YtckdhgbepmpgiaaGreat
open Go.GL
theorem zh5 {n:Nat} (h:w.ownsRow 0 e 1 (.slice (some ⟨b,0,none⟩) n c) n xs) (hv:xs[i]?=some v):w.cell? ⟨b,0+(i:Int).toNat*1,none⟩=some v:=by
 have:=(jR h).2.2 i v hv
 grind
theorem zjB {x:Int} (h:l[k]?=some x) (hn:x ∉ l.take k):l.idxOf x=k:=by
 induction l generalizing k with
 | nil=>simp at h
 | cons y l ih =>
  cases k with
  | zero=>simp at h;subst h;simp
  | succ k =>
   rw[List.take_succ_cons,ztD]at hn;have hY:(y == x)=false:=tD;rw[List.idxOf_cons,hY,cond_false,ih tD (fun e=>hn (.inr e))]
theorem zd3 (l:List Int) (x:Int) (v:Value) (D:Nat->Prop) (W:World) (hv:SlR 1 zv D W v l) (hx:x ∈ l):Calls prog 91 #[v,.int .i64 x] W (Ret fun r w'=>r=.int .i64 ((l.idxOf x:Nat):Int)/\Ext W w'):=by
 obtain⟨av,cv,rfl⟩:=hv.form;have dg:=hv.max;refine zqR func91 O ntmps91 O (V.inn (Vs 14 O (zrM (σ:=Nat) [0,1,7] [] [] O (fun e k=>(8,.int .i64 k)::e) (fun e k=>e) (fun k=>k<=l.length/\x ∉ l.take k) (fun k=>l.length - k) 0 j2 j3 j1 j1 j1 ⟨ztC _,tR⟩ ?_)));rintro k ⟨hk,hn⟩;refine Vs 6 O (zp4 O (fun db=>?_) (fun db=>?_))
 .
  refine Vs 15 O (zrJ 1000 0 k tO hv O O (fun y dh dl hY dc da=>?_));refine zrg 1000 tR27 ts3 O da tO _ rfl O (Vs 4 O (zp4 O (fun he=>?_) (fun he=>?_)))
  . refine Vs 12 O (zrz 0 results91 O O (by rw[zjB (he ▸ hY) hn]))
  refine Va 7 O tO (V.back (k+1) j2 j3 ⟨tO,fun h=>((zfd hY).1 h).elim hn he⟩ tO 0 O O)
 grind
noncomputable def phV (f:Fl) (g:List Nd) (s:Sf) (y:Nat) (vl:List Int) (p:Phn):Int:=lki vl (zaV f g s y p.var).toNat
noncomputable def ju (f:Fl) (g:List Nd) (s:Sf) (y:Nat) (vl:List Int) (l:List Phn):List Int:=l.foldl (fun t p=>t.set p.ver.toNat (phV f g s y vl p)) vl
theorem zhR {y:Nat} {l:List Phn} (h:l[i]?=some p):ju f g s y vl (l.take (i+1))=(ju f g s y vl (l.take i)).set p.ver.toNat (phV f g s y vl p):=by
 unfold ju;rw[ze h,zv8];rfl
theorem zch {y:Nat} (l:List Phn):(ju f g s y vl l).length=vl.length:=by
 unfold ju;suffices ∀ t:List Int,(l.foldl (fun t p=>t.set p.ver.toNat (phV f g s y vl p)) t).length=t.length from this vl;induction l with
 | nil=>intro t;rfl
 | cons p l ih=>intro t;rw[zv9,ih,zvu]
theorem zlu (f:Fl) (g:List Nd) (s:Sf) (hR:RightF f g s (rdV f g)) (n:Nat) (hn:n<g.length) (y:Nat) (hy:(zp s n).phis ≠ []->y ∈ zJ g n) (_:g.length<=100000) (d6:(zp s n).phis.length<=1000000) (vl:List Int) (d7:vl.length=s.of_.length) (_:vl.length<=1000000) (b gb bv cv:Nat) (ofv nodv hv rv ov tv:Value) (D:Nat->Prop) (W:World) (hc:Cells W b 0 (rnr gb ofv nodv (.slice (some ⟨bv,0,none⟩) vl.length cv) hv rv ov tv)) (hS:RSf D W s ofv nodv) (dw:(jr (.slice (some ⟨bv,0,none⟩) vl.length cv) vl).holds W) (d8:∀ q,D q->bv ≠ q) (dB:bv ≠ b) :
  Calls prog 47 #[.pointer (some ⟨b,0,none⟩),.int .i64 y,.int .i64 n] W (Ret fun r w'=>∃ _x:Unit,r=.tuple #[]/\(jr (.slice (some ⟨bv,0,none⟩) vl.length cv) (ju f g s y vl (zp s n).phis)).holds w'/\Keep (jr (.slice (some ⟨bv,0,none⟩) vl.length cv) vl).S W w'/\∀ q,(jr (.slice (some ⟨bv,0,none⟩) vl.length cv) (ju f g s y vl (zp s n).phis)).S q->((jr (.slice (some ⟨bv,0,none⟩) vl.length cv) vl).S q\/W.heap.size<=q)/\q<w'.heap.size):=by
 have dC:=hS.nodes;obtain⟨an,cn,rfl⟩:=dC.form;have eE:=dC.max;have d9:=hR.len;obtain⟨x,dm⟩:∃ x,s.nodes[n]?=some x:=iA;have db:=hR.nod n x dm;have eb:zp s n=x:=yL dm;rw[eb]at d6 hy ⊢;have dx:∀ q,(jr (.slice (some ⟨bv,0,none⟩) vl.length cv) vl).S q->¬ D q:=fun q h hd=>d8 q hd (by cases h;rfl)
 have dD:∀ p ∈ x.phis,∃ q:Nat,p.ver=(q:Int)/\q<vl.length:=fun p hp=>by
  obtain⟨q,h1,h2⟩:=jL (db.phi.ver p hp)
  grind
 refine zqS func47 O ntmps47 O (zs3 900 (.row 3 1 (.slice (some ⟨bv,0,none⟩) vl.length cv) vl.length (vl.map zb)) (dw) trivial (fun _ h=>h) (fun q hq=>xp dw hq) (zrG 901 0 O O (fun h=>dB (by cases h;rfl)) hc (zre 0 901 0 O O (Vs 8 O (zrH 1000 0 n tO dC O O O iv (fun x2 ec ed ee dl dS dy dT dz=>?_))))));obtain⟨dU,dV,rfl,hY,dA⟩:=dz;obtain⟨dW,dX,rfl⟩:=hY.form;obtain⟨dY,dZ,rfl⟩:=dA.form;refine zrg 1000 tR28 ts59 O dy tO _ rfl O ?_;obtain rfl:x2=x:=Option.some.inj (dl.symm.trans dm);refine Vs 9 O (zpW 23 tu27 Tryz.el3 O tO tO (zs:=List.replicate x2.phis.length (.int .i64 0)) JY tR (fun b23=>?_));generalize hm:x2.phis.length=m at *;have ef:=hY.max;refine Vs 11 O (zrL 23 O (e':=.row 3 1 (.slice (some ⟨b23,0,none⟩) m m) m (((x2.phis.take 0).map (phV f g s y vl)++List.replicate (m - 0) 0).map zb)) (by simp[zb]) (Vs 1 O (zrM (σ:=Nat) [0,1,6,7,24,25] [901] [0] O (fun e i=>(26,.int .i64 i)::e) (fun e i=>(23,.row 3 1 (.slice (some ⟨b23,0,none⟩) m m) m (((x2.phis.take i).map (phV f g s y vl)++List.replicate (m - i) 0).map zb))::(900,.row 3 1 (.slice (some ⟨bv,0,none⟩) vl.length cv) vl.length (vl.map zb))::e) (fun i=>i<=m) (fun i=>m - i) 0 j2 j3 j1 j1 j1 (ztC _) ?_)));rintro i hi;refine Vs 6 O (zp4 O (fun li=>?_) (fun li=>?_))
 .
  refine Vs 7 O (zrH 2000 0 i tO hY O O O iv (fun p eh ei ej dc da dt dE du=>?_));obtain⟨dF,dG,rfl,dg,dh⟩:=du;obtain⟨dH,dI,rfl⟩:=dg.form;obtain⟨dJ,dK,rfl⟩:=dh.form;refine zrg 2000 tR56 ts88 O dt tO _ rfl O ?_;have ek:=db.phi.frm p da;have eF:=db.phi.len p da;have dL:(y:Int) ∈ p.frm:=by rw[ek];exact zvI.2 ⟨y,hy (fun e=>tD),rfl⟩
  generalize hj:p.frm.idxOf (y:Int)=j;have dM:j<p.frm.length:=tD;refine zrH 3000 0 j tO dh O O O iv (fun a eG eH eI dN dO dQ em dR=>?_);obtain rfl:=dR;have er:p.frm[j]?=some (y:Int):=by rw[ztn dM];congr 1;subst hj;exact zvm dM
  have d5:=hR.arg n x2 dl p da j _ a er dN;rw[ztJ]at d5;obtain⟨q,hq,ew⟩:=jL (db.phi.args p da a dO);subst hq;have ez:phV f g s y vl p=lki vl q:=by unfold phV;rw[d5,ztJ]
  refine Vs 1 O (V.alloc 9 tz88 O O (fun b9=>?_));refine Vs 4 O (Vw [901,900,2000,3000,9] [17] O (Vd [0,1,2,3,4,5,6,7,8,9,10] 0 tK O O O (zrt 11 0 call91 O tK O O (fun w hI=>zd3 p.frm y _ _ w (dg.keep zc hI.k0 fun q hd _ h=>dx q h hd) dL) (zrh 12 3000 tR27 ts3 O tK O dQ tO (j) tO O (Vd [13] 0 tK O O O (zrZ 14 O tK O (fun w=>zpH tR27 ts3 O O O tO) (zs5 15 O tK O 0 O O (fun w hI=>R.load tg3 O (zh5 (show w.ownsRow 0 3 1 (.slice (some ⟨bv,0,none⟩) vl.length cv) vl.length (vl.map zb) from hI.at 900 O) (show (vl.map zb)[q]?=some (zb (lki vl q)) by rw[ztE,zgJ tO];rfl))) ?_)))))))
  have eA:(((x2.phis.take i).map (phV f g s y vl))++List.replicate (m - i) 0).set i (phV f g s y vl p)=((x2.phis.take (i+1)).map (phV f g s y vl))++List.replicate (m - (i+1)) 0:=by
   rw[ze dc,zvv,zw4 _ _ tD,ztH,ztR,show i - min i x2.phis.length=0 by omega,show m - i=(m - (i+1))+1 by omega,zw1];simp
  refine Vb [16] 0 tK O O O tO (zrr 17 23 0 (i) ts3 O tK O O tO tD (VD.done tK (Vs 2 O (zrL 23 O (e':=.row 3 1 (.slice (some ⟨b23,0,none⟩) m m) m (((x2.phis.take (i+1)).map (phV f g s y vl)++List.replicate (m - (i+1)) 0).map zb)) (by rw[<- eA,zvB,ez]) (Va 4 O tO (V.back (i+1) j2 j3 tO tO 0 O O))))))
 obtain rfl:i=m:=tO;refine zrL 23 O (e':=.row 3 1 (.slice (some ⟨b23,0,none⟩) i i) i ((x2.phis.map (phV f g s y vl)).map zb)) tD (Vs 12 O (zrL 900 O (e':=.row 3 1 (.slice (some ⟨bv,0,none⟩) vl.length cv) vl.length ((ju f g s y vl (x2.phis.take 0)).map zb)) (by rfl) (Vs 1 O (zrM (σ:=Nat) [0,7,49,50] [23,901] [0] O (fun e k=>(51,.int .i64 k)::e) (fun e k=>(900,.row 3 1 (.slice (some ⟨bv,0,none⟩) vl.length cv) vl.length ((ju f g s y vl (x2.phis.take k)).map zb))::e) (fun k=>k<=i) (fun k=>i - k) 0 j2 j3 j1 j1 j1 (ztC _) ?_))));rintro k hk;refine Vs 6 O (zp4 O (fun lk=>?_) (fun lk=>?_))
 .
  refine Vs 7 O (zrH 4000 0 k tO hY O O O iv (fun p eh ei ej dc da dt dE du=>?_));obtain⟨dF,dG,rfl,dg,dh⟩:=du;obtain⟨dH,dI,rfl⟩:=dg.form;obtain⟨dJ,dK,rfl⟩:=dh.form;refine zrg 4000 tR56 ts88 O dt tO _ rfl O ?_;obtain⟨q,hq,ew⟩:=dD p da;have dM:=zch (f:=f) (g:=g) (s:=s) (y:=y) (vl:=vl) (x2.phis.take k);refine Vs 1 O (V.alloc 11 tz88 O O (fun b11=>?_));refine Vs 4 O (Vw [23,901,4000,11] [11] O (Vb [0,1,2,3,4,5,6,7,8] 0 tK O O O tO (zs5 9 O tK O 0 O O (fun w hI=>R.load tg3 O (zh5 (show w.ownsRow 0 3 1 (.slice (some ⟨b23,0,none⟩) i i) i _ from hI.at 23 O) (show ((x2.phis.map (phV f g s y vl)).map zb)[k]?=some (zb (phV f g s y vl p)) by rw[ztE,ztE,dc];rfl))) ?_)));refine zrZ 10 O tK O (fun w=>zpH tR27 ts3 O O O tO) (zsa 11 900 (q) ts3 O tK O tO tD (VDx.done tK (Vs 2 O (zrL 900 O (e':=.row 3 1 (.slice (some ⟨bv,0,none⟩) vl.length cv) vl.length ((ju f g s y vl (x2.phis.take (k+1))).map zb)) (by rw[zhR dc,hq,ztJ,zvB]) (Va 4 O tO (V.back (k+1) j2 j3 tO tO 0 O O))))))
 obtain rfl:k=i:=tO;refine zrL 900 O (e':=jr (.slice (some ⟨bv,0,none⟩) vl.length cv) (ju f g s y vl x2.phis)) (by rw[zwc tO];unfold jr;rw[zch]) (Vs 4 O (zpA results47 (fun w hI=>⟨_,rfl,(),rfl,hI.at 900 rfl,hI.k0,fun q hq=>hI.inS 0 900 O O hq⟩)))
theorem zjC {l:List Phn} (h:∀ p ∈ l,p.ver.toNat ≠ k):∀ t:List Int,(l.foldl (fun t p=>t.set p.ver.toNat (F p)) t)[k]?=t[k]?:=by
 induction l with
 | nil=>exact fun _=>rfl
 | cons q l ih =>
  intro t;rw[zv9,ih fun p hp=>h p (ztq _ hp),zvj (h q (ztr ..))]
theorem zlv {l:List Phn} (hY:(l.map fun p=>p.ver.toNat).Nodup) (hp:p ∈ l):∀ t:List Int,p.ver.toNat<t.length->(l.foldl (fun t p=>t.set p.ver.toNat (F p)) t)[p.ver.toNat]?=some (F p):=by
 induction l with
 | nil=>cases hp
 | cons q l ih =>
  intro t ht;rw[zvx,zvQ]at hY;rw[zv9];rcases ztD.1 hp with rfl | hp
  . rw[zjC fun r hr e=>hY.1 (zvI.2 ⟨r,hr,e⟩),zvk ht]
  grind
theorem zhS {rd:Nat->List Int} (h:FormF f g s rd) {n:Nat} (hn:n<g.length):((zp s n).phis.map fun p=>p.ver.toNat).Nodup:=by
 have da:=(h.at hn).phi
 have h1:((zp s n).phis.map (·.ver)).Nodup:=by
  rw[List.nodup_iff_count];intro a;have db:((zp s n).phis.map (·.ver)).count a<=(dfL f g s n).count a:=by unfold dfL;rw[zuI];omega
  have dc:(dfL f g s n).count a<=(qx f g s).count a:=by
   unfold qx;rw[List.flatMap_def];exact(zw7 (zvI.2 ⟨n,zvN.2 hn,rfl⟩)).count_le a
  by_cases ha:a ∈ (zp s n).phis.map (·.ver)
  .
   obtain⟨h2,h3⟩:=zeY h hn (show a ∈ dfL f g s n by grind);obtain⟨k,rfl⟩:=zul (show 0<=a by omega);have:=h.one k tO tO;omega
  grind
 rw[show ((zp s n).phis.map fun p=>p.ver.toNat)=((zp s n).phis.map (·.ver)).map Int.toNat by rw[zvy];rfl];refine List.Pairwise.map _ (fun a b hY=>hY) (List.Pairwise.imp_of_mem (fun {a b} ha hb hY e=>?_) h1);obtain⟨p,hp,rfl⟩:=zvI.1 ha;obtain⟨q,hq,rfl⟩:=zvI.1 hb;have h2:=(da.ver p hp).1;have h3:=(da.ver q hq).1;exact hY tO
theorem zjD {rd:Nat->List Int} (h:RightF f g s rd) {n y:Nat} (h0:n ≠ 0) (hn:n<g.length) (hy:y ∈ zJ g n) (dg:vl.length=s.of_.length) (hp:zj2 f g s y vl vals):InvV f g s n (ju f g s y vl (zp s n).phis) vals:=by
 have hf:=h.toFormF;have da:=(hf.at hn).phi;have dh:=zhS hf hn;have hl:=hf.len;have e:=ztn (show n<s.nodes.length by omega);have dl:=yL e
 have db:∀ p ∈ (zp s n).phis,∃ q:Nat,zaV f g s y p.var=(q:Int)/\q<s.of_.length:=fun p hY=>by
  have dc:(y:Int) ∈ p.frm:=by rw[da.frm p hY];exact zvI.2 ⟨y,hy,rfl⟩
  obtain⟨i,hi⟩:=zvH.1 dc;have dm:=(ztB.1 hi).1;have ha:=ztn (show i<p.args.length by have:=da.len p hY;omega);have:=h.arg n _ e p tD i _ _ hi ha;rw[ztJ]at this;rw[this];exact jL (da.args p hY _ (zto ha))
 refine InvV.join h h0 hn hy hp (fun p hY=>?_) (fun k hk=>?_) fun p hY=>?_
 .
  obtain⟨q,hq,dr⟩:=db p hY;obtain⟨m,hm,dt⟩:=jL (da.ver p hY);unfold ju;rw[zlv (F:=phV f g s y vl) dh hY vl tO];unfold phV;rw[hq,ztJ,zgJ tO]
 .
  unfold ju;exact zjC (F:=phV f g s y vl) (fun p hY e2=>hk p hY (by have:=(da.ver p hY).1;omega)) vl
 grind
def zoF:Tm:=.mk 24 0 []
def zoG:Tm:=.mk 24 1 []
def zoH:Tm:=.mk 0 1 []
def zlw:St:=.mk 0 0 1 0 zoH [] [] []
def zoa:St:=.mk 3 0 0 0 zoF [zlw] [] []
def zob:St:=.mk 1 0 0 0 zoG [] [] []
def exF22:Fl:=⟨[⟨⟨#[120]⟩,1,0,1,0⟩,⟨⟨#[121]⟩,0,0,1,0⟩],[],[zoa,zob]⟩
def exG22:List Nd:=[⟨0,-1,1,-1⟩,⟨3,0,2,3⟩,⟨2,1,3,-1⟩,⟨2,2,4,-1⟩,⟨1,-1,-1,-1⟩]
def exS22:Sf:=⟨[0,1,1,1],[⟨[],[],-1⟩,⟨[],[(0,0)],-1⟩,⟨[],[],2⟩,⟨[⟨1,3,[1,2],[1,2]⟩],[(1,3)],-1⟩,⟨[],[],-1⟩]⟩
theorem zhT:yq exF22=0:=by decide +kernel
theorem zd4:zd exF22=exG22:=by rfl
theorem zjE:snodes exF22.body+zz exF22.hatches<=1024:=by decide +kernel
theorem zjF:sbulk exF22.body<=1000000:=by decide +kernel
theorem zn8:OfF exF22 exS22:=by
 refine⟨tS,fun k v hk hl=>?_,fun k v hk hl=>?_⟩
 .
  match k with
  | 0=>simp[exS22]at hk;omega
  | 1=>simp[exS22]at hk;omega
  | k+2=>exact absurd hl (by show ¬ k+2<2;omega)
 match k with
 | 0=>simp[exF22]at hl
 | 1=>simp[exF22]at hl
 | 2=>simp[exS22]at hk;subst hk;exact⟨tS,_,rfl,rfl⟩
 | 3=>simp[exS22]at hk;subst hk;exact⟨tS,_,rfl,rfl⟩
 | k+4=>simp[exS22]at hk
theorem zbh {n:Nat}:PhiF f g s n []:=⟨fun _=>rfl,List.Pairwise.nil,fun p h=>tD,fun p h=>tD,fun p h=>tD,fun p h=>tD⟩
theorem ex22_form:FormF exF22 exG22 exS22 (rdV exF22 exG22):=by
 refine⟨zn8,rfl,fun n x hx=>?_,fun k h1 h2=>?_⟩
 .
  match n with
  | 0=>simp[exS22]at hx;subst hx;exact U1
  | 1=>simp[exS22]at hx;subst hx;exact⟨zbh,fun _=>rfl,fun h=>absurd h iG,by decide +kernel,fun u h=>by simp at h;subst h;decide +kernel⟩
  | 2=>simp[exS22]at hx;subst hx;exact⟨zbh,fun h=>absurd h iG,fun _=>by decide +kernel,by decide +kernel,fun u h=>tD⟩
  | 3 =>
   simp[exS22]at hx;subst hx;refine⟨⟨fun h=>tO,zvX _ _,fun p h=>?_,fun p h=>?_,fun p h=>?_,fun p h a ha=>?_⟩,fun _=>rfl,fun h=>absurd h iG,by decide +kernel,fun u h=>?_⟩
   . rw[ztF]at h;subst h;decide +kernel
   . rw[ztF]at h;subst h;decide +kernel
   . grind
   . rw[ztF]at h;subst h;simp at ha;rcases ha with rfl | rfl<;>decide +kernel
   rw[ztF]at h;subst h;decide +kernel
  | 4=>simp[exS22]at hx;subst hx;exact U1
  | n+5=>simp[exS22]at hx
 match k with
 | 0=>exact absurd h1 tS
 | 1=>exact absurd h1 tS
 | 2=>decide +kernel
 | 3=>decide +kernel
 | k+4=>exact absurd h2 (by show ¬ k+4<4;omega)
def zcC:List (List Int):=[[0,1],[0,1],[0,1],[0,3],[0,3]]
theorem zn9:∀ i:Nat,i<5->RV exF22 exG22 exS22 0 i 0:=by
 have h0:RV exF22 exG22 exS22 0 0 0:=.ini;have h1:RV exF22 exG22 exS22 0 1 0:=.pass (y:=0) tS iG iG iG h0;have h2:RV exF22 exG22 exS22 0 2 0:=.pass (y:=1) tS iG iG iG h1;have h3:RV exF22 exG22 exS22 0 3 0:=.pass (y:=1) tS iG iG iG h1;have h4:RV exF22 exG22 exS22 0 4 0:=.pass (y:=3) tS iG iG iG h3
 grind
theorem zna:∀ i:Nat,i<5->RV exF22 exG22 exS22 1 i (bfV zcC i 1):=by
 have h0:RV exF22 exG22 exS22 1 0 1:=.ini;have h1:RV exF22 exG22 exS22 1 1 1:=.pass (y:=0) tS iG iG iG h0;have h2:RV exF22 exG22 exS22 1 2 1:=.pass (y:=1) tS iG iG iG h1;have h3:RV exF22 exG22 exS22 1 3 3:=.phi tS iG;have h4:RV exF22 exG22 exS22 1 4 3:=.pass (y:=3) tS iG iG iG h3;intro i hi
 match i with
 | 0=>exact h0
 | 1=>exact h1
 | 2=>exact h2
 | 3=>exact h3
 | 4=>exact h4
 | i+5=>omega
theorem ex22_sol:SolV exF22 exG22 exS22 2 (bfV zcC):=by
 have key:∀ i:Nat,i<5->0<=bfV zcC i 0/\bfV zcC i 0=0/\0<=bfV zcC i 1/\bfV zcC i 0=eqV exG22 exS22 (xc exF22 exG22 exS22 (bfV zcC)) i 0/\bfV zcC i 1=eqV exG22 exS22 (xc exF22 exG22 exS22 (bfV zcC)) i 1:=by decide +kernel
 refine⟨fun i hi v h0 h1=>?_,fun i hi v h0 h1=>?_⟩
 .
  obtain⟨k1,k2,k3,_⟩:=key i hi;have hv:v=0\/v=1:=tO;rcases hv with rfl | rfl
  . exact .inr (.inl ⟨k1,by rw[k2];exact zn9 i hi⟩)
  exact .inr (.inl ⟨k3,zna i hi⟩)
 obtain⟨_,_,_,k4,k5⟩:=key i hi;have hv:v=0\/v=1:=tO;rcases hv with rfl | rfl
 . exact k4
 exact k5
theorem zhU:RightF exF22 exG22 exS22 (rdV exF22 exG22):=by
 have hs:=ex22_form.nn;have hY:∀ i:Nat,i<5->∀ v:Int,0<=v->v<2->inV exF22 exG22 exS22 i v=bfV zcC i v:=fun i hi v h0 h1=>(ex22_sol.is hs h0 h1 hi).symm;refine⟨ex22_form,fun n x hx u hu=>?_,fun n x hx p hp i y a hy ha=>?_⟩
 .
  match n with
  | 0=>simp[exS22]at hx;subst hx;cases hu
  | 1=>simp[exS22]at hx;subst hx;rw[ztF]at hu;subst hu;rw[hY 1 tS 0 tS tS];decide +kernel
  | 2=>simp[exS22]at hx;subst hx;cases hu
  | 3=>simp[exS22]at hx;subst hx;rw[ztF]at hu;subst hu;rw[hY 3 tS 1 tS tS];decide +kernel
  | 4=>simp[exS22]at hx;subst hx;cases hu
  | n+5=>simp[exS22]at hx
 match n with
 | 0=>simp[exS22]at hx;subst hx;cases hp
 | 1=>simp[exS22]at hx;subst hx;cases hp
 | 2=>simp[exS22]at hx;subst hx;cases hp
 | 3 =>
  simp[exS22]at hx;subst hx;rw[ztF]at hp;subst hp
  match i with
  | 0=>simp at hy ha;subst hy;subst ha;show xc exF22 exG22 exS22 (inV exF22 exG22 exS22) 1 1=1;unfold xc;rw[hY 1 tS 1 tS tS];decide +kernel
  | 1=>simp at hy ha;subst hy;subst ha;show xc exF22 exG22 exS22 (inV exF22 exG22 exS22) 2 1=2;unfold xc;rw[hY 2 tS 1 tS tS];decide +kernel
  | i+2=>simp at hy
 | 4=>simp[exS22]at hx;subst hx;cases hp
 | n+5=>simp[exS22]at hx
def exT22:Sf:=⟨[0,1,1,1],[⟨[],[],-1⟩,⟨[],[(0,0)],-1⟩,⟨[],[],2⟩,⟨[],[(1,2)],-1⟩,⟨[],[],-1⟩]⟩
theorem zhV:¬ RightF exF22 exG22 exT22 (rdV exF22 exG22):=fun h=>absurd (h.one 3 tS tS) iG
theorem zci:¬ yw exF22 exG22 ≠ 0:=fun h=>h (by unfold yw;rw[ztx (by rw[zhT];exact fun h=>h rfl),zty zd4])
theorem zcj:yG exF22 exG22 exS22=0:=zjx zci zhU
theorem zhW:yG exF22 exG22 exT22=13:=zhP zci zhV
end Go.Proofs.YtckdhgbepmpgiaaGreat
namespace Go.GL.Dfs
structure Rows (R:List (List Int)):Prop where
 ok:∀ (a:Nat) r,R[a]?=some r->∀ y ∈ r,∃ b:Nat,y=(b:Int)/\b<R.length
def Edge (R:List (List Int)) (a b:Nat):Prop:=∃ r,R[a]?=some r/\(b:Int) ∈ r
inductive Reach (R:List (List Int)) (root:Nat):Nat->Prop
 | refl:Reach R root root
 | step {a b:Nat}:Reach R root a->Edge R a b->Reach R root b
theorem Reach.lt (hR:Rows R) {x:Nat} (hr:root<R.length) (h:Reach R root x):x<R.length:=by
 cases h with
 | refl=>exact hr
 | step _ h =>
  obtain⟨r,h1,h2⟩:=h;obtain⟨b,h3,h4⟩:=hR.ok _ r h1 _ h2;have:=Int.ofNat.inj h3;omega
structure Inv (R:List (List Int)) (root:Nat) (seen:List Bool) (st:List (Nat × Nat)) (out:List Nat):Prop where
 len:seen.length=R.length
 mark:∀ x:Nat,seen[x]?=some true ↔ x ∈ st.map Prod.fst\/x ∈ out
 nodup:(st.map Prod.fst++out).Nodup
 done:∀ x ∈ out,∀ y:Nat,Edge R x y->seen[y]?=some true
 part:∀ x e,(x,e) ∈ st->∃ r,R[x]?=some r/\e<=r.length/\∀ (i b:Nat),i<e->r[i]?=some (b:Int)->seen[b]?=some true
 reach:∀ x:Nat,seen[x]?=some true->Reach R root x
 par:∀ l c e m,st=l++(c,e)::m->c=root\/∃ p e',(p,e') ∈ l/\Edge R p c
 opar:∀ l c m,out=l++c::m->c=root\/∃ p,Edge R p c/\(p ∈ st.map Prod.fst\/p ∈ m)
 top:(st=[]/\∃ l,out=l++[root])\/∃ e m,st=(root,e)::m
section
variable {st:List (Nat × Nat)} {out:List Nat}
theorem Inv.start (hr:root<R.length):Inv R root ((List.replicate R.length false).set root true) [(root,0)] []:=by
 have hs:∀ x,((List.replicate R.length false).set root true)[x]?=some true ↔ x=root:=by
  intro x;by_cases h:root=x
  . grind
  rw[zvj h];constructor
  . grind
  omega
 refine⟨tR,?_,tR,tR,?_,?_,?_,?_,.inr ⟨0,[],rfl⟩⟩
 . grind
 .
  intro x e h;simp at h;obtain⟨rfl,rfl⟩:=h;exact⟨_,ztn hr,ztC _,fun i b h=>tO⟩
 .
  intro x h;rw[hs]at h;subst h;exact .refl
 .
  intro l c e m h;cases l with
  | nil=>simp at h;exact .inl h.1.1.symm
  | cons a l=>simp at h
 intro l c m h;simp at h
theorem Inv.pop {x e:Nat} {r:List Int} (h:Inv R root seen (st++[(x,e)]) out) (hr:R[x]?=some r) (he:e=r.length):Inv R root seen st (out++[x]):=by
 refine⟨h.len,?_,?_,?_,?_,h.reach,?_,?_,?_⟩
 .
  intro y;rw[h.mark];simp only[zvv,zvx,zvz,ztG,ztF];constructor
  .
   rintro ((h1 | h1) | h1)
   . exact .inl h1
   . exact .inr (.inr h1)
   exact .inr (.inl h1)
  rintro (h1 | h1 | h1)
  . exact .inl (.inl h1)
  . exact .inr h1
  exact .inl (.inr h1)
 .
  have h1:=h.nodup;simp only[zvv,zvx,zvz]at h1;refine(List.Perm.nodup_iff ?_).1 h1;rw[zuE];exact List.Perm.append_left _ (List.perm_append_comm)
 .
  intro y hy z hz;rw[ztG,ztF]at hy;rcases hy with hy | rfl
  . exact h.done y hy z hz
  obtain⟨r',h1,h2,h3⟩:=h.part y e tR;rw[hr]at h1;cases h1;obtain⟨r',h4,h5⟩:=hz;rw[hr]at h4;cases h4;obtain⟨i,hi,hY⟩:=zvG.1 h5;exact h3 i z tO (by rw[ztn hi,hY])
 .
  intro y e' hy;exact h.part y e' tD
 .
  intro l c e' m hl;rcases h.par l c e' (m++[(x,e)]) tD with h1 | ⟨p,e'',h1,h2⟩
  . omega
  grind
 .
  intro l c m hl;rcases zuU m with rfl | ⟨m',z,rfl⟩
  .
   have h1:out=l/\x=c:=by
    have h2:=hl;rw[<- zuG,<- zuG]at h2;have h3:=congrArg List.getLast? hl;have h4:=congrArg List.dropLast hl
    grind
   obtain⟨rfl,rfl⟩:=h1;rcases h.par st x e [] rfl with h1 | ⟨p,e',h1,h2⟩
   . omega
   grind
  have h1:out=l++c::m'/\x=z:=by
   have h3:=congrArg List.getLast? hl;have h4:=congrArg List.dropLast hl;rw[show l++c::m'.concat z=(l++c::m')++[z] from tR]at h3 h4;rw[zuL,zuL]at h4;simp only[List.getLast?_append,List.getLast?_singleton,Option.some_or,Option.some.injEq]at h3;exact⟨h4,h3⟩
  obtain⟨h1,rfl⟩:=h1;rcases h.opar l c m' h1 with h2 | ⟨p,h2,h3⟩
  . omega
  refine .inr ⟨p,h2,?_⟩;simp only[zvv,zvx,zvz,ztG,ztF,zuG]at h3 ⊢;rcases h3 with (h3 | h3) | h3
  . grind
  . omega
  grind
 rcases h.top with⟨h1,_⟩ | ⟨e',m,h1⟩
 . simp at h1
 cases st with
 | nil =>
  simp at h1;exact .inl ⟨rfl,out,tD⟩
 | cons a s =>
  simp at h1;exact .inr ⟨e',s,tD⟩
theorem Inv.skip {x e:Nat} {r:List Int} (h:Inv R root seen (st++[(x,e)]) out) (hr:R[x]?=some r) (hb:r[e]?=some (b:Int)) (hs:seen[b]?=some true):Inv R root seen (st++[(x,e+1)]) out:=by
 have hm:(st++[(x,e+1)]).map Prod.fst=(st++[(x,e)]).map Prod.fst:=tR;have hY:e<r.length:=(ztB.1 hb).1;refine⟨h.len,by rw[hm];exact h.mark,by rw[hm];exact h.nodup,h.done,?_,h.reach,?_,by rw[hm];exact h.opar,?_⟩
 .
  intro y e' hy;rw[ztG,ztF]at hy;rcases hy with hy | hy
  . exact h.part y e' tD
  cases hy;obtain⟨r',h1,h2,h3⟩:=h.part x e tR;rw[hr]at h1;cases h1;refine⟨r,hr,tO,fun i c hi hc=>?_⟩;by_cases da:i<e
  . grind
  grind
 .
  intro l c e' m hl;rcases zuU m with rfl | ⟨m',z,rfl⟩
  .
   have h3:=congrArg List.getLast? hl;have h4:=congrArg List.dropLast hl;simp at h3 h4;obtain⟨rfl,rfl⟩:=h3;subst h4;exact h.par st x e [] O
  have h3:=congrArg List.getLast? hl;have h4:=congrArg List.dropLast hl;rw[show l++(c,e')::m'.concat z=(l++(c,e')::m')++[z] from tR]at h3 h4;rw[zuL,zuL]at h4;exact h.par l c e' (m'++[(x,e)]) tD
 rcases h.top with⟨h1,_⟩ | ⟨e',m,h1⟩
 . simp at h1
 cases st with
 | nil =>
  simp at h1;exact .inr ⟨e+1,[],tD⟩
 | cons a s =>
  simp at h1;exact .inr ⟨e',s++[(x,e+1)],tD⟩
theorem Inv.push {x e:Nat} {r:List Int} (h:Inv R root seen (st++[(x,e)]) out) (hr:R[x]?=some r) (hb:r[e]?=some (b:Int)) (hs:seen[b]?=some false):Inv R root (seen.set b true) (st++[(x,e+1)]++[(b,0)]) out:=by
 have db:b<seen.length:=(ztB.1 hs).1
 have da:∀ y,(seen.set b true)[y]?=some true ↔ seen[y]?=some true\/y=b:=by
  intro y;by_cases hy:b=y
  . grind
  rw[zvj hy];constructor
  . exact .inl
  grind
 have hm:(st++[(x,e+1)]++[(b,0)]).map Prod.fst=(st++[(x,e)]).map Prod.fst++[b]:=tR;have dg:e<r.length:=(ztB.1 hb).1;have hY:Edge R x b:=⟨r,hr,zto hb⟩;have dc:seen[x]?=some true:=(h.mark x).2 (.inl tR)
 have dh:¬ (b ∈ (st++[(x,e)]).map Prod.fst\/b ∈ out):=by
  intro h1;have:=(h.mark b).2 h1
  grind
 refine⟨by simp[h.len],?_,?_,?_,?_,?_,?_,?_,?_⟩
 .
  intro y;rw[da,h.mark,hm];simp only[ztG,ztF];constructor
  .
   rintro ((h1 | h1) | h1)
   . exact .inl (.inl h1)
   . exact .inr h1
   exact .inl (.inr h1)
  rintro ((h1 | h1) | h1)
  . exact .inl (.inl h1)
  . exact .inr h1
  exact .inl (.inr h1)
 .
  rw[hm,zuE]
  have h1:((st++[(x,e)]).map Prod.fst++([b]++out)).Perm (b::((st++[(x,e)]).map Prod.fst++out)):=by
   exact List.perm_middle
  rw[h1.nodup_iff,zvQ];exact⟨tD,h.nodup⟩
 .
  intro y hy z hz;rw[da];exact .inl (h.done y hy z hz)
 .
  intro y e' hy;simp only[ztG,ztF]at hy;rcases hy with (hy | hy) | hy
  .
   obtain⟨r',h1,h2,h3⟩:=h.part y e' tD
   grind
  .
   cases hy;obtain⟨r',h1,h2,h3⟩:=h.part x e tR;rw[hr]at h1;cases h1;refine⟨r,hr,tO,fun i c hi hc=>?_⟩;rw[da];by_cases dl:i<e
   . grind
   grind
  cases hy;exact⟨_,ztn (by rw[<- h.len];exact db),ztC _,fun i c hi=>tO⟩
 .
  intro y hy;rw[da]at hy;rcases hy with hy | rfl
  . exact h.reach y hy
  exact .step (h.reach x dc) hY
 .
  intro l c e' m hl;rcases zuU m with rfl | ⟨m',z,rfl⟩
  .
   have h3:=congrArg List.getLast? hl;have h4:=congrArg List.dropLast hl
   grind
  have h4:=congrArg List.dropLast hl;rw[show l++(c,e')::m'.concat z=(l++(c,e')::m')++[z] from tR]at h4;rw[zuL,zuL]at h4;rcases zuU m' with rfl | ⟨m'',z',rfl⟩
  .
   have h5:=congrArg List.getLast? h4;have h6:=congrArg List.dropLast h4;simp at h5;rw[zuL,zuL]at h6;obtain⟨rfl,rfl⟩:=h5;subst h6;exact h.par st x e [] O
  have h6:=congrArg List.dropLast h4;rw[show l++(c,e')::m''.concat z'=(l++(c,e')::m'')++[z'] from tR]at h6;rw[zuL,zuL]at h6;exact h.par l c e' (m''++[(x,e)]) (by rw[h6];simp)
 .
  intro l c m hl;rcases h.opar l c m hl with h1 | ⟨p,h1,h2⟩
  . exact .inl h1
  refine .inr ⟨p,h1,?_⟩;rw[hm,ztG];rcases h2 with h2 | h2
  . exact .inl (.inl h2)
  exact .inr h2
 rcases h.top with⟨h1,_⟩ | ⟨e',m,h1⟩
 . simp at h1
 cases st with
 | nil =>
  simp at h1;exact .inr ⟨e+1,[(b,0)],by simp[h1.1.1]⟩
 | cons a s =>
  simp at h1;exact .inr ⟨e',s++[(x,e+1)]++[(b,0)],by rw[h1.1];simp⟩
structure Order (R:List (List Int)) (root:Nat) (order:List Nat):Prop where
 head:order[0]?=some root
 nodup:order.Nodup
 mem:∀ x,x ∈ order ↔ Reach R root x
 par:∀ (i c:Nat),order[i]?=some c->c ≠ root->∃ j p:Nat,j<i/\order[j]?=some p/\Edge R p c
theorem Inv.finish (h:Inv R root seen [] out):Order R root out.reverse:=by
 obtain⟨l,hl⟩:∃ l,out=l++[root]:=by
  rcases h.top with⟨_,h1⟩ | ⟨e,m,h1⟩
  . exact h1
  cases h1
 refine⟨tD,?_,?_,?_⟩
 .
  have:=h.nodup
  grind
 .
  intro x;rw[List.mem_reverse];have hs:∀ y,seen[y]?=some true ↔ y ∈ out:=fun y=>by rw[h.mark];simp
  constructor
  . intro hx;exact h.reach x ((hs x).2 hx)
  intro hx;induction hx with
  | refl=>rw[hl];simp
  | step _ he ih=>exact(hs _).1 (h.done _ ih _ he)
 intro i c hc dc
 have hi:i<out.length:=by
  have:=(ztB.1 hc).1;simpa using this
 rw[zvh hi]at hc;obtain⟨hk,db⟩:=ztB.1 hc
 have hY:out=out.take (out.length - 1 - i)++c::out.drop (out.length - 1 - i+1):=by
  rw[<- db,<- zuO hk,zwa]
 rcases h.opar _ c _ hY with h1 | ⟨p,h1,h2⟩
 . omega
 simp at h2;obtain⟨j,hj,da⟩:=zvG.1 h2;rw[zvq]at hj;refine⟨i - 1 - j,p,tO,?_,h1⟩;rw[zvh tO];rw[List.getElem_drop]at da;rw[<- da];rw[show out.length - 1 - (i - 1 - j)=out.length - 1 - i+1+j from tO];exact ztn _
end
def deg (R:List (List Int)) (x:Nat):Nat:=(R[x]?.getD []).length
def zoI (R:List (List Int)) (seen:List Bool):Nat:=((List.range R.length).map fun x=>if seen[x]?=some false then deg R x+2 else 0).sum
def zot (R:List (List Int)) (st:List (Nat × Nat)):Nat:=(st.map fun f=>deg R f.1 - f.2+1).sum
theorem sum_one (f g:Nat->Nat) (b c:Nat):∀ n,b<n->(∀ i,i ≠ b->f i=g i)->f b=g b+c->((List.range n).map f).sum=((List.range n).map g).sum+c
 | 0,h,_,_=>tO
 | n+1,h,h1,h2=>by
  rw[zw0];simp only[zvv,zvx,zvz,List.sum_append,zw8,List.sum_nil];by_cases e:b=n
  .
   subst e;have:(List.range b).map f=(List.range b).map g:=zvw (fun i hi=>h1 i tD)
   grind
  have:=sum_one f g b c n tO h1 h2
  grind
theorem zlx (hl:seen.length=R.length) (hb:seen[b]?=some false):zoI R seen=zoI R (seen.set b true)+(deg R b+2):=by
 have hY:b<seen.length:=(ztB.1 hb).1;refine sum_one _ _ b _ _ tO ?_ ?_
 .
  intro i hi;rw[zvj (fun h=>hi h.symm)]
 rw[zty hb,zvk hY,ztx tR];omega
theorem qT (R:List (List Int)) (st:List (Nat × Nat)) (x e:Nat):zot R (st++[(x,e)])=zot R st+(deg R x - e+1):=by simp[zot]
theorem zmy {x:Nat} {r:List Int} (h:R[x]?=some r):deg R x=r.length:=by simp[deg,h]
theorem nodup_le:∀ (n:Nat) (l:List Nat),l.Nodup->(∀ x ∈ l,x<n)->l.length<=n
 | 0,[],_,_=>ztM _
 | 0,x::_,_,h=>absurd (h x (ztr ..)) tO
 | n+1,l,hn,h=>by
  have h1:=nodup_le n (l.erase n) (hn.erase n) (fun x hx=>by
   grind)
  grind
structure Place (n:Nat) (order:List Nat) (pl:List Int):Prop where
 len:pl.length=n
 inn:∀ (i x:Nat),order[i]?=some x->pl[x]?=some (i:Int)
 out:∀ x:Nat,x<n->x ∉ order->pl[x]?=some (-1)
theorem Place.start (n:Nat):Place n [] (List.replicate n (-1)):=⟨tR,fun i x h=>tD,fun x hx _=>tD⟩
theorem Place.step {n:Nat} {order:List Nat} {pl:List Int} {x:Nat} (h:Place n (order.take k) pl) (hn:order.Nodup) (hx:order[k]?=some x) (db:x<n):Place n (order.take (k+1)) (pl.set x (k:Int)):=by
 obtain⟨hk,rfl⟩:=ztB.1 hx
 have dc:order[k] ∉ order.take k:=by
  intro hm;obtain⟨j,hj,hY⟩:=zvG.1 hm;rw[ztR]at hj;rw[List.getElem_take]at hY;have:=(List.getElem_inj hn).1 hY;omega
 refine⟨by simp[h.len],?_,?_⟩
 .
  intro i y hy;rw[ztT]at hy;split at hy
  .
   rename_i dh;by_cases hi:i=k
   .
    subst hi;rw[hx]at hy;cases hy;rw[zvk (by rw[h.len];exact db)]
   have da:(order.take k)[i]?=some y:=by rw[ztT,zty tO];exact hy
   have dg:order[k] ≠ y:=fun e=>dc (e ▸ zto da);rw[zvj dg];exact h.inn i y da
  cases hy
 intro y hy hm;rw[zwe hk,ztG,ztF]at hm;rw[zvj (fun e=>hm (.inr e.symm))];exact h.out y hy (fun h'=>hm (.inl h'))
end Go.GL.Dfs
namespace Go.Proofs.YtckdhgbepmpgiaaGreat
open Go.GL
noncomputable def zb1 (f:Fl) (g:List Nd) (s:Sf):List Bool:=(List.range s.of_.length).map fun k:Nat=>@decide (NeedV f g s (k:Int)) (Classical.propDecidable _)
theorem zly {l:List Bool} (hl:l.length=s.of_.length) (h:∀ k:Nat,k<s.of_.length->(l[k]?=some true ↔ NeedV f g s (k:Int))):l=zb1 f g s:=by
 apply zuW;intro k;unfold zb1;rw[ztE];by_cases hk:k<s.of_.length
 .
  rw[zvf hk];have e:=ztn (show k<l.length by omega);have:=h k hk;rw[e]at this ⊢;simp only[zwJ,Option.some.injEq]at this ⊢;cases hb:l[k] with
  | true=>rw[hb]at this;exact(@ztz _ (Classical.propDecidable _) (this.1 rfl)).symm
  | false=>rw[hb]at this;exact(@ztA _ (Classical.propDecidable _) (fun hn=>tD)).symm
 rw[ztL tO,ztL tD];rfl
theorem zjG (f:Fl) (g:List Nd) (s:Sf):(zb1 f g s).length=s.of_.length:=by simp[zb1]
def zck (x:Sn):List (Int × List Int):=x.phis.map (fun p=>(p.ver,p.args))++if 0<=x.dfn then [(x.dfn,x.uses.map (·.2))] else []
def zkA (t:List (List Int)) (l:List (Int × List Int)):List (List Int):=l.foldl (fun t z=>t.set z.1.toNat z.2) t
theorem zlz (l:List (Int × List Int)):∀ t:List (List Int),(zkA t l).length=t.length:=by
 induction l with
 | nil=>exact fun _=>rfl
 | cons z l ih=>intro t;exact(ih _).trans zvu
theorem zbi (t:List (List Int)) (a b:List (Int × List Int)):zkA t (a++b)=zkA (zkA t a) b:=by unfold zkA;rw[zv8]
theorem znb {l:List (Int × List Int)} (h:∀ z ∈ l,z.1.toNat ≠ k):∀ t,(zkA t l)[k]?=t[k]?:=by
 induction l with
 | nil=>exact fun _=>rfl
 | cons z l ih =>
  intro t;exact(ih (fun y hy=>h y iq) _).trans (zvj (h z (ztr ..)))
theorem zlA {l:List (Int × List Int)} (hn:(l.map fun z=>z.1.toNat).Nodup) {z:Int × List Int} (hz:z ∈ l):∀ t,z.1.toNat<t.length->(zkA t l)[z.1.toNat]?=some z.2:=by
 induction l with
 | nil=>cases hz
 | cons y l ih =>
  intro t ht;rw[zvx,zvQ]at hn;rcases ztD.1 hz with rfl | hz
  . exact(znb (fun r hr e=>hn.1 (zvI.2 ⟨r,hr,e⟩)) _).trans (zvk ht)
  exact ih hn.2 hz _ tD
theorem zlB {l:List (Int × List Int)} {v:List Int}:∀ {t},(zkA t l)[k]?=some v->t[k]?=some v\/∃ z ∈ l,z.1.toNat=k/\z.2=v:=by
 induction l with
 | nil=>exact fun h=>.inl h
 | cons z l ih =>
  intro t h;rcases ih (t:=t.set z.1.toNat z.2) h with h1 | ⟨y,hy,h1⟩
  .
   rw[zvi]at h1;split at h1
   . grind
   grind
  grind
def zcl (s:Sf) (i:Nat):List (Int × List Int):=(s.nodes.take i).flatMap zck
def xR (s:Sf) (i:Nat):List (List Int):=zkA (List.replicate s.of_.length []) (zcl s i)
theorem zd5 {x:Sn} (h:s.nodes[i]?=some x):zcl s (i+1)=zcl s i++zck x:=by unfold zcl;rw[ze h,zv3,zv6]
theorem zfh (s:Sf) (i:Nat):(xR s i).length=s.of_.length:=by unfold xR;rw[zlz,zvt]
def zcD (s:Sf) (i:Nat) (x:Sn) (j:Nat):List (List Int):=zkA (xR s i) ((x.phis.take j).map fun p=>(p.ver,p.args))
theorem zhX {x:Sn} (h:x.phis[j]?=some p):zcD s i x (j+1)=(zcD s i x j).set p.ver.toNat p.args:=by
 unfold zcD;rw[ze h,zvv,zbi];rfl
theorem zjH {x:Sn} (h:s.nodes[i]?=some x) (hd:0<=x.dfn):xR s (i+1)=(zcD s i x x.phis.length).set x.dfn.toNat (x.uses.map (·.2)):=by
 unfold zcD xR;rw[zd5 h,zbi,zts];unfold zck;rw[zty hd,zbi];rfl
theorem zdV {x:Sn} (h:s.nodes[i]?=some x) (hd:¬ 0<=x.dfn):xR s (i+1)=zcD s i x x.phis.length:=by
 unfold zcD xR;rw[zd5 h,zbi,zts];unfold zck
 grind
theorem zlC (hl:s.nodes.length=g.length):s.nodes=(List.range g.length).map (zp s):=by
 apply zuW;intro k;rw[ztE];by_cases hk:k<g.length
 .
  rw[zvf hk,ztn (show k<s.nodes.length by omega)];simp only[zwJ];rw[yL (ztn (show k<s.nodes.length by omega))]
 rw[ztL tO,ztL tD];rfl
theorem zd6 (hl:s.nodes.length=g.length):s.nodes.take g.length=(List.range g.length).map (zp s):=(zwc tO).trans (zlC hl)
section
variable {rd:Nat->List Int}
theorem FormF.dfn (h:FormF f g s rd) {n:Nat} (hn:n<g.length):(0<=(zp s n).dfn ↔ 0<=yy f g n):=by
 have hx:=h.at hn;constructor
 .
  intro h1;by_cases h2:0<=yy f g n
  . exact h2
  have:=hx.no tO;omega
 exact fun h1=>(hx.yes h1).1
theorem zcm (h:FormF f g s rd):((zcl s g.length).map (·.1))=qx f g s:=by
 unfold zcl qx;rw[zd6 h.len,zv5,List.map_flatMap];rw[List.flatMap_def,List.flatMap_def];congr 1;refine zvw fun n hn=>?_;have hd:=h.dfn (zvN.1 hn);unfold zck dfL;rw[zvv,zvy];congr 1;by_cases h1:0<=yy f g n
 . grind
 grind
theorem zg6 (h:FormF f g s rd):(qx f g s).Nodup:=by
 rw[List.nodup_iff_count];intro a;by_cases ha:a ∈ qx f g s
 .
  obtain⟨h2,h3⟩:=xO h ha;obtain⟨k,rfl⟩:=zul (show 0<=a by omega);have:=h.one k tO tO;omega
 grind
theorem zhY (h:FormF f g s rd):((zcl s g.length).map fun z=>z.1.toNat).Nodup:=by
 rw[show ((zcl s g.length).map fun z=>z.1.toNat)=((zcl s g.length).map (·.1)).map Int.toNat by rw[zvy];rfl,zcm h];refine List.Pairwise.map _ (fun a b hY=>hY) (List.Pairwise.imp_of_mem (fun {a b} ha hb hY e=>?_) (zg6 h));have h2:=(xO h ha).1;have h3:=(xO h hb).1;exact hY tO
theorem zh6 (h:FormF f g s rd) {z:Int × List Int}:z ∈ zcl s g.length ↔ ∃ n,n<g.length/\z ∈ zck (zp s n):=by
 unfold zcl;rw[zd6 h.len,zv5,zvF];constructor
 . rintro⟨n,hn,hz⟩;exact⟨n,zvN.1 hn,hz⟩
 rintro⟨n,hn,hz⟩;exact⟨n,zvN.2 hn,hz⟩
theorem zh7 (h:FormF f g s rd) {n:Nat} (hn:n<g.length) {z:Int × List Int} (hz:z ∈ zck (zp s n)):(xR s g.length)[z.1.toNat]?=some z.2:=by
 have hm:=(zh6 h).2 ⟨n,hn,hz⟩;have hk:z.1 ∈ qx f g s:=by rw[<- zcm h];exact zvI.2 ⟨z,hm,rfl⟩
 have:=xO h hk;exact zlA (zhY h) hm _ tD
theorem zlD (h:FormF f g s rd) (hk:(xR s g.length)[k]?=some l):l=[]\/∃ n,n<g.length/\∃ z ∈ zck (zp s n),z.1=(k:Int)/\z.2=l:=by
 rcases zlB hk with h1 | ⟨z,hz,h1,h2⟩
 .
  rw[zvg]at h1;split at h1
  . grind
  cases h1
 obtain⟨n,hn,da⟩:=(zh6 h).1 hz;have hY:z.1 ∈ qx f g s:=by rw[<- zcm h];exact zvI.2 ⟨z,hz,rfl⟩
 have:=xO h hY
 grind
theorem zmz (h:FormF f g s rd) {n:Nat} (hn:n<g.length) (hu:u ∈ (zp s n).uses):∃ q:Nat,u.2=(q:Int)/\q<s.of_.length:=jL ((h.at hn).ver u hu)
theorem zoc (h:FormF f g s rd) {n:Nat} (hn:n<g.length) (hp:p ∈ (zp s n).phis) (ha:a ∈ p.args):∃ q:Nat,a=(q:Int)/\q<s.of_.length:=jL ((h.at hn).phi.args p hp a ha)
theorem zhZ (h:FormF f g s rd) (hk:(xR s g.length)[k]?=some l) (hN:NeedV f g s (k:Int)) (ha:a ∈ l):NeedV f g s a/\∃ q:Nat,a=(q:Int)/\q<s.of_.length:=by
 rcases zlD h hk with rfl | ⟨n,hn,z,hz,h1,rfl⟩
 . cases ha
 unfold zck at hz;rcases ztG.1 hz with hz | hz
 .
  obtain⟨p,hp,rfl⟩:=zvI.1 hz;exact⟨.arg hn hp tD ha,zoc h hn hp ha⟩
 split at hz
 .
  rename_i hd;rw[ztF]at hz;subst hz;obtain⟨u,hu,rfl⟩:=zvI.1 ha;exact⟨.use hn hd tD hu,zmz h hn hu⟩
 cases hz
noncomputable def yz (f:Fl) (g:List Nd) (s:Sf) (i:Nat):List Int:=(List.range i).flatMap fun n=>if ki f g s n=true then (zp s n).uses.map (·.2) else []
theorem jN (h:ki f g s i=true):yz f g s (i+1)=yz f g s i++(zp s i).uses.map (·.2):=by unfold yz;rw[zw0,zv3,zv6,zty h]
theorem zae (h:¬ ki f g s i=true):yz f g s (i+1)=yz f g s i:=by unfold yz;rw[zw0,zv3,zv6,ztx h,zuF]
theorem zjI (i:Nat):(yz f g s i).length<=((s.nodes.take i).map fun x=>x.uses.length).sum:=by
 induction i with
 | zero=>simp[yz]
 | succ i ih =>
  by_cases hi:i<s.nodes.length
  .
   have e:=ztn hi;rw[ze e,zvv,List.sum_append];by_cases h:ki f g s i=true
   . rw[jN h,ztv,yL e];simp only[zvx,zvz,zw8,List.sum_nil,ztH];omega
   rw[zae h];simp only[zvx,zvz,zw8,List.sum_nil];omega
  rw[zwc tO];rw[zwc tO]at ih
  have:yz f g s (i+1)=yz f g s i:=by
   by_cases h:ki f g s i=true
   . rw[jN h,zcW hi];simp
   exact zae h
  rw[this];exact ih
theorem zlE (h:i<=m):(yz f g s i).length<=(yz f g s m).length:=by
 induction m with
 | zero =>
  obtain rfl:i=0:=tO;exact ztM _
 | succ m ih =>
  by_cases e:i=m+1
  . grind
  refine ztt (ih tO) ?_;by_cases hs:ki f g s m=true
  . rw[jN hs,ztv];omega
  rw[zae hs];exact ztM _
structure WkN (f:Fl) (g:List Nd) (s:Sf) (nl:List Bool) (wl:List Int):Prop where
 len:nl.length=s.of_.length
 snd:∀ k:Nat,nl[k]?=some true->NeedV f g s (k:Int)
 wrk:∀ v ∈ wl,NeedV f g s v/\∃ q:Nat,v=(q:Int)/\q<s.of_.length
 sink:∀ n,n<g.length->ki f g s n=true->∀ u ∈ (zp s n).uses,nl[u.2.toNat]?=some true\/u.2 ∈ wl
 cls:∀ k:Nat,nl[k]?=some true->∀ l,(xR s g.length)[k]?=some l->∀ a ∈ l,nl[a.toNat]?=some true\/a ∈ wl
theorem WkN.start (h:FormF f g s rd):WkN f g s (List.replicate s.of_.length false) (yz f g s g.length):=by
 have hY:∀ k:Nat,(List.replicate s.of_.length false)[k]? ≠ some true:=fun k e=>by
  grind
 refine⟨tR,fun k e=>absurd e (hY k),fun v hv=>?_,fun n hn hs u hu=>.inr ?_,fun k e=>absurd e (hY k)⟩
 .
  unfold yz at hv;obtain⟨n,hn,hv⟩:=zvF.1 hv;have hn:=zvN.1 hn;split at hv
  .
   rename_i hs;obtain⟨u,hu,rfl⟩:=zvI.1 hv;exact⟨.sink hn hs hu,zmz h hn hu⟩
  cases hv
 unfold yz
 grind
theorem WkN.skip {v:Nat} (h:WkN f g s nl (wl++[(v:Int)])) (hv:nl[v]?=some true):WkN f g s nl wl:=by
 have key:∀ a:Int,nl[a.toNat]?=some true\/a ∈ wl++[(v:Int)]->nl[a.toNat]?=some true\/a ∈ wl:=fun a ha=>by
  grind
 exact⟨h.len,h.snd,fun x hx=>h.wrk x (zvC _ hx),fun n hn hs u hu=>key _ (h.sink n hn hs u hu),fun k hk l hl a ha=>key _ (h.cls k hk l hl a ha)⟩
theorem WkN.take (hF:FormF f g s rd) {v:Nat} (h:WkN f g s nl (wl++[(v:Int)])) (hl:(xR s g.length)[v]?=some l):WkN f g s (nl.set v true) (wl++l):=by
 obtain⟨hN,q,hq,hY⟩:=h.wrk v tR;obtain rfl:v=q:=tO;have db:v<nl.length:=by rw[h.len];exact hY
 have hset:∀ k:Nat,(nl.set v true)[k]?=some true ↔ nl[k]?=some true\/k=v:=fun k=>by
  by_cases e:k=v
  . grind
  rw[zvj (fun h=>e h.symm)];simp[e]
 have key:∀ a:Int,nl[a.toNat]?=some true\/a ∈ wl++[(v:Int)]->(nl.set v true)[a.toNat]?=some true\/a ∈ wl++l:=fun a ha=>by
  grind
 refine⟨by rw[zvu,h.len],fun k hk=>?_,fun x hx=>?_,fun n hn hs u hu=>key _ (h.sink n hn hs u hu),fun k hk l' da a ha=>?_⟩
 .
  rcases (hset k).1 hk with h1 | rfl
  . exact h.snd k h1
  exact hN
 .
  rcases ztG.1 hx with hx | hx
  . exact h.wrk x (zvC _ hx)
  exact zhZ hF hl hN hx
 rcases (hset k).1 hk with h1 | rfl
 . exact key _ (h.cls k h1 l' da a ha)
 grind
theorem WkN.fin (hF:FormF f g s rd) (h:WkN f g s nl []):nl=zb1 f g s:=by
 refine zly h.len fun k hk=>⟨h.snd k,fun hN=>?_⟩;have hY:nl[((k:Nat):Int).toNat]?=some true:=NeedV.all (P:=fun a=>nl[a.toNat]?=some true) f g s (fun n hn hs u hu=>(h.sink n hn hs u hu).resolve_right tR) (fun n hn hd hP u hu=>?_) (fun n hn p hp hP a ha=>?_) hN
 . grind
 . exact(h.cls _ hP _ (zh7 hF hn (z:=((zp s n).dfn,(zp s n).uses.map (·.2))) (by unfold zck;rw[zty hd];simp)) _ (zvI.2 ⟨u,hu,rfl⟩)).resolve_right tR
 exact(h.cls _ hP _ (zh7 hF hn (z:=(p.ver,p.args)) (by unfold zck;exact zvC _ (zvI.2 ⟨p,hp,rfl⟩))) _ ha).resolve_right tR
def muN (s:Sf) (m:Nat) (nl:List Bool):Nat:=((List.range s.of_.length).map fun k=>if nl[k]?=some true then 0 else ((xR s m)[k]?.getD []).length+1).sum
theorem znc {v:Nat} (hl:(xR s m)[v]?=some l) (hv:nl[v]? ≠ some true) (hY:v<nl.length):muN s m nl=muN s m (nl.set v true)+(l.length+1):=by
 have da:v<s.of_.length:=by rw[<- zfh s m];exact(ztB.1 hl).1
 unfold muN;refine Dfs.sum_one _ _ v _ s.of_.length da (fun i hi=>?_) ?_
 . rw[zvj (fun e=>hi e.symm)]
 rw[ztx hv,zvk hY,zty rfl,hl,zwE];omega
end
end Go.Proofs.YtckdhgbepmpgiaaGreat
namespace Go.GL
def Held (E:Hp) (w:World):Prop:=(∀ x ∈ E,x.2.holds w/\x.2.loc/\(∀ b,¬ x.2.fz b)/\∀ q,x.2.S q->q<w.heap.size)/\E.Pairwise (fun x y=>∀ q,x.2.S q->¬ y.2.S q)
structure GBack (E E':Hp) (w w':World):Prop where
 keep:Keep (HS E) w w'
 held:Held E' w'
 new:∀ x ∈ E',∀ q,x.2.S q->HS E q\/w.heap.size<=q
def HE.nz:HE->Bool
 | .fro ..=>false
 | .dat ..=>false
 | _=>true
theorem zsL {e:HE} (h:e.nz=true):∀ b,¬ e.fz b:=by
 cases e with
 | fro b o cs=>cases h
 | dat F p=>cases h
 | _=>exact fun _ h=>h
theorem VI.held (hI:VI Bs H w) (hE:E.map (fun x=>hget H x.1)=E.map (fun x=>some x.2)) (hu:qd (E.map (·.1))=true) (hz:E.all (fun x=>x.2.nz)=true):Held E w:=by
 have h:=hI.pick (Has.of hE) hu;exact⟨fun x hx=>⟨h.holds x hx,h.loc x hx,zsL (zuB.1 hz x hx),h.low x hx⟩,h.apart⟩
theorem VI.back (hI:VI Bs H w) (j:Nat) (hj:Bs[j]?=some (w0,HS E)) (hE:E'.map (fun x=>hget H x.1)=E'.map (fun x=>some x.2)) (hu:qd (E'.map (·.1))=true) (hz:E'.all (fun x=>x.2.nz)=true):GBack E E' w0 w:=by
 have hb:=zto hj;exact⟨(hI.base _ hb).1,hI.held hE hu hz,fun x hx q hq=>((hI.pick (Has.of hE) hu).base _ hb).2 x hx q hq⟩
theorem VI.back0 (hI:VI Bs H w) (j:Nat) (hj:Bs[j]?=some (w0,fun _=>False)) (hE:E'.map (fun x=>hget H x.1)=E'.map (fun x=>some x.2)) (hu:qd (E'.map (·.1))=true) (hz:E'.all (fun x=>x.2.nz)=true):GBack [] E' w0 w:=by
 have hb:=zto hj;exact⟨(hI.base _ hb).1.mono fun q _ h=>h.elim,hI.held hE hu hz,fun x hx q hq=>.inr ((((hI.pick (Has.of hE) hu).base _ hb).2 x hx q hq).resolve_left fun h=>h)⟩
theorem zod {ks:List Nat} (hE:E.map (fun x=>hget H x.1)=E.map (fun x=>some x.2)) (hk:E.all (fun x=>zfH x.1 ks)=true) (hq:HS E q):InS H ks q:=by
 obtain⟨x,hx,hs⟩:=hq;exact⟨x,zm (Has.of hE x hx),zuB.1 hk x hx,hs⟩
theorem zg7 (hE:E.map (fun x=>hget H x.1)=E.map (fun x=>some x.2)) (hq:HS E q):HS H q:=by
 obtain⟨x,hx,hs⟩:=hq;exact⟨_,zm (Has.of hE x hx),hs⟩
theorem xd {f:FuncId} {ks:List Nat} {E':α->Hp} {Φ:Value->α->Prop} (hE:E.map (fun x=>hget H x.1)=E.map (fun x=>some x.2)) (hk:E.all (fun x=>zfH x.1 ks)=true) (h:Calls P f args w (Ret fun r w'=>∃ x,Φ r x/\GBack E (E' x) w w')):Calls P f args w (Ret fun r w'=>∃ x,Φ r x/\Hands H ks (E' x) w w'):=by
 refine Calls.mono h ?_;rintro e' w' ⟨r,rfl,x,h1,h2⟩;exact⟨r,rfl,x,h1,h2.keep.mono fun q _ hq=>zod hE hk hq,fun y hy=>⟨(h2.held.1 y hy).1,(h2.held.1 y hy).2.1,(h2.held.1 y hy).2.2.1,fun q hq=>⟨(h2.new y hy q hq).imp (zod hE hk) id,(h2.held.1 y hy).2.2.2 q hq⟩⟩,h2.held.2⟩
theorem VI.offE (hI:VI Bs H w) (j:Nat) (hj:Bs[j]?=some (w0,HS E)) (hE:E'.map (fun x=>hget H x.1)=E'.map (fun x=>some x.2)) (hD:∀ q,D q->q<w0.heap.size) (ho:∀ q,HS E q->¬ D q):∀ q,HS E' q->¬ D q:=by
 rintro q ⟨x,hx,hq⟩ hd;rcases (hI.base _ (zto hj)).2 _ (zm (Has.of hE x hx)) q hq with h1 | h1
 . grind
 grind
def rho:List (Nat × Nat)->Nat->Nat
 | [],k=>k
 | (a,b)::r,k=>cond (Nat.beq a k) b (rho r k)
def zmA (ρ:List (Nat × Nat)):Hp->Hp
 | []=>[]
 | x::r=>(rho ρ x.1,x.2)::zmA ρ r
theorem zg8 (ρ:List (Nat × Nat)):∀ H:Hp,zmA ρ H=H.map fun x=>(rho ρ x.1,x.2)
 | []=>rfl
 | x::r=>by rw[zmA,zg8 ρ r];rfl
theorem VI.ren (ρ:List (Nat × Nat)) (h:VI Bs H w):VI Bs (zmA ρ H) w:=by
 have hm:∀ x ∈ zmA ρ H,∃ y ∈ H,y.2=x.2:=fun x hx=>by
  rw[zg8]at hx
  grind
 refine⟨fun x hx=>?_,fun x hx=>?_,?_,fun x hx y hy=>?_,fun x hx=>?_,fun p hp=>⟨(h.base p hp).1,fun x hx=>?_⟩⟩
 . obtain⟨y,hy,e⟩:=hm x hx;rw[<- e];exact h.holds y hy
 . obtain⟨y,hy,e⟩:=hm x hx;rw[<- e];exact h.loc y hy
 . rw[zg8];exact List.Pairwise.map _ (fun _ _ h=>h) h.apart
 . obtain⟨x',hY,e⟩:=hm x hx;obtain⟨y',da,e'⟩:=hm y hy;rw[<- e,<- e'];exact h.froz x' hY y' da
 . obtain⟨y,hy,e⟩:=hm x hx;rw[<- e];exact h.low y hy
 obtain⟨y,hy,e⟩:=hm x hx;rw[<- e];exact(h.base p hp).2 y hy
section
variable {n:Fm} {pos:Pos}
theorem V.ren (ρ:List (Nat × Nat)) (A1:Tgs) (hY:A1.map (fun p=>zcJ env p.1)=A1.map (fun p=>jc (zmA ρ H) p.2)) (da:A1.all (fun p=>(jc (zmA ρ H) p.2).isSome)=true) (h:V P n Q ks pos env A1 (zmA ρ H) Bs):V P n Q ks pos env A H Bs :=
 fun _ w hI=>h (TgOk.of hY da) w (hI.ren ρ)
theorem zsM (k1 k2:Nat) {F1 F2:Nat->Prop} {p1 p2:World->Prop} (hn:(hget H k1,hget H k2)=(some (.dat F1 p1),some (.dat F2 p2))) (h:∀ w,p1 w->p2 w->(∀ b,F1 b\/F2 b->b<w.heap.size)->(∀ b,HS H b->¬ F1 b)->(∀ b,HS H b->¬ F2 b)->V P n Q ks pos env A H ((w,HS H)::Bs)):V P n Q ks pos env A H Bs:=by
 simp only[Prod.mk.injEq]at hn;intro hA w hI;have h1:=hI.at k1 hn.1;have h2:=hI.at k2 hn.2;exact h w h1.1 h2.1 (fun b hb=>hb.elim (h1.2 b) (h2.2 b)) (fun b hb hF=>hI.offF k1 hn.1 b hF hb) (fun b hb hF=>hI.offF k2 hn.2 b hF hb) hA w hI.here
end
def AllR {α:Type} (R:Rel α) (D:Nat->Prop) (w:World):List α->List (List Value)->Prop
 | [],[]=>True
 | x::l,c::cs=>R D w x c/\AllR R D w l cs
 | _,_=>False
theorem AllR.at {α:Type} {R:Rel α} {D:Nat->Prop} {w:World}:∀ {l:List α} {cs:List (List Value)},AllR R D w l cs->∀ {i:Nat} {x:α},l[i]?=some x->∃ c,cs[i]?=some c/\R D w x c
 | [],[],_,i,x,h=>tD
 | y::l,c::cs,h,0,x,hx=>by simp at hx;subst hx;exact⟨c,rfl,h.1⟩
 | y::l,c::cs,h,i+1,x,hx=>by
  obtain⟨c',h1,h2⟩:=AllR.at h.2 (i:=i) (x:=x) tD
  grind
 | [],_::_,h,_,_,_=>h.elim
 | _::_,[],h,_,_,_=>h.elim
theorem zh8 {k:Nat}:∀ {cs:List (List Value)} {i j:Nat} {c:List Value} {u:Value},(∀ c ∈ cs,c.length=k)->cs[i]?=some c->c[j]?=some u->cs.flatten[i*k+j]?=some u
 | [],i,j,c,u,_,h,_=>tD
 | y::cs,0,j,c,u,hk,h,hu=>by
  simp at h;subst h;rw[Nat.zero_mul,zwC,zv7,ztN (ztB.1 hu).1];exact hu
 | y::cs,i+1,j,c,u,hk,h,hu=>by
  have hy:=hk y (ztr ..);rw[zv7,zwB,ztO tO,show i*k+k+j - y.length=i*k+j by omega];exact zh8 (fun c hc=>hk c (ztq _ hc)) tD hu
theorem zsN {R:Rel α} {l:List α} (cs:List (List Value)) (hb:Blk w b cs.flatten e) (hD:D b) (hk:∀ c ∈ cs,c.length=k) (hm:l.length<=9223372036854775807) (h:AllR R D w l cs):SlR k R D w (.slice (some ⟨b,0,none⟩) l.length l.length) l :=
 zq8 hb hD rfl (ztM _) hm fun i x hx=>by
  obtain⟨c,h1,h2⟩:=h.at hx;exact⟨c,hk c (zto h1),fun j u hu=>zh8 hk h1 hu,h2⟩
section
variable {fn:Func} {R:Ending->World->Prop} {n:Nat}
theorem zsO {s p:Tmp} {t1 t2:TypeId} {k1 o1 k2 o2 z1 z2:Nat} {c1 c2 l1 l2:List Value} (h:fn.results=#[.cell s t1,.cell p t2]) (hY:∀ w,(isAgg t1).run P w=.ok true w) (da:∀ w,(isAgg t2).run P w=.ok true w) (db:∀ w,(sizeOf t1).run P w=.ok z1 w) (dc:∀ w,(sizeOf t2).run P w=.ok z2 w) (dg:tgt A s=some (k1,o1)) (dh:tgt A p=some (k2,o2)) (dl:cellAt H k1=some c1) (dm:cellAt H k2=some c2) (dr:zmm z1 o1 c1=some l1) (dt:zmm z2 o2 c2=some l2)
  (hR:∀ w,VI Bs H w->R (.returned (.tuple #[.agg l1.toArray,.agg l2.toArray])) w):V P n (bodyPost P fn R) [] (.e .ret) env A H Bs:=fun hA w hw=>by
 obtain⟨a1,h1,h2⟩:=zb7 hA hw dg dl dr hY db;obtain⟨a2,h3,h4⟩:=zb7 hA hw dh dm dt da dc;intro a' ha;have g1:=ha.get s _ h1;have g2:=ha.get p _ h3;refine bodyPost_ret (v:=.tuple #[.agg l1.toArray,.agg l2.toArray]) ?_ ha.defs (hR w hw);simp[results,h,g1,g2,asAddr,h2,h4]
end
end Go.GL
namespace Go.Proofs.YtckdhgbepmpgiaaGreat
open Go.GL
abbrev B22:=Nat × Nat × Nat × Nat × Nat × Nat × Nat × Nat × Nat × Nat
abbrev zi0 (bv bb b4 bo b9 bf ba bp bu bn:Nat) (ph:Value) (u:Int):Hp:=[
 (906,.own bv [.string ⟨#[120]⟩,.int .i64 1,.int .i64 0,.int .i64 1,.int .i64 0,.string ⟨#[121]⟩,.int .i64 0,.int .i64 0,.int .i64 1,.int .i64 0] 142),
 (910,.own bb [.int .i64 0,.int .i64 0,.int .i64 1,.int .i64 0,.int .i64 0,.int .i64 1,.slice none 0 0,.slice none 0 0,.slice none 0 0,.slice none 0 0] 72),
 (914,.own b4 [.int .i64 3,.int .i64 0,.int .i64 0,.int .i64 0,.int .i64 24,.int .i64 0,.slice none 0 0,.slice (some ⟨bb,0,none⟩) 1 1,.slice none 0 0,.slice none 0 0,.int .i64 1,.int .i64 0,.int .i64 0,.int .i64 0,.int .i64 24,.int .i64 1,.slice none 0 0,.slice none 0 0,.slice none 0 0,.slice none 0 0] 72),
 (916,.own bo [.int .i64 0,.int .i64 1,.int .i64 1,.int .i64 1] 3),
 (919,.own b9 [.int .i64 0,.int .i64 0] 85),
 (922,.own bf [.int .i64 1,.int .i64 2] 3),
 (923,.own ba [.int .i64 1,.int .i64 2] 3),
 (925,.own bp [.int .i64 1,.int .i64 3,.slice (some ⟨bf,0,none⟩) 2 2,.slice (some ⟨ba,0,none⟩) 2 2] 88),
 (927,.own bu [.int .i64 1,.int .i64 u] 85),
 (930,.own bn [.slice none 0 0,.slice none 0 0,.int .i64 (-1),.slice none 0 0,.slice (some ⟨b9,0,none⟩) 1 1,.int .i64 (-1),.slice none 0 0,.slice none 0 0,.int .i64 2,ph,.slice (some ⟨bu,0,none⟩) 1 1,.int .i64 (-1),.slice none 0 0,.slice none 0 0,.int .i64 (-1)] 59)]
theorem zfi (W:World):Calls prog 31 #[] W (Ret fun r w'=>∃ b:B22,r=.tuple #[.agg #[.slice (some ⟨b.1,0,none⟩) 2 2,.slice none 0 0,.slice (some ⟨b.2.2.1,0,none⟩) 2 2],.agg #[.slice (some ⟨b.2.2.2.1,0,none⟩) 4 4,.slice (some ⟨b.2.2.2.2.2.2.2.2.2,0,none⟩) 5 5]]/\GBack [] (zi0 b.1 b.2.1 b.2.2.1 b.2.2.2.1 b.2.2.2.2.1 b.2.2.2.2.2.1 b.2.2.2.2.2.2.1 b.2.2.2.2.2.2.2.1 b.2.2.2.2.2.2.2.2.1 b.2.2.2.2.2.2.2.2.2 (.slice (some ⟨b.2.2.2.2.2.2.2.1,0,none⟩) 1 1) 3) W w'):=by
 refine zqP func31 O ntmps31 (V.inn (Vs 2 O (V.alloc 0 tz26 O O (fun b0=>?_))));refine V.alloc 1 tz30 O O (fun b1=>(Vs 4 O (zrW [Value.string { data:=#[] },Value.int IntKind.i64 0,Value.int IntKind.i64 0,Value.int IntKind.i64 0,Value.int IntKind.i64 0] [(0,1),(1,1),(2,1),(3,1),(4,1)] [(0,_),(1,_),(3,_)] O O (fun _=>tK) (zrW [Value.string { data:=#[] },Value.int IntKind.i64 0,Value.int IntKind.i64 0,Value.int IntKind.i64 0,Value.int IntKind.i64 0] [(0,1),(1,1),(2,1),(3,1),(4,1)] [(0,_),(3,_)] O O (fun _=>tK) (zrP 6 [(0,_),(1,_)] tR22 ts142 tz142 tS O O tK (fun b6=>?_))))));refine zrW [Value.int IntKind.i64 0,Value.int IntKind.i64 0,Value.slice none 0 0] [(0,1),(1,1),(2,1)] [(0,_)] O O (fun _=>tK) (zrW [Value.int IntKind.i64 0,Value.int IntKind.i64 0,Value.slice none 0 0] [(0,1),(1,1),(2,1)] [(1,_)] O O (fun _=>tK) (zrW [Value.int IntKind.i64 0,Value.int IntKind.i64 0,Value.int IntKind.i64 0,Value.int IntKind.i64 0,Value.int IntKind.i64 0,Value.int IntKind.i64 0,Value.slice none 0 0,Value.slice none 0 0,Value.slice none 0 0,Value.slice none 0 0] [(0,1),(1,1),(2,1),(3,1),(4,3),(7,1),(8,1),(9,1)] [(0,_),(2,_),(4,_)] O O (fun _=>tK) ?_));refine zrP 10 [(0,_)] tR24 ts72 tz72 tS O O tK (fun b10=>(zrW [Value.int IntKind.i64 0,Value.int IntKind.i64 0,Value.int IntKind.i64 0,Value.int IntKind.i64 0,Value.int IntKind.i64 0,Value.int IntKind.i64 0,Value.slice none 0 0,Value.slice none 0 0,Value.slice none 0 0,Value.slice none 0 0] [(0,1),(1,1),(2,1),(3,1),(4,3),(7,1),(8,1),(9,1)] [(0,_),(4,_),(5,_)] O O (fun _=>tK) (zrW [Value.int IntKind.i64 0,Value.int IntKind.i64 0,Value.slice none 0 0] [(0,1),(1,1),(2,1)] [(0,_),(1,_)] O O (fun _=>tK) ?_)));refine zrW [Value.int IntKind.i64 0,Value.int IntKind.i64 0,Value.int IntKind.i64 0,Value.int IntKind.i64 0,Value.int IntKind.i64 0,Value.int IntKind.i64 0,Value.slice none 0 0,Value.slice none 0 0,Value.slice none 0 0,Value.slice none 0 0] [(0,1),(1,1),(2,1),(3,1),(4,3),(7,1),(8,1),(9,1)] [(0,_),(4,_)] O O (fun _=>tK) (zrP 14 [(0,_),(1,_)] tR24 ts72 tz72 tS O O tK (fun b14=>?_));refine zrW [Value.slice none 0 0,Value.slice none 0 0,Value.slice none 0 0] [(0,1),(1,1),(2,1)] [(0,_),(2,_)] O O (fun _=>tK) (V.alloc 2 tz26 O O (fun b2=>?_));refine Vs 5 O (zrP 16 [(0,_),(1,_),(2,_),(3,_)] tR27 ts3 tz3 tS O O tK (fun b16=>?_));refine zrW [Value.slice none 0 0,Value.slice none 0 0,Value.int IntKind.i64 0] [(0,1),(1,1),(2,1)] [(2,_)] O O (fun _=>tK) (zrW [Value.int IntKind.i64 0,Value.int IntKind.i64 0] [(0,1),(1,1)] [(0,_),(1,_)] O O (fun _=>tK) (zrP 19 [(0,_)] tR57 ts85 tz85 tS O O tK (fun b19=>?_)));refine zrW [Value.slice none 0 0,Value.slice none 0 0,Value.int IntKind.i64 0] [(0,1),(1,1),(2,1)] [(1,_),(2,_)] O O (fun _=>tK) (zrW [Value.slice none 0 0,Value.slice none 0 0,Value.int IntKind.i64 0] [(0,1),(1,1),(2,1)] [(2,_)] O O (fun _=>tK) (zrP 22 [(0,_),(1,_)] tR27 ts3 tz3 tS O O tK (fun b22=>?_)));refine zrP 23 [(0,_),(1,_)] tR27 ts3 tz3 tS O O tK (fun b23=>(zrW [Value.int IntKind.i64 0,Value.int IntKind.i64 0,Value.slice none 0 0,Value.slice none 0 0] [(0,1),(1,1),(2,1),(3,1)] [(0,_),(1,_),(2,_),(3,_)] O O (fun _=>tK) (zrP 25 [(0,_)] tR56 ts88 tz88 tS O O tK (fun b25=>?_))));refine zrW [Value.int IntKind.i64 0,Value.int IntKind.i64 0] [(0,1),(1,1)] [(0,_),(1,_)] O O (fun _=>tK) (zrP 27 [(0,_)] tR57 ts85 tz85 tS O O tK (fun b27=>?_));refine zrW [Value.slice none 0 0,Value.slice none 0 0,Value.int IntKind.i64 0] [(0,1),(1,1),(2,1)] [(0,_),(1,_),(2,_)] O O (fun _=>tK) (zrW [Value.slice none 0 0,Value.slice none 0 0,Value.int IntKind.i64 0] [(0,1),(1,1),(2,1)] [(2,_)] O O (fun _=>tK) (zrP 30 [(0,_),(1,_),(2,_),(3,_),(4,_)] tR28 ts59 tz59 tS O O tK (fun b30=>?_)));refine zrW [Value.slice none 0 0,Value.slice none 0 0] [(0,1),(1,1)] [(0,_),(1,_)] O O (fun _=>tK) (V.alloc 3 tz30 O O (fun b3=>?_));refine Vs 4 O (V.ren [(6,906),(10,910),(14,914),(16,916),(19,919),(22,922),(23,923),(25,925),(27,927),(30,930)] [(0,some (0,0)),(1,some (1,0)),(2,some (2,0)),(3,some (3,0))] O O (Vw [1,906,910,914,2,916,919,922,923,925,927,930,3] [3] O (Vd [0,1] 0 tK O O O (Ve 2 0 O tK O O O (Vl 3 O tK O (VDx.done tK (Vs 2 O (zsO results31 tg26 tg30 ts26 ts30 O O O O O O (fun w hI=>⟨_,rfl,(b6,b10,b14,b16,b19,b22,b23,b25,b27,b30),rfl,hI.back0 0 O O O rfl⟩)))))))))
theorem zfj (f:Fl) (v1 v2 v3:Value) (D:Nat->Prop) (W:World) (hf:RFl D W f v1 v2 v3) (hY:ssize f.body<=10000) :
  Calls prog 14 #[.agg #[v1,v2,v3]] W (Ret fun r w'=>(∃ nv,r=.agg #[nv]/\SlR 4 RNd (fun b=>W.heap.size<=b) w' nv (zd f))/\Ext W w'):=by
 refine zqQ func14 O ntmps14 O (V.inn (Vs 2 O (V.box 1 O O (fun b1=>?_))));refine V.alloc 2 tz36 O O (fun b2=>(Vs 5 O (zru call33 O (fun w hI=>zg4 f v1 v2 v3 D w i5 hY) ?_)));rintro rr w1 w2 da db ⟨nv,rfl,hnv⟩ dc;have dg:W.heap.size<=w1.heap.size:=da.k0.size;obtain⟨an,cn,rfl⟩:=hnv.form;refine Vs 4 O (zpu results14 tg36 ts36 O O O (fun w hI=>⟨_,rfl,⟨_,rfl,(hnv.keep zC hI.k0 fun b hb _ hs=>tD).wide zC fun b hb=>tO⟩,hI.k1⟩))
section
variable {bv bb b4 bo b9 bf ba bp bu bn:Nat} {ph:Value} {u:Int}
theorem zaf (hE:∀ x ∈ zi0 bv bb b4 bo b9 bf ba bp bu bn ph u,x.2.holds w) (hD:∀ q,q<w.heap.size->D q):RFl D w exF22 (.slice (some ⟨bv,0,none⟩) 2 2) (.slice none 0 0) (.slice (some ⟨b4,0,none⟩) 2 2):=by
 have h1:=hE _ (ztr ..);replace h1:Blk w bv _ 142:=h1;have h2:=hE _ (ztq _ (ztr ..));replace h2:Blk w bb _ 72:=h2;have h3:=hE _ (ztq _ (ztq _ (ztr ..)));replace h3:Blk w b4 _ 72:=h3;have kA:SlR 10 RSt D w (.slice (some ⟨bb,0,none⟩) 1 1) [zlw]:=zsN (R:=RSt) (l:=[zlw]) [[.int .i64 0,.int .i64 0,.int .i64 1,.int .i64 0,.int .i64 0,.int .i64 1,.slice none 0 0,.slice none 0 0,.slice none 0 0,.slice none 0 0]] h2 (hD _ h2.lt) (fun c hc=>by rw[ztF]at hc;subst hc;rfl) tS ⟨RSt.put (s:=zlw) SlR.nil SlR.nil SlR.nil SlR.nil,trivial⟩;refine⟨?_,SlR.nil,?_⟩
 . exact zsN (R:=RVr) (l:=exF22.vars)  [[.string ⟨#[120]⟩,.int .i64 1,.int .i64 0,.int .i64 1,.int .i64 0],[.string ⟨#[121]⟩,.int .i64 0,.int .i64 0,.int .i64 1,.int .i64 0]] h1 (hD _ h1.lt) J6 tS ⟨rfl,rfl,trivial⟩
 exact zsN (R:=RSt) (l:=exF22.body)  [[.int .i64 3,.int .i64 0,.int .i64 0,.int .i64 0,.int .i64 24,.int .i64 0,.slice none 0 0,.slice (some ⟨bb,0,none⟩) 1 1,.slice none 0 0,.slice none 0 0],[.int .i64 1,.int .i64 0,.int .i64 0,.int .i64 0,.int .i64 24,.int .i64 1,.slice none 0 0,.slice none 0 0,.slice none 0 0,.slice none 0 0]] h3 (hD _ h3.lt) J6 tS ⟨RSt.put (s:=zoa) SlR.nil kA SlR.nil SlR.nil,RSt.put (s:=zob) SlR.nil SlR.nil SlR.nil SlR.nil,trivial⟩
theorem zd7 (hE:∀ x ∈ zi0 bv bb b4 bo b9 bf ba bp bu bn ph u,x.2.holds w) (hD:∀ q,q<w.heap.size->D q):SlR 1 zv D w (.slice (some ⟨bo,0,none⟩) 4 4) [0,1,1,1]:=by
 have h4:=hE _ (ztq _ (ztq _ (ztq _ (ztr ..))));replace h4:Blk w bo _ 3:=h4;exact zsN (R:=zv) (l:=[(0:Int),1,1,1]) [[.int .i64 0],[.int .i64 1],[.int .i64 1],[.int .i64 1]] h4 (hD _ h4.lt) (fun c hc=>tD) tS ⟨rfl,rfl,rfl,rfl,trivial⟩
theorem zd8 {phis:List Phn} (hE:∀ x ∈ zi0 bv bb b4 bo b9 bf ba bp bu bn ph u,x.2.holds w) (hD:∀ q,q<w.heap.size->D q) (hp:SlR 4 zmw D w ph phis):SlR 3 RSn D w (.slice (some ⟨bn,0,none⟩) 5 5) [⟨[],[],-1⟩,⟨[],[(0,0)],-1⟩,⟨[],[],2⟩,⟨phis,[(1,u)],-1⟩,⟨[],[],-1⟩]:=by
 have h5:=hE _ ir;replace h5:Blk w b9 _ 85:=h5;have h9:=hE _ (ztq _ (ztq _ (ztq _ (ztq _ ir))));replace h9:Blk w bu _ 85:=h9;have hY:=hE _ (ztq _ (ztq _ (ztq _ (ztq _ (ztq _ ir)))));replace hY:Blk w bn _ 59:=hY;have k5:SlR 2 xu D w (.slice (some ⟨b9,0,none⟩) 1 1) [(0,0)]:=zsN (R:=xu) (l:=[((0:Int),(0:Int))]) [[.int .i64 0,.int .i64 0]] h5 (hD _ h5.lt) (fun c hc=>tD) tS ⟨rfl,trivial⟩;have k9:SlR 2 xu D w (.slice (some ⟨bu,0,none⟩) 1 1) [(1,u)]:=zsN (R:=xu) (l:=[((1:Int),u)]) [[.int .i64 1,.int .i64 u]] h9 (hD _ h9.lt) (fun c hc=>tD) tR ⟨rfl,trivial⟩
 exact zsN (R:=RSn) (l:=[⟨[],[],-1⟩,⟨[],[(0,0)],-1⟩,⟨[],[],2⟩,⟨phis,[(1,u)],-1⟩,⟨[],[],-1⟩]) [[.slice none 0 0,.slice none 0 0,.int .i64 (-1)],[.slice none 0 0,.slice (some ⟨b9,0,none⟩) 1 1,.int .i64 (-1)],[.slice none 0 0,.slice none 0 0,.int .i64 2],[ph,.slice (some ⟨bu,0,none⟩) 1 1,.int .i64 (-1)],[.slice none 0 0,.slice none 0 0,.int .i64 (-1)]] hY (hD _ hY.lt) (fun c hc=>tD) tR
  ⟨⟨_,_,rfl,SlR.nil,SlR.nil⟩,⟨_,_,rfl,SlR.nil,k5⟩,⟨_,_,rfl,SlR.nil,SlR.nil⟩,⟨_,_,rfl,hp,k9⟩,⟨_,_,rfl,SlR.nil,SlR.nil⟩,trivial⟩
theorem zdW (hE:∀ x ∈ zi0 bv bb b4 bo b9 bf ba bp bu bn (.slice (some ⟨bp,0,none⟩) 1 1) 3,x.2.holds w) (hD:∀ q,q<w.heap.size->D q):RSf D w exS22 (.slice (some ⟨bo,0,none⟩) 4 4) (.slice (some ⟨bn,0,none⟩) 5 5):=by
 have h6:=hE _ (ztq _ ir);replace h6:Blk w bf _ 3:=h6;have h7:=hE _ (ztq _ (ztq _ ir));replace h7:Blk w ba _ 3:=h7;have h8:=hE _ (ztq _ (ztq _ (ztq _ ir)));replace h8:Blk w bp _ 88:=h8;have k6:SlR 1 zv D w (.slice (some ⟨bf,0,none⟩) 2 2) [1,2]:=zsN (R:=zv) (l:=[(1:Int),2]) [[.int .i64 1],[.int .i64 2]] h6 (hD _ h6.lt) (fun c hc=>tD) tS ⟨rfl,rfl,trivial⟩;have k7:SlR 1 zv D w (.slice (some ⟨ba,0,none⟩) 2 2) [1,2]:=zsN (R:=zv) (l:=[(1:Int),2]) [[.int .i64 1],[.int .i64 2]] h7 (hD _ h7.lt) (fun c hc=>tD) tS ⟨rfl,rfl,trivial⟩;refine⟨zd7 hE hD,zd8 (phis:=[⟨1,3,[1,2],[1,2]⟩]) hE hD ?_⟩;exact zsN (R:=zmw) (l:=[⟨1,3,[1,2],[1,2]⟩]) [[.int .i64 1,.int .i64 3,.slice (some ⟨bf,0,none⟩) 2 2,.slice (some ⟨ba,0,none⟩) 2 2]] h8 (hD _ h8.lt) (fun c hc=>by rw[ztF]at hc;subst hc;rfl) tS ⟨⟨_,_,rfl,k6,k7⟩,trivial⟩
theorem zjJ (hE:∀ x ∈ zi0 bv bb b4 bo b9 bf ba bp bu bn (.slice none 0 0) 2,x.2.holds w) (hD:∀ q,q<w.heap.size->D q):RSf D w exT22 (.slice (some ⟨bo,0,none⟩) 4 4) (.slice (some ⟨bn,0,none⟩) 5 5):=⟨zd7 hE hD,zd8 (phis:=[]) hE hD SlR.nil⟩
end
def zjK:Ins:=⟨[1],[],[]⟩
theorem zi1:zh exF22.vars zjK=0:=by decide +kernel
theorem zjL:(zaz exF22 zjK).outs=[1]:=by decide +kernel
theorem zfk (hk:k<s.of_.length) (hN:NeedV f g s (k:Int)):(zb1 f g s)[k]?=some true:=by
 unfold zb1;rw[ztE,zvf hk];simp only[zwJ];rw[@ztz _ (Classical.propDecidable _) hN]
theorem zi2:(zb1 exF22 exG22 exS22)[0]?=some true:=zfk tS (NeedV.sink (n:=1) (u:=(0,0)) tS iG iG)
theorem zi3:(zb1 exF22 exG22 exS22)[3]?=some true:=zfk tS (NeedV.sink (n:=3) (u:=(1,3)) tS iG iG)
theorem znd:(yz exF22 exG22 exS22 exG22.length).length+muN exS22 exG22.length (List.replicate exS22.of_.length false)<=1000000000:=by decide +kernel
open Go.GL
def zne (f:Fl) (s:Sf) (r:Ins) (i:Nat) (vl:List Int):Prop:=(i=0->∀ v:Nat,v<f.vars.length->vl[v]?=(zu f.vars r)[v]?)/\∀ j,i=j+1->∀ y:Nat,(xi f r j).at_=(y:Int)->zj2 f (zd f) s y vl (xi f r i).σ.vals
theorem zjM (vd:Valid f) {n n':Nat} {x':Nd} (hw:OnWalk f r K i n x) (hY:OnWalk f r K (i+1) n' x') (hi:i<K):n ∈ zJ (zd f) n'/\n' ≠ 0:=by
 have hn:=(ztB.1 hw.nd).1;have h1:=(hw.go hi).1;have h2:(xi f r (i+1)).at_=_:=congrArg Mc.at_ h1;rw[hY.at_]at h2;dsimp only at h2;have h3:=zn5 f (yk f r) x (yp f x.at_) (xi f r i).σ (xi f r i).rd;rw[<- h2]at h3;have h4:=(vd.away hw.nd).1 _ h3;refine⟨pred_mem.2 ⟨hn,?_⟩,tO⟩;rw[yl hw.nd];rcases h3 with h3 | h3
 . omega
 omega
theorem zlF {n:Nat} (hw:OnWalk f r K 0 n x):n=0:=by
 have h:(xi f r 0).at_=0:=rfl;have:=hw.at_;omega
theorem zoJ {rd:Nat->List Int} (h:FormF f g s rd) (hg:0<g.length):(zp s 0).phis=[]:=(h.at hg).phi.zero rfl
theorem zlG (vd:Valid f) (h:RightF f (zd f) s (rdV f (zd f))) {n y:Nat} (hg:GoesAll f r K) (hi:i<=K) (hw:OnWalk f r K i n x) (hy:(xi f r (i - 1)).at_=(y:Int)) (hY:vl.length=s.of_.length) (hp:zne f s r i vl) :
  InvV f (zd f) s n (ju f (zd f) s y vl (zp s n).phis) (xi f r i).σ.vals/\((zp s n).phis ≠ []->y ∈ zJ (zd f) n):=by
 have hn:=(ztB.1 hw.nd).1;cases i with
 | zero =>
  obtain rfl:=zlF hw;have h0:=zoJ h.toFormF hn;rw[h0];exact⟨InvV.start h.toFormF (hp.1 O),fun h=>absurd O h⟩
 | succ j =>
  obtain⟨n0,x0,da⟩:=zjq vd hg (show j<=K by omega);rw[zwj,da.at_]at hy;obtain rfl:n0=y:=tO;obtain⟨h1,h2⟩:=zjM vd da hw tO;exact⟨zjD h h2 hn h1 hY (hp.2 j O n0 da.at_),fun _=>h1⟩
theorem zlH {n:Nat} (hw:OnWalk f r K i n x) (h:zj2 f (zd f) s n vl (xi f r (i+1)).σ.vals):zne f s r (i+1) vl:=by
 refine⟨fun h=>tO,fun j hj y hy=>?_⟩;obtain rfl:i=j:=tO;rw[hw.at_]at hy;obtain rfl:n=y:=tO;exact h
theorem zi4 (f:Fl):CtOk f (List.replicate (zd f).length 0) (fun _=>0):=fun i x hx _=>by
 rw[zvg,zty (ztB.1 hx).1]
theorem zdX (_:Valid f) (h:RightF f (zd f) s (rdV f (zd f))) {n:Nat} (hx:(zd f)[n]?=some x) {σ:Sg} (_:InV f.vars σ.vals) (hI:InvV f (zd f) s n vl σ.vals) (_:List Int) (hn:zdK f x=false):zj2 f (zd f) s n vl σ.vals:=by
 refine hI.pass h ?_;unfold yy;rw[yl hx,hn,ztx tS];decide
theorem znf (h:RightF f (zd f) s (rdV f (zd f))) {n:Nat} (hx:(zd f)[n]?=some x) (hV:InV f.vars vals) (hI:InvV f (zd f) s n vl vals) (hl:vl.length=s.of_.length) (ha:zdK f x=true) {v:Vr} (hk:(yp f x.at_).var=(k:Int)) (hv:f.vars[k]?=some v) (m:Int):zj2 f (zd f) s n (vl.set (zp s n).dfn.toNat (yA m v.low v.high)) (zed f.vars vals (yp f x.at_).var m)/\∃ q:Nat,(zp s n).dfn=(q:Int)/\q<vl.length:=by
 have da:=(ztB.1 hv).1;have hd:yy f (zd f) n=(k:Int):=by unfold yy;rw[yl hx,ha,zty rfl,hk]
 have db:=(ztB.1 hx).1;have hY:=(h.toFormF.at db).yes tO;have hs:zed f.vars vals (yp f x.at_).var m=vals.set k (yA m v.low v.high):=by unfold zed;rw[hk,ztJ,hv]
 rw[hs];refine⟨hI.set h db hd da (by rw[hV.len];exact da) tO _,?_⟩;obtain⟨q,hq,dc⟩:=jL hY;exact⟨q,hq,tO⟩
abbrev rnH (b gb:Nat) (ofv nodv vv hv rv ov:Value) (vl rl outs:List Int) (t:Int):Hp:=[(900,.own b (rnr gb ofv nodv vv hv rv ov (.int .i64 t)) 107),(901,jr vv vl),(902,jr rv rl),(903,jr ov outs)]
abbrev zoe (f:Fl) (s:Sf) (n:Nat) (b gb:Nat) (ofv nodv vv hv rv ov:Value) (vl ro:List Int) (outs:List Int) (t:Int) (σ':Sg) (W w':World):Prop:=∃ (x:List Int × Value),(x.1.length=vl.length/\zj2 f (zd f) s n x.1 σ'.vals)/\GBack (rnH b gb ofv nodv vv hv rv ov vl ro outs t) (rnH b gb ofv nodv vv hv rv x.2 x.1 ro σ'.outs σ'.time) W w'
theorem zng (k2:x.kind=2):zdK f x=(decide ((yp f x.at_).act=0) || decide ((yp f x.at_).act=5)):=by unfold zdK;rw[ztz k2,zui]
theorem znh (f:Fl) (s:Sf) (vd:Valid f) (hR:RightF f (zd f) s (rdV f (zd f))) (hs:List Int) (em:hs.length=f.hatches.length) (n:Nat) (x:Nd) (hx:(zd f)[n]?=some x) (k2:x.kind=2) (σ:Sg) (hV:InV f.vars σ.vals) (er:σ.outs.length<=1000000000) (vl ro:List Int) (d5:vl.length=s.of_.length) (db:InvV f (zd f) s n vl σ.vals)
  (b gb:Nat) (ofv nodv vv hv rv ov:Value) (D Dh:Nat->Prop) (W:World) (hE:Held (rnH b gb ofv nodv vv hv rv ov vl ro σ.outs (σ.time+(yp f x.at_).cost)) W) (hS:RSf D W s ofv nodv) (hG:GrO D W f (zd f) gb) (hh:SlR 1 zv Dh W hv hs) (da:∀ q,HS (rnH b gb ofv nodv vv hv rv ov vl ro σ.outs (σ.time+(yp f x.at_).cost)) q->¬ D q) (dh:∀ q,HS (rnH b gb ofv nodv vv hv rv ov vl ro σ.outs (σ.time+(yp f x.at_).cost)) q->¬ Dh q)
  (a1:Option Addr) (n1:Nat) (a2:Option Addr) (n2:Nat) (a3:Option Addr) (n3:Nat) (a4:Option Addr) (n4:Nat) (hb:SlR 1 zv D W (.slice a4 (yp f x.at_).bounds.length n4) (yp f x.at_).bounds) :
  Calls prog 93 #[.pointer (some ⟨b,0,none⟩),.int .i64 n,.agg #[.int .i64 (yp f x.at_).act,.int .i64 (yp f x.at_).cost,.int .i64 (yp f x.at_).var,.int .i64 (yp f x.at_).n,.int .i64 (yp f x.at_).term.op,.int .i64 (yp f x.at_).term.n,.slice a1 (yp f x.at_).term.kids.length n1,.slice a2 (yp f x.at_).thn.length n2,.slice a3 (yp f x.at_).els.length n3,.slice a4 (yp f x.at_).bounds.length n4]] W (Ret fun r w'=>r=.tuple #[]/\zoe f s n b gb ofv nodv vv hv rv ov vl ro σ.outs (σ.time+(yp f x.at_).cost) (xL f hs (yp f x.at_) σ) W w'):=by
 have d6:=(ztB.1 hx).1;obtain⟨h0,d7,_⟩:=vd.gOk.at hx (.inl k2);have hget:=jY h0 d7;obtain⟨dG,ew,_⟩:=vd.step _ (zto hget);have dH:xf (zd f) n=x:=yl hx;have dl:stN f (xf (zd f) n)=yp f x.at_:=by rw[dH];unfold stN;rw[zty h0]
 have hl:=vd.lens;have ez:=vd.ssize;have eA:=yD f vd.plain;have eC:=xk f.body;have dI:=zng (f:=f) k2;have d8:=hR.len;obtain⟨xs,dm⟩:∃ xs,s.nodes[n]?=some xs:=iA;have d9:=yL dm;obtain⟨v1,v2,v3,gv,sv,pv,hD,dr,hf,_,_,_⟩:=id hG;have dR:=hf.vars;obtain⟨av,cv,rfl⟩:=dR.form;have dt:=hS.nodes;obtain⟨an,cn,rfl⟩:=dt.form;obtain⟨ah,ch,rfl⟩:=hh.form;have eD:=hS.of_.max;generalize dE:yp f x.at_=st at *;refine zqS func93 O ntmps93 O (zse [(900,.own b [.pointer (some ⟨gb,0,none⟩),ofv,.slice an s.nodes.length cn,vv,.slice ah hs.length ch,rv,ov,.int .i64 (σ.time+st.cost)] 107),(901,.row 3 1 vv vl.length (vl.map zb)),(902,.row 3 1 rv ro.length (ro.map zb)),(903,.row 3 1 ov σ.outs.length (σ.outs.map zb))] hE.1 hE.2 (zrG 904 0 O O (fun h=>da _ h hD) dr (zre 0 900 0 O O ?_)));have dc:rdB f x=true->∀ w,Keep (HS (rnH b gb ofv (.slice an s.nodes.length cn) vv (.slice ah hs.length ch) rv ov vl ro σ.outs (σ.time+st.cost))) W w->Cells w b 0 (rnr gb ofv (.slice an s.nodes.length cn) vv (.slice ah hs.length ch) rv ov (.int .i64 (σ.time+st.cost)))->w.ownsRow 0 3 1 vv vl.length (vl.map zb)->Calls prog 92 #[.pointer (some ⟨b,0,none⟩),.int .i64 n] w (Ret fun r w'=>r=.int .i64 (xK σ.vals st.term)/\Ext w w'):=fun dF w hk hc hv=>dl ▸ zh4 f (zd f) s vd.good hR n d6 (dl ▸ dG) tD tD tO tO vl σ.vals hV db b gb _ _ _ _ _ _ _ D D (fun _=>True) w hc (hS.keep hk fun q hq _ h=>da q h hq) (hG.keep hk fun q hq _ h=>da q h hq) (zqa zb j9 hv (fun _ _=>trivial));refine Vs 2 O (V.box 5 O O (fun b5=>?_));refine Vs 15 O (zp4 O (fun a1=>?_) (fun a1=>?_))
 .
  have dF:rdB f x=true:=by unfold rdB;rw[dE];simp[k2,a1]
  have dg:xL f hs st σ={ σ with outs:=σ.outs++[xK σ.vals st.term],time:=σ.time+st.cost }:=by unfold xL;rw[ztx tO,zty a1]
  have hY:=zdX vd hR hx hV db hs tD;refine Vw [900,904,5] [14] O (Vd [0,1,2,3,4,5,6,7] 0 tK O O O (zrt 8 0 call92 O tK O O (fun w hI=>dc dF w hI.k0 (hI.at 900 O).cells (hI.at 901 O)) (zrQ 9 21 0 [(0,_)] tR27 ts3 tz3 tS O tK O O tK (fun b21=>?_))));refine zrm 10 903 21 0 tu27 Tryz.el3 O tS O tK O O O tO tO (fun u903=>(Vd [11,12,13] 0 tK O O O (zro 903 O tO ?_)));rintro bo co rfl du;refine Vl 14 O tK O (VDx.done tK (Vs 1 O (zrL 903 O (e':=.row 3 1 (.slice (some ⟨bo,0,none⟩) (σ.outs.length+1) co) (σ.outs++[xK σ.vals st.term]).length ((σ.outs++[xK σ.vals st.term]).map zb)) tD (zpA tr93 (fun w hI=>⟨_,rfl,rfl,dg ▸ ⟨(vl,.slice (some ⟨bo,0,none⟩) (σ.outs.length+1) co),⟨rfl,hY⟩,hI.back 0 O O O rfl⟩⟩)))))
 refine Vs 6 O (zp4 O (fun a6=>?_) (fun a6=>?_))
 .
  have dg:xL f hs st σ={ σ with time:=qv st.bounds (σ.time+st.cost) }:=by unfold xL;rw[ztx tO,ztx a1,ztx tO,zty a6]
  have hY:=zdX vd hR hx hV db hs tD;refine Vw [900,904,5] [12] O (Vd [0,1,2,3,4,5,6,7] 0 tK O O O (zrt 8 0 call134 O tK O O (fun w hI=>zcA st.bounds (σ.time+st.cost) _ D w (hb.keep zc hI.k0 fun q hq _ h=>da q h hq)) (Vd [9,10,11] 0 tK O O O (Vl 12 O tK O (VDx.done tK (Vs 1 O Jj))))))
 refine Vs 1 O (zrN (σ:=Bool) [0,1,5] [5,900,901,902,903,904] [0,5] O (fun e a=>(40,.bool a)::e) (fun e a=>e) (fun a=>a=zdK f x) j1 j1 ?_ ?_)
 .
  refine Vs 6 O (zp4 O (fun a0=>?_) (fun a0=>?_))
  . refine Vs 1 O (zpi (true) j2 j3 tD 0 O O)
  refine Vs 4 O (zpi (decide (st.act=5)) j2 j3 tD 0 O O)
 rintro a ha;refine Vs 1 O (V.bool O (fun t=>?_) (fun t=>?_))
 .
  have dw:zdK f x=true:=ha ▸ t;have eb:st.act=0\/st.act=5:=tD;have ec:=dG.var eb;obtain⟨k,hk⟩:∃ k:Nat,st.var=(k:Int):=⟨st.var.toNat,tO⟩;refine Vs 6 O (zrN (σ:=Int) [0,1,5] [5,900,901,902,903,904] [0,5] O (fun e m=>(6,.int .i64 m)::e) (fun e m=>e) (fun m=>xL f hs st σ={ σ with vals:=zed f.vars σ.vals st.var m,time:=σ.time+st.cost }) j1 j1 ?_ ?_)
  .
   refine Vs 7 O (zp4 O (fun b0=>?_) (fun b0=>?_))
   .
    have dF:rdB f x=true:=by unfold rdB;rw[dE];simp[k2,b0]
    refine Vs 3 O (zrs call92 O (fun w hI=>dc dF w hI.k0 (hI.at 900 O).cells (hI.at 901 O)) (Vs 2 O (zpi (xK σ.vals st.term) j2 j3 (by unfold xL;rw[zty b0]) 0 O O)))
   have a5:st.act=5:=tO;have ed:=dG.num a5;refine zrH 1000 0 st.n.toNat tO hh O O O (fun b_ d_ h_=>by have dx:=dh _ h_;first | omega | exact dx d_) (fun y eE eF eG dJ ee dK ef dL=>?_);obtain rfl:=dL;refine Vq tK (Vs 6 O (zrj 1000 tR27 ts3 O dK tO (st.n.toNat) tO O (Vs 3 O (zpi (y) j2 j3 (by unfold xL;rw[ztx b0,ztx a1,zty a5,zgI dJ]) 0 O O))))
  rintro m dg;refine Vs 2 O (zrH 2000 0 k tO dR O O O (fun b_ d_ h_=>by have dx:=da _ h_;first | omega | exact dx d_) (fun v eH eI eJ dM dN dO eh dQ=>?_));obtain rfl:=dQ;refine Vw [5,900,904,2000] [] O (Vd [0,1,2,3] 0 tK O O O (zrf 60 904 0 O O (Vd [4,5,6,7,8,9] 0 tK O O O (zrh 10 2000 tR22 ts142 O tK O dO tO (k) tO O ?_))));obtain⟨hY,q,hq,eK⟩:=znf (m:=m) hR hx hV db d5 dw (dE ▸ hk) dM;rw[dE]at hY;refine Vd [11] 0 tK O O O (zrc 12 7 0 O tK O O (fun _ _=>M.alloc tz142 O) (fun b7=>?_));refine Ve 13 0 O tK O O O (VD.done tK (Vs 1 O (zrn 901 O tO ?_)));rintro bv cq rfl dy;refine zrH 3000 0 n tO dt O O O (fun b_ d_ h_=>by have dx:=da _ h_;first | omega | exact dx d_) (fun xn ei ej ek dz dS dA dT dB=>?_);obtain⟨dU,dV,rfl,dC,dD⟩:=dB;obtain⟨dW,dX,rfl⟩:=dC.form;obtain⟨dY,dZ,rfl⟩:=dD.form;obtain rfl:xs=xn:=Option.some.inj (dm.symm.trans dz);rw[d9]at hq hY;refine Vw [5,900,904,2000,7,3000] [] O (Vd [0,1,2,3,4,5,6,7,8,9,13,14,15,16,17] 0 tK O O O (zrh 10 3000 tR28 ts59 O tK O dA tO (n) tO O (Vd [11,12] 0 tK O O O (zrt 18 0 call46 O tK O O (fun w hI=>zfg m v.low v.high w (vd.good v dN).2.1) (Vb [19] 0 tK O O O tO (zrr 20 901 0 (q) ts3 O tK O O tO tD (VD.done tK (Vs 1 O (zrL 901 O (e':=.row 3 1 (.slice (some ⟨bv,0,none⟩) vl.length cq) (vl.set q (yA m v.low v.high)).length ((vl.set q (yA m v.low v.high)).map zb)) (by rw[zvB,zvu]) ?_)))))))));refine zpA tr93 (fun w hI=>⟨_,rfl,rfl,dg ▸ ⟨(vl.set q (yA m v.low v.high),ov),⟨zvu,tD⟩,hI.back 0 O O O rfl⟩⟩)
 have dw:zdK f x=false:=ha ▸ t
 have dg:xL f hs st σ={ σ with time:=σ.time+st.cost }:=by
  rw[dI]at dw;simp at dw;unfold xL
  grind
 have hY:=zdX vd hR hx hV db hs dw;refine Vs 2 O Jj
abbrev zjN (f:Fl) (s:Sf) (r:Ins) (i n:Nat) (b gb:Nat) (ofv nodv vv hv rv ov:Value) (vl ro:List Int) (rr:Value) (W w':World):Prop:=∃ (x:List Int × List Int × Value),(rr=.int .i64 (xi f r (i+1)).at_/\x.1.length=vl.length/\zj2 f (zd f) s n x.1 (xi f r (i+1)).σ.vals/\x.2.1.length=ro.length/\CtOk f x.2.1 (xi f r (i+1)).rd)/\GBack (rnH b gb ofv nodv vv hv rv ov vl ro (xi f r i).σ.outs (xi f r i).σ.time) (rnH b gb ofv nodv vv hv rv x.2.2 x.1 x.2.1 (xi f r (i+1)).σ.outs (xi f r (i+1)).σ.time) W w'
theorem zof {f:FuncId} {Φ:α->Prop} {E':α->Hp} (h:Calls P f args w (Ret fun r w'=>r=.tuple #[]/\∃ x,Φ x/\GBack E (E' x) w w')):Calls P f args w (Ret fun r w'=>∃ x,(r=.tuple #[]/\Φ x)/\GBack E (E' x) w w'):=by
 refine Calls.mono h ?_;rintro e' w' ⟨r,rfl,h1,x,h2,h3⟩;exact⟨_,rfl,x,⟨h1,h2⟩,h3⟩
theorem zlI (f:Fl) (s:Sf) (vd:Valid f) (hR:RightF f (zd f) s (rdV f (zd f))) (r:Ins) (e0:zh f.vars r=0) (K:Nat) (hg:GoesAll f r K) (i:Nat) (hi:i<K) (n:Nat) (x:Nd) (hw:OnWalk f r K i n x) (vl ro:List Int) (ei:vl.length=s.of_.length) (dR:ro.length=(zd f).length) (dm:InvV f (zd f) s n vl (xi f r i).σ.vals) (db:CtOk f ro (xi f r i).rd)
  (b gb:Nat) (ofv nodv vv hv rv ov:Value) (D Dh:Nat->Prop) (W:World) (dS:∀ q,D q\/Dh q->q<W.heap.size) (hE:Held (rnH b gb ofv nodv vv hv rv ov vl ro (xi f r i).σ.outs (xi f r i).σ.time) W) (hS:RSf D W s ofv nodv) (hG:GrO D W f (zd f) gb) (hh:SlR 1 zv Dh W hv (yk f r)) (da:∀ q,HS (rnH b gb ofv nodv vv hv rv ov vl ro (xi f r i).σ.outs (xi f r i).σ.time) q->¬ D q) (dc:∀ q,HS (rnH b gb ofv nodv vv hv rv ov vl ro (xi f r i).σ.outs (xi f r i).σ.time) q->¬ Dh q) :
  Calls prog 48 #[.pointer (some ⟨b,0,none⟩),.int .i64 n] W (Ret fun rr w'=>zjN f s r i n b gb ofv nodv vv hv rv ov vl ro rr W w'):=by
 have ej:=(ztB.1 hw.nd).1;have hx:=hw.nd;obtain⟨ek,eI⟩:=hw.go hi;have dI:=zje vd e0 hg i tO;have hV:=dI.inv;have ht:=dI.time;have eJ:=dI.outs;have eK:=dI.rd x.at_;have hK:=(zn6 vd hg).2;have hl:=vd.lens;have eL:=vd.ssize;have eM:=yD f vd.plain;have eN:=xk f.body;have dL:xf (zd f) n=x:=yl hx;have hY:zdK f x=false->zj2 f (zd f) s n vl (xi f r i).σ.vals:=fun ha=>zdX vd hR hx hV dm [] ha;have dr:x.kind ≠ 2->zdK f x=false:=fun h=>by unfold zdK;rw[ztA h,Bool.false_and]
 obtain⟨v1,v2,v3,gv,sv,pv,hD,dt,hf,dM,du,_⟩:=id hG;obtain⟨ag,cg,rfl⟩:=dM.form;obtain⟨as1,cs1,rfl⟩:=du.form;have em:=dM.max;have dT:((zd f).map (stN f)).length=(zd f).length:=ztH _;have dw:((zd f).map (stN f))[n]?=some (stN f x):=by rw[ztE,hx];rfl
 have er:(yk f r).length=f.hatches.length:=by simp[zgN]
 unfold zjN at *;rw[ek];generalize hm:xi f r i=m at *;generalize eO:(zd f).map (stN f)=gm at *;obtain⟨at_,σ,rd⟩:=m;dsimp only at *;refine zqR func48 O ntmps48 O (zse [(900,.own b [.pointer (some ⟨gb,0,none⟩),ofv,nodv,vv,hv,rv,ov,.int .i64 σ.time] 107),(901,.row 3 1 vv vl.length (vl.map zb)),(902,.row 3 1 rv ro.length (ro.map zb)),(903,.row 3 1 ov σ.outs.length (σ.outs.map zb))] hE.1 hE.2 (zrG 904 0 O O (fun h=>da _ h hD) dt (zre 0 900 0 O O (zrn 902 O tO ?_))));rintro br cr rfl dx;refine Vs 6 O (zrH 1000 0 n tO dM O O O (fun b_ d_ h_=>by have dN:=da _ h_;first | omega | exact dN d_) (fun x2 ew ez eA dy dU dz dV dA=>?_));obtain rfl:=dA;obtain rfl:x2=x:=Option.some.inj (dy.symm.trans hx);refine zrH 2000 0 n tO du O O O (fun b_ d_ h_=>by have dN:=da _ h_;first | omega | exact dN d_) (fun st eC eD eE dB dW dC dX dD=>?_);obtain⟨dY,dZ,d5,d6,rfl,dE,dF,dG,dg⟩:=dD.get;obtain⟨d7,d8,rfl⟩:=dE.form;obtain⟨d9,eb,rfl⟩:=dF.form;obtain⟨ec,ed,rfl⟩:=dG.form;obtain⟨ee,ef,rfl⟩:=dg.form;have dO:st=stN f x2:=Option.some.inj (dB.symm.trans dw);refine Vw [900,904,1000,2000] [] O (Vd [0,1,2,3] 0 tK O O O (zrf 10 904 0 O O (Vd [4,5,6,7,10,11,12,13] 0 tK O O O (zrf 20 904 0 O O (Vd [14,15,16,17] 0 tK O O O ?_)))));refine zrh 8 1000 tR34 ts65 O tK O dz tO _ rfl O (Vd [9] 0 tK O O O ?_);refine zrh 18 2000 tR24 ts72 O tK O dC tO _ rfl O (Vd [19] 0 tK O O O (zss 2 0 [(20,5,[],false),(21,6,[],false)] (psi [(5,phA 5 [Value.int IntKind.i64 0,Value.int IntKind.i64 0,Value.int IntKind.i64 0,Value.int IntKind.i64 0] 65),(6,phA 6 [Value.int IntKind.i64 0,Value.int IntKind.i64 0,Value.int IntKind.i64 0,Value.int IntKind.i64 0,Value.int IntKind.i64 0,Value.int IntKind.i64 0,Value.slice none 0 0,Value.slice none 0 0,Value.slice none 0 0,Value.slice none 0 0] 72)]) tK tK O O ⟨?_,?_,True.intro⟩ ?_))
 . exact MP.alloc 5 O O tz65 O O
 . exact MP.alloc 6 O O tz72 O O
 rintro val hn ⟨⟨b5,e5,n5⟩,⟨b6,e6,n6⟩,_⟩;refine VD.cast [(0,some (900,0)),(7,some (900,0)),(8,some (900,0)),(9,some (900,0)),(10,some (904,0)),(11,some (904,0)),(12,some (904,3)),(15,some (1000,0)),(17,some (900,0)),(18,some (900,0)),(19,some (900,0)),(20,some (904,0)),(21,some (904,0)),(22,some (904,4)),(25,some (2000,0)),(5,some (5,0)),(6,some (6,0))] _ _ (zhB e5 (zhB e6 rfl)) (znM n5 (znM n6 rfl)) O O O ?_;clear n5 n6
 have dJ:x2.kind ≠ 0->0<=x2.at_/\(preL f.body)[x2.at_.toNat]?=some (yp f x2.at_)/\stN f x2=yp f x2.at_:=fun h0=>by
  have h1:=(vd.gOk n x2 hx);have h2:=(vd.ends hx).1
  have h3:0<=x2.at_:=by
   omega
  exact⟨h3,jY h3 ((vd.ends hx).2 h3),by unfold stN;rw[zty h3]⟩
 have dh:rdB f x2=true->x2.kind ≠ 0->∀ t:Int,∀ rl:List Int,∀ w,Keep (HS (rnH b gb ofv nodv vv hv (.slice (some ⟨br,0,none⟩) ro.length cr) ov vl ro σ.outs σ.time)) W w->Cells w b 0 (rnr gb ofv nodv vv hv (.slice (some ⟨br,0,none⟩) ro.length cr) ov (.int .i64 t))->w.ownsRow 0 3 1 vv vl.length (vl.map zb)->Calls prog 92 #[.pointer (some ⟨b,0,none⟩),.int .i64 n] w (Ret fun r w'=>r=.int .i64 (xK σ.vals st.term)/\Ext w w'):=fun dK k0 t rl w hk hc hv=>by
  obtain⟨h1,h2,h3⟩:=dJ k0;have h4:=zh4 f (zd f) s vd.good hR n ej (by rw[dL,h3];exact(vd.step _ (zto h2)).1) tD tD tO tO vl σ.vals hV dm b gb _ _ _ _ _ _ _ D D (fun _=>True) w hc (hS.keep hk fun q hq _ h=>da q h hq) (hG.keep hk fun q hq _ h=>da q h hq) (zqa zb j9 hv (fun _ _=>trivial))
  grind
 refine Ve 22 0 O tK O O O (Ve 23 0 O tK O O O (VD.done tK (Vs 15 O (zp4 O (fun k4=>?_) (fun k4=>?_)))))
 .
  obtain⟨g0,y,hy,eF,eG⟩:=(vd.part hx).2.1 k4;have eP:=(ztB.1 hy).1;have hp:xt f (yk f r) x2 (yp f x2.at_) σ rd=(x2.next,σ,zee rd x2.at_ 0):=by unfold xt;rw[ztx tO,ztx tO,zty k4]
  rw[hp];have dH:=db.set vd dR hy eF 0;rw[eG]at dH;refine Vs 1 O (Vw [900,904,1000,2000,5,6] [] O (Vb [0,1,2,3,4,5,6] 0 tK O O O tO (zrr 7 902 0 (x2.next.toNat) ts3 O tK O O tO tD (VD.done tK (Vs 2 O (zrL 902 O (e':=.row 3 1 (.slice (some ⟨br,0,none⟩) ro.length cr) (ro.set x2.next.toNat 0).length ((ro.set x2.next.toNat 0).map zb)) (by rw[zvB,zvu]<;>rfl) (Vs 9 O (zpl tr48 O (fun w hI=>⟨_,rfl,(vl,ro.set x2.next.toNat 0,ov),⟨rfl,rfl,hY (dr tO),zvu,dH⟩,hI.back 0 O O O rfl⟩)))))))))
 refine Vs 6 O (zp4 O (fun k5=>?_) (fun k5=>?_))
 .
  obtain⟨h1,h2,h3⟩:=dJ tO;have eh:=db n x2 hx k5;have hN:=((vd.step _ (zto h2)).2.2 ((vd.part hx).2.2 k5));have dl:=(vd.step _ (zto h2)).1.cost;obtain rfl:st=yp f x2.at_:=dO.trans h3;refine Vs 2 O (Vq tK (Va 6 O tO (V.rlQ 902 (n) tg3 O tO (show _=some (Value.int .i64 (rd x2.at_)) by rw[ztE,eh];rfl) ?_)));refine Vs 5 O (zp4 O (fun c=>?_) (fun c=>?_))
  .
   have hp:xt f (yk f r) x2 (yp f x2.at_) σ rd=(x2.other,σ,rd):=by unfold xt;rw[ztx tO,ztx tO,ztx k4,zty ⟨k5,c⟩]
   rw[hp];refine Vs 11 O iS
  have hp:xt f (yk f r) x2 (yp f x2.at_) σ rd=(if xK σ.vals (yp f x2.at_).term ≠ 0 then x2.next else x2.other,{ σ with time:=σ.time+(yp f x2.at_).cost },zee rd x2.at_ (rd x2.at_+1)):=by unfold xt;rw[ztx tO,ztx tO,ztx k4,ztx (fun h=>c h.2),zty k5]
  rw[hp];have dH:=db.set vd dR hx k5 (rd x2.at_+1);have dK:rdB f x2=true:=by unfold rdB;simp[k5]
  refine Va 10 O tO (zrp 902 (n) tg3 O tO (show _=some (Value.int .i64 (rd x2.at_)) by rw[ztE,eh];rfl) ?_);refine Va 2 O tO (zrq 902 (n) ts3 O tO tD (zrL 902 O (e':=.row 3 1 (.slice (some ⟨br,0,none⟩) ro.length cr) (ro.set n (rd x2.at_+1)).length ((ro.set n (rd x2.at_+1)).map zb)) (by rw[zvB,zvu]<;>rfl) (Vs 3 O (Vw [900,904,1000,2000,5,6] [11] O (Vb [0,1,2,3,4,5,6,7,8,9,10] 0 tK O O O tO (Vl 11 O tK O (VDx.done tK (Vs 6 O (zrs call92 O (fun w hI=>dh dK tO _ ro w hI.k0 (hI.at 900 O).cells (hI.at 901 O)) (Vs 3 O ?_))))))))));refine zp4 O (fun z=>?_) (fun z=>?_)
  .
   rw[ztx (ztK z)];refine Vs 11 O JN
  rw[zty z];refine Vs 12 O JN
 refine Vs 6 O (zp4 O (fun k3=>?_) (fun k3=>?_))
 .
  obtain⟨h1,h2,h3⟩:=dJ tO;have dl:=(vd.step _ (zto h2)).1.cost;obtain rfl:st=yp f x2.at_:=dO.trans h3;have hp:xt f (yk f r) x2 (yp f x2.at_) σ rd=(if xK σ.vals (yp f x2.at_).term ≠ 0 then x2.next else x2.other,{ σ with time:=σ.time+(yp f x2.at_).cost },rd):=by unfold xt;rw[ztx tO,ztx tO,ztx k4,ztx (fun h=>k5 h.1),ztx k5]
  rw[hp];have dK:rdB f x2=true:=by unfold rdB;simp[k3]
  refine Vs 1 O (Vw [900,904,1000,2000,5,6] [11] O (Vb [0,1,2,3,4,5,6,7,8,9,10] 0 tK O O O tO (Vl 11 O tK O (VDx.done tK (Vs 6 O (zrs call92 O (fun w hI=>dh dK tO _ ro w hI.k0 (hI.at 900 O).cells (hI.at 901 O)) (Vs 3 O (zp4 O (fun z=>?_) (fun z=>?_)))))))))
  .
   rw[ztx (ztK z)];refine Vs 11 O iS
  rw[zty z];refine Vs 12 O iS
 refine Vs 6 O (zp4 O (fun k2=>?_) (fun k2=>?_))
 .
  obtain⟨h1,h2,h3⟩:=dJ tO;have dl:=(vd.step _ (zto h2)).1.cost;obtain rfl:st=yp f x2.at_:=dO.trans h3;have hp:xt f (yk f r) x2 (yp f x2.at_) σ rd=(x2.next,xL f (yk f r) (yp f x2.at_) σ,rd):=by unfold xt;rw[ztx tO,zty k2]
  rw[hp];refine Vs 1 O (Vw [900,904,1000,2000,5,6] [11] O (Vb [0,1,2,3,4,5,6,7,8,9,10] 0 tK O O O tO (Vl 11 O tK O (VDx.done tK (Vs 5 O (zsf [900,901,902,903] (Hn:=fun y:List Int × Value=>[(900,.own b [.pointer (some ⟨gb,0,none⟩),ofv,nodv,vv,hv,.slice (some ⟨br,0,none⟩) ro.length cr,y.2,.int .i64 (xL f (yk f r) (yp f x2.at_) σ).time] 107),(901,.row 3 1 vv y.1.length (y.1.map zb)),(902,.row 3 1 (.slice (some ⟨br,0,none⟩) ro.length cr) ro.length (ro.map zb)),(903,.row 3 1 y.2 (xL f (yk f r) (yp f x2.at_) σ).outs.length ((xL f (yk f r) (yp f x2.at_) σ).outs.map zb))]) [(0,some (900,0)),(5,some (5,0)),(6,some (6,0)),(7,some (900,0)),(8,some (900,0)),(9,some (900,0)),(10,some (904,0)),(11,some (904,0)),(12,some (904,3)),(15,some (1000,0)),(17,some (900,0)),(18,some (900,0)),(19,some (900,0)),(20,some (904,0)),(21,some (904,0)),(22,some (904,4)),(25,some (2000,0)),(27,some (5,0)),(105,some (900,0)),(106,some (900,0)),(107,some (900,6)),(108,some (900,7)),(110,some (6,1)),(113,some (900,0)),(114,some (900,6)),(115,some (900,7)),(116,some (900,0))] call93 O j9 j1 (fun w hI=>xd O O (zof (znh f s vd hR (yk f r) er n x2 hx k2 σ hV tO vl ro ei dm b gb ofv nodv vv hv _ ov D Dh w (hI.held O O O) (hS.keep hI.k0 fun q hq _ h=>da q h hq) (hG.keep hI.k0 fun q hq _ h=>da q h hq) (hh.keep zc hI.k0 fun q hq _ h=>dc q h hq) (hI.offE 0 O O (fun q h=>dS q (.inl h)) da) (hI.offE 0 O O (fun q h=>dS q (.inr h)) dc) _ _ _ _ _ _ _ _ (dg.keep zc hI.k0 fun q hq _ h=>da q h hq)))) ?_))))));rintro _ ⟨vl',ov'⟩ ⟨rfl,eH,dQ⟩;refine Vs 11 O (zpl tr48 O (fun w hI=>⟨_,rfl,(vl',ro,ov'),⟨rfl,eH,dQ,rfl,db⟩,hI.back 0 O O O rfl⟩))
 have k0:x2.kind=0:=tO;have hp:xt f (yk f r) x2 (yp f x2.at_) σ rd=(x2.next,σ,rd):=by unfold xt;rw[zty k0]
 rw[hp];refine Vs 11 O iS
end Go.Proofs.YtckdhgbepmpgiaaGreat
namespace Go.GL
abbrev MIP (m:Nat) (l:List (Int × Value)):HE:=.res (fun q=>q=m) (fun w=>MapI w m l)
abbrev MEP (m:Nat) (l:List (Int × Value)) (k:Int) (st:Nat):HE:=.res (fun q=>q=m) (fun w=>MapE w m l k st)
theorem MapE.lt {st:Nat} {k:Int} {l:List (Int × Value)} (h:MapE w m l k st):m<w.heap.size:=h.map.lt
theorem MIP.loc {l:List (Int × Value)}:(MIP m l).loc:=fun w w' T h hk hT=>by
 have h:MapI w m l:=h;exact h.keep hk (hT m h.lt O)
theorem MEP.loc {st:Nat} {k:Int} {l:List (Int × Value)}:(MEP m l k st).loc:=fun w w' T h hk hT=>by
 have h:MapE w m l k st:=h;exact h.keep hk (hT m h.lt O)
section
variable {ty:TypeId} {pos:String} {g:Option (Nat × Bool)} {kt:TypeId} {l:List (Int × Value)}
theorem zsP:yM P ⟨dst,.makeMap t none,ty,pos,aft,g⟩ env w (fun u w'=>∃ b,u=.map (some b)/\MapI w' b []/\Ext w w'/\∀ q,q=b->w.heap.size<=q/\q<w'.heap.size):=by
 obtain⟨u,w',h0,b,h1,h2,h3,h4,h5⟩:=M.makeMap (P:=P) (env:=env) (w:=w) (dst:=dst) (ty:=ty) (pos:=pos) (aft:=aft) (g:=g) (t:=t);exact⟨u,w',h0,b,h1,h4,h5,fun q hq=>tO⟩
theorem zsQ {x u:Operand} {k:Int} (h:MapI w m l) (ht:P.underlying t=some (.map kt et)) (hk:P.underlying kt=some (.int .i64)) (hx:ev env x=some (.map (some m))) (hy:ev env y=some (.int .i64 k)) (hu:ev env u=some v) (hl:zii l k v=l') :
  xY P ⟨dst,.insert t x y u,ty,pos,aft,g⟩ env w (fun w'=>MapI w' m l'/\Keep (fun q=>q=m) w w'/\∀ q,q=m->(q=m\/w.heap.size<=q)/\q<w'.heap.size):=by
 subst hl;obtain⟨w',h0,h1,h2,h3⟩:=M.insert (dst:=dst) (ty:=ty) (pos:=pos) (aft:=aft) (g:=g) h ht hk hx hy hu;exact⟨w',h0,h1,h2,fun q hq=>⟨.inl hq,by have:=h1.lt;omega⟩⟩
theorem zsR {x:Operand} {k:Int} (h:MapI w m l) (hv:(zmt l k).getD z=v) (ht:P.underlying t=some (.map kt et)) (hk:P.underlying kt=some (.int .i64)) (hz:∀ w,(zeroValue et).run P w=.ok z w) (hx:ev env x=some (.map (some m))) (hy:ev env y=some (.int .i64 k)) :
  yx P ⟨dst,.lookup t x y false,ty,pos,aft,g⟩ env w v w:=hv ▸ zsv h ht hk hz hx hy
theorem zsS {x:Operand} {k:Int} (h:MapI w m l) (hv:zmt l k=some v) (ht:P.underlying t=some (.map kt et)) (hk:P.underlying kt=some (.int .i64)) (hx:ev env x=some (.map (some m))) (hy:ev env y=some (.int .i64 k)) :
  yM P ⟨dst,.mapEntry t x y,ty,pos,aft,g⟩ env w (fun u w'=>∃ st:Nat,u=.tuple #[v,.int .i64 st]/\MapE w' m l k st/\Keep (fun q=>q=m) w w'/\∀ q,q=m->(q=m\/w.heap.size<=q)/\q<w'.heap.size):=by
 obtain⟨u,w',h0,st,h1,h2,h3,h4⟩:=M.mapEntry (dst:=dst) (ty:=ty) (pos:=pos) (aft:=aft) (g:=g) h hv ht hk hx hy;exact⟨u,w',h0,st,h1,h2,h3,fun q hq=>⟨.inl hq,by have:=h2.lt;omega⟩⟩
theorem zsT {x u:Operand} {k:Int} {st:Nat} (h:MapE w m l k st) (hx:ev env x=some (.map (some m))) (hy:ev env y=some (.int .i64 st)) (hu:ev env u=some v) (hl:zii l k v=l') :
  xY P ⟨dst,.entryStore t x y u,ty,pos,aft,g⟩ env w (fun w'=>MapI w' m l'/\Keep (fun q=>q=m) w w'/\∀ q,q=m->(q=m\/w.heap.size<=q)/\q<w'.heap.size):=by
 subst hl;obtain⟨w',h0,h1,h2,h3⟩:=M.entryStore (dst:=dst) (ty:=ty) (pos:=pos) (aft:=aft) (g:=g) (t:=t) h hx hy hu;exact⟨w',h0,h1,h2,fun q hq=>⟨.inl hq,by have:=h1.lt;omega⟩⟩
end
end Go.GL
namespace Go.Proofs.YtckdhgbepmpgiaaGreat
open Go.GL
def zdY (q:Int->Value):List (Int × Value):=[(1,q 1),(2,q 2),(3,q 3)]
theorem zfl {q:Int->Value} {k:Int} (hk:1<=k/\k<=3):zmt (zdY q) k=some (q k):=by
 rcases iu with rfl | rfl | rfl<;>rfl
theorem zjO {q:Int->Value} {k:Int} {u:Value} (hk:1<=k/\k<=3):zii (zdY q) k u=zdY (fun j=>if j=k then u else q j):=by
 rcases iu with rfl | rfl | rfl<;>rfl
theorem zlJ (f:Fl) (r:Ins) (v1 v2 v3 s1 s2 s3:Value) (D:Nat->Prop) (W:World) (hf:RFl D W f v1 v2 v3) (dI:SlR 1 zv D W s1 r.secret) (dJ:SlR 1 zv D W s2 r.pub) (dK:SlR 1 zv D W s3 r.random) (dt:∀ v ∈ f.vars,0<=v.kind/\v.kind<=3) (dw:f.vars.length<=1000) (hb:∀ k,(yR r k).length<=1000000000) :
  Calls prog 44 #[.agg #[v1,v2,v3],.agg #[s1,s2,s3]] W (Ret fun rr w'=>(∃ u,rr=.tuple #[u,.int .i64 (zh f.vars r)]/\(zh f.vars r=0->SlR 1 zv (fun b=>W.heap.size<=b) w' u (zu f.vars r)))/\Ext W w'):=by
 have dg:=hf.vars;obtain⟨av,cv,rfl⟩:=dg.form;have dL:=dg.max;refine zqR func44 O ntmps44 O (V.inn (Vs 2 O (V.box 2 O O (fun b2=>?_))));refine V.box 3 O O (fun b3=>(Vs 6 O (zsz 901 (E:=fun m=>MIP m []) (u:=fun m=>.map (some m)) O (fun _=>⟨MIP.loc,fun _ h=>h⟩) (fun w hI=>zsP) (fun m901=>?_))));refine Vs 2 O (zsx 901 (e':=MIP m901 [(1,s1)]) O MIP.loc (fun _ h=>h) (fun w hI=>zsQ (hI.at 901 O) tu156 tu100 O O O O) (Vs 2 O (zsx 901 (e':=MIP m901 [(1,s1),(2,s2)]) O MIP.loc (fun _ h=>h) (fun w hI=>zsQ (hI.at 901 O) tu156 tu100 O O O O) (Vs 2 O (zsx 901 (e':=MIP m901 [(1,s1),(2,s2),(3,s3)]) O MIP.loc (fun _ h=>h) (fun w hI=>zsQ (hI.at 901 O) tu156 tu100 O O O O) (Vs 5 O (zrk 902 3 1 O (Vs 19 O (zrM (σ:=Nat × StS × (Int->Value) × Bool × Value) [6,22,23] [] [] O (fun e ⟨i,s,q,o,u⟩=>(7,u)::(8,.bool o)::(24,.int .i64 i)::e) (fun e ⟨i,s,q,o,u⟩=>(901,MIP m901 (zdY q))::(902,.row 3 1 u s.vals.length (s.vals.map zb))::e) (fun⟨i,s,q,o,u⟩=>i<=f.vars.length/\(f.vars.take i).foldl (zo r) (some ⟨[],0,0,0⟩)=some s/\LeftOk D W r s q/\o=((f.vars.take i).zip s.vals).all inB) (fun⟨i,s,q,o,u⟩=>f.vars.length - i) (0,⟨[],0,0,0⟩,fun k=>if k=1 then s1 else if k=2 then s2 else s3,true,.slice none 0 0) j2 j3 j1 j1 j1 ⟨ztC _,rfl,fun k h1 h3=>by rcases iu with rfl | rfl | rfl<;>assumption,rfl⟩ ?_)))))))));rintro⟨i,s,q,o,u⟩ ⟨hi,hS,hL,ho⟩;refine Vs 6 O (zp4 O (fun dx=>?_) (fun dx=>?_))
 .
  refine Vs 6 O (zrI 1000 0 i tO dg O O O (fun x dM dN dO db dh dl dm=>?_));obtain rfl:=dm;refine zrg 1000 tR22 ts142 O dl tO _ rfl O ?_;obtain⟨dy,_⟩:=zaw i s hi hS;have dQ:=dt x dh;refine Vs 1 O (V.alloc 10 tz142 O O (fun b10=>?_));refine Vs 11 O (zrN (σ:=Int × (Int->Value) × StS) [6,7,8,10,22,23,24] [10,902] [10] O (fun e ⟨n,q',s'⟩=>(11,.int .i64 n)::e) (fun e ⟨n,q',s'⟩=>(901,MIP m901 (zdY q'))::e) (fun⟨n,q',s'⟩=>zo r (some s) x=some s'/\s'.vals=s.vals++[n]/\LeftOk D W r s' q') j1 j1 ?_ ?_)
  .
   refine Vs 7 O (zp4 O (fun hk=>?_) (fun hk=>?_))
   .
    have da:1<=x.kind/\x.kind<=3:=tO;obtain⟨rest,hY⟩:∃ rest,rest=(yR r x.kind).drop (jB s x.kind):=Jm;have hq:=hL x.kind da.1 da.2;rw[<- hY]at hq;obtain⟨aq,cq,du⟩:=hq.form;rw[du]at hq;have dz:=zl9 da hY.symm;refine Vs 5 O (zqH O (fun w hI=>zsR (v:=.slice aq rest.length cq) (hI.at 901 O) (by rw[zfl da,du];rfl) tu156 tu100 tz27 O O) (Vs 11 O (zp4 O (fun z=>?_) (fun z=>?_))))
    .
     have hn:(f.vars.take (i+1)).foldl (zo r) (some ⟨[],0,0,0⟩)=none:=by
      rw[ze db,zv8,hS];exact zj8 da (by rw[dz,ztL tO])
     have h1:zh f.vars r=1:=by unfold zh;rw[zc7 hn]
     refine Vs 15 O UI
    refine zrJ 2000 0 0 tO hq O O (fun y dR dS dA dB dr=>?_);have dC:(yR r x.kind)[jB s x.kind]?=some y:=tD;refine Vs 2 O (Vw [1000,10,2000] [9] O (Vd [0,1,2,3,6] 0 tK O O O ?_));refine zrh 4 2000 tR27 ts3 O tK O dr tO _ rfl O (Vd [5,8] 0 tK O O O (zrZ 7 O tK O (fun w=>zpK tR27 ts3 O O tO) (zsK 9 901 0 (E':=fun st=>MEP m901 (zdY q) x.kind st) (r:=fun st=>.tuple #[q x.kind,.int .i64 st]) O tK O O (fun _=>⟨MEP.loc,fun _ h=>h⟩) (fun w hI=>zsS (hI.at 901 O) (zfl da) tu156 tu100 O O) (fun st=>?_))));refine Vd [10] 0 tK O O O (zsy 11 901 0 (e':=MIP m901 (zdY fun j=>if j=x.kind then (.slice (if cq=1 then aq else aq.map (·.add (1*1))) (rest.length - 1) (cq - 1)) else q j)) O tK O O MIP.loc (fun _ h=>h) (fun w hI=>zsT (hI.at 901 O) O O O (zjO da)) (VD.done tK (zpi ⟨y,fun j=>if j=x.kind then (.slice (if cq=1 then aq else aq.map (·.add (1*1))) (rest.length - 1) (cq - 1)) else q j,za2 s x.kind y⟩ j2 j3 ⟨zgP da dC,zav _ _ _,hL.next da hY hq tO⟩ 0 O O)))
   refine Vs 1 O (zpi ⟨x.init,q,⟨s.vals++[x.init],s.a,s.b,s.c⟩⟩ j2 j3 ⟨zf3 tO,rfl,hL⟩ 0 O O)
  rintro⟨n,q',s'⟩ ⟨dD,dE,dF⟩;refine Vs 2 O (zrN (σ:=Bool) [6,7,11,22,23,24] [901,902] [] O (fun e o'=>(8,.bool o')::e) (fun e o'=>e) (fun o'=>o'=(o&&inB (x,n))) j1 j1 ?_ ?_)
  .
   refine Vs 3 O (zqB 51 O (fun b1=>?_) (fun b1=>?_))
   .
    subst b1;refine Vs 6 O (V.sp 57 O (fun b2=>?_) (fun b2=>?_))
    . refine Vs 7 O (zpi (decide (n<=x.high)) j2 j3 (by simp[inB,b2]) 0 O O)
    refine Vs 7 O (zpi (false) j2 j3 (by simp[inB];omega) 0 O O)
   subst b1;refine Vs 13 O (zpi (false) j2 j3 tR 0 O O)
  rintro o' dG;refine Vs 4 O (zrP 65 [(0,_)] tR27 ts3 tz3 tS O O tK (fun b65=>?_));refine zrl 902 65 tu27 Tryz.el3 O tS O O tO tO (fun u902=>(Va 8 O tO (zrL 902 O (e':=.row 3 1 u902 s'.vals.length (s'.vals.map zb)) tD (V.back ⟨i+1,s',q',o',u902⟩ j2 j3 ⟨tO,zaB db hS dD,dF,by rw[dG,ho,dE,zdJ db s.vals dy n]⟩ tD 0 O O))))
 obtain rfl:i=f.vars.length:=tO;rw[zts]at hS ho;have dc:kr f.vars r=some s:=hS;obtain⟨a1,c1,e1⟩:=(hL 1 tS tS).form;obtain⟨a2,c2,e2⟩:=(hL 2 tS tS).form;obtain⟨a3,c3,e3⟩:=(hL 3 tS tS).form;have dH:zu f.vars r=s.vals:=by unfold zu;rw[dc]
 have hm:∀ k,((yR r k).drop (jB s k)).length<=1000000000:=fun k=>tD;have dT:=hm 1;have dU:=hm 2;have dV:=hm 3;refine Vs 9 O (zqH O (fun w hI=>zsR (v:=.slice a1 ((yR r 1).drop (jB s 1)).length c1) (hI.at 901 O) (by rw[<- e1];rfl) tu156 tu100 tz27 O O) (Vs 2 O (zqH O (fun w hI=>zsR (v:=.slice a2 ((yR r 2).drop (jB s 2)).length c2) (hI.at 901 O) (by rw[<- e2];rfl) tu156 tu100 tz27 O O) (Va 3 O tO (zqH O (fun w hI=>zsR (v:=.slice a3 ((yR r 3).drop (jB s 3)).length c3) (hI.at 901 O) (by rw[<- e3];rfl) tu156 tu100 tz27 O O) ?_)))));refine Va 5 O tO (zp4 O (fun z=>?_) (fun z=>?_))
 .
  have h1:zh f.vars r=1:=by
   rcases (show 0<((yR r 1).drop (jB s 1)).length\/0<((yR r 2).drop (jB s 2)).length\/0<((yR r 3).drop (jB s 3)).length by omega) with h | h | h
   . exact zaC dc (k:=1) tS h
   . exact zaC dc (k:=2) tS h
   exact zaC dc (k:=3) tS h
  refine Vs 8 O UI
 have hc:=zf4 dc dt (fun k h1 h3=>by rcases iu with rfl | rfl | rfl<;>omega);rw[<- ho]at hc;refine Vs 6 O (zqH O (fun w hI=>zqi O j6) (Vs 2 O (V.bool O (fun y=>?_) (fun y=>?_))))
 .
  have h3:zh f.vars r=3:=by rw[hc];cases o;(· rfl);cases y
  refine Vs 8 O (zpo tr44 O O (fun w hI=>⟨_,rfl,⟨_,by rw[h3],fun h=>tO⟩,hI.k0⟩))
 have h0:zh f.vars r=0:=by rw[hc];cases o;(· cases y);rfl
 refine Vs 10 O (zpo tr44 O O (fun w hI=>⟨_,rfl,⟨_,tD,fun _=>dH ▸ zqa (R:=zv) (D:=fun b=>W.heap.size<=b) zb (fun _ _=>rfl) (hI.at 902 O) (fun q hq=>hI.own 902 0 O O q hq)⟩,hI.k0⟩))
end Go.Proofs.YtckdhgbepmpgiaaGreat
namespace Go.GL
open Go.RowKit Go.Row
section
variable {ty:TypeId} {pos:String} {gu:Option (Nat × Bool)}
theorem zsU {x:Operand} {g:Nat} {news:List Value} {a0:Addr} {cs:Nat} (hu:P.underlying t=some (.slice e)) (he:(P.info? e).map (fun i=>(i.zero,i.size,i.bytes))=some (some z,1,by'))
  (hx:ev env x=some (.slice (some ⟨g,0,none⟩) m c)) (hy:ev env y=some (.slice (some a0) j cs)) (da:(HE.row e 1 (.slice (some ⟨g,0,none⟩) m c) m xs).holds w) (hl:news.length=j) (dr:j<=m) (db:∀ q u,news[q]?=some u->w.cell? (a0.add q)=some u) (h1:∀ u ∈ news,u.oneCell'=true) (hz:news++xs.drop j=zs) :
  yM P ⟨dst,.call ⟨.builtin .copy,#[x,y],#[t,t]⟩,ty,pos,aft,gu⟩ env w (fun u w'=>u=.int .i64 (j:Int)/\(HE.row e 1 (.slice (some ⟨g,0,none⟩) m c) m zs).holds w'/\Keep (HE.row e 1 (.slice (some ⟨g,0,none⟩) m c) m xs).S w w'/\∀ q,(HE.row e 1 (.slice (some ⟨g,0,none⟩) m c) m zs).S q->((HE.row e 1 (.slice (some ⟨g,0,none⟩) m c) m xs).S q\/w.heap.size<=q)/\q<w'.heap.size):=by
 subst hz;have da:w.ownsRow 0 e 1 (.slice (some ⟨g,0,none⟩) m c) m xs:=da;obtain⟨i,hi,dt,du,dw⟩:=info_parts he;obtain⟨dc,h2⟩:=da;rcases h2 with⟨h2,_⟩ | ⟨g0,cap,cur,hv,dg,hg,hc,dh,dl,hY⟩
 . cases h2
 cases hv;rw[zwy]at dl hY dc;have hr:=run_copy_row (P:=P) w t t ty e g 0 m c a0 j cs cur e news hu tD hg tD db tO h1;have dm:=(ztZ.1 hg).1;refine⟨.int .i64 (j:Int),w.setRow g (cur.toList.take 0++news++cur.toList.drop (0+news.length)).toArray,fun n a ha=>?_,rfl,⟨?_,.inr ⟨g,c,_,rfl,dg,setRow_heap w g cur _ e _ hg,hc,dh,?_,?_⟩⟩,⟨rfl,rfl,rfl,ztM _,tR,fun k _ hk=>setRow_other w g k _ (fun e=>hk (by simp[HE.S,Value.ownBlock,e]))⟩,fun q hq=>⟨.inl hq,?_⟩⟩
 .
  rw[<- hl];simp[execOp,resolve,invoke,builtin,ha.eval hx,ha.eval hy,hr,goInt]
 . grind
 . grind
 .
  rw[zwy,zwf,zvO,zwC,hl];show (news++cur.toList.drop j).take m=_;rw[List.take_append,zwc tO,hl,<- hY,List.drop_take]
 have hq:some g=some q:=hq;cases hq;simpa using dm
theorem zsV {x:Operand} {g:Nat} {vy:Value} (hu:P.underlying t=some (.slice e)) (he:(P.info? e).map (fun i=>(i.zero,i.size,i.bytes))=some (some z,1,by'))
  (hx:ev env x=some (.slice (some ⟨g,0,none⟩) m c)) (hy:ev env y=some vy) (hY:(HE.row e 1 (.slice (some ⟨g,0,none⟩) m c) m xs).holds w) (da:SlR 1 zv D w vy l) (dc:l.length<=m) (hz:l.map (Value.int .i64)++xs.drop l.length=zs) :
  yM P ⟨dst,.call ⟨.builtin .copy,#[x,y],#[t,t]⟩,ty,pos,aft,gu⟩ env w (fun u w'=>u=.int .i64 (l.length:Int)/\(HE.row e 1 (.slice (some ⟨g,0,none⟩) m c) m zs).holds w'/\Keep (HE.row e 1 (.slice (some ⟨g,0,none⟩) m c) m xs).S w w'/\∀ q,(HE.row e 1 (.slice (some ⟨g,0,none⟩) m c) m zs).S q->((HE.row e 1 (.slice (some ⟨g,0,none⟩) m c) m xs).S q\/w.heap.size<=q)/\q<w'.heap.size):=by
 obtain⟨ao,cap,rfl⟩:=da.form;cases l with
 | nil =>
  have hz:xs=zs:=hz;subst hz;obtain⟨i,hi,dg,dh,dl⟩:=info_parts he;have hr:=run_copy_none (P:=P) w t t ty e (some ⟨g,0,none⟩) ao m c 0 cap hu tD tR;refine⟨.int .i64 0,w,fun n a ha=>?_,rfl,hY,Keep.refl _ _,fun q hq=>⟨.inl hq,xp (show w.ownsRow 0 e 1 _ m _ from hY) hq⟩⟩;have dm:(Builtin.copy_ #[t,t] ty #[.slice (some ⟨g,0,none⟩) m c,.slice ao ([]:List Int).length cap]).run P w=.ok (goInt 0) w:=hr;simp[execOp,resolve,invoke,builtin,ha.eval hx,ha.eval hy,hr,goInt]
 | cons v0 l =>
  obtain⟨b,o,cs,rfl,_⟩:=da.at (i:=0) (x:=v0) rfl;refine zsU hu he hx hy hY (ztH _) dc (fun q u hq=>?_) (fun u hu=>?_) hz
  .
   rw[ztE]at hq;obtain⟨v,hv,rfl⟩:=zwI.1 hq;obtain⟨b',o',cs,e1,_,h3,h4⟩:=da.at hv;cases e1;obtain rfl:cs=[.int .i64 v]:=h4;have:=h3 0 _ rfl;by_cases db:q=0
   . subst db;simpa[Addr.add] using this
   simpa[Addr.add,db] using this
  obtain⟨v,_,rfl⟩:=zvI.1 hu;rfl
end
section
variable {n:Fm}
def VT (P:Program) (n:Fm) (Q:Exit->Act->World->Prop) (ks:List Fr) (ops:Array Oper) (Hs:Hp) (B0:zq) (L:List Nat) (fuel:Nat) (listed:Array Bool) (env:Env) (A:Tgs) (H:Hp) (Bs:zq) (i:Nat):Prop :=
 Has Hs H->TgOk A env H->∀ w,VI Bs H w->∀ a,Ok n env a->wpOp P ops (NQ (QK P Q ks)) i (fun a' w'=>(i ∉ L->VI B0 Hs w->VI B0 Hs w')/\kn P .any ops (NQ (QK P Q ks)) (VI B0 Hs) L fuel (listed.setIfInBounds i true) a' w') a w
def VTs (P:Program) (n:Fm) (Q:Exit->Act->World->Prop) (ks:List Fr) (ops:Array Oper) (Hs:Hp) (B0:zq) (L:List Nat) (fuel:Nat) (listed:Array Bool) (env:Env) (A:Tgs) (H:Hp) (Bs:zq):List Nat->Prop
 | []=>True
 | i::r=>VT P n Q ks ops Hs B0 L fuel listed env A H Bs i/\VTs P n Q ks ops Hs B0 L fuel listed env A H Bs r
theorem VTs.all:∀ {l:List Nat},VTs P n Q ks ops Hs B0 L fuel listed env A H Bs l->∀ i ∈ l,VT P n Q ks ops Hs B0 L fuel listed env A H Bs i
 | x::r,h,i,hi=>by
  rcases ztD.1 hi with rfl | hi
  . exact h.1
  exact VTs.all h.2 i hi
theorem zsW (i:Nat) (r:List Nat) (hr:Region.ready .any ops listed=i::r) (h:VTs P n Q ks ops Hs B0 L fuel listed env A H Bs (i::r)):VD P n Q ks ops Hs B0 L (fuel+1) listed env A H Bs:=by
 intro hH hA w hI a ha;exact⟨fun h0=>tD,fun k hk=>h.all k (hr ▸ hk) hH hA w hI a ha⟩
variable {op:Op} {ty:TypeId} {ps:String} {g:Option (Nat × Bool)}
theorem zrB (hi:ops[i]?=some ⟨some d,op,ty,ps,aft,g⟩) (hn:Nat.blt d n=true) (hg:gd ops env g=some true) {R:World->Value->World->Prop}
  (hm:∀ w,VI Bs H w->Does P ⟨some d,op,ty,ps,aft,g⟩ env w (R w)) (h:Has Hs H->TgOk A env H->∀ w,VI Bs H w->∀ v w',R w v w'->VI B0 Hs w'/\WD P n ops (QK P Q ks) (VI B0 Hs) L fuel (listed.setIfInBounds i true) ((d,v)::env) w'):VT P n Q ks ops Hs B0 L fuel listed env A H Bs i:=by
 intro hH hA w hI a ha;have hd:=hm w hI;have h:=h hH hA w hI;unfold wpOp;simp only[hi];rw[zty (qf hg a ha)];refine .inl ?_;unfold Oper.wp;rcases hd with⟨v,w',hY,hR⟩ | ⟨f,args,hm,hc⟩
 .
  rw[hY n a ha,Oper.upon_value];exact iW
 rw[hm n a ha,Oper.upon_enter];refine hc.mono ?_;rintro e w' ⟨v,rfl,hR⟩;exact iW
theorem zrw (i j:Nat) {f:FuncId} {xs:Array Operand} {ts:Array TypeId} {vs:List Value} {Φ:Value->World->World->Prop} (hf:∀ args w,(callFunc f args).run P w=.ok (.enter f args) w) (hi:ops[i]?=some ⟨some d,.call ⟨.value (.func f),xs,ts⟩,ty,ps,aft,g⟩) (hn:(Nat.blt d n,gd ops env g,qM env xs.toList,qd (Hs.map (·.1)))=(true,some true,some vs,true)) (hB:Bs.drop j=B0)
  (hc:∀ w,VI Bs H w->Calls P f vs.toArray w (Ret fun r w'=>Φ r w w'/\Ext w w'))
  (h:∀ r w w',VI Bs H w->Ext w w'->Φ r w w'->(∀ q,HS H q->q<w.heap.size)->VD P n Q ks ops Hs B0 L fuel (listed.setIfInBounds i true) ((d,r)::env) ((d,none)::A) H ((w',HS H)::Bs)):VT P n Q ks ops Hs B0 L fuel listed env A H Bs i:=by
 simp only[Prod.mk.injEq]at hn;subst hB;refine zrB hi hn.1 hn.2.1 (fun w hI=>.inr ⟨f,_,F.call hf (yr hn.2.2.1),hc w hI⟩) fun hH hA w hI=>?_;rintro r w' ⟨hP,hk⟩;exact JG
theorem zpY (i k j:Nat) {x:Operand} {kl kc:IntKind} (hu:P.underlying t=some (.slice e)) (he:(P.info? e).map (fun i=>(i.zero,i.size,i.bytes))=some (some z,kk,by'))
  (hi:ops[i]?=some ⟨some d,.makeSlice t x y,ty,ps,aft,g⟩) (hn:(Nat.blt d n,gd ops env g,(hget H k).isNone,ev env x,ev env y,qd (Hs.map (·.1)))=(true,some true,true,some (.int kl (m:Int)),some (.int kc (m:Int)),true)) (hB:Bs.drop j=B0)
  (hb:by'*m<=281474976710656) (hm:m<=9223372036854775807) (hz:madeCells z.cells (m*kk)=zs.toArray) (hl:zs.length=m*kk)
  (h:∀ b,VD P n Q ks ops Hs B0 L fuel (listed.setIfInBounds i true) ((d,.slice (some ⟨b,0,none⟩) m m)::env) ((d,none)::A) ((k,.row e kk (.slice (some ⟨b,0,none⟩) m m) m zs)::H) Bs):VT P n Q ks ops Hs B0 L fuel listed env A H Bs i:=by
 simp only[Prod.mk.injEq,zwF]at hn;subst hB;obtain⟨h1,h2,h3,h4,h5,h6⟩:=hn;refine zrB hi h1 h2 (fun w hI=>.inl (zpV hu he h4 h5 hb hm hz)) fun hH hA w hI=>?_;rintro _ w1 ⟨b,rfl,hN⟩;have hY:=hI.row k hm hl hN;have da:Has Hs ((k,.row e kk (.slice (some ⟨b,0,none⟩) m m) m zs)::H):=hH.new h3;exact⟨(hY.drop j).pick da h6,h b da Ju w1 hY⟩
end
end Go.GL
