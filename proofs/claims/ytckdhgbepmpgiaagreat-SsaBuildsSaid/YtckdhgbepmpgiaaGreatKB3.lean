/-
  Contracts and the mathematics that the proof needs. Nothing here is a claim.
-/
import Derived.Test.YtckdhgbepmpgiaaGreatKB2
theorem iF {p:Prop}(h:p:=by exact fun _=>⟨trivial,fun _ h=>h⟩):p:=h
theorem iG {p:Prop}(h:p:=by exact zr9 0 tr112 O O tD):p:=h
theorem iK {p:Prop}(h:p:=by simp only[*]<;>rfl):p:=h
theorem ik {p:Prop}(h:p:=by exact zr9 0 tr163 O O tD):p:=h
theorem i8 {p:Prop}(h:p:=by exact fun w hI=>zV _ w):p:=h
theorem JB {p:Prop}(h:p:=by exact ⟨zt6 _,fun j h=>absurd h (zvV _)⟩):p:=h
theorem JD {p:Prop}(h:p:=by unfold zm2;simp only[*]<;>rfl):p:=h
theorem JG {p:Prop}(h:p:=by exact ⟨zt6 _,rfl,Keep.refl _ _⟩):p:=h
theorem JN {p:Prop}(h:p:=by exact zr9 0 tr200 O O (by unfold utB;simp[*])):p:=h
theorem JO {p:Prop}(h:p:=by exact ⟨tO,hC (g4 tO)⟩):p:=h
theorem Jd {p:Prop}(h:p:=by simp[plainB, *]):p:=h
theorem Jo {p:Prop}(h:p:=by exact Tr1 hI.k0 hC):p:=h
theorem Ju {p:Prop}(h:p:=by exact fun q h=>by have:=(hI.inS 0 3 O O (q:=b3) O).1.elim False.elim id;have:=dl q h;omega):p:=h
theorem Jy {p:Prop}(h:p:=by exact zr9 0 tr29 O O tD):p:=h
theorem Jz {p:Prop}(h:p:=by exact zr9 0 tr72 O O tD):p:=h
theorem J3 {p:Prop}(h:p:=by exact ⟨_,rfl,⟨_,rfl,tD⟩,da⟩):p:=h
theorem J6 {p:Prop}(h:p:=by exact zr9 0 tr64 O O (by rw[hY,du,hC,zY,zt1 dh,zt2 (show xa x=false by grind)];rfl)):p:=h
theorem UG {p:Prop}(h:p:=by unfold qM;simp only[*]<;>rfl):p:=h
theorem UP {p:Prop}(h:p:=by exact zr9 0 tr121 O O tD):p:=h
theorem UY {p:Prop}(h:p:=by exact zr9 0 tr72 O O (by rw[yO,zt2 s0])):p:=h
theorem Uj {p:Prop}(h:p:=by exact Sub.cons iK j2):p:=h
theorem Uv {p:Prop}(h:p:=by exact zrk 900 O (e':=.own m [.int .i64 (z+1),.bool ((d || yI dep (l.take i)) || decide (12<dep))] 189) tD (zoS () j2 j3 trivial 0 O O)):p:=h
theorem Ux {p:Prop}(h:p:=by exact zqh O (fun w hI=>zpS O j6) (Vs 1 O (zoS () (Sub.cons (by rw[tt,Bool.false_and];rfl) j2) j3 trivial 0 O O))):p:=h
theorem Uy {p:Prop}(h:p:=by exact zrk 900 O (e':=.own m [.int .i64 (n+1),.bool (d || decide (12<dep))] 189) tD (zoS () j2 j3 trivial 0 O O)):p:=h
theorem Uz {p:Prop}(h:p:=by exact zqh O (fun w hI=>zpS O j6) (Vs 1 O (zoS () (Sub.cons (by rw[tt,ztK,<- dV];rfl) j2) j3 trivial 0 O O))):p:=h
theorem U6 {p:Prop}(h:p:=by exact fun w hI=>za3 f x _ v1 v2 v3 _ _ _ w (stable_fl hI.k0) (RSt.put Jo iV iR i6)):p:=h
theorem U8 {p:Prop}(h:p:=by exact fun w hI=>zaK f x _ v1 v2 v3 _ _ _ w (hf hI.k0) (RSt.put iR y7 ip i6)):p:=h
theorem U9 {p:Prop}(h:p:=by exact zr2 tc131 O i8 (Vs 6 O (zr9 0 tr133 O O (by simp[kD,xY,k12_,k13_])))):p:=h
theorem YA {p:Prop}(h:p:=by exact zr2 tc131 O i8 (Vs 6 O (zr9 0 tr133 O O (by simp[kD,xY,k13_,k14_])))):p:=h
open Go.Proofs.Tryz
variable {α β:Type} {k K a c b:Int} {vs:List Go.GL.Vr} {i nh fuel d m:Nat} {f:Nat->Int} {p:α->Bool} {s:Go.GL.St} {w w':Go.World} {hx H:Go.GL.Hp} {Bs:Go.GL.zn} {hn:Nat->Go.GL.Hp} {P:Go.Program} {env:Go.GL.Env} {ops:Array Go.Oper} {listed:Array Bool} {aft:Array Go.Edge} {cs:List Go.Value} {e t' t et:Go.TypeId} {z v:Go.Value} {val:Nat->Go.Value} {dst:Option Go.Tmp} {g:Option (Nat × Bool)} {x y u:Go.Operand} {l:List (Int × Go.Value)} {vals:List Int} {inp:Bool} {r:Go.GL.Ins}
namespace Go.Proofs.YtckdhgbepmpgiaaGreat
open Go.GL
def yy (k:Int):List Vr->Int->Option Int
 | [],n=>some n
 | v::r,n=>if v.kind=k then (if 4096<n*(v.high - v.low+1) then none else yy k r (n*(v.high - v.low+1))) else yy k r n
def zm (k:Int) (vs:List Vr):Option Int:=yy k vs 1
theorem yh (k:Int):∀ (a b:List Vr) (n:Int),yy k (a++b) n=(yy k a n).bind (yy k b)
 | [],b,n=>rfl
 | v::r,b,n=>by
  simp only[zu3,yy];split
  .
   split
   . rfl
   exact yh k r b _
  exact yh k r b _
theorem xl (k:Int):∀ (a:List Vr) (n m:Int),(∀ v ∈ a,xz (v.low,v.high))->1<=n->n<=4096->yy k a n=some m->1<=m/\m<=4096
 | [],n,m,_,h1,h2,h=>by simp[yy]at h;omega
 | v::r,n,m,hg,h1,h2,h=>by
  have hv:=hg v (zsV ..);have hr:=fun x hx=>hg x (zsU _ hx);unfold xz at hv;simp only[yy]at h;split at h
  .
   split at h
   . cases h
   rename_i h3;refine xl k r _ m hr ?_ tO h;have:(1:Int)*1<=n*(v.high - v.low+1):=ztR h1 tO tO tO;omega
  exact xl k r n m hr h1 h2 h
theorem zfq {n s:Int} (h1:1<=n) (h2:n<=4096) (h3:1<=s) (h4:s<=2097153):1<=n*s/\n*s<=4096*2097153:=by
 have a:(1:Int)*1<=n*s:=ztR h1 h3 tO tO;have b:n*s<=4096*2097153:=ztR h2 h4 tO tO;omega
theorem jf (vs:List Vr) (k:Int) (vv:Value) (D:Nat->Prop) (w:World) (hg:∀ v ∈ vs,xz (v.low,v.high)) (hY:SlR 5 RVr D w vv vs):Calls prog 109 #[vv,.int .i64 k] w (Ret fun r w'=>r=.int .i64 ((zm k vs).getD 4097)/\Ext w w'):=by
 have dB:=hY.max;obtain⟨av,nv,rfl⟩:=hY.form;refine zqr func109 O ntmps109 O (Gs 17 O (G.loop (σ:=Nat × Int) (fun⟨i,n⟩=>[(0,.slice av vs.length nv),(1,.int .i64 k),(5,.int .i64 n),(6,.int .i64 i)]) (fun⟨i,n⟩=>fun w'=>i<=vs.length/\yy k (vs.take i) 1=some n/\Ext w w') (fun⟨i,n⟩=>vs.length - i) (0,1) j2 JG ?_));rintro⟨i,n⟩ w1 ⟨hi,hs,da⟩;replace hY:=Tr1 da hY;have hn:=xl k (vs.take i) 1 n (fun v hv=>hg v (zv8 hv)) tO tO hs;refine Gs 9 O (zoD O (fun du=>?_) (fun du=>?_))
 .
  obtain⟨x,dc,dl⟩:=gE_ vs (i) tO;obtain⟨dw,dC,dD,db,_,hC,dg⟩:=hY.at dc;have dx:=RVr.one dg;obtain rfl:=dg;have dm:dw<_:=zsT _ _ (hC 0 _ rfl);have dr:=hg x dl;unfold xz at dr;dsimp only at dr;have hp:=zfq (n:=n) (s:=x.high - x.low+1) hn.1 hn.2 tO tO
  have dt:yy k (vs.take (i+1)) 1=if x.kind=k then (if 4096<n*(x.high - x.low+1) then none else some (n*(x.high - x.low+1))) else some n:=by
   rw[ze dc,yh,hs];simp[yy]
  have dy:yy k (vs.take (i+1)) 1=none->zm k vs=none:=by
   intro h;unfold zm;rw[<- zvz (i+1) vs,yh,h];rfl
  refine Gs 9 O (zqg O O (zph tR22 ts142 O O db tO) (Gs 1 O (zqk O tg100 (hC 1 _ O) (Gs 4 O (zoD O (fun hk=>?_) (fun hk=>?_))))))
  . refine Ga 9 O tO (G.back (i+1,n) j2 ⟨tO,tD,da⟩ tD)
  have dz:x.kind=k:=zt0.1 hk;rw[zt2 dz]at dt;refine Gs 3 O (Qt tK (Gs 3 O (zqj O O (fun w1 dh=>zph tR22 ts142 O O db tO) (Gs 1 O (zql O tg3 (fun w1 dh=>((dh.cells hC (fun h=>h)) 3 _ O)) (Gs 2 O (zqj O O (fun w1 dh=>zph tR22 ts142 O O db tO) (Gs 1 O (zql O tg3 (fun w1 dh=>((dh.cells hC (fun h=>h)) 2 _ O)) (Ga 4 O tO (zqn (fun wz1 dA=>?_))))))))))));obtain⟨hY,da,hC⟩:=Tr3 dA hY da hC;refine Gs 7 O (zoD O (fun hb=>?_) (fun hb=>?_))
  .
   rw[zt2 hb]at dt;refine Gs 11 O (zoU results109 O ⟨_,rfl,tD,da⟩)
  refine Ga 8 O tO (G.back (i+1,n*(x.high - x.low+1)) j2 ⟨tO,tD,da⟩ tD)
 have:i=vs.length:=tO;subst this;rw[zsW]at hs;refine Gs 12 O (zoU results109 O ⟨_,rfl,by rw[zm,hs];rfl,da⟩)
theorem zh5 (v:Vr) (w:World) (hg:xz (v.low,v.high)):Calls prog 214 #[.agg #[.string v.name,.int .i64 v.kind,.int .i64 v.low,.int .i64 v.high,.int .i64 v.init]] w (Ret fun r w'=>r=.int .i64 (v.high - v.low+1)/\Ext w w'):=by
 unfold xz at hg;dsimp only at hg;have hE:=Keep.refl (fun _=>False) w;refine zqq func214 O ntmps214 O (Gs 2 O (G.mem O O (M.box O O) ?_));rintro _ dg ⟨b,rfl,hY,dc,hC,da⟩;have db:_<=b:=zsX hE.size (zvO hY.symm);replace hE:=Tr1 da hE;refine Gs 6 O (zqk O tg3 (hC.cells 3 _ O) (Gs 1 O (zqk O tg3 (hC.cells 2 _ O) (Ga 6 O tO (zoU results214 O ⟨_,rfl,rfl,hE⟩)))))
def zgc (v:Vr):List Value:=[.string v.name,.int .i64 v.kind,.int .i64 v.low,.int .i64 v.high,.int .i64 v.init]
theorem zgd (v:Vr):(zgc v).length=5:=rfl
theorem zge (v:Vr):∀ u ∈ zgc v,u.oneCell'=true:=by simp[zgc,Value.oneCell']
def zq (k:Int) (vs:List Vr):List Vr:=vs.filter fun v=>decide (v.kind=k)
theorem zbN {x:Vr} (h:vs[i]?=some x):zq k (vs.take (i+1))=zq k (vs.take i)++(if x.kind=k then [x] else []):=by
 unfold zq;rw[ze h,zuk]
 grind
theorem jU (k:Int) (vs:List Vr):(zq k vs).length<=vs.length:=zuP _ _
theorem qe (k:Int):∀ (vs:List Vr) (n:Int),yy k (zq k vs) n=yy k vs n
 | [],n=>rfl
 | v::r,n=>by
  unfold zq;by_cases e:v.kind=k
  .
   rw[zum tD];simp only[yy,e,if_true];split
   . rfl
   exact qe k r _
  rw[zul tD];simp only[yy,e,if_false];exact qe k r n
theorem zig (vs:List Vr) (k:Int) (vv:Value) (D:Nat->Prop) (w:World) (hk:0<=k/\k<=3) (hg:∀ v ∈ vs,xz (v.low,v.high)) (db:SlR 5 RVr D w vv vs) (dW:vs.length<=1000000):Calls prog 196 #[vv,.int .i64 k] w (Ret fun r w'=>(∃ vl,r=.tuple #[vl,.int .i64 ((zm k vs).getD 0),.int .i64 (if (zm k vs).isSome then 0 else 4)]/\((zm k vs).isSome=true->SlR 5 RVr (fun b=>w.heap.size<=b) w' vl (zq k vs))/\((zm k vs).isSome=false->vl=.slice none 0 0))/\Ext w w'):=by
 obtain⟨av,nv,rfl⟩:=db.form;have hE:=Keep.refl (fun _=>False) w;refine zqr func196 O ntmps196 O (Gs 13 O (zoP (σ:=Unit) (fun u=>[(0,.slice av vs.length nv),(1,.int .i64 k)]) (fun u=>fun w'=>w'=w) ?_ ?_))
 .
  refine Gs 8 O (zoD O (fun h0=>?_) (fun h0=>?_))
  . refine Gs 5 O (zoR () j2 rfl)
  refine Gs 6 O (zoD O (fun h1=>?_) (fun h1=>?_))
  . refine Gs 5 O (zoR () j2 rfl)
  refine Gs 6 O (zoD O (fun h2=>?_) (fun h2=>?_))
  . refine Gs 5 O (zoR () j2 rfl)
  refine Gs 5 O (zoD O (fun h3=>?_) (fun h3=>?_))
  . refine Gs 2 O (zoR () j2 rfl)
  omega
 rintro u w1 dX;subst dX;refine Gs 14 O (zoP (σ:=Value) (fun vl=>[(0,.slice av vs.length nv),(1,.int .i64 k),(7,vl)]) (fun vl=>fun w'=>w'.ownsRow 0 142 5 vl (zq k vs).length ((zq k vs).flatMap zgc)/\(∀ q,vl.ownBlock=some q->w1.heap.size<=q)/\Ext w1 w') ?_ ?_)
 .
  refine Gs 1 O (G.loop (σ:=Nat × Value) (fun⟨i,vl⟩=>[(0,.slice av vs.length nv),(1,.int .i64 k),(7,vl),(19,.slice av vs.length nv),(20,.int .i64 vs.length),(21,.int .i64 i)]) (fun⟨i,vl⟩=>fun w'=>i<=vs.length/\w'.ownsRow 0 142 5 vl (zq k (vs.take i)).length ((zq k (vs.take i)).flatMap zgc)/\(∀ q,vl.ownBlock=some q->w1.heap.size<=q)/\Ext w1 w') (fun⟨i,vl⟩=>vs.length - i) (0,.slice none 0 0) j2 ⟨zt6 _,qF _ _ _,fun q hq=>by simp[Value.ownBlock]at hq,Keep.refl _ _⟩ ?_);rintro⟨i,vl⟩ w2 ⟨hi,da,dF,dm⟩;obtain⟨hE,db⟩:=Tr2 dm hE db;refine Gs 6 O (zoD O (fun dG=>?_) (fun dG=>?_))
  .
   obtain⟨x,dg,dr⟩:=gE_ vs (i) tO;obtain⟨dH,dY,dZ,du,_,hY,dh⟩:=db.at dg;have dw:=RVr.one dh;obtain rfl:=dh;have dz:dH<_:=zsT _ _ (hY 0 _ rfl);have dA:=hg x dr;unfold xz at dA;dsimp only at dA;have dM:=zbN (k:=k) dg;have dN:=jU k (vs.take i);rw[ztl]at dN;refine Gs 6 O (zqg O O (zph tR22 ts142 O O du tO) (zqm O tg142 ts142 hY O (G.mem O O (M.alloc (cs:=_) tz142 O) ?_)));rintro _ wa1 ⟨c,rfl,dx,dI,hC,dc⟩;refine zpt O (zpu ts142 O O O O dw hC tR) ?_;rintro d5 ⟨_,hC,dl⟩;replace dc:=dc.trans dl (fun q hq h=>tO);have dB:_<=c:=zsX hE.size (zvO dx.symm);obtain⟨hE,db,dm,da,hY⟩:=Tr5 dc hE db dm da hY;refine Gs 6 O (zqk O tg100 (hC.cells 1 _ O) (Gs 4 O (zoD O (fun dJ=>?_) (fun dJ=>?_))))
   .
    rw[zt1 dJ,zu1]at dM;refine Ga 8 O tO (G.back (i+1,vl) j2 ⟨tO,tD,dF,dm⟩ tD)
   have dK:x.kind=k:=zt0.1 dJ;rw[zt2 dK]at dM;refine Gs 6 O (zqk O tg3 (hC.cells 2 _ O) (Gs 1 O (zqk O tg3 (hC.cells 3 _ O) (Gs 2 O (G.sp 34 O (fun b0=>?_) (fun b0=>?_))))))
   . omega
   refine Gs 1 O (zqk O tg3 (hC.cells 2 _ O) (Gs 3 O (G.sp 39 O (fun b1=>?_) (fun b1=>?_))))
   . omega
   refine Gs 1 O (zqk O tg3 (hC.cells 3 _ O) (Gs 4 O (zoD O (fun b2=>?_) (fun b2=>?_))))
   . omega
   refine Gs 4 O (zqm O tg142 ts142 hC.cells O (G.mem O O (M.buildSlice (cs:=zgc x) [(0,_)] tR22 ts142 tz142 tS O tK) ?_));rintro _ w5 ⟨b5,rfl,dO,dQ,dC,dD⟩;obtain⟨hE,db,dm,da,hY,hC⟩:=Tr6 dD hE db dm da hY hC;refine G.mem O O (M.append underlying22 Tryz.el142 O tS O O da O (Cells.add dC.cells) (zge _) tO tO) ?_;rintro vl' w6 ⟨dR,d6,d7,_⟩;have d8:=dm.size;refine Ga 8 O tO (G.back (i+1,vl') j2 ⟨tO,?_,?_,dm.trans d7 (fun q hq h=>tD)⟩ tD)
   . grind
   grind
  have:i=vs.length:=tO;subst this;rw[zsW]at da;refine Gs 4 O (zoR (vl) j2 ⟨da,dF,dm⟩)
 rintro vl w2 ⟨da,dF,hX⟩;obtain⟨hE,db⟩:=Tr2 hX hE db;have dt:SlR 5 RVr (fun b=>w1.heap.size<=b) w2 vl (zq k vs):=zpL tO zgc zgd J4 da dF;obtain⟨al,nl,rfl⟩:=dt.form;have dN:=jU k vs;have dS:∀ v ∈ zq k vs,xz (v.low,v.high):=fun v hv=>hg v (zv2.1 hv).1;have dT:yy k (zq k vs) 1=zm k vs:=qe k vs 1;have dL:∀ v ∈ zq k vs,v.kind=k:=fun v hv=>by simpa using (zv2.1 hv).2
 refine Gs 15 O (G.loop (σ:=Nat × Int) (fun⟨i,n⟩=>[(7,.slice al (zq k vs).length nl),(10,.int .i64 n),(49,.slice al (zq k vs).length nl),(50,.int .i64 (zq k vs).length),(51,.int .i64 i)]) (fun⟨i,n⟩=>fun w'=>i<=(zq k vs).length/\yy k ((zq k vs).take i) 1=some n/\Ext w2 w') (fun⟨i,n⟩=>(zq k vs).length - i) (0,1) j2 JG ?_);rintro⟨i,n⟩ w3 ⟨hi,hs,dy⟩;obtain⟨hE,db,dt⟩:=Tr3 dy hE db dt;have hn:=xl k ((zq k vs).take i) 1 n (fun v hv=>dS v (zv8 hv)) tO tO hs;refine Gs 6 O (zoD O (fun dG=>?_) (fun dG=>?_))
 .
  obtain⟨x,dg,dr⟩:=gE_ (zq k vs) (i) tO;obtain⟨dH,dY,dZ,du,_,hY,dh⟩:=dt.at dg;have dw:=RVr.one dh;obtain rfl:=dh;have dz:dH<_:=zsT _ _ (hY 0 _ rfl);have dA:=dS x dr;have dE:=dA;unfold xz at dE;dsimp only at dE;have hp:=zfq (n:=n) (s:=x.high - x.low+1) hn.1 hn.2 tO tO
  have dU:yy k ((zq k vs).take (i+1)) 1=if 4096<n*(x.high - x.low+1) then none else some (n*(x.high - x.low+1)):=by
   rw[ze dg,yh,hs];simp[yy,dL x dr]
  refine Gs 6 O (zqg O O (zph tR22 ts142 O O du tO) (zqm O tg142 ts142 hY O (G.mem O O (M.alloc (cs:=_) tz142 O) ?_)));rintro _ wa2 ⟨c,rfl,dx,dI,hC,dc⟩;refine zpt O (zpu ts142 O O O O dw hC tR) ?_;rintro d5 ⟨_,hC,dl⟩;replace dc:=dc.trans dl (fun q hq h=>tO);have dB:_<=c:=zsX hE.size (zvO dx.symm);obtain⟨hE,db,dt,dy,hY⟩:=Tr5 dc hE db dt dy hY;refine Gs 5 O (zqm O tg142 ts142 hC.cells O (G.call O call214 (zh5 x _ dA) ?_));rintro _ wz3 ⟨rfl,d9⟩;obtain⟨hE,db,dt,dy,hY,hC⟩:=Tr6 d9 hE db dt dy hY hC;refine Ga 10 O tO (zoD O (fun hb=>?_) (fun hb=>?_))
  .
   rw[zt2 hb]at dU
   have dV:zm k vs=none:=by
    rw[<- dT,<- zvz (i+1) (zq k vs),yh,dU];rfl
   refine Gs 13 O (zp0 results196 O O O ⟨_,rfl,⟨.slice none 0 0,tD,(fun (h:(zm k vs).isSome=true)=>tD),fun _=>rfl⟩,hE⟩)
  refine Ga 7 O tO (G.back (i+1,n*(x.high - x.low+1)) j2 ⟨tO,tD,dy⟩ tD)
 have:i=(zq k vs).length:=tO;subst this;rw[zsW,dT]at hs;refine Gs 15 O (zp0 results196 O O O ⟨_,rfl,⟨_,tD,fun _=>dt,(fun (h:(zm k vs).isSome=false)=>tD)⟩,hE⟩)
theorem zfr (vs:List Vr) (k:Int) (vv:Value) (D:Nat->Prop) (w:World) (hk:0<=k/\k<=3) (hg:∀ v ∈ vs,xz (v.low,v.high)) (hY:SlR 5 RVr D w vv vs) (hC:vs.length<=1000000):Calls prog 159 #[vv,.int .i64 k] w (Ret fun r w'=>r=.tuple #[.int .i64 ((zm k vs).getD 0),.int .i64 (if (zm k vs).isSome then 0 else 4)]/\Ext w w'):=by
 have hE:=Keep.refl (fun _=>False) w;refine zqr func159 O ntmps159 O (Gs 10 O (G.call O call196 (zig vs k vv D w hk hg hY hC) ?_));rintro _ wz1 ⟨⟨vl,rfl,_,_⟩,da⟩;replace hE:=Tr1 da hE;refine Gs 18 O (zoX results159 O O ⟨_,rfl,rfl,hE⟩)
def yW (f:Nat->Int):Nat->Nat->Int
 | _,0=>0
 | i,n+1=>if f i ≠ 0 then f i else yW f (i+1) n
theorem jg (f:Nat->Int):∀ (k i m:Nat),(∀ j,i<=j->j<i+k->f j=0)->yW f i (k+m)=yW f (i+k) m
 | 0,i,m,_=>tR
 | k+1,i,m,h=>by
  rw[show k+1+m=(k+m)+1 by omega,yW,zt1 tD,jg f k (i+1) m (fun j h1 h2=>h j tO tO)]
  grind
theorem jh {n:Nat} (h:∀ j,j<i->f j=0) (hi:i<n) (hb:f i ≠ 0):yW f 0 n=f i:=by
 obtain⟨m,rfl⟩:∃ m,n=i+(m+1):=⟨n - i - 1,tO⟩;rw[jg f i 0 (m+1) (fun j _ h2=>h j tO),zvY,yW,zt2 hb]
theorem qf {n:Nat} (h:∀ j,j<n->f j=0):yW f 0 n=0:=by
 have:=jg f n 0 0 (fun j _ h2=>h j tO);simpa[yW] using this
theorem qA {f:Nat->Int}:∀ (n i:Nat),yW f i n=0->∀ j,i<=j->j<i+n->f j=0
 | 0,i,_,j,h1,h2=>tO
 | n+1,i,h,j,h1,h2=>by
  rw[yW]at h;split at h
  . omega
  rename_i h3;by_cases e:j=i
  . grind
  exact qA n (i+1) h j tO tO
def yc (a b:ByteArray):Bool:=decide (a.toList=b.toList)
def yd (prev:List Vr) (v:Vr):Int :=
 if zcl v.name=false then 7
 else if prev.any (fun u=>yc u.name v.name)=true then 8
 else if ¬ (0<=v.kind/\v.kind<=3) then 1
 else if zb3 v.low v.high=false then 3
 else if v.kind=0/\(v.init<v.low\/v.high<v.init)\/v.kind ≠ 0/\v.init ≠ 0 then 3
 else 0
def za2 (vs:List Vr) (i:Nat):Int:=match vs[i]? with
 | some v=>yd (vs.take i) v
 | none=>0
theorem zdm {v:Vr} (h:vs[i]?=some v):za2 vs i=yd (vs.take i) v:=by simp[za2,h]
def xh (vs:List Vr):Bool:=(zm 1 vs).isNone || (zm 2 vs).isNone || (match zm 3 vs with
 | some n=>decide (256<n)
 | none=>true)
def zp (vs:List Vr):Int:=if yW (za2 vs) 0 vs.length ≠ 0 then yW (za2 vs) 0 vs.length else if xh vs then 4 else 0
theorem zeq {prev:List Vr} {v:Vr} (h:yd prev v=0):xz (v.low,v.high)/\0<=v.kind/\v.kind<=3:=by
 unfold yd at h;split at h
 . cases h
 split at h
 . cases h
 split at h
 . cases h
 split at h
 . cases h
 rename_i h1 h2 h3 h4;have h5:zb3 v.low v.high=true:=tD;unfold zb3 at h5;have:=of_decide_eq_true h5;have h3:=zt0.1 h3;exact⟨⟨this.2.1,this.1,this.2.2⟩,h3.1,h3.2⟩
theorem qB (h:∀ j,j<vs.length->za2 vs j=0):∀ v ∈ vs,xz (v.low,v.high)/\0<=v.kind/\v.kind<=3:=by
 intro v hv;obtain⟨i,hi⟩:=zv5.1 hv;have:=h i (zt5.1 hi).1;rw[zdm hi]at this;exact zeq this
theorem zcD (h1:(zm 1 vs).isNone=false) (h2:(zm 2 vs).isNone=false):xh vs=decide ((256:Int)<(zm 3 vs).getD 4097):=by
 unfold xh;rw[h1,h2];cases zm 3 vs<;>simp
theorem zaJ {l:List α} {k:Nat} {x:α} (hx:l[k]?=some x) (h:(l.take k).any p=false) (hp:p x=false):(l.take (k+1)).any p=false:=by rw[ze hx,ztY,h];simp[hp]
theorem zot {l:List α} {x:α} (hx:x ∈ l) (hp:p x=true):l.any p=true:=ztZ.2 ⟨x,hx,hp⟩
theorem zih (vs:List Vr) (vv:Value) (D:Nat->Prop) (w:World) (hY:SlR 5 RVr D w vv vs) (p:Vr->Bool) (g:FuncId) (cp:Value) (hf:∀ args w,(callFunc g args).run prog w=.ok (.enter g args) w)
  (hc:∀ x ∈ vs,∀ w',Ext w w'->Calls prog g #[.agg (zgc x).toArray,cp] w' (Ret fun r w''=>r=.bool (p x)/\Ext w' w'')) :
  Calls prog 195 #[vv,.func (.func g) #[] #[cp]] w (Ret fun r w'=>(∃ i:Int,r=.int .i64 i/\(0<=i ↔ vs.any p=true))/\Ext w w'):=by
 have dx:=hY.max;obtain⟨av,nv,rfl⟩:=hY.form;refine zqr func195 O ntmps195 O (Gs 14 O (G.loop (σ:=Nat) (fun i=>[(0,.slice av vs.length nv),(1,.func (.func g) #[] #[cp]),(7,.int .i64 vs.length),(8,.int .i64 i)]) (fun i=>fun w'=>i<=vs.length/\(vs.take i).any p=false/\Ext w w') (fun i=>vs.length - i) 0 j2 JG ?_));rintro i w1 ⟨hi,dl,da⟩;replace hY:=Tr1 da hY;refine Gs 6 O (zoD O (fun dr=>?_) (fun dr=>?_))
 .
  obtain⟨x,db,dg⟩:=gE_ vs (i) tO;obtain⟨dt,dy,dz,dh,_,hC,dc⟩:=hY.at db;have du:=RVr.one dc;obtain rfl:=dc;have dm:dt<_:=zsT _ _ (hC 0 _ rfl);refine Gs 15 O (zqg O O (zph tR22 ts142 O O dh tO) (zqm O tg142 ts142 hC O (zpo O hf (hc x dg _ da) ?_)));rintro _ wz1 ⟨rfl,dw⟩;obtain⟨hY,da,hC⟩:=Tr3 dw hY da hC;refine Gs 2 O (G.bool O (fun hp=>?_) (fun hp=>?_))
  . refine Gs 12 O (zoU results195 O J3)
  refine Ga 7 O tO (G.back (i+1) j2 ⟨tO,zaJ db dl hp,da⟩ tO)
 have:i=vs.length:=tO;subst this;rw[zsW]at dl;refine Gs 11 O (zoU results195 O J3)
theorem zer (vs:List Vr) (vv:Value) (D:Nat->Prop) (w:World) (hC:SlR 5 RVr D w vv vs) (p:Vr->Bool) (g:FuncId) (cp:Value) (hf:∀ args w,(callFunc g args).run prog w=.ok (.enter g args) w)
  (hc:∀ x ∈ vs,∀ w',Ext w w'->Calls prog g #[.agg (zgc x).toArray,cp] w' (Ret fun r w''=>r=.bool (p x)/\Ext w' w'')) :
  Calls prog 158 #[vv,.func (.func g) #[] #[cp]] w (Ret fun r w'=>r=.bool (vs.any p)/\Ext w w'):=by
 have hE:=Keep.refl (fun _=>False) w;refine zqr func158 O ntmps158 O (Gs 9 O (G.call O call195 (zih vs vv D w hC p g cp hf hc) ?_));rintro _ wz1 ⟨⟨i,rfl,hi⟩,hY⟩;replace hE:=Tr1 hY hE;refine Gs 5 O (zoU results158 O ⟨_,rfl,tD,hE⟩)
theorem zkn (v x:Vr) (c:Nat) (w:World) (hB:Blk w c (zgc x) 142):Calls prog 156 #[.agg (zgc v).toArray,.pointer (some ⟨c,0,none⟩)] w (Ret fun r w'=>r=.bool (yc v.name x.name)/\Ext w w'):=by
 have hE:=Keep.refl (fun _=>False) w;refine zqr func156 O ntmps156 O (Gs 2 O (G.mem O O (M.box O O) ?_));rintro _ dg ⟨b,rfl,hC,dc,hY,da⟩;have db:_<=b:=zsX hE.size (zvO hC.symm);obtain⟨hE,hB⟩:=Tr2 da hE hB;refine Gs 6 O (zqk O tg9 (hY.cells 0 _ O) (Gs 1 O (zqk O tg9 (hB.cells 0 _ O) (Gs 5 O (zoU results156 O ⟨_,rfl,rfl,hE⟩)))))
def plainB (t:Tm):Bool:=decide (t.op=0)&&decide (t.n=0)&&decide (t.kids.length=0)
theorem kC (t:Tm) (cs:List Value) (D:Nat->Prop) (w:World) (ht:RTm D w t cs):Calls prog 152 #[.agg cs.toArray] w (Ret fun r w'=>r=.bool (plainB t)/\Ext w w'):=by
 obtain⟨v,rfl,hk⟩:=ht.get;obtain⟨ao,cap,rfl⟩:=hk.form;refine zqq func152 O ntmps152 O (V.inn (Vs 2 O (V.box 1 O O (fun b1=>?_))));refine Vs 9 O (zqb 6 O (fun k1_=>?_) (fun k1_=>?_))
 .
  refine Vs 5 O (zqb 11 O (fun k2_=>?_) (fun k2_=>?_))
  . refine Vs 9 O (zr9 0 results152 O O Jd)
  refine Vs 9 O (zr9 0 results152 O O Jd)
 refine Vs 14 O (zr9 0 results152 O O Jd)
theorem zfs (t:Tm) (cs:List Value) (D:Nat->Prop) (w:World) (ht:RTm D w t cs):Calls prog 201 #[.agg cs.toArray] w (Ret fun r w'=>r=.bool (plainB t)/\Ext w w'):=by
 obtain⟨v,rfl,hk⟩:=ht.get;obtain⟨ao,cap,rfl⟩:=hk.form;refine zqq func201 O ntmps201 O (V.inn (Vs 2 O (V.box 1 O O (fun b1=>?_))));refine Vs 9 O (zqb 6 O (fun k1_=>?_) (fun k1_=>?_))
 .
  refine Vs 5 O (zqb 11 O (fun k2_=>?_) (fun k2_=>?_))
  . refine Vs 9 O (zr9 0 results201 O O Jd)
  refine Vs 9 O (zr9 0 results201 O O Jd)
 refine Vs 14 O (zr9 0 results201 O O Jd)
@[irreducible] def uvB (a:Int):Bool:=decide (a=0\/a=5)
@[irreducible] def unB (a:Int):Bool:=decide (a=4\/a=5)
@[irreducible] def utB (a:Int):Bool:=decide (a=0\/a=1\/a=3\/a=4)
theorem zcE (a:Int) (w:World):Calls prog 198 #[.int .i64 a] w (Ret fun r w'=>r=.bool (uvB a)/\Ext w w'):=by
 refine zqq func198 O ntmps198 O (V.inn (Vs 10 O (zqb 5 O (fun k1_=>?_) (fun k1_=>?_))))
 . refine Vs 7 O (zr9 0 results198 O O (by unfold uvB;simp[*]))
 refine Vs 7 O (zr9 0 results198 O O (by unfold uvB;simp[*]))
theorem zko (a:Int) (w:World):Calls prog 199 #[.int .i64 a] w (Ret fun r w'=>r=.bool (unB a)/\Ext w w'):=by
 refine zqq func199 O ntmps199 O (V.inn (Vs 10 O (zqb 5 O (fun k1_=>?_) (fun k1_=>?_))))
 . refine Vs 7 O (zr9 0 results199 O O (by unfold unB;simp[*]))
 refine Vs 7 O (zr9 0 results199 O O (by unfold unB;simp[*]))
theorem zft (a:Int) (w:World):Calls prog 200 #[.int .i64 a] w (Ret fun r w'=>r=.bool (utB a)/\Ext w w'):=by
 refine zqq func200 O ntmps200 O (V.inn (Vs 10 O (zqb 5 O (fun k1_=>?_) (fun k1_=>?_))))
 . refine Vs 15 O JN
 refine Vs 4 O (zqb 9 O (fun k2_=>?_) (fun k2_=>?_))
 . refine Vs 11 O JN
 refine Vs 4 O (zqb 13 O (fun k3_=>?_) (fun k3_=>?_))
 . refine Vs 7 O JN
 refine Vs 7 O JN
def xv:List Int->Bool
 | x::y::r=>decide (x<y)&&xv (y::r)
 | _=>true
theorem xF:∀ l:List Int,xv l=true ↔ ∀ i x y,l[i]?=some x->l[i+1]?=some y->x<y
 | []=>by simp[xv]
 | [a]=>by simp[xv]
 | a::b::r=>by
  simp only[xv,ztA,decide_eq_true_eq,xF (b::r)];constructor
  . grind
  intro h;exact⟨h 0 a b O rfl,fun i x y hx hy=>h (i+1) x y tD tD⟩
theorem zdn (l:List Int) (v:Value) (D:Nat->Prop) (w:World) (hl:SlR 1 zG D w v l):Calls prog 202 #[v] w (Ret fun r w'=>r=.bool (xv l)/\Ext w w'):=by
 have du:=hl.max;obtain⟨al,nl,rfl⟩:=hl.form;refine zqq func202 O ntmps202 O (V.inn (Vs 14 O (zrl (σ:=Nat) [0,5] [] [] O (fun e i=>(6,.int .i64 i)::e) (fun e i=>e) (fun i=>i<=l.length/\(∀ j x y,j+1<i->l[j]?=some x->l[j+1]?=some y->x<y)) (fun i=>l.length - i) 0 j2 j3 j1 j1 j1 ⟨zt6 _,fun j x y h=>absurd h (zvV _)⟩ ?_)));rintro i ⟨hi,da⟩;refine Vs 6 O (zoE O (fun dl=>?_) (fun dl=>?_))
 .
  refine zqd (p:=i=0) (fun i0=>?_) (fun i0=>?_)
  .
   subst i0;refine Vs 11 O (Vq tK (Vs 3 O (V.sp 11 O (fun h0=>?_) (fun h0=>?_))))
   . exact absurd h0 tO
   refine Va 21 O tO (V.back 1 j2 j3 ⟨tO,fun j x y h=>tO⟩ tZ 0 O O)
  .
   obtain⟨k,rfl⟩:∃ k,i=k+1:=⟨i - 1,tO⟩;refine zrj 1000 0 (k+1) tO hl O O (fun y dw dx hC dm db=>(zrj 2000 0 k tO hl O O (fun x dy dz hY dr dc=>?_)));refine Vs 11 O (Vq tK (Vs 3 O (V.sp 11 O (fun h0=>?_) (fun h0=>?_))))
   .
    refine Vs 2 O ?_;refine zqT 1000 tR27 ts3 O db tO _ rfl O (Va 4 O tO (zqT 2000 tR27 ts3 O dc tO (k) tO O (Vs 5 O (zoE O (fun hb=>?_) (fun hb=>?_)))))
    .
     have dA:xv l=false:=by rw[ztB];intro h;have:=(xF l).1 h k x y hY hC;omega
     refine Vs 11 O (zr9 0 results202 O O tD)
    .
     have g:∀ j x y,j+1<k+1+1->l[j]?=some x->l[j+1]?=some y->x<y:=by
      intro j x' y' hj dg dh;by_cases e:j=k
      .
       subst e;rw[hY]at dg;cases dg;rw[hC]at dh;cases dh;omega
      exact da j x' y' tO dg dh
     refine Va 7 O tO (V.back (k+1+1) j2 j3 ⟨tO,g⟩ (by first|omega|(dsimp only;omega)) 0 O O)
   exact absurd tO h0
 have dt:xv l=true:=(xF l).2 (fun j x y hx hy=>da j x y (by have:=(zt5.1 hy).1;omega) hx hy);refine Vs 11 O (zr9 0 results202 O O tD)
def xG (l:List Int):Bool:=decide (1<=l.length)&&decide (l.length<=32)&&decide ((0:Int)<=l[0]?.getD 0)&&xv l
theorem zes (l:List Int) (v:Value) (D:Nat->Prop) (w:World) (hl:SlR 1 zG D w v l):Calls prog 153 #[v] w (Ret fun r w'=>r=.bool (xG l)/\Ext w w'):=by
 have dA:=hl.max;obtain⟨al,nl,rfl⟩:=hl.form;refine zqq func153 O ntmps153 O (V.inn (Vs 12 O (V.sp 7 O (fun h1=>?_) (fun h1=>?_))))
 . refine Vs 20 O (zr9 0 tr153 O O (by unfold xG;rw[zt4 (show ¬ 1<=l.length by omega)];rfl))
 refine Vs 5 O (V.sp 12 O (fun h2=>?_) (fun h2=>?_))
 . refine Vs 15 O (zr9 0 tr153 O O (by unfold xG;rw[zt4 (show ¬ l.length<=32 by omega)];simp))
 refine Vs 1 O (zrj 1000 0 0 tO hl O O (fun x0 dt du hC dl hY=>?_));refine zqQ 1000 tR27 ts3 O hY tO _ rfl O (Vs 5 O (zoE O (fun h3=>?_) (fun h3=>?_)))
 . refine Vs 7 O (zr9 0 tr153 O O (by unfold xG;rw[hC,zt4 (show ¬ (0:Int)<=(some x0).getD 0 by simpa using h3)];simp))
 have hg:xG l=xv l:=by unfold xG;rw[hC,zt3 (show 1<=l.length by omega),zt3 (show l.length<=32 by omega),zt3 (show (0:Int)<=(some x0).getD 0 by simpa using h3)];rfl
 refine Vs 9 O (zrl (σ:=Nat) [0] [] [] O (fun e i=>(3,.int .i64 (i+1:Nat))::e) (fun e i=>e) (fun i=>i+1<=l.length/\(∀ (j:Nat) (x y:Int),j<i->l[j]?=some x->l[j+1]?=some y->x<y)) (fun i=>l.length - i) 0 j2 j3 j1 j1 j1 ⟨tO,fun j x y h=>absurd h (zvV _)⟩ ?_);rintro i ⟨hi,dc⟩;refine Vs 9 O (zoE O (fun dw=>?_) (fun dw=>?_))
 .
  refine zrj 2000 0 (i+1) tO hl O O (fun y dB dC da dx dg=>(zrj 3000 0 i tO hl O O (fun x dD dE db dy dh=>?_)));refine Vs 5 O (Vq tK (Vs 2 O ?_));refine zqT 2000 tR27 ts3 O dg tO _ rfl O (Va 4 O tO (zqT 3000 tR27 ts3 O dh tO (i) tO O (Vs 4 O (zoE O (fun hb=>?_) (fun hb=>?_)))))
  .
   have dF:xv l=false:=by rw[ztB];intro h;have:=(xF l).1 h i x y db da;omega
   refine Vs 11 O (zr9 0 tr153 O O tD)
  have g:∀ (j:Nat) (x y:Int),j<i+1->l[j]?=some x->l[j+1]?=some y->x<y:=by
   intro j x' y' hj dm dr;by_cases e:j=i
   .
    subst e;rw[db]at dm;cases dm;rw[da]at dr;cases dr;omega
   exact dc j x' y' tO dm dr
  refine Va 8 O tO (V.back (i+1) j2 j3 ⟨tO,g⟩ tO 0 O O)
 have dz:xv l=true:=(xF l).2 (fun j x y hx hy=>dc j x y (by have:=(zt5.1 hy).1;omega) hx hy);refine Vs 11 O (zr9 0 tr153 O O tD)
def zbO (s:St):Bool:=decide ((s.thn.length:Int)=0)&&decide ((s.els.length:Int)=0)
def qM (vs:List Vr) (n:Int):Bool:=decide (0<=n)&&decide (n<(vs.length:Int))&&xu vs n
def zH (vs:List Vr) (nh:Nat) (s:St) (last:Bool):Bool :=
 if s.act=0 then zbO s&&qM vs s.var&&decide (s.n=0)&&decide ((s.bounds.length:Int)=0)
 else if s.act=1 then zbO s&&decide (s.var=0)&&decide (s.n=0)&&decide ((s.bounds.length:Int)=0)
 else if s.act=2 then zbO s&&decide (s.var=0)&&decide (s.n=0)&&decide ((s.bounds.length:Int)=0)&&plainB s.term
 else if s.act=3 then decide (s.var=0)&&decide (s.n=0)&&decide ((s.bounds.length:Int)=0)
 else if s.act=4 then decide (s.var=0)&&decide ((s.els.length:Int)=0)&&decide ((s.bounds.length:Int)=0)
 else if s.act=5 then zbO s&&qM vs s.var&&decide (0<=s.n)&&decide (s.n<(nh:Int))&&decide ((s.bounds.length:Int)=0)&&plainB s.term
 else if s.act=6 then zbO s&&last&&decide (s.var=0)&&decide (s.n=0)&&plainB s.term&&xG s.bounds
 else false
theorem zkp (vs:List Vr) (n:Int):(!qM vs n)=(decide (n<0) || decide ((vs.length:Int)<=n) || !xu vs n):=by
 unfold qM
 grind
theorem zh6 (l:List Int):xG l=(decide ((0:Int)<l.length)&&decide ((l.length:Int)<=32)&&decide ((0:Int)<=l[0]?.getD 0)&&xv l):=by
 unfold xG
 grind
theorem zaK (f:Fl) (s:St) (last:Bool) (v1 v2 v3:Value) (cs:List Value) (D D':Nat->Prop) (w:World) (hf:RFl D w f v1 v2 v3) (hs:RSt D' w s cs):Calls prog 112 #[.agg #[v1,v2,v3],.agg cs.toArray,.bool last] w (Ret fun r w'=>r=.bool (zH f.vars f.hatches.length s last)/\Ext w w'):=by
 obtain⟨db,dc,dh⟩:=hf;obtain⟨a1,n1,rfl⟩:=db.form;obtain⟨a2,n2,rfl⟩:=dc.form;obtain⟨u1,u2,u3,u4,rfl,hk,ht,he,hb⟩:=hs.get;obtain⟨a4,n4,rfl⟩:=hk.form;obtain⟨a5,n5,rfl⟩:=ht.form;obtain⟨a6,n6,rfl⟩:=he.form;obtain⟨a7,n7,rfl⟩:=hb.form;unfold zH;refine zqs func112 O ntmps112 O (V.inn (Vs 2 O (V.box 3 O O (fun b3=>?_))));refine V.box 4 O O (fun b4=>(Vs 4 O (zrm (σ:=Unit) [2,3,4] [3,4] [3,4] O (fun e u=>(7,.bool (zbO s))::e) (fun e u=>e) (fun u=>True) j1 j1 ?_ ?_)))
 .
  refine Vs 6 O (zqb 13 O (fun k1_=>?_) (fun k1_=>?_))
  . refine Vs 7 O (zoS () (Sub.cons (by unfold zbO;simp only[*]<;>rfl) j2) j3 trivial 0 O O)
  refine Vs 7 O (zoS () (Sub.cons (by unfold zbO;simp only[*]<;>rfl) j2) j3 trivial 0 O O)
 rintro u _;refine Vs 2 O (zrm (σ:=Unit) [2,3,4,7] [3,4] [3,4] O (fun e u=>(8,.bool (qM f.vars s.var))::e) (fun e u=>e) (fun u=>True) j1 j1 ?_ ?_)
 .
  refine Vs 5 O (zqb 22 O (fun k1_=>?_) (fun k1_=>?_))
  .
   refine Vs 8 O (zqb 30 O (fun k2_=>?_) (fun k2_=>?_))
   .
    refine Vs 4 O ?_;have hv:=And.intro (of_decide_eq_true k1_) (of_decide_eq_true k2_);refine zri 1000 0 s.var.toNat tO db O O O (fun x dl dm dr hC dg hY da=>?_);obtain rfl:=da;refine zqQ 1000 tR22 ts142 O hY tO (s.var.toNat) tO O ?_;have dt:xu f.vars s.var=decide (x.kind=0):=by unfold xu;rw[hC]
    refine Vs 6 O (zoS () (Sub.cons UG j2) j3 trivial 0 O O)
   refine Vs 11 O (zoS () (Sub.cons UG j2) j3 trivial 0 O O)
  refine Vs 19 O (zoS () (Sub.cons UG j2) j3 trivial 0 O O)
 rintro u _;refine Vs 15 O (zoE O (fun a0=>?_) (fun a0=>?_))
 .
  simp only[zt2 a0];refine Vs 4 O (zqb 45 O (fun k1_=>?_) (fun k1_=>?_))
  .
   refine Vs 3 O (zqb 48 O (fun k2_=>?_) (fun k2_=>?_))
   .
    refine Vs 5 O (zqb 53 O (fun k3_=>?_) (fun k3_=>?_))
    . refine Vs 11 O iG
    refine Vs 11 O iG
   refine Vs 16 O iG
  refine Vs 19 O iG
 simp only[zt1 a0];refine Vs 6 O (zoE O (fun a1=>?_) (fun a1=>?_))
 .
  simp only[zt2 a1];refine Vs 4 O (zqb 62 O (fun k1_=>?_) (fun k1_=>?_))
  .
   refine Vs 5 O (zqb 67 O (fun k2_=>?_) (fun k2_=>?_))
   .
    refine Vs 5 O (zqb 72 O (fun k3_=>?_) (fun k3_=>?_))
    . refine Vs 11 O iG
    refine Vs 11 O iG
   refine Vs 16 O iG
  refine Vs 21 O iG
 simp only[zt1 a1];refine Vs 6 O (zoE O (fun a2=>?_) (fun a2=>?_))
 .
  simp only[zt2 a2];refine Vs 4 O (zqb 81 O (fun k1_=>?_) (fun k1_=>?_))
  .
   refine Vs 5 O (zqb 86 O (fun k2_=>?_) (fun k2_=>?_))
   .
    refine Vs 5 O (zqb 91 O (fun k3_=>?_) (fun k3_=>?_))
    .
     refine Vs 6 O (zqb 97 O (fun k4_=>?_) (fun k4_=>?_))
     . refine Vs 2 O (zr2 call152 O (fun w hI=>kC s.term _ D' w JT) (Vs 7 O iG))
     refine Vs 10 O iG
    refine Vs 16 O iG
   refine Vs 21 O iG
  refine Vs 26 O iG
 simp only[zt1 a2];refine Vs 6 O (zoE O (fun a3=>?_) (fun a3=>?_))
 .
  simp only[zt2 a3];refine Vs 6 O (zqb 107 O (fun k1_=>?_) (fun k1_=>?_))
  .
   refine Vs 5 O (zqb 112 O (fun k2_=>?_) (fun k2_=>?_))
   . refine Vs 11 O iG
   refine Vs 11 O iG
  refine Vs 16 O iG
 simp only[zt1 a3];refine Vs 6 O (zoE O (fun a4=>?_) (fun a4=>?_))
 .
  simp only[zt2 a4];refine Vs 6 O (zqb 123 O (fun k1_=>?_) (fun k1_=>?_))
  .
   refine Vs 6 O (zqb 129 O (fun k2_=>?_) (fun k2_=>?_))
   . refine Vs 11 O iG
   refine Vs 11 O iG
  refine Vs 17 O iG
 simp only[zt1 a4];refine Vs 6 O (zoE O (fun a5=>?_) (fun a5=>?_))
 .
  simp only[zt2 a5];refine Vs 4 O (zqb 138 O (fun k1_=>?_) (fun k1_=>?_))
  .
   refine Vs 3 O (zqb 141 O (fun k2_=>?_) (fun k2_=>?_))
   .
    refine Vs 5 O (zqb 146 O (fun k3_=>?_) (fun k3_=>?_))
    .
     refine Vs 8 O (zqb 154 O (fun k4_=>?_) (fun k4_=>?_))
     .
      refine Vs 6 O (zqb 160 O (fun k5_=>?_) (fun k5_=>?_))
      . refine Vs 2 O (zr2 call152 O (fun w hI=>kC s.term _ D' w JT) (Vs 7 O iG))
      refine Vs 10 O iG
     refine Vs 16 O iG
    refine Vs 24 O iG
   refine Vs 29 O iG
  refine Vs 32 O iG
 simp only[zt1 a5];refine Vs 6 O (zoE O (fun a6=>?_) (fun a6=>?_))
 .
  simp only[zt2 a6];refine Vs 4 O (zqb 168 O (fun k1_=>?_) (fun k1_=>?_))
  .
   refine Vs 3 O (zqb 171 O (fun k2_=>?_) (fun k2_=>?_))
   .
    refine Vs 5 O (zqb 176 O (fun k3_=>?_) (fun k3_=>?_))
    .
     refine Vs 5 O (zqb 181 O (fun k4_=>?_) (fun k4_=>?_))
     .
      refine Vs 2 O (zr2 call152 O (fun w hI=>kC s.term _ D' w JT) (Vs 2 O (zqb 186 O (fun k5_=>?_) (fun k5_=>?_))))
      . refine Vs 2 O (zr2 call153 O (fun w hI=>zes s.bounds _ D' w (Tr1 hI.k0 hb)) (Vs 7 O iG))
      refine Vs 10 O iG
     refine Vs 15 O iG
    refine Vs 20 O iG
   refine Vs 25 O iG
  refine Vs 28 O iG
 simp only[zt1 a6];refine Vs 9 O (zr9 0 tr112 O O rfl)
theorem zbP (vs:List Vr) (nh:Nat) (s:St) (last:Bool):zH vs nh s last=(!(decide (s.act<0) || decide (6<s.act))&&!(!uvB s.act&&decide (s.var ≠ 0))&&!(!unB s.act&&decide (s.n ≠ 0))&&!(!utB s.act&&!plainB s.term)
  && !(decide (s.act ≠ 3)&&decide (s.act ≠ 4)&&decide (0<(s.thn.length:Int)))&&!(decide (s.act ≠ 3)&&decide (0<(s.els.length:Int)))&&!(decide (s.act ≠ 6)&&decide (0<(s.bounds.length:Int)))
  && !(uvB s.act&&!qM vs s.var)&&!(decide (s.act=5)&&(decide (s.n<0) || decide ((nh:Int)<=s.n)))
  && (decide (s.act ≠ 6) || (last&&xG s.bounds))):=by
 have c0:∀ n:Nat,decide ((n:Int)=0)=!decide (0<(n:Int)):=tD;have c1:decide (s.var=0)=!decide (s.var ≠ 0):=tD;have c2:decide (s.n=0)=!decide (s.n ≠ 0):=tD;have c3:decide (0<=s.n)=!decide (s.n<0):=tD;have c4:decide (s.n<(nh:Int))=!decide ((nh:Int)<=s.n):=tD;unfold zH zbO uvB unB utB;simp only[c0,c1,c2,c3,c4];generalize decide (0<(s.thn.length:Int))=p1;generalize decide (0<(s.els.length:Int))=p2;generalize decide (0<(s.bounds.length:Int))=p3;generalize decide (s.var ≠ 0)=p4;generalize decide (s.n ≠ 0)=p5;generalize decide (s.n<0)=p6;generalize decide ((nh:Int)<=s.n)=p7;generalize plainB s.term=p8;generalize qM vs s.var=p9;generalize xG s.bounds=p10;rcases (show s.act<0\/s.act=0\/s.act=1\/s.act=2\/s.act=3\/s.act=4\/s.act=5\/s.act=6\/6<s.act by omega) with h | h | h | h | h | h | h | h | h
 . grind
 . rw[h];revert p1 p2 p3 p4 p5 p6 p7 p8 p9 p10 last;decide
 . rw[h];revert p1 p2 p3 p4 p5 p6 p7 p8 p9 p10 last;decide
 . rw[h];revert p1 p2 p3 p4 p5 p6 p7 p8 p9 p10 last;decide
 . rw[h];revert p1 p2 p3 p4 p5 p6 p7 p8 p9 p10 last;decide
 . rw[h];revert p1 p2 p3 p4 p5 p6 p7 p8 p9 p10 last;decide
 . grind
 . grind
 grind
theorem za3 (f:Fl) (s:St) (last:Bool) (v1 v2 v3:Value) (cs:List Value) (D D':Nat->Prop) (w:World) (hf:RFl D w f v1 v2 v3) (hs:RSt D' w s cs):Calls prog 163 #[.agg #[v1,v2,v3],.agg cs.toArray,.bool last] w (Ret fun r w'=>r=.bool (zH f.vars f.hatches.length s last)/\Ext w w'):=by
 obtain⟨dc,dg,dr⟩:=hf;obtain⟨a1,n1,rfl⟩:=dc.form;obtain⟨a2,n2,rfl⟩:=dg.form;obtain⟨u1,u2,u3,u4,rfl,hk,ht,he,hb⟩:=hs.get;obtain⟨a4,n4,rfl⟩:=hk.form;obtain⟨a5,n5,rfl⟩:=ht.form;obtain⟨a6,n6,rfl⟩:=he.form;obtain⟨a7,n7,rfl⟩:=hb.form;rw[zbP,zkp,zh6];refine zqs func163 O ntmps163 O (V.inn (Vs 2 O (V.box 3 O O (fun b3=>?_))));refine V.box 4 O O (fun b4=>(Vs 14 O (zrm (σ:=Unit) [2,3,4,7] [3,4] [3,4] O (fun e u=>(10,.bool (decide (s.act<0) || decide (6<s.act)))::e) (fun e u=>e) (fun u=>True) j1 j1 ?_ ?_)))
 .
  refine Vs 4 O (zqb 13 O (fun k1_=>?_) (fun k1_=>?_))
  . refine Vs 5 O (zoS () Uj j3 trivial 0 O O)
  refine Vs 5 O (zoS () Uj j3 trivial 0 O O)
 rintro u _;refine Vs 1 O (V.bool O (fun c2=>?_) (fun c2=>?_))
 . refine Vs 11 O ik
 skip;refine Vs 1 O (zrm (σ:=Unit) [2,3,4,7] [3,4] [3,4] O (fun e u=>(10,.bool (!uvB s.act&&decide (s.var ≠ 0)))::e) (fun e u=>e) (fun u=>True) j1 j1 ?_ ?_)
 .
  refine Vs 2 O (zr2 call198 O (fun w hI=>zcE s.act w) (zqh O (fun w hI=>zpS O j6) (Vs 1 O (zqb 20 O (fun k1_=>?_) (fun k1_=>?_)))))
  . refine Vs 6 O (zoS () Uj j3 trivial 0 O O)
  refine Vs 6 O (zoS () Uj j3 trivial 0 O O)
 rintro u _;refine Vs 1 O (V.bool O (fun c3=>?_) (fun c3=>?_))
 . refine Vs 11 O ik
 skip;refine Vs 1 O (zrm (σ:=Unit) [2,3,4,7] [3,4] [3,4] O (fun e u=>(10,.bool (!unB s.act&&decide (s.n ≠ 0)))::e) (fun e u=>e) (fun u=>True) j1 j1 ?_ ?_)
 .
  refine Vs 2 O (zr2 call199 O (fun w hI=>zko s.act w) (zqh O (fun w hI=>zpS O j6) (Vs 1 O (zqb 28 O (fun k1_=>?_) (fun k1_=>?_)))))
  . refine Vs 6 O (zoS () Uj j3 trivial 0 O O)
  refine Vs 6 O (zoS () Uj j3 trivial 0 O O)
 rintro u _;refine Vs 1 O (V.bool O (fun c4=>?_) (fun c4=>?_))
 . refine Vs 11 O ik
 skip;refine Vs 1 O (zrm (σ:=Unit) [2,3,4,7] [3,4] [3,4] O (fun e u=>(10,.bool (!utB s.act&&!plainB s.term))::e) (fun e u=>e) (fun u=>True) j1 j1 ?_ ?_)
 .
  refine Vs 2 O (zr2 call200 O (fun w hI=>zft s.act w) (zqh O (fun w hI=>zpS O j6) (Vs 1 O (zqb 36 O (fun k1_=>?_) (fun k1_=>?_)))))
  . refine Vs 2 O (zr2 call201 O (fun w hI=>zfs s.term _ D' w JT) (zqh O (fun w hI=>zpS O j6) (Vs 3 O (zoS () Uj j3 trivial 0 O O))))
  refine Vs 7 O (zoS () Uj j3 trivial 0 O O)
 rintro u _;refine Vs 1 O (V.bool O (fun c5=>?_) (fun c5=>?_))
 . refine Vs 11 O ik
 skip;refine Vs 1 O (zrm (σ:=Unit) [2,3,4,7] [3,4] [3,4] O (fun e u=>(10,.bool (decide (s.act ≠ 3)&&decide (s.act ≠ 4)&&decide (0<(s.thn.length:Int))))::e) (fun e u=>e) (fun u=>True) j1 j1 ?_ ?_)
 .
  refine Vs 4 O (zqb 44 O (fun k1_=>?_) (fun k1_=>?_))
  .
   refine Vs 4 O (zqb 48 O (fun k2_=>?_) (fun k2_=>?_))
   . refine Vs 7 O (zoS () Uj j3 trivial 0 O O)
   refine Vs 7 O (zoS () Uj j3 trivial 0 O O)
  refine Vs 11 O (zoS () Uj j3 trivial 0 O O)
 rintro u _;refine Vs 1 O (V.bool O (fun c6=>?_) (fun c6=>?_))
 . refine Vs 11 O ik
 skip;refine Vs 1 O (zrm (σ:=Unit) [2,3,4,7] [3,4] [3,4] O (fun e u=>(10,.bool (decide (s.act ≠ 3)&&decide (0<(s.els.length:Int))))::e) (fun e u=>e) (fun u=>True) j1 j1 ?_ ?_)
 .
  refine Vs 4 O (zqb 56 O (fun k1_=>?_) (fun k1_=>?_))
  . refine Vs 7 O (zoS () Uj j3 trivial 0 O O)
  refine Vs 7 O (zoS () Uj j3 trivial 0 O O)
 rintro u _;refine Vs 1 O (V.bool O (fun c7=>?_) (fun c7=>?_))
 . refine Vs 11 O ik
 skip;refine Vs 1 O (zrm (σ:=Unit) [2,3,4,7] [3,4] [3,4] O (fun e u=>(10,.bool (decide (s.act ≠ 6)&&decide (0<(s.bounds.length:Int))))::e) (fun e u=>e) (fun u=>True) j1 j1 ?_ ?_)
 .
  refine Vs 4 O (zqb 64 O (fun k1_=>?_) (fun k1_=>?_))
  . refine Vs 7 O (zoS () Uj j3 trivial 0 O O)
  refine Vs 7 O (zoS () Uj j3 trivial 0 O O)
 rintro u _;refine Vs 1 O (V.bool O (fun c8=>?_) (fun c8=>?_))
 . refine Vs 11 O ik
 skip;refine Vs 1 O (zrm (σ:=Unit) [2,3,4,7] [3,4] [3,4] O (fun e u=>(10,.bool (uvB s.act&&(decide (s.var<0) || decide ((f.vars.length:Int)<=s.var) || !xu f.vars s.var)))::e) (fun e u=>e) (fun u=>True) j1 j1 ?_ ?_)
 .
  refine Vs 2 O (zr2 call198 O (fun w hI=>zcE s.act w) (Vs 1 O (zqb 72 O (fun k1_=>?_) (fun k1_=>?_))))
  .
   refine Vs 4 O (zqb 76 O (fun k2_=>?_) (fun k2_=>?_))
   . refine Vs 20 O (zoS () Uj j3 trivial 0 O O)
   refine Vs 8 O (zqb 84 O (fun k3_=>?_) (fun k3_=>?_))
   . refine Vs 12 O (zoS () Uj j3 trivial 0 O O)
   refine Vs 4 O ?_;have hv:=And.intro (of_decide_eq_false k2_) (of_decide_eq_false k3_);refine zri 1000 0 s.var.toNat tO dc O O O (fun x dt du dw hC dh hY da=>?_);obtain rfl:=da;refine zqQ 1000 tR22 ts142 O hY tO (s.var.toNat) tO O ?_;have dx:(!xu f.vars s.var)=decide (x.kind ≠ 0):=by unfold xu;rw[hC,za]
   refine Vs 7 O (zoS () Uj j3 trivial 0 O O)
  refine Vs 24 O (zoS () Uj j3 trivial 0 O O)
 rintro u _;refine Vs 1 O (V.bool O (fun c9=>?_) (fun c9=>?_))
 . refine Vs 11 O ik
 skip;refine zrm (σ:=Unit) [2,4,7] [4] [4] O (fun e u=>(10,.bool (decide (s.act=5)&&(decide (s.n<0) || decide ((f.hatches.length:Int)<=s.n))))::e) (fun e u=>e) (fun u=>True) j1 j1 ?_ ?_
 .
  refine Vs 4 O (zqb 97 O (fun k1_=>?_) (fun k1_=>?_))
  .
   refine Vs 4 O (zqb 101 O (fun k2_=>?_) (fun k2_=>?_))
   . refine Vs 10 O (zoS () Uj j3 trivial 0 O O)
   refine Vs 10 O (zoS () Uj j3 trivial 0 O O)
  refine Vs 14 O (zoS () Uj j3 trivial 0 O O)
 rintro u _;refine Vs 1 O (V.bool O (fun c10=>?_) (fun c10=>?_))
 . refine Vs 8 O ik
 skip;refine Vs 8 O (zqb 112 O (fun k1_=>?_) (fun k1_=>?_))
 . refine Vs 30 O ik
 refine Vs 2 O (zqb 114 O (fun k2_=>?_) (fun k2_=>?_))
 .
  refine Vs 6 O (zqb 120 O (fun k3_=>?_) (fun k3_=>?_))
  .
   refine Vs 6 O (zqb 126 O (fun k4_=>?_) (fun k4_=>?_))
   .
    refine Vs 2 O ?_;have h0:=of_decide_eq_true k3_;refine zrj 2000 0 0 tO hb O O (fun y dy dz dl dm db=>?_);refine zqQ 2000 tR27 ts3 O db tO _ rfl O ?_;have h1:s.bounds[0]?.getD 0=y:=tD;refine Vs 4 O (zqb 133 O (fun k5_=>?_) (fun k5_=>?_))
    . refine Vs 2 O (zr2 call202 O (fun w hI=>zdn s.bounds _ D' w (Tr1 hI.k0 hb)) (Vs 6 O ik))
    refine Vs 9 O ik
   refine Vs 16 O ik
  refine Vs 22 O ik
 refine Vs 28 O ik
def xw (a:Int):Int:=if a=2 then 67108864 else 10000
def xa (s:St):Bool:=!(decide (s.cost<0) || decide (xw s.act<s.cost) || (decide (s.act=4)&&(decide (s.n<0) || decide (4096<s.n))))&&(decide (s.act ≠ 6) || decide (s.bounds[s.bounds.length - 1]?.getD 0<=67108864))
theorem zii (vs:List Ht) (vv:Value) (D:Nat->Prop) (w:World) (hY:SlR 6 RHt D w vv vs) (p:Ht->Bool) (g:FuncId) (cp:Value) (hf:∀ args w,(callFunc g args).run prog w=.ok (.enter g args) w)
  (hc:∀ x ∈ vs,∀ kv w',Ext w w'->Calls prog g #[.agg #[.string x.name,.int .i64 x.low,.int .i64 x.high,.int .i64 x.term.op,.int .i64 x.term.n,kv],cp] w' (Ret fun r w''=>r=.bool (p x)/\Ext w' w'')) :
  Calls prog 197 #[vv,.func (.func g) #[] #[cp]] w (Ret fun r w'=>(∃ i:Int,r=.int .i64 i/\(0<=i ↔ vs.any p=true))/\Ext w w'):=by
 have dB:=hY.max;obtain⟨av,nv,rfl⟩:=hY.form;refine zqr func197 O ntmps197 O (Gs 14 O (G.loop (σ:=Nat) (fun i=>[(0,.slice av vs.length nv),(1,.func (.func g) #[] #[cp]),(7,.int .i64 vs.length),(8,.int .i64 i)]) (fun i=>fun w'=>i<=vs.length/\(vs.take i).any p=false/\Ext w w') (fun i=>vs.length - i) 0 j2 JG ?_));rintro i w1 ⟨hi,dm,da⟩;replace hY:=Tr1 da hY;refine Gs 6 O (zoD O (fun dt=>?_) (fun dt=>?_))
 .
  obtain⟨x,dc,dh⟩:=gE_ vs (i) tO;obtain⟨du,dC,dD,dl,_,hC,dg⟩:=hY.at dc;have dw:=RHt.one dg;obtain⟨dx,rfl,db⟩:=dg;obtain⟨dy,dz,rfl⟩:=db.form;have dr:du<_:=zsT _ _ (hC 0 _ rfl);refine Gs 15 O (zqg O O (zph tR23 ts109 O O dl tO) (zqm O isAgg109 ts109 hC O (zpo O hf (hc x dh _ _ da) ?_)));rintro _ wz1 ⟨rfl,dA⟩;obtain⟨hY,da,hC,db⟩:=Tr4 dA hY da hC db;refine Gs 2 O (G.bool O (fun hp=>?_) (fun hp=>?_))
  . refine Gs 12 O (zoU results197 O J3)
  refine Ga 7 O tO (G.back (i+1) j2 ⟨tO,zaJ dc dm hp,da⟩ tO)
 have:i=vs.length:=tO;subst this;rw[zsW]at dm;refine Gs 11 O (zoU results197 O J3)
theorem zet (vs:List Ht) (vv:Value) (D:Nat->Prop) (w:World) (hC:SlR 6 RHt D w vv vs) (p:Ht->Bool) (g:FuncId) (cp:Value) (hf:∀ args w,(callFunc g args).run prog w=.ok (.enter g args) w)
  (hc:∀ x ∈ vs,∀ kv w',Ext w w'->Calls prog g #[.agg #[.string x.name,.int .i64 x.low,.int .i64 x.high,.int .i64 x.term.op,.int .i64 x.term.n,kv],cp] w' (Ret fun r w''=>r=.bool (p x)/\Ext w' w'')) :
  Calls prog 161 #[vv,.func (.func g) #[] #[cp]] w (Ret fun r w'=>r=.bool (vs.any p)/\Ext w w'):=by
 have hE:=Keep.refl (fun _=>False) w;refine zqr func161 O ntmps161 O (Gs 9 O (G.call O call197 (zii vs vv D w hC p g cp hf hc) ?_));rintro _ wz1 ⟨⟨i,rfl,hi⟩,hY⟩;replace hE:=Tr1 hY hE;refine Gs 5 O (zoU results161 O ⟨_,rfl,tD,hE⟩)
theorem zkq (h x:Ht) (kv kx:Value) (c:Nat) (w:World) (hB:Blk w c [.string x.name,.int .i64 x.low,.int .i64 x.high,.int .i64 x.term.op,.int .i64 x.term.n,kx] 109):Calls prog 160 #[.agg #[.string h.name,.int .i64 h.low,.int .i64 h.high,.int .i64 h.term.op,.int .i64 h.term.n,kv],.pointer (some ⟨c,0,none⟩)] w (Ret fun r w'=>r=.bool (yc h.name x.name)/\Ext w w'):=by
 have hE:=Keep.refl (fun _=>False) w;refine zqr func160 O ntmps160 O (Gs 2 O (G.mem O O (M.box O O) ?_));rintro _ dg ⟨b,rfl,hC,dc,hY,da⟩;have db:_<=b:=zsX hE.size (zvO hC.symm);obtain⟨hE,hB⟩:=Tr2 da hE hB;refine Gs 6 O (zqk O tg9 (hY.cells 0 _ O) (Gs 1 O (zqk O tg9 (hB.cells 0 _ O) (Gs 5 O (zoU results160 O ⟨_,rfl,rfl,hE⟩)))))
def zI (vs:List Vr) (prev:List Ht) (h:Ht):Int :=
 if zcl h.name=false then 7
 else if prev.any (fun u=>yc u.name h.name)=true then 8
 else if zb3 h.low h.high=false then 3
 else zD vs true h.term
def ji (vs:List Vr) (hs:List Ht) (i:Nat):Int:=match hs[i]? with
 | some h=>zI vs (hs.take i) h
 | none=>0
theorem zat {hs:List Ht} {h:Ht} (e:hs[i]?=some h):ji vs hs i=zI vs (hs.take i) h:=by simp[ji,e]
def zr (vs:List Vr) (hs:List Ht):Int:=yW (ji vs hs) 0 hs.length
mutual
def zJ (vs:List Vr) (nh:Nat):St->Bool->Int
 | .mk a c v n t f g bs,last =>
  if zH vs nh (.mk a c v n t f g bs) last=false then 1
  else if xa (.mk a c v n t f g bs)=false then 3
  else if zD vs false t ≠ 0 then zD vs false t
  else if stepsCodeN vs nh f false ≠ 0 then stepsCodeN vs nh f false
  else stepsCodeN vs nh g false
def stepsCodeN (vs:List Vr) (nh:Nat):List St->Bool->Int
 | [],_=>0
 | s::r,top=>if zJ vs nh s (top&&r.isEmpty) ≠ 0 then zJ vs nh s (top&&r.isEmpty) else stepsCodeN vs nh r top
end
theorem zY (vs:List Vr) (nh:Nat) (s:St) (last:Bool):zJ vs nh s last =
  if zH vs nh s last=false then 1 else if xa s=false then 3 else if zD vs false s.term ≠ 0 then zD vs false s.term
  else if stepsCodeN vs nh s.thn false ≠ 0 then stepsCodeN vs nh s.thn false else stepsCodeN vs nh s.els false:=by
 cases s;rw[zJ];rfl
theorem kn (vs:List Vr) (nh:Nat) (top:Bool) (l:List St) (i:Nat) (x:St) (h:l[i]?=some x) :
  stepsCodeN vs nh (l.drop i) top=if zJ vs nh x (top&&decide (i=l.length - 1)) ≠ 0 then zJ vs nh x (top&&decide (i=l.length - 1)) else stepsCodeN vs nh (l.drop (i+1)) top:=by
 obtain⟨hi,hx⟩:=zt5.1 h;rw[zuc hi,hx,stepsCodeN]
 have:(l.drop (i+1)).isEmpty=decide (i=l.length - 1):=by
  rw[ztC];simp;omega
 rw[this]
theorem za4 {last:Bool} (h:zH vs nh s last=true):s.act=6->0<s.bounds.length:=by
 intro h6;rw[zbP]at h;simp[h6,xG]at h;omega
open Go.GL
def zm2 (s:St):Bool:=decide (s.cost<0) || decide (xw s.act<s.cost) || decide (s.n<0) || (decide (s.act=4)&&decide (4096<s.n))
def znu (s:St):Bool:=decide ((0:Int)<s.bounds.length)&&decide (67108864<s.bounds[s.bounds.length - 1]?.getD 0)
theorem zh7 {last:Bool} (h:zH vs nh s last=true):xa s=(!zm2 s&&!znu s):=by
 have h0:(s.n<0->s.act=4)/\(s.act ≠ 6->s.bounds.length=0):=by
  unfold zH at h
  repeat' split at h
  all_goals simp[zbO]at h
  all_goals (refine⟨fun hn=>?_,fun h6=>?_⟩<;>first | omega | simp_all)
 have h1:=za4 h;unfold xa zm2 znu;rw[ztC];simp only[ztA,ztF,Bool.and_eq_false_iff,ztG,ztH,decide_eq_false_iff_not,decide_eq_true_eq];generalize s.bounds[s.bounds.length - 1]?.getD 0=e;omega
theorem zdo (f:Fl) (v1 v2 v3:Value) (hg:∀ v ∈ f.vars,xz (v.low,v.high)) (Df:Nat->Prop) (l:List St):∀ (v:Value) (D:Nat->Prop) (w:World) (top:Bool),RFl Df w f v1 v2 v3->SlR 10 RSt D w v l->sbulk l<=1000000->Calls prog 64 #[.agg #[v1,v2,v3],v,.bool top] w (Ret fun r w'=>r=.int .i64 (stepsCodeN f.vars f.hatches.length l top)/\Ext w w'):=by
 induction l using zqD with
 | h l ih =>
 intro v D w top hf hl hb;obtain⟨dB,dE,dF⟩:=hf;have dZ:=hl.max;obtain⟨av,nv,rfl⟩:=hl.form;have hf:∀ {w':World},Ext w w'->RFl Df w' f v1 v2 v3:=fun h=>⟨dB.ext yG h,dE.ext yN h,dF.ext zf h⟩;refine zqs func64 O ntmps64 O (V.inn (Vs 2 O (V.box 3 O O (fun b3=>?_))));refine Vs 10 O (zrl (σ:=Nat) [1,2,3] [3] [3] O (fun e i=>(7,.int .i64 i)::e) (fun e i=>e) (fun i=>i<=l.length/\stepsCodeN f.vars f.hatches.length l top=stepsCodeN f.vars f.hatches.length (l.drop i) top) (fun i=>l.length - i) 0 j2 j3 j1 j1 j1 JF ?_);rintro i ⟨hi,hY⟩;refine Vs 9 O (zoE O (fun dG=>?_) (fun dG=>?_))
 .
  refine Vs 8 O (zri 1000 0 i tO hl O O O (fun x d5 d6 d7 dw dl dx dy=>?_));obtain⟨dH,dI,dJ,dK,rfl,da,db,dc,dg⟩:=dy.get;obtain⟨dL,dM,rfl⟩:=da.form;obtain⟨dN,dO,rfl⟩:=db.form;obtain⟨dQ,dR,rfl⟩:=dc.form;obtain⟨dS,dT,rfl⟩:=dg.form;refine zqQ 1000 tR24 ts72 O dx tO _ rfl O ?_;have du:=kn f.vars f.hatches.length top l i x dw;have dU:=kU dl;rw[St.bulk_eq]at dU;have dV:decide ((i:Int)=(l.length:Int) - 1)=decide (i=l.length - 1):=tD;refine Vs 1 O (V.alloc 8 tz72 O O (fun b8=>?_));refine Vs 5 O (zrm (σ:=Unit) [1,2,3,7,8] [3,8] [3,8] O (fun e u=>(32,.bool (!(zH f.vars f.hatches.length x (top&&decide (i=l.length - 1)))))::e) (fun e u=>e) (fun u=>True) j1 j1 ?_ ?_)
  .
   refine Vs 5 O (zqb 24 O (fun tt=>?_) (fun tt=>?_))
   . refine Va 6 O tO (zr2 call112 O U8 Uz)
   refine Vs 6 O (zr2 call112 O U8 Ux)
  rintro u _;generalize hC:(top&&decide (i=l.length - 1))=last;refine Vs 1 O (V.bool O (fun dz=>?_) (fun dz=>?_))
  .
   have dm:zH f.vars f.hatches.length x last=false:=by simpa using dz
   refine Vs 12 O (zr9 0 tr64 O O (by rw[hY,du,hC,zY,zt2 dm];rfl))
  have dm:zH f.vars f.hatches.length x last=true:=by simpa using dz
  have dh:¬ zH f.vars f.hatches.length x last=false:=tD;have dW:=zh7 dm;refine Vs 15 O (zrm (σ:=Unit) [1,2,3,7,8] [3,8] [3,8] O (fun e u=>(9,.int .i64 (xw x.act))::e) (fun e u=>e) (fun u=>True) j1 j1 ?_ ?_)
  .
   refine zoE O (fun a2=>?_) (fun a2=>?_)
   . refine Vs 3 O (zoS () (Sub.cons (by rw[xw,zt2 a2];rfl) j2) j3 trivial 0 O O)
   refine Vs 1 O (zoS () (Sub.cons (by rw[xw,zt1 a2];rfl) j2) j3 trivial 0 O O)
  rintro u _;refine Vs 3 O (zrm (σ:=Unit) [1,2,3,7,8] [3,8] [3,8] O (fun e u=>(59,.bool (zm2 x))::e) (fun e u=>e) (fun u=>True) j1 j1 ?_ ?_)
  .
   refine Vs 5 O (zqb 39 O (fun k1_=>?_) (fun k1_=>?_))
   . refine Vs 21 O (zoS () (Sub.cons JD j2) j3 trivial 0 O O)
   refine Vs 6 O (zqb 45 O (fun k2_=>?_) (fun k2_=>?_))
   . refine Vs 15 O (zoS () (Sub.cons JD j2) j3 trivial 0 O O)
   refine Vs 5 O (zqb 50 O (fun k3_=>?_) (fun k3_=>?_))
   . refine Vs 10 O (zoS () (Sub.cons JD j2) j3 trivial 0 O O)
   refine Vs 4 O (zqb 54 O (fun k4_=>?_) (fun k4_=>?_))
   . refine Vs 6 O (zoS () (Sub.cons JD j2) j3 trivial 0 O O)
   refine Vs 6 O (zoS () (Sub.cons JD j2) j3 trivial 0 O O)
  rintro u _;refine Vs 1 O (V.bool O (fun dC=>?_) (fun dC=>?_))
  . refine Vs 12 O J6
  refine Vs 4 O (zrm (σ:=Unit) [1,2,3,7,8] [3,8] [3,8] O (fun e u=>(74,.bool (znu x))::e) (fun e u=>e) (fun u=>True) j1 j1 ?_ ?_)
  .
   refine Vs 6 O (zqb 64 O (fun k1_=>?_) (fun k1_=>?_))
   .
    refine Va 6 O tO ?_;have h0:=of_decide_eq_true k1_;refine zrj 2000 0 (x.bounds.length-1) tO dg O O (fun y d8 d9 dX dY dA=>(zqQ 2000 tR27 ts3 O dA tO (x.bounds.length-1) tO O ?_));have h1:x.bounds[x.bounds.length - 1]?.getD 0=y:=tD;refine Vs 4 O (zoS () (Sub.cons (by unfold znu;simp only[*,zw0]<;>rfl) j2) j3 trivial 0 O O)
   refine Vs 11 O (zoS () (Sub.cons (by unfold znu;simp only[*]<;>rfl) j2) j3 trivial 0 O O)
  rintro u _;refine Vs 1 O (V.bool O (fun dD=>?_) (fun dD=>?_))
  . refine Vs 12 O J6
  have dr:¬ xa x=false:=by rw[dW,dC,dD];decide
  refine Vs 8 O (zr2 call63 O (fun w hI=>jE f.vars false v1 _ _ _ w x.term hg (Tr1 hI.k0 dB) YF tO) (Vs 10 O (zoE O (fun tz=>?_) (fun tz=>?_))))
  . refine Vs 13 O (zr9 0 tr64 O O (by rw[hY,du,hC,zY,zt1 dh,zt1 dr,zt2 tz,zt2 tz]))
  have dt:zJ f.vars f.hatches.length x last=if stepsCodeN f.vars f.hatches.length x.thn false ≠ 0 then stepsCodeN f.vars f.hatches.length x.thn false else stepsCodeN f.vars f.hatches.length x.els false:=by rw[zY,zt1 dh,zt1 dr,zt1 tz]
  refine Vs 7 O (zr2 call64 O (fun w hI=>(ih x dl).1 _ _ w false (hf hI.k0) y7 tO) (Vs 10 O (zoE O (fun tz1=>?_) (fun tz1=>?_))))
  . refine Vs 13 O (zr9 0 tr64 O O tD)
  rw[zt1 tz1]at dt;refine Vs 7 O (zr2 call64 O (fun w hI=>(ih x dl).2 _ _ w false (hf hI.k0) ip tO) (Vs 9 O (zoE O (fun tz2=>?_) (fun tz2=>?_))))
  . refine Vs 12 O (zr9 0 tr64 O O tD)
  refine Va 8 O tO (V.back (i+1) j2 j3 Ua tO 0 O O)
 obtain rfl:i=l.length:=tO;refine Vs 11 O (zr9 0 tr64 O O (by rw[hY,zud];rfl))
mutual
def qI:St->Int × Int × Int
 | .mk a c _ n _ f g _=>if a=4 then (1+n*(1+(bds f).1),n*(bds f).2.1,n*(c+(bds f).2.2))
  else (1+max (bds f).1 (bds g).1,if a=1 then 1 else max (bds f).2.1 (bds g).2.1,c+max (bds f).2.2 (bds g).2.2)
def bds:List St->Int × Int × Int
 | []=>(0,0,0)
 | s::r=>((qI s).1+(bds r).1,(qI s).2.1+(bds r).2.1,(qI s).2.2+(bds r).2.2)
end
theorem yX (s:St):qI s=if s.act=4 then (1+s.n*(1+(bds s.thn).1),s.n*(bds s.thn).2.1,s.n*(s.cost+(bds s.thn).2.2))
  else (1+max (bds s.thn).1 (bds s.els).1,if s.act=1 then 1 else max (bds s.thn).2.1 (bds s.els).2.1,s.cost+max (bds s.thn).2.2 (bds s.els).2.2):=by cases s;rw[qI];rfl
theorem zh8 (a b:List St):bds (a++b)=((bds a).1+(bds b).1,(bds a).2.1+(bds b).2.1,(bds a).2.2+(bds b).2.2):=by
 induction a with
 | nil=>simp[bds]
 | cons s r ih=>rw[zu3,bds,ih,bds];simp only[Prod.mk.injEq];omega
theorem zgf {l:List St} {x:St} (h:l[i]?=some x):bds (l.take (i+1))=((bds (l.take i)).1+(qI x).1,(bds (l.take i)).2.1+(qI x).2.1,(bds (l.take i)).2.2+(qI x).2.2):=by
 rw[ze h,zh8];simp[bds]
structure OkS (s:St):Prop where
 cost:0<=s.cost/\s.cost<=67108864
 rep:s.act=4->0<=s.n/\s.n<=4096/\s.els=[]
 free:s.act ≠ 3->s.act ≠ 4->s.thn=[]/\s.els=[]
theorem qn {last:Bool} (h:zJ vs nh s last=0):OkS s/\zD vs false s.term=0/\zH vs nh s last=true/\stepsCodeN vs nh s.thn false=0/\stepsCodeN vs nh s.els false=0:=by
 rw[zY]at h;split at h
 . cases h
 rename_i h1;split at h
 . cases h
 rename_i h2;split at h
 . omega
 rename_i h3;split at h
 . omega
 rename_i h4;have hC:zH vs nh s last=true:=tD;refine⟨?_,tO,hC,tO,h⟩;have hY:xa s=true:=tD;unfold xa xw at hY;simp at hY;have hz:∀ l:List St,(l.length:Int)=0->l=[]:=fun l h=>zug tO;refine⟨tO,fun h4=>?_,fun h3 h4=>?_⟩
 .
  have hh:=hY.1.2.resolve_left (fun h=>h h4);refine⟨tO,tO,?_⟩;unfold zH at hC;rw[zt1 tO,zt1 tO,zt1 tO,zt1 tO,zt2 h4]at hC;simp at hC;exact hC.1.2
 unfold zH at hC
 repeat' split at hC
 all_goals simp[zbO]at hC
 all_goals first | exact⟨hC.1.1.1.1,hC.1.1.1.2⟩ | exact⟨hC.1.1.1.1.1,hC.1.1.1.1.2⟩ | exact⟨hC.1.1.1.1.1.1,hC.1.1.1.1.1.2⟩ | omega | simp_all
theorem xT {vs:List Vr} {nh:Nat}:∀ (l:List St) (top:Bool),stepsCodeN vs nh l top=0->∀ x ∈ l,∃ last,zJ vs nh x last=0
 | [],_,_,x,hx=>tD
 | s::r,top,h,x,hx=>by
  rw[stepsCodeN]at h;split at h
  . omega
  rename_i h1;rcases zt7.1 hx with rfl | hx
  . grind
  exact xT r top h x hx
theorem znv (n c a K:Int) (hn:0<=n) (hc:0<=c) (ha:0<=a) (hK:0<=K):min (n*(c+min a K)) K=min (n*(c+a)) K:=by
 rcases Int.le_total a K with h | h
 . grind
 rw[Int.min_eq_right h];by_cases h0:n=0
 . grind
 have h1:1*(c+K)<=n*(c+K):=ztT tO tO;have h2:1*(c+a)<=n*(c+a):=ztT tO tO;omega
def cap (K a:Int):Int:=min a K
theorem zF (ha:0<=a) (hK:0<=K):0<=cap K a/\cap K a<=K:=by unfold cap;omega
theorem zau {S x x':Int} (hS:0<=S) (hx:0<=x) (hC:0<=x') (h:cap K x'=cap K x):min (cap K S+x') K=cap K (S+x):=by unfold cap at *;omega
theorem zdp (hc:0<=c) (_:0<=a) (_:0<=b):cap K (c+max (cap K a) (cap K b))=cap K (c+max a b):=by unfold cap;omega
theorem zgg (_:0<=a) (_:0<=b):cap K (max (cap K a) (cap K b))=cap K (max a b):=by unfold cap;omega
theorem zbQ {n:Int} (hn:0<=n) (hc:0<=c) (ha:0<=a) (hK:0<=K):cap K (n*(c+cap K a))=cap K (n*(c+a)):=by unfold cap;exact znv n c a K hn hc ha hK
theorem zgh {n:Int} (hn:0<=n) (ha:0<=a) (hK:0<=K):cap K (n*cap K a)=cap K (n*a):=by
 have:=zbQ (c:=0) hn (Int.le_refl 0) ha hK
 grind
theorem zij (_:0<=a) (_:0<=b) (h:cap K a=cap K b):cap K (1+a)=cap K (1+b):=by unfold cap at *;omega
theorem qN (n a N A:Int) (hn:0<=n) (hN:n<=N) (ha:0<=a) (hA:a<=A):0<=n*a/\n*a<=N*A :=
 ⟨ztm hn ha,ztR hN hA ha tO⟩
theorem xm (l:List St):∀ top,stepsCodeN vs nh l top=0->0<=(bds l).1/\0<=(bds l).2.1/\0<=(bds l).2.2:=by
 induction l using zqD with
 | h l ih =>
 intro top h;have hm:=xT l top h
 have key:∀ r:List St,(∀ x ∈ r,x ∈ l)->0<=(bds r).1/\0<=(bds r).2.1/\0<=(bds r).2.2:=by
  intro r;induction r with
  | nil=>intro _;simp[bds]
  | cons x r ihr =>
   intro hx;have h1:=ihr (fun y hy=>hx y iu);obtain⟨last,h2⟩:=hm x (hx x (zsV ..));obtain⟨h3,_,_,h4,h5⟩:=qn h2;have h6:=(ih x (hx x (zsV ..))).1 _ h4;have h7:=(ih x (hx x (zsV ..))).2 _ h5;have h8:=h3.cost;rw[bds,yX];split
   .
    rename_i ha;have h9:=h3.rep ha;have p1:=ztm h9.1 (show 0<=1+(bds x.thn).1 by omega);have p2:=ztm h9.1 h6.2.1;have p3:=ztm h9.1 (show 0<=x.cost+(bds x.thn).2.2 by omega)
    grind
   simp only;refine⟨tO,?_,tO⟩;split<;>omega
 exact key l (fun x hx=>hx)
theorem zik {l:List St} {top:Bool} (h:stepsCodeN vs nh l top=0) (i:Nat):0<=(bds (l.take i)).1/\0<=(bds (l.take i)).2.1/\0<=(bds (l.take i)).2.2:=by
 have key:∀ r:List St,(∀ x ∈ r,x ∈ l)->0<=(bds r).1/\0<=(bds r).2.1/\0<=(bds r).2.2:=by
  intro r;induction r with
  | nil=>intro _;simp[bds]
  | cons x r ihr =>
   intro hx;have h1:=ihr (fun y hy=>hx y iu);obtain⟨last,h2⟩:=xT l top h x (hx x (zsV ..))
   have h3:stepsCodeN vs nh [x] true=0\/stepsCodeN vs nh [x] false=0:=by
    cases last
    . right;simp[stepsCodeN,h2]
    left;simp[stepsCodeN,h2]
   have h4:0<=(bds [x]).1/\0<=(bds [x]).2.1/\0<=(bds [x]).2.2:=by rcases h3 with h3 | h3<;>exact xm _ _ h3
   simp only[bds]at h4 ⊢;omega
 exact key _ (fun x hx=>zv8 hx)
theorem zaL {x:St} {last:Bool} (h:zJ vs nh x last=0):0<=(qI x).1/\0<=(qI x).2.1/\0<=(qI x).2.2:=by
 have h3:stepsCodeN vs nh [x] true=0\/stepsCodeN vs nh [x] false=0:=by
  cases last
  . right;simp[stepsCodeN,h]
  left;simp[stepsCodeN,h]
 have h4:0<=(bds [x]).1/\0<=(bds [x]).2.1/\0<=(bds [x]).2.2:=by rcases h3 with h3 | h3<;>exact xm _ _ h3
 simpa[bds] using h4
theorem zaM (vs:List Vr) (nh:Nat) (l:List St):∀ (v:Value) (D:Nat->Prop) (w:World) (top:Bool),stepsCodeN vs nh l top=0->SlR 10 RSt D w v l->sbulk l<=1000000->Calls prog 65 #[v] w (Ret fun r w'=>r=.tuple #[.int .i64 (cap 4097 (bds l).1),.int .i64 (cap 9 (bds l).2.1),.int .i64 (cap 67108865 (bds l).2.2)]/\Ext w w'):=by
 induction l using zqD with
 | h l ih =>
 intro v D w top du hl hb;have dN:=hl.max;obtain⟨av,nv,rfl⟩:=hl.form;refine zqq func65 O ntmps65 O (V.inn (Vs 21 O (zrl (σ:=Nat) [0] [] [] O (fun e i=>(5,.int .i64 (cap 4097 (bds (l.take i)).1))::(6,.int .i64 (cap 9 (bds (l.take i)).2.1))::(7,.int .i64 (cap 67108865 (bds (l.take i)).2.2))::(8,.int .i64 i)::e) (fun e i=>e) (fun i=>i<=l.length) (fun i=>l.length - i) 0 j2 j3 j1 j1 j1 (zt6 _) ?_)));rintro i hi;refine Vs 9 O (zoE O (fun dz=>?_) (fun dz=>?_))
 .
  refine Vs 8 O (zri 1000 0 i tO hl O O O (fun x dO dQ dR dg hY dh dl=>?_));obtain⟨dA,dB,dC,dD,rfl,dm,db,dc,dr⟩:=dl.get;obtain⟨dE,dF,rfl⟩:=dm.form;obtain⟨dG,dH,rfl⟩:=db.form;obtain⟨dI,dJ,rfl⟩:=dc.form;obtain⟨dK,dL,rfl⟩:=dr.form;refine zqQ 1000 tR24 ts72 O dh tO _ rfl O ?_;have dt:=zgf dg;have hC:0<=(bds (l.take i)).1/\0<=(bds (l.take i)).2.1/\0<=(bds (l.take i)).2.2:=zik du i;obtain⟨last,dw⟩:=xT l top du x hY;obtain⟨hS,_,_,dx,dy⟩:=qn dw;have da:=hS.cost;have n1:=xm x.thn _ dx;have n2:=xm x.els _ dy;have r1:=zF n1.1 (show (0:Int)<=4097 by decide);have r2:=zF n1.2.1 (show (0:Int)<=9 by decide);have r3:=zF n1.2.2 (show (0:Int)<=67108865 by decide);have r4:=zF n2.1 (show (0:Int)<=4097 by decide);have r5:=zF n2.2.1 (show (0:Int)<=9 by decide);have r6:=zF n2.2.2 (show (0:Int)<=67108865 by decide);have t1:=zF hC.1 (show (0:Int)<=4097 by decide);have t2:=zF hC.2.1 (show (0:Int)<=9 by decide);have t3:=zF hC.2.2 (show (0:Int)<=67108865 by decide);have y:=zaL dw;have dM:=kU hY;rw[St.bulk_eq]at dM;refine Vs 1 O (V.alloc 9 tz72 O O (fun b9=>?_));refine Vs 7 O (zr2 call65 O (fun w hI=>(ih x hY).1 _ _ w _ dx y7 tO) (Vs 13 O (zr2 call65 O (fun w hI=>(ih x hY).2 _ _ w _ dy ip tO) (Vs 10 O (Vw [1000,9] [] O (Vd [0,1,4,5,7,8,9,10] 0 tK O O O (zr3 2 0 tc113 O tK O O i7 (Vb [3] 0 tK O O O tO (zr3 6 0 tc113 O tK O O i7 (zr3 11 0 tc113 O tK O O i7 ?_))))))))));refine Vb [12,13,14,15] 0 tK O O O tO (VD.done tK (Vs 9 O (zrm (σ:=Int × Int × Int) [0,5,6,7,8,9] [9] [9] O (fun e ⟨a,b,c⟩=>(16,.int .i64 a)::(17,.int .i64 b)::(18,.int .i64 c)::e) (fun e ⟨a,b,c⟩=>e) (fun⟨a,b,c⟩=>(0<=a/\a<=16789506/\cap 4097 a=cap 4097 (qI x).1)/\(0<=b/\b<=36864/\(x.act ≠ 1->cap 9 b=cap 9 (qI x).2.1))/\0<=c/\c<=549755813888000/\cap 67108865 c=cap 67108865 (qI x).2.2) j1 j1 ?_ ?_)))
  .
   refine zoE O (fun a4=>?_) (fun a4=>?_)
   .
    have hr:=hS.rep a4;have p1:=qN x.n (1+cap 4097 (bds x.thn).1) 4096 4098 hr.1 hr.2.1 tO tO;have p2:=qN x.n (cap 9 (bds x.thn).2.1) 4096 9 hr.1 hr.2.1 tO tO;have p3:=qN x.n (x.cost+cap 67108865 (bds x.thn).2.2) 4096 134217729 hr.1 hr.2.1 tO tO;have q1:=ztm hr.1 (show 0<=1+(bds x.thn).1 by omega);rw[yX,zt2 a4];refine Vq tK (Va 21 O tO (zoS ⟨_,_,_⟩ j2 j3 ⟨⟨tO,tO,zij p1.1 q1 (zbQ hr.1 tO n1.1 tO)⟩,⟨p2.1,tO,fun _=>zgh hr.1 n1.2.1 tO⟩,p3.1,tO,zbQ hr.1 da.1 n1.2.2 tO⟩ 0 O O))
   rw[yX,zt1 a4];refine Vs 1 O (zoS ⟨_,_,_⟩ j2 j3 ⟨⟨tO,tO,zdp tO n1.1 n2.1⟩,⟨tO,tO,fun a1=>by simp only[a1,if_false];exact zgg n1.2.1 n2.2.1⟩,tO,tO,zdp da.1 n1.2.2 n2.2.2⟩ 0 O O)
  rintro⟨a,b,c⟩ ⟨⟨z1,u1,f1⟩,⟨z2,u2,f2⟩,z3,u3,f3⟩;refine Vs 9 O (zrm (σ:=Int) [0,5,6,7,8,16,18] [] [] O (fun e b=>(17,.int .i64 b)::e) (fun e b=>e) (fun b=>0<=b/\b<=36864/\cap 9 b=cap 9 (qI x).2.1) j1 j1 ?_ ?_)
  .
   refine zoE O (fun a1=>?_) (fun a1=>?_)
   . refine Vs 3 O (zoS 1 j2 j3 ⟨tS,tS,by rw[yX,zt1 tO];simp[a1]⟩ 0 O O)
   refine Vs 1 O ?_;refine zoS _ j2 j3 ⟨z2,u2,f2 a1⟩ 0 O O
  rintro b ⟨z2,u2,f2⟩;refine Va 6 O tO (zr2 tc114 O JA (Va 8 O tO (zr2 tc114 O JA (Va 7 O tO (zr2 tc114 O JA (Va 9 O tO (V.back (i+1) (Sub.cons (xQ O (by rw[dt];exact zau hC.1 y.1 z1 f1)) (Sub.cons (xQ O (by rw[dt];exact zau hC.2.1 y.2.1 z2 f2)) (Sub.cons (xQ O (by rw[dt];exact zau hC.2.2 y.2.2 z3 f3)) YO))) j3 tO tO 0 O O)))))))
 obtain rfl:i=l.length:=tO;refine Vs 16 O (zp1 results65 O O O iS)
open Go.GL
abbrev MsP (m:Nat) (n:Int) (d:Bool):HE:=.own m [.int .i64 n,.bool d] 189
theorem jj (m:Nat) (n:Int) (d:Bool) (w:World) (hB:Blk w m [.int .i64 n,.bool d] 189):Calls prog 119 #[.pointer (some ⟨m,0,none⟩)] w (Ret fun r w'=>r=.bool (d || decide (1024<n))/\Ext w w'):=by
 refine zqq func119 O ntmps119 O (V.inn (V.fr 900 0 O O hB.cells (zqO 0 900 0 O O (Vs 12 O (zqb 7 O (fun k1_=>?_) (fun k1_=>?_))))))
 . refine Vs 10 O (zr9 0 results119 O O tD)
 refine Vs 10 O (zr9 0 results119 O O tD)
theorem zbR (t:Tm):∀ (cs:List Value) (D:Nat->Prop) (W0 W:World) (m:Nat) (n:Int) (d:Bool) (dep:Int),RTm D W0 t cs->EqD D W0 W->(∀ q,D q->q ≠ m)->Blk W m [.int .i64 n,.bool d] 189->0<=n->n+t.nodes<=1024->1<=dep->dep<=13->Calls prog 120 #[.pointer (some ⟨m,0,none⟩),.agg cs.toArray,.int .i64 dep] W (Ret fun r w'=>∃ n':Int,(r=.tuple #[]/\n<=n'/\n'<=n+t.nodes)/\(MsP m n' (d || decide (12<dep+t.depth - 1))).holds w'/\Keep (MsP m n d).S W w'/\∀ q,(MsP m n' (d || decide (12<dep+t.depth - 1))).S q->((MsP m n d).S q\/W.heap.size<=q)/\q<w'.heap.size):=by
 induction t using zqB with
 | h t ih =>
 intro cs D W0 W m n d dep ht da DM hB hn dC dD dE;obtain⟨v,rfl,dl⟩:=ht.get;have hk:=da.to zy dl;obtain⟨av,nv,rfl⟩:=hk.form;have dF:=t.nodes_eq;have dG:=t.depth_eq;have dm:∀ q,(MsP m n d).S q->¬ D q:=fun q h hd=>DM q hd h;refine zqs func120 O ntmps120 O (zrA 900 (.own m [.int .i64 n,.bool d] 189) (hB) trivial (fun _ h=>h) (fun q hq=>by have hq:q=m:=hq;subst hq;exact hB.lt) (zqO 0 900 0 O O (Vs 2 O (V.box 4 O O (fun b4=>?_)))));refine Va 15 O tO (zrm (σ:=Unit) [0,2,4] [4] [0,4] O (fun e u=>e) (fun e u=>(900,.own m [.int .i64 (n+1),.bool (d || decide (12<dep))] 189)::e) (fun u=>True) j1 j1 ?_ ?_)
 .
  refine Vs 7 O (zqb 20 O (fun hd=>?_) (fun hd=>?_))
  . refine Vs 7 O Uy
  refine Vs 7 O Uy
 rintro u _;refine zqO 0 900 0 O O (Vs 5 O (zr2 call119 O (fun w hI=>jj m _ _ w (hI.at 900 O)) ?_));rw[show (decide (1024<n+1))=false from zt4 tO,ztI];refine Vs 2 O (V.bool O (fun hov=>?_) (fun hov=>?_))
 .
  have e:(d || decide (12<dep+(t.depth:Int) - 1))=(d || decide (12<dep)):=by
   grind
  refine Vs 2 O (zpa results120 (fun w hI=>⟨_,rfl,n+1,⟨rfl,tO,tO⟩,by rw[e];exact hI.at 900 rfl,hI.k0,fun q hq=>hI.inS 0 900 O O hq⟩))
 have dH:d=false/\¬ 12<dep:=by revert hov;cases d<;>simp
 have db:(d || decide (12<dep+(t.depth:Int) - 1))=decide (12<dep+(tdepth t.kids:Int)):=by
  grind
 have dr:=zby t.kids;refine Vs 11 O (zrk 900 O (e':=.own m [.int .i64 (n+1),.bool (decide (12<dep+(tdepth (t.kids.take 0):Int)))] 189) (by rw[hov,zt4 (by simp[tdepth];omega)]) (zrl (σ:=Nat × Int) [0,2,29,30] [] [0] O (fun e ⟨i,z⟩=>(31,.int .i64 i)::e) (fun e ⟨i,z⟩=>(900,.own m [.int .i64 z,.bool (decide (12<dep+(tdepth (t.kids.take i):Int)))] 189)::e) (fun⟨i,z⟩=>i<=t.kids.length/\n<=z/\z<=n+1+tnodes (t.kids.take i)) (fun⟨i,z⟩=>t.kids.length - i) (0,n+1) j2 j3 j1 j1 j1 ⟨zt6 _,tO,tO⟩ ?_));rintro⟨i,z⟩ ⟨hi,dt,du⟩;refine Vs 6 O (zoE O (fun dw=>?_) (fun dw=>?_))
 .
  refine Vs 6 O (zrh 1000 0 i tO hk O O O (fun b_ d_ h_=>by have dx:=dm _ h_;first | omega | exact dx d_) (fun x dI dJ dK hC dc dg dy dh=>?_));obtain⟨dz,rfl,hY⟩:=dh.get;obtain⟨dA,dB,rfl⟩:=hY.form;refine zqQ 1000 tR68 ts70 O dg tO _ rfl O ?_;have dL:=xR hC;have dM:=ku hC
  have dN:(decide (12<dep+(tdepth (t.kids.take i):Int)) || decide (12<dep+1+(x.depth:Int) - 1))=decide (12<dep+(tdepth (t.kids.take (i+1)):Int)):=by
   rw[zbu hC,<- Bool.decide_or,ztj];omega
  refine Vs 1 O (V.alloc 7 tz70 O O (fun b7=>?_));refine Va 8 O tO (zrM [900] (Hn:=fun v_:Int=>[(900,.own m [.int .i64 v_,.bool (decide (12<dep+(tdepth (t.kids.take i):Int)) || decide (12<dep+1+(x.depth:Int) - 1))] 189)]) [(0,some (900,0)),(7,some (7,0)),(33,some (1000,0)),(35,some (900,0))] call120 O iA j1 (fun w hI=>zbt (k:=900) O iF (ih x dc _ D W0 w m z _ (dep+1) (RTm.put (da.back zy hY)) (da.keep hI.k0 (fun b hb=>da.lt hb) (fun b hb hs=>DM b hb hs)) DM (hI.at 900 O) tO tO tO tO)) ?_);rintro _ z2 ⟨rfl,h1,h2⟩;refine Va 7 O tO (zrk 900 O (e':=.own m [.int .i64 z2,.bool (decide (12<dep+(tdepth (t.kids.take (i+1)):Int)))] 189) tD (V.back ⟨i+1,z2⟩ j2 j3 ⟨tO,tO,tO⟩ tD 0 O O))
 obtain rfl:i=t.kids.length:=tO;rw[zsW]at du;refine zrk 900 O (e':=.own m [.int .i64 z,.bool (decide (12<dep+(tdepth t.kids:Int)))] 189) tD (Vs 4 O (zpa results120 (fun w hI=>⟨_,rfl,z,⟨rfl,dt,tO⟩,by rw[db];exact hI.at 900 rfl,hI.k0,fun q hq=>hI.inS 0 900 O O hq⟩)))
def yI (dep:Int) (l:List St):Bool:=decide (12<dep+sdepth l - 1) || stdeep l
theorem zh9 {l:List St} {x:St} (h:x ∈ l):1<=sdepth l:=by
 obtain⟨i,hi⟩:=zv5.1 h
 conv=>rhs;rw[yH hi]
 rw[jb,sdepth,St.depth_eq];omega
theorem zha {dep:Int} {l:List St} (h:yI dep (l.take i)=true):yI dep l=true:=by
 unfold yI at *
 have h1:sdepth (l.take i)<=sdepth l:=by
  conv=>rhs;rw[<- zvz i l]
  rw[jb];omega
 have h2:stdeep (l.take i)=true->stdeep l=true:=by
  intro h;rw[<- zvz i l,jc,h];rfl
 rw[ztH,decide_eq_true_eq]at *;rcases h with h | h
 . left;omega
 exact .inr (h2 h)
theorem zeu (l:List St):∀ (v:Value) (D:Nat->Prop) (W0 W:World) (m:Nat) (n:Int) (d:Bool) (dep:Int),SlR 10 RSt D W0 v l->EqD D W0 W->(∀ q,D q->q ≠ m)->Blk W m [.int .i64 n,.bool d] 189->0<=n->n+snodes l<=1024->1<=dep->dep<=13->Calls prog 118 #[.pointer (some ⟨m,0,none⟩),v,.int .i64 dep] W (Ret fun r w'=>∃ n':Int,(r=.tuple #[]/\n<=n'/\n'<=n+snodes l)/\(MsP m n' (d || yI dep l)).holds w'/\Keep (MsP m n d).S W w'/\∀ q,(MsP m n' (d || yI dep l)).S q->((MsP m n d).S q\/W.heap.size<=q)/\q<w'.heap.size):=by
 induction l using zqD with
 | h l ih =>
 intro v D W0 W m n d dep dt da DM hB hn dN dO dQ;have hl:=da.to zf dt;have dR:=hl.max;obtain⟨av,nv,rfl⟩:=hl.form;have du:∀ q,(MsP m n d).S q->¬ D q:=fun q h hd=>DM q hd h;have dw:=zdd l
 have dS:(d || yI dep (l.take 0))=d:=by
  have:yI dep (l.take 0)=false:=by unfold yI;simp[sdepth,stdeep];omega
  grind
 refine zqs func118 O ntmps118 O (zrA 900 (.own m [.int .i64 n,.bool d] 189) (hB) trivial (fun _ h=>h) (fun q hq=>by have hq:q=m:=hq;subst hq;exact hB.lt) (zqO 0 900 0 O O (Vs 8 O (zrk 900 O (e':=.own m [.int .i64 n,.bool (d || yI dep (l.take 0))] 189) tD (zrl (σ:=Nat × Int) [0,2,8,9] [] [0] O (fun e ⟨i,z⟩=>(10,.int .i64 i)::e) (fun e ⟨i,z⟩=>(900,.own m [.int .i64 z,.bool (d || yI dep (l.take i))] 189)::e) (fun⟨i,z⟩=>i<=l.length/\n<=z/\z<=n+snodes (l.take i)) (fun⟨i,z⟩=>l.length - i) (0,n) j2 j3 j1 j1 j1 ⟨zt6 _,tO,tO⟩ ?_)))));rintro⟨i,z⟩ ⟨hi,dx,dr⟩;refine zqO 0 900 0 O O (Vs 6 O (zoE O (fun dy=>?_) (fun dy=>?_)))
 .
  refine Vs 6 O (zrh 1000 0 i tO hl O O O (fun b_ d_ h_=>by have dz:=du _ h_;first | omega | exact dz d_) (fun x dT dU dV hC hY dh dA dl=>?_));obtain⟨dB,dC,dD,dE,rfl,db,dc,dg,dm⟩:=dl.get;obtain⟨dF,dG,rfl⟩:=db.form;obtain⟨dH,dI,rfl⟩:=dc.form;obtain⟨dJ,dK,rfl⟩:=dg.form;obtain⟨dL,dM,rfl⟩:=dm.form;refine zqQ 1000 tR24 ts72 O dh tO _ rfl O ?_;have dW:=qx hC;have dX:=zbv hC;have dY:=x.nodes_eq;refine Vs 1 O (V.alloc 7 tz72 O O (fun b7=>?_));refine Va 16 O tO (zrm (σ:=Unit) [0,2,7,8,9,10] [7] [0,7] O (fun e u=>e) (fun e u=>(900,.own m [.int .i64 (z+1),.bool ((d || yI dep (l.take i)) || decide (12<dep))] 189)::e) (fun u=>True) j1 j1 ?_ ?_)
  .
   refine Vs 7 O (zqb 26 O (fun hd=>?_) (fun hd=>?_))
   . refine Vs 7 O Uv
   refine Vs 7 O Uv
  rintro u _;refine zqO 0 900 0 O O (Vs 5 O (zr2 call119 O (fun w hI=>jj m _ _ w (hI.at 900 O)) ?_));rw[show (decide (1024<z+1))=false from zt4 tO,ztI];refine Vs 2 O (V.bool O (fun hov=>?_) (fun hov=>?_))
  .
   have e:(d || yI dep l)=((d || yI dep (l.take i)) || decide (12<dep)):=by
    rw[hov];simp only[ztH,decide_eq_true_eq]at hov ⊢;rcases hov with (h | h) | h
    . grind
    . exact .inr (zha h)
    right;unfold yI;rw[zt3 (by have:=zh9 hY;omega)];rfl
   refine Vs 6 O (zpa results118 (fun w hI=>⟨_,rfl,z+1,⟨rfl,tO,tO⟩,by rw[e];exact hI.at 900 rfl,hI.k0,fun q hq=>hI.inS 0 900 O O hq⟩))
  rw[hov];simp only[ztG,decide_eq_false_iff_not]at hov;have hK:∀ {w:World},Keep (MsP m n d).S W w->EqD D W0 w:=fun h=>da.keep h (fun b hb=>da.lt hb) (fun b hb hs=>DM b hb hs);refine Vs 7 O (zrM [900] (Hn:=fun v_:Int=>[(900,.own m [.int .i64 v_,.bool (false || decide (12<1+(x.term.depth:Int) - 1))] 189)]) [(0,some (900,0)),(7,some (7,0)),(32,some (900,0)),(34,some (900,0)),(35,some (7,4))] call120 O iA j1 (fun w hI=>zbt (k:=900) O iF (zbR x.term _ D W0 w m _ _ 1 (RTm.put (da.back zy db)) (hK hI.k0) DM (hI.at 900 O) tO tO tO tO)) ?_);rintro _ z2 ⟨rfl,h1,h2⟩;refine Va 9 O tO (zrM [900] (Hn:=fun v_:Int=>[(900,.own m [.int .i64 v_,.bool ((false || decide (12<1+(x.term.depth:Int) - 1)) || yI (dep+1) x.thn)] 189)]) [(0,some (900,0)),(7,some (7,0)),(32,some (900,0)),(34,some (900,0)),(35,some (7,4)),(38,some (900,0)),(39,some (7,7))] call118 O iA j1 (fun w hI=>zbt (k:=900) O iF ((ih x hY).1 _ D W0 w m _ _ (dep+1) (da.back zf dc) (hK hI.k0) DM (hI.at 900 O) tO tO tO tO)) ?_);rintro _ z3 ⟨rfl,h3,h4⟩;refine Va 8 O tO (zrM [900] (Hn:=fun v_:Int=>[(900,.own m [.int .i64 v_,.bool (((false || decide (12<1+(x.term.depth:Int) - 1)) || yI (dep+1) x.thn) || yI (dep+1) x.els)] 189)]) [(0,some (900,0)),(7,some (7,0)),(32,some (900,0)),(34,some (900,0)),(35,some (7,4)),(38,some (900,0)),(39,some (7,7)),(44,some (900,0)),(45,some (7,8))] call118 O iA j1 (fun w hI=>zbt (k:=900) O iF ((ih x hY).2 _ D W0 w m _ _ (dep+1) (da.back zf dg) (hK hI.k0) DM (hI.at 900 O) tO tO tO tO)) ?_);rintro _ z4 ⟨rfl,h5,h6⟩
  have hb:(((false || decide (12<1+(x.term.depth:Int) - 1)) || yI (dep+1) x.thn) || yI (dep+1) x.els)=(d || yI dep (l.take (i+1))):=by
   have h9:=hov.1.2;unfold yI at h9 ⊢;rw[ztG,decide_eq_false_iff_not]at h9;rw[hov.1.1,zbw hC,zbx hC,h9.2,St.tdeep_eq,St.depth_eq,ztC];simp only[ztH,decide_eq_true_eq,ztE];generalize stdeep x.thn=q1;generalize stdeep x.els=q2;cases q1<;>cases q2<;>simp<;>omega
  refine Va 7 O tO (zrk 900 O (e':=.own m [.int .i64 z4,.bool (d || yI dep (l.take (i+1)))] 189) (by rw[hb]) (V.back ⟨i+1,z4⟩ j2 j3 ⟨tO,tO,tO⟩ tZ 0 O O))
 obtain rfl:i=l.length:=tO;rw[zsW]at dr;refine zrk 900 O (e':=.own m [.int .i64 z,.bool (d || yI dep l)] 189) (by rw[zsW]) (Vs 4 O (zpa results118 (fun w hI=>⟨_,rfl,z,⟨rfl,dx,dr⟩,hI.at 900 rfl,hI.k0,fun q hq=>hI.inS 0 900 O O hq⟩)))
end Go.Proofs.YtckdhgbepmpgiaaGreat
namespace Go.GL
structure MI where
 i:Nat
 o:Oper
 d:Nat
 dp:List Nat
 q:Bool
 Φ:(Nat->Value)->Value->Hp->Prop
abbrev MK:=Nat × Nat × List Nat × Bool
def MI.key (x:MI):MK:=(x.i,x.d,x.dp,x.q)
def zil (x:MK) (J:List MK):Bool:=x.2.2.1.all fun m=>J.all fun y=>!Nat.beq y.2.1 m
def zkr (i:Nat) (J:List MK):List MK:=J.filter fun y=>!Nat.beq y.1 i
def zm3 (ops:Array Oper) (l:Array Bool) (x:MK):Bool:=x.2.2.2&&(Region.noSelect ops&&Region.free .any ops l x.1&&(Region.ready .any ops l).contains x.1)
def zks (i:Nat):List MK->Option MK
 | []=>none
 | y::r=>cond (Nat.beq y.1 i) (some y) (zks i r)
def zaN (ops:Array Oper) (L3:Array Bool):Nat->List MK->Array Bool->Bool
 | 0,J,l=>J.isEmpty&&(l == L3)
 | k+1,J,l=>match J.find? (zm3 ops l) with
  | some x=>zil x J&&zaN ops L3 k (zkr x.1 J) (l.setIfInBounds x.1 true)
  | none=>!(Region.ready .any ops l).isEmpty&&(Region.ready .any ops l).all fun j=>match zks j J with
   | some x=>!x.2.2.2&&zil x J&&zaN ops L3 k (zkr x.1 J) (l.setIfInBounds x.1 true)
   | none=>false
theorem zev {i:Nat}:∀ {J:List MK} {x:MK},zks i J=some x->x ∈ J/\x.1=i
 | [],_,h=>by cases h
 | y::r,x,h=>by
  simp only[zks]at h;cases hb:Nat.beq y.1 i with
  | true=>rw[hb]at h;cases h;exact⟨zsV ..,zsY hb⟩
  | false=>rw[hb]at h;obtain⟨h1,h2⟩:=zev h;exact⟨zsU _ h1,h2⟩
structure Dn (w w':World) (hx:Hp) (lo hi:Nat):Prop where
 p0:w.heap.size<=lo
 le:lo<=hi
 p1:hi<=w'.heap.size
 ok:∀ z ∈ hx,z.2.holds w'/\z.2.loc/\(∀ b,¬ z.2.fz b)/\∀ q,z.2.S q->lo<=q/\q<hi
 apart:hx.Pairwise (fun x y=>∀ q,x.2.S q->¬ y.2.S q)
theorem Dn.ext {w2:World} {lo hi:Nat} (h:Dn w w' hx lo hi) (hk:Ext w' w2):Dn w w2 hx lo hi :=
 ⟨h.p0,h.le,zsX h.p1 hk.size,fun z hz=>by
  obtain⟨h1,h2,h3,h4⟩:=h.ok z hz
  exact⟨HE.keep h1 h2 hk (fun _ _ h=>h) (fun _ _ h=>h),h2,h3,h4⟩,h.apart⟩
theorem zbS (h:Hands [] [] hx w w'):Ext w w':=h.keep.mono fun q _ ⟨x,hx,_⟩=>tD
theorem Dn.of {a a':World} (hk:Ext w a) (h:Hands [] [] hx a a'):Dn w a' hx a.heap.size a'.heap.size :=
 ⟨hk.size,(zbS h).size,ztg _,fun z hz=>by
  obtain⟨h1,h2,h3,h4⟩:=h.ok z hz;refine⟨h1,h2,h3,fun q hq=>⟨?_,(h4 q hq).2⟩⟩;rcases (h4 q hq).1 with⟨x,hx,_⟩ | h5
  . cases hx
  .
   exact h5,h.apart⟩
theorem zew:∀ H:Hp,yM [] H=H
 | []=>rfl
 | x::r=>by show x::yM [] r=x::r;rw[zew r]
theorem zim {lo hi:Nat->Nat} (hI:VI Bs H w) (hk:Ext w w') (K:List Nat) (hC:K.Nodup) (hd:∀ m ∈ K,Dn w w' (hn m) (lo m) (hi m)) (da:∀ m ∈ K,∀ m' ∈ K,m ≠ m'->hi m<=lo m'\/hi m'<=lo m):VI Bs (K.flatMap hn++H) w':=by
 have hh:Hands H [] (K.flatMap hn) w w':=by
  refine⟨hk.mono fun q _ h=>h.elim,fun z hz=>?_,?_⟩
  .
   obtain⟨m,hm,hz⟩:=zv3.1 hz;obtain⟨h1,h2,h3,h4⟩:=(hd m hm).ok z hz;exact⟨h1,h2,h3,fun q hq=>⟨.inr (zsX (hd m hm).p0 (h4 q hq).1),zvP (h4 q hq).2 (hd m hm).p1⟩⟩
  clear hI;induction K with
  | nil=>exact List.Pairwise.nil
  | cons m r ih =>
   rw[zvd]at hC;rw[zur];refine zvg.2 ⟨(hd m (zsV ..)).apart,ih hC.2 (fun x hx=>hd x (zsU _ hx)) (fun x hx y hy=>da x (zsU _ hx) y iu),fun x hx y hy q hq db=>?_⟩;obtain⟨m',hY,hy⟩:=zv3.1 hy;have g1:=((hd m (zsV ..)).ok x hx).2.2.2 q hq;have g2:=((hd m' (zsU _ hY)).ok y hy).2.2.2 q db;rcases da m (zsV ..) m' (zsU _ hY) (fun e=>hC.1 (e ▸ hY)) with h | h<;>omega
 have:=hI.hands hh;rw[zew]at this;exact this
theorem zin {env:Env} {val:Nat->Value}:∀ (D:List Nat) (m:Nat) (v:Value),get (D.map (fun d=>(d,val d))++env) m=some v->(m ∈ D/\v=val m)\/get env m=some v
 | [],_,_,h=>.inr h
 | d::r,m,v,h=>by
  rw[zuV,zu3]at h;simp only[GL.get]at h;cases hb:Nat.beq d m with
  | true =>
   rw[hb]at h;have e:=zsY hb;subst e;exact .inl ⟨zsV ..,(Option.some.inj h).symm⟩
  | false =>
   rw[hb]at h;rcases zin r m v h with⟨h1,h2⟩ | h1
   . grind
   grind
section
variable {n:Fm} {Q:Exit->Act->World->Prop} {ks:List Fr} {A:Tgs} {Hs:Hp} {B0:zn} {L:List Nat}
abbrev MI.Ds (I:List MI) (x:MI) (val:Nat->Value) (hn:Nat->Hp):Prop:=∀ y ∈ I,y.d ∈ x.dp->y.Φ val (val y.d) (hn y.d)
theorem zmo {I:List MI} {x:MI} {J:List MI} (_:(I.map (·.d)).Nodup) (_:∀ y ∈ J,y ∈ I) (h:zil x.key (J.map MI.key)=true) {y:MI} (_:y ∈ I) (hd:y.d ∈ x.dp):y ∉ J:=by
 intro hC;unfold zil at h;rw[ztX]at h;have:=h y.d hd;rw[ztX]at this;have:=this y.key (zv6.2 ⟨y,hC,rfl⟩);simp[MI.key,]at this
theorem zrW (j:Nat) (I:List MI) (L3:Array Bool) (hI:∀ x ∈ I,ops[x.i]?=some x.o/\x.o.guard=none/\x.o.dst=some x.d/\Nat.blt x.d n=true/\get env x.d=none/\∀ m ∈ x.dp,m ∈ I.map (·.d))
  (dm:(I.map (·.d)).Nodup) (dH:(I.map (·.i)).Nodup) (dI:∀ x ∈ I,x.dp.Nodup) (hr:zaN ops L3 I.length (I.map MI.key) listed=true) (hB:Bs.drop j=B0) (hu:xX (Hs.map (·.1))=true)
  (hΦ:∀ x ∈ I,∀ val val' v hx,(∀ m ∈ x.dp,val m=val' m)->x.Φ val v hx->x.Φ val' v hx)
  (hc:∀ x ∈ I,x.q=false->∀ val hn,x.Ds I val hn->∀ w,VI Bs (x.dp.flatMap hn++H) w->Does P x.o (x.dp.map (fun m=>(m,val m))++env) w (fun v w'=>∃ hx,x.Φ val v hx/\Hands [] [] hx w w'))
  (hq:∀ x ∈ I,x.q=true->∀ val hn,x.Ds I val hn->∃ v,x.Φ val v []/\∀ w,yu P x.o (x.dp.map (fun m=>(m,val m))++env) w v w)
  (h:∀ val hn,(∀ x ∈ I,x.Φ val (val x.d) (hn x.d))->Hs.map (fun y=>hget ((I.map (·.d)).flatMap hn++H) y.1)=Hs.map (fun y=>some y.2)/\VD P n Q ks ops Hs B0 L fuel L3 (I.map (fun x=>(x.d,val x.d))++env) [] ((I.map (·.d)).flatMap hn++H) Bs) :
  VD P n Q ks ops Hs B0 L (fuel+I.length) listed env A H Bs:=by
 subst hB;intro hH _ w hw
 have key:∀ (k:Nat) (J:List MI) (listed:Array Bool) (env':Env) (w':World) (val:Nat->Value) (hn:Nat->Hp) (lo hi:Nat->Nat),(∀ x ∈ J,x ∈ I)->zaN ops L3 k (J.map MI.key) listed=true->Ext w w'->Sub env env' ->
   (∀ x ∈ I,x ∉ J->get env' x.d=some (val x.d)/\x.Φ val (val x.d) (hn x.d)/\Dn w w' (hn x.d) (lo x.d) (hi x.d)/\∀ m ∈ x.dp,∀ y ∈ I,y.d=m->y ∉ J)->(∀ x ∈ I,x ∉ J->∀ y ∈ I,y ∉ J->x.d ≠ y.d->hi x.d<=lo y.d\/hi y.d<=lo x.d) ->
   WD P n ops (QK P Q ks) (VI (Bs.drop j) Hs) L (fuel+k) listed env' w':=by
  intro k;induction k with
  | zero =>
   intro J listed env' w' val hn lo hi hJ ho hE da hC dB;rw[zaN,ztA,zuM,List.map_eq_nil_iff]at ho;obtain⟨rfl,ho⟩:=ho;have e:listed=L3:=tD;rw[e];have dr:∀ x ∈ I,x ∉ ([]:List MI):=fun x _=>tR;obtain⟨g1,g2⟩:=h val hn fun x hx=>(hC x hx (dr x hx)).2.1
   have dJ:VI Bs ((I.map (·.d)).flatMap hn++H) w':=zim hw hE _ dm (fun m hm=>by
    obtain⟨x,hx,rfl⟩:=zv6.1 hm;exact(hC x hx (dr x hx)).2.2.1) (fun m hm m' dK dg=>by
    grind)
   refine(g2 (Has.of g1) TgOk.nil w' dJ).sub ?_;intro m v hv;have dC:get (I.map (fun x=>(x.d,val x.d))++env) m=some v:=hv;rw[show (I.map fun x=>(x.d,val x.d))=(I.map (·.d)).map (fun d=>(d,val d)) by rw[zuW];rfl]at dC;rcases zin _ m v dC with⟨h1,h2⟩ | h1
   . grind
   exact da m v h1
  | succ k ih =>
   intro J listed env' w' val hn lo hi hJ ho hE da hC dB
   have one:∀ x ∈ J,zil x.key (J.map MI.key)=true->zaN ops L3 k (zkr x.i (J.map MI.key)) (listed.setIfInBounds x.i true)=true ->
     (Sub (x.dp.map (fun m=>(m,val m))++env) env'/\x.Ds I val hn/\VI Bs (x.dp.flatMap hn++H) w') /\
     ∀ v w2 hx,x.Φ val v hx->Hands [] [] hx w' w2->WD P n ops (QK P Q ks) (VI (Bs.drop j) Hs) L (fuel+k) (listed.setIfInBounds x.i true) ((x.d,v)::env') w2:=by
    intro x hx dx dL;have dh:=hJ x hx
    have dO:∀ m ∈ x.dp,∃ y ∈ I,y.d=m/\y ∉ J:=fun m hm=>by
     obtain⟨y,hy,e⟩:=zv6.1 ((hI x dh).2.2.2.2.2 m hm);exact⟨y,hy,e,zmo dm hJ dx hy tD⟩
    refine⟨⟨?_,fun y hy hd=>(hC y hy (zmo dm hJ dx hy hd)).2.1,zim (lo:=lo) (hi:=hi) hw hE _ (dI x dh) (fun m hm=>?_) (fun m hm m' dK dg=>?_)⟩,?_⟩
    .
     intro m v hv;rcases zin _ m v hv with⟨h1,h2⟩ | h1
     . grind
     exact da m v h1
    . grind
    . grind
    intro v w2 dy hv hh;have k2:=zbS hh;have dg:∀ y ∈ I,y ∉ J->y.d ≠ x.d:=fun y hy db e=>db (by rw[zbD dm hy dh e];exact hx)
    have dl:∀ z ∈ I,z ∉ J.filter (fun y=>!Nat.beq y.i x.i)->z=x\/z ∉ J:=by
     intro z hz dt;by_cases hY:z ∈ J
     .
      left;cases e:Nat.beq z.i x.i with
      | true=>exact zbD dH hz dh (zsY e)
      | false=>exact absurd (zv2.2 ⟨hY,tD⟩) dt
     grind
    have du:∀ z ∈ I,(z=x\/z ∉ J)->∀ m ∈ z.dp,val m=(if m=x.d then v else val m):=by
     grind
    refine ih (J.filter (fun y=>!Nat.beq y.i x.i)) (listed.setIfInBounds x.i true) ((x.d,v)::env') w2 (fun m=>if m=x.d then v else val m) (fun m=>if m=x.d then dy else hn m) (fun m=>if m=x.d then w'.heap.size else lo m) (fun m=>if m=x.d then w2.heap.size else hi m) (fun z hz=>hJ z (zv2.1 hz).1) ?_ (hE.ext k2) ?_ ?_ ?_
    .
     have:=dL;unfold zkr at this;rw[List.filter_map]at this;exact this
    .
     intro m u dz;simp only[GL.get];cases hb:Nat.beq x.d m with
     | true =>
      have e:=zsY hb;rw[<- e,(hI x dh).2.2.2.2.1]at dz;cases dz
     | false=>exact da m u dz
    .
     intro z hz dt;have dD:=dl z hz dt
     have dE:∀ m ∈ z.dp,∀ y ∈ I,y.d=m->y ∉ J.filter (fun y=>!Nat.beq y.i x.i):=by
      intro m hm y hy e dM;have db:=(zv2.1 dM).1;rcases dD with rfl | hY
      . exact zmo dm hJ dx hy tD db
      grind
     rcases dD with rfl | hY
     .
      refine⟨by simp[GL.get,],?_,?_,dE⟩
      .
       simp only[if_true];exact hΦ _ dh _ _ _ _ (du _ dh (.inl O)) hv
      simp only[if_true];exact Dn.of hE hh
     have dF:=dg z hz hY;simp only[dF,if_false];obtain⟨g1,g2,g3,g4⟩:=hC z hz hY;refine⟨?_,hΦ z hz _ _ _ _ (du z hz (.inr hY)) g2,g3.ext k2,dE⟩;simp only[GL.get];cases hb:Nat.beq x.d z.d with
     | true=>exact absurd (zsY hb).symm dF
     | false=>exact g1
    intro z hz dt y hy dN dG;rcases dl z hz dt with rfl | hY<;>rcases dl y hy dN with rfl | db
    . exact absurd O dG
    .
     simp only[dg y hy db,if_false,if_true];exact .inr (hC y hy db).2.2.1.p1
    .
     simp only[dg z hz hY,if_false,if_true];exact .inl (hC z hz hY).2.2.1.p1
    simp only[dg z hz hY,dg y hy db,if_false];exact dB z hz hY y hy db dG
   have dc:∀ y ∈ J.map MI.key,∃ x ∈ J,x.key=y:=fun y hy=>by
    obtain⟨x,hx,e⟩:=zv6.1 hy;exact⟨x,hx,e⟩
   rw[zaN]at ho;split at ho
   .
    rename_i y hy;obtain⟨x,hx,rfl⟩:=dc y (zv7 hy);have dw:=List.find?_some hy;unfold zm3 at dw;rw[ztA]at dw;rw[ztA]at ho;obtain⟨⟨g1,g2,_⟩,g3⟩:=one x hx ho.1 ho.2;obtain⟨q1,q2,q3,q4,_⟩:=hI x (hJ x hx);obtain⟨v,hv,dA⟩:=hq x (hJ x hx) dw.1 val hn g2;exact zqu x.i q1 dw.2 q3 q4 (.inl ⟨fun a _=>by simp[Region.wanted,q2],fun w3 m a ha=>dA w3 m a (ha.sub g1)⟩) (g3 v w' [] hv ⟨Keep.refl _ _,fun z hz=>(by cases hz),List.Pairwise.nil⟩)
   intro a ha;rw[ztA,ztX]at ho;refine⟨fun h0=>(by rw[h0]at ho;simp at ho),fun i hi=>?_⟩;have h1:=ho.2 i hi;split at h1
   .
    rename_i y hy;obtain⟨h2,h3⟩:=zev hy;obtain⟨x,hx,rfl⟩:=dc y h2;have h3:x.i=i:=h3;subst h3;rw[ztA,ztA,ztF]at h1;obtain⟨⟨g1,g2,g4⟩,g3⟩:=one x hx h1.1.2 h1.2;obtain⟨q1,q2,q3,q4,_⟩:=hI x (hJ x hx);refine zml q1 q2 q3 ha ((hc x (hJ x hx) h1.1.1 val hn g2 w' g4).sub g1) ?_;rintro v w2 ⟨dy,hv,hh⟩;have k2:=zbS hh;exact⟨fun _ _=>((hw.ext (hE.ext k2)).drop j).pick hH hu,g3 v w2 dy hv hh _ (ha.put q4)⟩
   cases h1
 exact key I.length I listed env w (fun _=>undef) (fun _=>[]) (fun _=>0) (fun _=>0) (fun x hx=>hx) hr i3 (Sub.refl _) (fun x hx h=>absurd hx h) (fun x hx h=>absurd hx h)
theorem zrX (A1:Tgs) (hC:A1.map (fun p=>zd7 env p.1)=A1.map (fun p=>jw H p.2)) (hY:A1.all (fun p=>(jw H p.2).isSome)=true) (h:VD P n Q ks ops Hs B0 L fuel listed env A1 H Bs):VD P n Q ks ops Hs B0 L fuel listed env A H Bs:=fun hH _ w hI=>h hH (TgOk.of hC hY) w hI
end
abbrev Ph:=(Nat->Value)->Value->Hp->Prop
abbrev Psi:=Nat->Ph
def psi:List (Nat × Ph)->Psi
 | [],_=>fun _ _ _=>False
 | (k,f)::r,m=>match Nat.beq k m with
  | true=>f
  | false=>psi r m
def zdq (Ψ:Psi) (val:Nat->Value) (hn:Nat->Hp):List Nat->Prop
 | []=>True
 | m::r=>Ψ m val (val m) (hn m)/\zdq Ψ val hn r
def zm4 (val:Nat->Value):List Nat->Env->Env
 | [],env=>env
 | m::r,env=>(m,val m)::zm4 val r env
def hpD (hn:Nat->Hp):List Nat->Hp->Hp
 | [],H=>H
 | m::r,H=>hn m++hpD hn r H
theorem zbT (val:Nat->Value) (env:Env):∀ D:List Nat,zm4 val D env=D.map (fun m=>(m,val m))++env
 | []=>rfl
 | m::r=>by rw[zm4,zbT val env r];rfl
theorem zgi (hn:Nat->Hp) (H:Hp):∀ D:List Nat,hpD hn D H=D.flatMap hn++H
 | []=>rfl
 | m::r=>by rw[hpD,zgi hn H r,zur,zu0]
theorem dpAll_iff {Ψ:Psi} {val:Nat->Value} {hn:Nat->Hp}:∀ {D:List Nat},zdq Ψ val hn D ↔ ∀ m ∈ D,Ψ m val (val m) (hn m)
 | []=>by simp[zdq]
 | m::r=>by simp only[zdq,List.forall_mem_cons];rw[dpAll_iff]
def zcF:List Nat->Bool
 | []=>true
 | x::r=>r.all (fun y=>!Nat.beq x y)&&zcF r
theorem za5:∀ {l:List Nat},zcF l=true->l.Nodup
 | [],_=>List.Pairwise.nil
 | x::r,h=>by
  rw[zcF,ztA,ztX]at h;refine zvd.2 ⟨fun hx=>?_,za5 h.2⟩;have:=h.1 x hx;simp[]at this
def znw (I:List MK) (env:Env):Bool:=zcF (I.map (·.2.1))&&zcF (I.map (·.1))&&I.all fun x=>(get env x.2.1).isNone&&zcF x.2.2.1&&x.2.2.1.all fun m=>(I.map (·.2.1)).any fun y=>Nat.beq y m
section
variable {n:Fm} {Q:Exit->Act->World->Prop} {ks:List Fr} {A:Tgs} {Hs:Hp} {B0:zn} {L:List Nat} {Ψ:Psi}
def MP (P:Program) (n:Fm) (ops:Array Oper) (env:Env) (H:Hp) (Bs:zn) (Ψ:Psi) (x:MK):Prop:=∃ o,(ops[x.1]?=some o/\o.guard=none/\o.dst=some x.2.1/\Nat.blt x.2.1 n=true)/\(∀ val val' v hx,(∀ m ∈ x.2.2.1,val m=val' m)->Ψ x.2.1 val v hx->Ψ x.2.1 val' v hx) /\
 (x.2.2.2=false->∀ val hn,zdq Ψ val hn x.2.2.1->∀ w,VI Bs (hpD hn x.2.2.1 H) w->Does P o (zm4 val x.2.2.1 env) w (fun v w'=>∃ hx,Ψ x.2.1 val v hx/\Hands [] [] hx w w')) /\
 (x.2.2.2=true->∀ val hn,zdq Ψ val hn x.2.2.1->∃ v,Ψ x.2.1 val v []/\∀ w,yu P o (zm4 val x.2.2.1 env) w v w)
def MPs (P:Program) (n:Fm) (ops:Array Oper) (env:Env) (H:Hp) (Bs:zn) (Ψ:Psi):List MK->Prop
 | []=>True
 | x::r=>MP P n ops env H Bs Ψ x/\MPs P n ops env H Bs Ψ r
theorem MPs.all:∀ {I:List MK},MPs P n ops env H Bs Ψ I->∀ x ∈ I,MP P n ops env H Bs Ψ x
 | y::r,h,x,hx=>by
  rcases zt7.1 hx with rfl | hx
  . exact h.1
  exact MPs.all h.2 x hx
theorem zrY {dp:List Nat} {op:Op} {ty:TypeId} {ps:String} (hi:ops[i]?=some ⟨some d,op,ty,ps,aft,none⟩) (hb:Nat.blt d n=true) (hΦ:∀ val val' v hx,(∀ m ∈ dp,val m=val' m)->Ψ d val v hx->Ψ d val' v hx)
  (hc:∀ val hn,zdq Ψ val hn dp->∀ w,VI Bs (hpD hn dp H) w->Does P ⟨some d,op,ty,ps,aft,none⟩ (zm4 val dp env) w (fun v w'=>∃ hx,Ψ d val v hx/\Hands [] [] hx w w')):MP P n ops env H Bs Ψ (i,d,dp,false) :=
 ⟨_,⟨hi,rfl,rfl,hb⟩,hΦ,fun _=>hc,fun h=>tD⟩
theorem Does.new {o:Oper} {f:Nat->Value} (K:Nat) (h:xd P o env w (fun u w'=>∃ b,u=f b/\New w cs e b w')):Does P o env w (fun v w'=>∃ hx,(∃ b,v=f b/\hx=[(K,HE.own b cs e)])/\Hands [] [] hx w w'):=by
 obtain⟨v,w',hr,b,rfl,h1,h2,h3,h4⟩:=h;refine .inl ⟨_,w',hr,_,⟨b,rfl,rfl⟩,h4.mono fun q _ h=>h.elim,fun z hz=>?_,zvk _ _⟩;rw[zt9]at hz;subst hz;exact⟨h3,trivial,fun _ h=>h,fun q hq=>by have hq:q=b:=hq;exact⟨.inr tO,tO⟩⟩
theorem zio {f:FuncId} {args:Array Value} {Φ:Value->α->Prop} {Hn:α->Hp} (hc:Calls P f args w (Ret fun r w'=>∃ y,Φ r y/\Hands H [] (Hn y) w w')):Calls P f args w (Ret fun r w'=>∃ hx,(∃ y,Φ r y/\hx=Hn y)/\Hands [] [] hx w w'):=by
 refine hc.mono ?_;rintro _ w' ⟨r,rfl,y,h1,h2⟩;refine⟨r,rfl,_,⟨y,h1,rfl⟩,h2.keep.mono fun q _ ⟨x,_,h,_⟩=>by simp[zgZ]at h,fun z hz=>?_,h2.apart⟩;obtain⟨g1,g2,g3,g4⟩:=h2.ok z hz;refine⟨g1,g2,g3,fun q hq=>⟨.inr ?_,(g4 q hq).2⟩⟩;rcases (g4 q hq).1 with⟨x,_,h,_⟩ | h
 . simp[zgZ]at h
 exact h
theorem zrZ (fuel j:Nat) (I:List MK) (Ψ:Psi) (hr:zaN ops (ze5 (I.map (·.1)) listed) I.length I listed=true) (hs:znw I env=true) (hB:Bs.drop j=B0) (hu:xX (Hs.map (·.1))=true) (hM:MPs P n ops env H Bs Ψ I)
  (h:∀ val hn,zdq Ψ val hn (I.map (·.2.1))->Hs.map (fun y=>hget (hpD hn (I.map (·.2.1)) H) y.1)=Hs.map (fun y=>some y.2)/\VD P n Q ks ops Hs B0 L fuel (ze5 (I.map (·.1)) listed) (zm4 val (I.map (·.2.1)) env) [] (hpD hn (I.map (·.2.1)) H) Bs) :
  VD P n Q ks ops Hs B0 L (fuel+I.length) listed env A H Bs:=by
 unfold znw at hs;simp only[ztA,ztX,ztZ,zw1]at hs;obtain⟨⟨s1,s2⟩,s3⟩:=hs
 let mk:MK->MI:=fun x=>⟨x.1,(ops[x.1]?).getD ⟨none,.nilCheck (.tmp 0),0, "",#[],none⟩,x.2.1,x.2.2.1,x.2.2.2,Ψ x.2.1⟩
 have e1:(I.map mk).map (·.d)=I.map (·.2.1):=by rw[zuW];rfl
 have e2:(I.map mk).map (·.i)=I.map (·.1):=by rw[zuW];rfl
 have e3:(I.map mk).map MI.key=I:=by rw[zuW];exact List.map_id'' (fun x=>rfl) I
 have e4:(I.map mk).length=I.length:=ztb ..
 have hY:∀ x ∈ I,∀ val hn,MI.Ds (I.map mk) (mk x) val hn->zdq Ψ val hn x.2.2.1:=fun x hx val hn hD=>dpAll_iff.2 fun m hm=>by
  obtain⟨y,hy,he⟩:=(s3 x hx).2 m hm;obtain⟨z,hz,rfl⟩:=zv6.1 hy;have he:=zsY he;have:=hD (mk z) (zv6.2 ⟨z,hz,rfl⟩) tD
  grind
 rw[<- e4];refine zrW j (I.map mk) (ze5 (I.map (·.1)) listed) ?_ (by rw[e1];exact za5 s1) (by rw[e2];exact za5 s2) ?_ tD hB hu ?_ ?_ ?_ ?_
 .
  intro y hy;obtain⟨x,hx,rfl⟩:=zv6.1 hy;obtain⟨o,⟨h1,h2,h3,h4⟩,_⟩:=hM.all x hx;have ho:(mk x).o=o:=tD;refine⟨tD,tD,tD,h4,(s3 x hx).1.1,fun m hm=>?_⟩;rw[e1];obtain⟨z,hz,he⟩:=(s3 x hx).2 m hm;rw[<- zsY he];exact hz
 .
  intro y hy;obtain⟨x,hx,rfl⟩:=zv6.1 hy;exact za5 (s3 x hx).1.2
 .
  intro y hy;obtain⟨x,hx,rfl⟩:=zv6.1 hy;obtain⟨o,_,h2,_⟩:=hM.all x hx;exact h2
 .
  intro y hy hq val hn hD w hw;obtain⟨x,hx,rfl⟩:=zv6.1 hy;obtain⟨o,⟨h1,_⟩,_,h3,_⟩:=hM.all x hx;have ho:(mk x).o=o:=by show (ops[x.1]?).getD _=o;rw[h1];rfl
  have:=h3 hq val hn (hY x hx val hn hD) w (by rw[zgi];exact hw);rw[zbT]at this;rw[ho];exact this
 .
  intro y hy hq val hn hD;obtain⟨x,hx,rfl⟩:=zv6.1 hy;obtain⟨o,⟨h1,_⟩,_,_,h4⟩:=hM.all x hx;have ho:(mk x).o=o:=by show (ops[x.1]?).getD _=o;rw[h1];rfl
  have:=h4 hq val hn (hY x hx val hn hD);rw[zbT]at this;rw[ho];exact this
 intro val hn hC
 have:=h val hn (dpAll_iff.2 fun m hm=>by
  obtain⟨x,hx,rfl⟩:=zv6.1 hm
  exact hC (mk x) (zv6.2 ⟨x,hx,rfl⟩))
 rw[zgi,zbT]at this;rw[e1];refine⟨this.1,?_⟩;rw[show (I.map mk).map (fun x=>(x.d,val x.d))=(I.map (·.2.1)).map (fun m=>(m,val m)) by rw[zuW,zuW];rfl];exact this.2
def phA (K:Nat) (cs:List Value) (t:TypeId):Ph:=fun _ v hx=>∃ b,v=.pointer (some ⟨b,0,none⟩)/\hx=[(K,.own b cs t)]
theorem MP.alloc (K:Nat) {ty:TypeId} {ps:String} (hi:ops[i]?=some ⟨some d,.alloc e,ty,ps,aft,none⟩) (hb:Nat.blt d n=true) (hz:∀ w,(zeroValue e).run P w=.ok z w) (hc:z.cells=cs.toArray) (hΨ:Ψ d=phA K cs e):MP P n ops env H Bs Ψ (i,d,[],false) :=
 zrY hi hb (fun val val' v hx _ h=>by rw[hΨ]at h ⊢;exact h) fun val hn _ w _=>by rw[hΨ];exact Does.new K (M.alloc hz hc)
theorem zhb {v':Value} {l l':List (Nat × Value)} (h:v=v') (h2:l=l'):(m,v)::l=(m,v')::l':=tD
theorem znm {a b c d:Hp} (h:a=b) (h2:c=d):a++c=b++d:=tD
theorem VD.cast {D:List Nat} (A1:Tgs) (vals:List (Nat × Value)) (Hn:Hp) (he:D.map (fun m=>(m,val m))=vals) (hh:D.flatMap hn=Hn) (h1:Hs.map (fun y=>hget (Hn++H) y.1)=Hs.map (fun y=>some y.2)) (hC:A1.map (fun p=>zd7 (vals++env) p.1)=A1.map (fun p=>jw (Hn++H) p.2)) (hY:A1.all (fun p=>(jw (Hn++H) p.2).isSome)=true)
  (h:VD P n Q ks ops Hs B0 L fuel listed (vals++env) A1 (Hn++H) Bs) :
  Hs.map (fun y=>hget (hpD hn D H) y.1)=Hs.map (fun y=>some y.2)/\VD P n Q ks ops Hs B0 L fuel listed (zm4 val D env) [] (hpD hn D H) Bs:=by
 rw[zbT,zgi];subst he hh;exact⟨h1,zrX A1 hC hY h⟩
end
end Go.GL
namespace Go.Proofs.YtckdhgbepmpgiaaGreat
open Go.GL
theorem zkt (vs:List Vr) (nh:Nat) (l:List St):∀ (v:Value) (D:Nat->Prop) (w:World) (top:Bool),stepsCodeN vs nh l top=0->SlR 10 RSt D w v l->sbulk l<=1000000->Calls prog 124 #[v] w (Ret fun r w'=>r=.agg #[.int .i64 (cap 1099511627776 (bds l).1),.int .i64 (cap 1099511627776 (bds l).2.1),.int .i64 (cap 1099511627776 (bds l).2.2)]/\Ext w w'):=by
 induction l using zqD with
 | h l ih =>
 intro v D w top dt hl hb;have dN:=hl.max;obtain⟨av,nv,rfl⟩:=hl.form;refine zqq func124 O ntmps124 O (V.inn (Vs 2 O (V.alloc 2 tz193 O O (fun b2=>?_))));refine Vs 4 O (V.alloc 3 tz193 O O (fun b3=>?_));refine Vs 11 O (zrl (σ:=Nat) [2,3,9,10] [2] [2,3] O (fun e i=>(11,.int .i64 i)::e) (fun e i=>(3,.own b3 [.int .i64 (cap 1099511627776 (bds (l.take i)).1),.int .i64 (cap 1099511627776 (bds (l.take i)).2.1),.int .i64 (cap 1099511627776 (bds (l.take i)).2.2)] 193)::e) (fun i=>i<=l.length) (fun i=>l.length - i) 0 j2 j3 j1 j1 j1 (zt6 _) ?_);rintro i hi;refine Vs 6 O (zoE O (fun dy=>?_) (fun dy=>?_))
 .
  refine Vs 6 O (zri 1000 0 i tO hl O O O (fun x dO dQ dR dg da dh dl=>?_));obtain⟨dz,dA,dB,dC,rfl,dm,db,dc,dr⟩:=dl.get;obtain⟨dD,dE,rfl⟩:=dm.form;obtain⟨dF,dG,rfl⟩:=db.form;obtain⟨dH,dI,rfl⟩:=dc.form;obtain⟨dJ,dK,rfl⟩:=dr.form;refine zqQ 1000 tR24 ts72 O dh tO _ rfl O ?_;have dL:=zgf dg;have hY:0<=(bds (l.take i)).1/\0<=(bds (l.take i)).2.1/\0<=(bds (l.take i)).2.2:=zik dt i;obtain⟨last,du⟩:=xT l top dt x da;obtain⟨hS,_,_,dw,dx⟩:=qn du;have hC:=hS.cost;have n1:=xm x.thn _ dw;have n2:=xm x.els _ dx;have y:=zaL du;have dM:=kU da;rw[St.bulk_eq]at dM;have z0:(0:Int)<=1099511627776:=tS;have r1:=zF n1.1 z0;have r2:=zF n1.2.1 z0;have r3:=zF n1.2.2 z0;have r4:=zF n2.1 z0;have r5:=zF n2.2.1 z0;have r6:=zF n2.2.2 z0;have t1:=zF hY.1 z0;have t2:=zF hY.2.1 z0;have t3:=zF hY.2.2 z0
  have fin:∀ a b c:Int,0<=a->0<=b->0<=c->cap 1099511627776 a=cap 1099511627776 (qI x).1->cap 1099511627776 b=cap 1099511627776 (qI x).2.1->cap 1099511627776 c=cap 1099511627776 (qI x).2.2 ->
    HE.own b3 [.int .i64 (min (cap 1099511627776 (bds (l.take i)).1+a) 1099511627776),.int .i64 (min (cap 1099511627776 (bds (l.take i)).2.1+b) 1099511627776),.int .i64 (min (cap 1099511627776 (bds (l.take i)).2.2+c) 1099511627776)] 193=HE.own b3 [.int .i64 (cap 1099511627776 (bds (l.take (i+1))).1),.int .i64 (cap 1099511627776 (bds (l.take (i+1))).2.1),.int .i64 (cap 1099511627776 (bds (l.take (i+1))).2.2)] 193:=by
   intro a b c ha hb hc e1 e2 e3;rw[dL,zau hY.1 y.1 ha e1,zau hY.2.1 y.2.1 hb e2,zau hY.2.2 y.2.2 hc e3]
  refine Vs 1 O (V.alloc 5 tz72 O O (fun b5=>?_));refine Vs 7 O (zru [Value.int IntKind.i64 0,Value.int IntKind.i64 0,Value.int IntKind.i64 0] [(0,1),(1,1),(2,1)] [(0,_),(2,_)] O O (fun _=>tK) (V.alloc 6 tz193 O O (fun b6=>?_)));refine Vs 4 O (Vw [2,3,1000,5,6] [] O (Vd [0,1,3,4] 0 tK O O O (zrZ 2 0 [(2,20,[],false),(5,23,[],false),(6,7,[],false),(7,8,[],false)] (psi [(20,fun _ v hx=>∃ y:Unit,v=.agg #[.int .i64 (cap 1099511627776 (bds (x.thn)).1),.int .i64 (cap 1099511627776 (bds (x.thn)).2.1),.int .i64 (cap 1099511627776 (bds (x.thn)).2.2)]/\hx=[]),(23,fun _ v hx=>∃ y:Unit,v=.agg #[.int .i64 (cap 1099511627776 (bds (x.els)).1),.int .i64 (cap 1099511627776 (bds (x.els)).2.1),.int .i64 (cap 1099511627776 (bds (x.els)).2.2)]/\hx=[]),(7,phA 7 [Value.int IntKind.i64 0,Value.int IntKind.i64 0,Value.int IntKind.i64 0] 193),(8,phA 8 [Value.int IntKind.i64 0,Value.int IntKind.i64 0,Value.int IntKind.i64 0] 193)]) tK tK O O ⟨?_,?_,?_,?_,True.intro⟩ ?_)))
  . exact zrY O O (fun _ _ _ _ _ h=>h) (fun val hn _ w hI=>Does.call (F.call call124 (yo O)) (zio (H:=[]) (zei ((ih x da).1 _ _ _ _ dw y7 tO))))
  . exact zrY O O (fun _ _ _ _ _ h=>h) (fun val hn _ w hI=>Does.call (F.call call124 (yo O)) (zio (H:=[]) (zei ((ih x da).2 _ _ _ _ dx ip tO))))
  . exact MP.alloc 7 O O tz193 O O
  . exact MP.alloc 8 O O tz193 O O
  rintro val hn ⟨⟨u1,e20,n20⟩,⟨u2,e23,n23⟩,⟨b7,e7,n7⟩,⟨b8,e8,n8⟩,_⟩;refine VD.cast [(2,some (2,0)),(3,some (3,0)),(5,some (5,0)),(6,some (6,0)),(13,some (1000,0)),(15,some (5,1)),(18,some (5,7)),(21,some (5,8)),(7,some (7,0)),(8,some (8,0))] _ _ (zhb e20 (zhb e23 (zhb e7 (zhb e8 rfl)))) (znm n20 (znm n23 (znm n7 (znm n8 rfl)))) O O O ?_;clear n20 n23 n7 n8;refine Ve 8 0 O tK O O O (Ve 9 0 O tK O O O (VD.done tK (Vs 15 O (zoE O (fun a1=>?_) (fun a1=>?_)))))
  .
   obtain⟨g1,g2⟩:=hS.free tO tO;have eB:qI x=(1,1,x.cost):=by rw[yX,g1,g2,zt1 tO];simp[bds,a1]
   refine Va 42 O tO (zrk 3 O (e':=.own b3 [.int .i64 (cap 1099511627776 (bds (l.take (i+1))).1),.int .i64 (cap 1099511627776 (bds (l.take (i+1))).2.1),.int .i64 (cap 1099511627776 (bds (l.take (i+1))).2.2)] 193) (fin 1 1 x.cost tS tS hC.1 (by rw[eB]) (by rw[eB]) (by rw[eB])) (Va 4 O tO (V.back (i+1) j2 j3 tO tZ 0 O O)))
  refine Vs 6 O (zoE O (fun a3=>?_) (fun a3=>?_))
  .
   have n4:¬ x.act=4:=tO;refine Va 75 O tO (zrk 3 O (e':=.own b3 [.int .i64 (cap 1099511627776 (bds (l.take (i+1))).1),.int .i64 (cap 1099511627776 (bds (l.take (i+1))).2.1),.int .i64 (cap 1099511627776 (bds (l.take (i+1))).2.2)] 193) (fin _ _ _ tO tO tO (by rw[yX,zt1 n4];exact zdp tO n1.1 n2.1) (by rw[yX,zt1 n4];simp only[a1,if_false];exact zgg n1.2.1 n2.2.1) (by rw[yX,zt1 n4];exact zdp hC.1 n1.2.2 n2.2.2)) (Va 4 O tO (V.back (i+1) j2 j3 tO tZ 0 O O)))
  refine Vs 6 O (zoE O (fun a4=>?_) (fun a4=>?_))
  .
   have hr:=hS.rep a4;have p1:=qN x.n (1+cap 1099511627776 (bds x.thn).1) 4096 1099511627777 hr.1 hr.2.1 tO tO;have p2:=qN x.n (cap 1099511627776 (bds x.thn).2.1) 4096 1099511627776 hr.1 hr.2.1 tO tO;have p3:=qN x.n (x.cost+cap 1099511627776 (bds x.thn).2.2) 4096 1099578736640 hr.1 hr.2.1 tO tO;have q1:=ztm hr.1 (show 0<=1+(bds x.thn).1 by omega);refine Va 76 O tO (zrk 3 O (e':=.own b3 [.int .i64 (cap 1099511627776 (bds (l.take (i+1))).1),.int .i64 (cap 1099511627776 (bds (l.take (i+1))).2.1),.int .i64 (cap 1099511627776 (bds (l.take (i+1))).2.2)] 193) (fin _ _ _ tO p2.1 p3.1 (by rw[yX,zt2 a4];exact zij p1.1 q1 (zbQ hr.1 tO n1.1 tO)) (by rw[yX,zt2 a4];exact zgh hr.1 n1.2.1 tO) (by rw[yX,zt2 a4];exact zbQ hr.1 hC.1 n1.2.2 tO)) (Va 4 O tO (V.back (i+1) j2 j3 tO tZ 0 O O)))
  obtain⟨g1,g2⟩:=hS.free a3 a4;have eB:qI x=(1,0,x.cost):=by rw[yX,g1,g2,zt1 a4];simp[bds,a1]
  refine Va 39 O tO (zrk 3 O (e':=.own b3 [.int .i64 (cap 1099511627776 (bds (l.take (i+1))).1),.int .i64 (cap 1099511627776 (bds (l.take (i+1))).2.1),.int .i64 (cap 1099511627776 (bds (l.take (i+1))).2.2)] 193) (fin 1 0 x.cost tS tS hC.1 (by rw[eB]) (by rw[eB]) (by rw[eB])) (Va 4 O tO (V.back (i+1) j2 j3 tO tZ 0 O O)))
 obtain rfl:i=l.length:=tO;refine zrk 3 O (e':=.own b3 [.int .i64 (cap 1099511627776 (bds (l)).1),.int .i64 (cap 1099511627776 (bds (l)).2.1),.int .i64 (cap 1099511627776 (bds (l)).2.2)] 193) (by rw[zsW]) (Vs 12 O (zp4 results124 isAgg193 sizeOf193 O O O (fun w hI=>⟨_,rfl,rfl,hI.k0⟩)))
def qb (f:Fl):Bool:=decide (f.vars.length<=64)&&decide (f.hatches.length<=8)&&f.hatches.all (fun h=>decide (h.term.depth<=12))&&(decide (sdepth f.body<=12)&&!stdeep f.body)
theorem zfu (f:Fl) (v1 v2 v3:Value) (D:Nat->Prop) (w:World) (hf:RFl D w f v1 v2 v3) (dy:snodes f.body+zx f.hatches<=1024):Calls prog 59 #[.agg #[v1,v2,v3]] w (Ret fun r w'=>r=.bool (qb f)/\Ext w w'):=by
 obtain⟨dm,dc,dg⟩:=hf;have dz:=dm.max;have dA:=dc.max;obtain⟨a1,n1,rfl⟩:=dm.form;obtain⟨a2,n2,rfl⟩:=dc.form;refine zqq func59 O ntmps59 O (V.inn (Vs 2 O (V.box 1 O O (fun b1=>?_))));refine Vs 11 O (V.sp 9 O (fun g1=>?_) (fun g1=>?_))
 . refine Vs 15 O (zr9 0 tr59 O O (by unfold qb;rw[zt4 (show ¬ f.vars.length<=64 by omega)];rfl))
 refine Vs 7 O (zoE O (fun g2=>?_) (fun g2=>?_))
 . refine Vs 7 O (zr9 0 tr59 O O (by unfold qb;rw[zt4 (show ¬ f.hatches.length<=8 by omega),Bool.and_false];rfl))
 have dh:qb f=(f.hatches.all (fun h=>decide (h.term.depth<=12))&&(decide (sdepth f.body<=12)&&!stdeep f.body)):=by
  unfold qb;rw[zt3 (show f.vars.length<=64 by omega),zt3 (show f.hatches.length<=8 by omega)];rfl
 refine Vs 6 O (zr2 call104 O (fun w hI=>zfm f.body _ D w i6 tO) (Vs 10 O (zrl (σ:=Nat) [1] [1] [1] O (fun e i=>(3,.int .i64 (snodes f.body+zx (f.hatches.take i):Nat))::(4,.int .i64 i)::e) (fun e i=>e) (fun i=>i<=f.hatches.length/\(f.hatches.take i).all (fun h=>decide (h.term.depth<=12))=true) (fun i=>f.hatches.length - i) 0 j2 j3 j1 j1 j1 JF ?_)));rintro i ⟨hi,hC⟩;refine Vs 10 O (zoE O (fun dr=>?_) (fun dr=>?_))
 .
  refine zri 1000 0 i tO dc O O O (fun x dB dC dD hY dt db dl=>?_);obtain⟨du,rfl,da⟩:=dl;obtain⟨dw,dx,rfl⟩:=da.form;have dE:=xS hY;have dF:=kw hY;have dG:x.term.depth<=x.term.nodes:=by have:=zaG [x.term];simp[tdepth,tnodes]at this;exact this
  refine Vs 10 O ?_;refine zqQ 1000 tR23 ts109 O db tO _ rfl O (Vs 2 O (zr2 call105 O (fun w hI=>jB x.term _ D w YF tO) (Va 9 O tO ?_)));refine zqQ 1000 tR23 ts109 O db tO _ rfl O (Vs 2 O (zr2 call106 O (fun w hI=>jC x.term _ D w YF tO) (Vs 3 O (zoE O (fun dd=>?_) (fun dd=>?_)))))
  .
   have dH:f.hatches.all (fun h=>decide (h.term.depth<=12))=false:=by
    grind
   refine Vs 11 O (zr9 0 tr59 O O tD)
  refine Va 8 O tO (V.back (i+1) Ui j3 ⟨tO,by rw[ze hY,List.all_append,hC];simp;omega⟩ tO 0 O O)
 obtain rfl:i=f.hatches.length:=tO;rw[zsW]at hC;rw[hC,ztK]at dh;have dI:=jA f.body;refine Vs 10 O (V.sp 44 O (fun gn=>?_) (fun gn=>?_))
 .
  refine Vs 2 O (zr2 call107 O (fun w hI=>zbF f.body _ D w i6 tO) (Vs 3 O (V.sp 50 O (fun gd=>?_) (fun gd=>?_))))
  . refine Vs 2 O (zr2 call108 O (fun w hI=>zbG f.body _ D w i6 tO) (zqh O (fun w hI=>zpS O j6) (Vs 5 O (zr9 0 tr59 O O tD))))
  refine Vs 9 O (zr9 0 tr59 O O tD)
 grind
theorem zbU (vs:List Vr) (vv:Value) (D:Nat->Prop) (w:World) (da:SlR 5 RVr D w vv vs):Calls prog 60 #[vv] w (Ret fun r w'=>r=.int .i64 (zp vs)/\Ext w w'):=by
 have dC:=da.max;obtain⟨av,nv,rfl⟩:=da.form;refine zqq func60 O ntmps60 O (V.inn (Vs 12 O (zrl (σ:=Nat) [0] [] [] O (fun e i=>(3,.int .i64 i)::e) (fun e i=>e) (fun i=>i<=vs.length/\(∀ j,j<i->za2 vs j=0)) (fun i=>vs.length - i) 0 j2 j3 j1 j1 j1 JB ?_)));rintro i ⟨hi,db⟩;refine Vs 9 O (zoE O (fun dw=>?_) (fun dw=>?_))
 .
  refine Vs 8 O (zri 1000 0 i tO da O O O (fun x dD dE dF dh dx dl dm=>?_));obtain rfl:=dm;refine zqQ 1000 tR22 ts142 O dl tO _ rfl O ?_;have dy:=zdm dh
  have hY:∀ c:Int,yd (vs.take i) x=c->c ≠ 0->zp vs=c:=by
   intro c h1 h2;have h3:za2 vs i ≠ 0:=tO;rw[zp,jh db tO h3,zt2 h3,dy,h1]
  have hC:yd (vs.take i) x=0->∀ j,j<i+1->za2 vs j=0:=by
   grind
  refine Vs 1 O (V.alloc 4 tz142 O O (fun b4=>?_));refine Vs 8 O (zr2 call61 O (fun w hI=>zaH x.name w) (zqh O (fun w hI=>zpS O j6) (Vs 2 O (V.bool O (fun n0=>?_) (fun n0=>?_)))))
  .
   have n0':zcl x.name=false:=by simpa using n0
   refine Vs 12 O (zr9 0 tr60 O O (by rw[hY 7 (by rw[yd,zt2 n0']) tS]))
  have n0':¬ zcl x.name=false:=by simpa using n0
  refine Vs 9 O (zrl (σ:=Nat) [0,3,4] [4] [4] O (fun e j=>(5,.int .i64 j)::e) (fun e j=>e) (fun j=>j<=i/\(vs.take j).any (fun u=>yc u.name x.name)=false) (fun j=>i - j) 0 j2 j3 j1 j1 j1 JF ?_);rintro j ⟨hj,dz⟩;refine Vs 8 O (zoE O (fun dA=>?_) (fun dA=>?_))
  .
   refine zri 2000 0 j tO da O O O (fun y dG dH dI dc dB dr dt=>?_);obtain rfl:=dt;refine Vs 5 O (Vq tK (Vs 2 O (zqT 2000 tR22 ts142 O dr tO (j) tO O (Vs 7 O (zoE O (fun hd=>?_) (fun hd=>?_))))))
   .
    have du:(vs.take i).any (fun u=>yc u.name x.name)=true:=by
     rw[ztZ];refine⟨y,zsS (i:=j) (by rw[ztn,zt2 tO];exact dc),?_⟩;unfold yc;exact zt3 hd
    refine Vs 16 O (zr9 0 tr60 O O (by rw[hY 8 (by rw[yd,zt1 n0',zt2 du]) tS]))
   refine Va 8 O tO (V.back (j+1) j2 j3 ⟨tO,by rw[ze dc,ztY,dz];simp[yc,hd]⟩ tO 0 O O)
  obtain rfl:j=i:=tO;have n1:¬ (vs.take j).any (fun u=>yc u.name x.name)=true:=tD;refine Vs 7 O (zrm (σ:=Unit) [0,3,4] [4] [4] O (fun e u=>(50,.bool (decide (¬ (0<=x.kind/\x.kind<=3))))::e) (fun e u=>e) (fun u=>True) j1 j1 ?_ ?_)
  .
   refine Vs 5 O (V.sp 36 O (fun k1_=>?_) (fun k1_=>?_))
   .
    refine Vs 5 O (V.sp 41 O (fun k2_=>?_) (fun k2_=>?_))
    .
     refine Vs 5 O (V.sp 46 O (fun k3_=>?_) (fun k3_=>?_))
     . refine Vs 5 O (zoS () Uf j3 trivial 0 O O)
     refine Vs 5 O (zoS () Uf j3 trivial 0 O O)
    refine Vs 10 O (zoS () Uf j3 trivial 0 O O)
   refine Vs 15 O (zoS () Uf j3 trivial 0 O O)
  rintro u _;refine Vs 1 O (zoE O (fun n2=>?_) (fun n2=>?_))
  . refine Vs 12 O (zr9 0 tr60 O O (by rw[hY 1 (by rw[yd,zt1 n0',zt1 n1,zt2 n2]) tS]))
  refine Vs 9 O (zr2 call62 O (fun w hI=>kZ x.low x.high w) (zqh O (fun w hI=>zpS O j6) (Vs 2 O (V.bool O (fun n3=>?_) (fun n3=>?_)))))
  .
   have n3':zb3 x.low x.high=false:=by simpa using n3
   refine Vs 12 O (zr9 0 tr60 O O (by rw[hY 3 (by rw[yd,zt1 n0',zt1 n1,zt1 n2,zt2 n3']) tS]))
  have n3':¬ zb3 x.low x.high=false:=by simpa using n3
  have b4':x.kind=0/\(x.init<x.low\/x.high<x.init)\/x.kind ≠ 0/\x.init ≠ 0->zp vs=3:=fun h=>hY 3 (by rw[yd,zt1 n0',zt1 n1,zt1 n2,zt1 n3',zt2 h]) tS;have g4:¬ (x.kind=0/\(x.init<x.low\/x.high<x.init)\/x.kind ≠ 0/\x.init ≠ 0)->yd (vs.take j) x=0:=fun h=>by rw[yd,zt1 n0',zt1 n1,zt1 n2,zt1 n3',zt1 h]
  refine Vs 8 O (V.sp 60 O (fun k1_=>?_) (fun k1_=>?_))
  .
   refine Vs 6 O (V.sp 66 O (fun k2_=>?_) (fun k2_=>?_))
   . refine Vs 31 O (zr9 0 tr60 O O tD)
   refine Vs 8 O (V.sp 74 O (fun k3_=>?_) (fun k3_=>?_))
   . refine Vs 23 O (zr9 0 tr60 O O tD)
   refine Vs 4 O (V.sp 78 O (fun k4_=>?_) (fun k4_=>?_))
   .
    refine Vs 7 O (zoE O (fun k5_=>?_) (fun k5_=>?_))
    . refine Vs 11 O (zr9 0 tr60 O O tO)
    refine Va 8 O tO (V.back (j+1) j2 j3 JO tO 0 O O)
   refine Va 16 O tO (V.back (j+1) j2 j3 JO tO 0 O O)
  refine Vs 18 O (V.sp 78 O (fun k2_=>?_) (fun k2_=>?_))
  .
   refine Vs 7 O (zoE O (fun k3_=>?_) (fun k3_=>?_))
   . refine Vs 11 O (zr9 0 tr60 O O tD)
   refine Va 8 O tO (V.back (j+1) j2 j3 JO tO 0 O O)
  refine Va 16 O tO (V.back (j+1) j2 j3 JO tO 0 O O)
 obtain rfl:i=vs.length:=tO;have hg:=qB db;have hz:=qf db;have dg:∀ v ∈ vs,xz (v.low,v.high):=fun v hv=>(hg v hv).1;have hv:zp vs=if xh vs then 4 else 0:=by rw[zp,zt1 tO]
 have sp:∀ k n,zm k vs=some n->1<=n/\n<=4096:=fun k n h=>xl k vs 1 n dg tO tO h
 have isN:∀ k,(4096:Int)<(zm k vs).getD 4097 ↔ (zm k vs).isNone=true:=by
  intro k;cases h:zm k vs with
  | none=>simp
  | some n=>have:=sp k n h;simp;omega
 refine Vs 9 O (zr2 call109 O (fun w hI=>jf vs 1 _ D w dg iR) (Vs 2 O (V.sp 87 O (fun s1=>?_) (fun s1=>?_))))
 . refine Vs 19 O (zr9 0 tr60 O O (by rw[hv,xh,(isN 1).1 s1];rfl))
 have s1':(zm 1 vs).isNone=false:=by rw[ztB];exact fun h=>s1 ((isN 1).2 h)
 refine Vs 1 O (zr2 call109 O (fun w hI=>jf vs 2 _ D w dg iR) (Vs 3 O (V.sp 92 O (fun s2=>?_) (fun s2=>?_))))
 . refine Vs 14 O (zr9 0 tr60 O O (by rw[hv,xh,s1',(isN 2).1 s2];rfl))
 have s2':(zm 2 vs).isNone=false:=by rw[ztB];exact fun h=>s2 ((isN 2).2 h)
 refine Vs 1 O (zr2 call109 O (fun w hI=>jf vs 3 _ D w dg iR) (Vs 4 O (zoE O (fun s3=>?_) (fun s3=>?_))))
 . refine Vs 7 O (zr9 0 tr60 O O (by rw[hv,zcD s1' s2',zt3 s3];rfl))
 refine Vs 8 O (zr9 0 tr60 O O (by rw[hv,zcD s1' s2',zt4 s3];rfl))
def zdr (f:Fl):Bool:=decide (4096<(bds f.body).1) || decide (8<(bds f.body).2.1) || decide (67108864<(bds f.body).2.2)
def yO (f:Fl):Int :=
 if qb f=false then 4
 else if zp f.vars ≠ 0 then zp f.vars
 else if zr f.vars f.hatches ≠ 0 then zr f.vars f.hatches
 else if stepsCodeN f.vars f.hatches.length f.body true ≠ 0 then stepsCodeN f.vars f.hatches.length f.body true
 else if zdr f then 4 else 0
theorem zbV (h:zp vs=0):∀ v ∈ vs,xz (v.low,v.high):=by
 have h1:∀ j,j<vs.length->za2 vs j=0:=by
  unfold zp at h;split at h
  . omega
  rename_i h2;intro j hj;exact qA vs.length 0 tO j (zt6 _) tO
 exact fun v hv=>(qB h1 v hv).1
theorem zfv (f:Fl) (v1 v2 v3:Value) (D:Nat->Prop) (w:World) (hf:RFl D w f v1 v2 v3) (dB:snodes f.body+zx f.hatches<=1024) (dA:sbulk f.body<=1000000):Calls prog 29 #[.agg #[v1,v2,v3]] w (Ret fun r w'=>r=.int .i64 (yO f)/\Ext w w'):=by
 obtain⟨hY,da,dm⟩:=hf;have dQ:=hY.max;have dR:=da.max;obtain⟨a1,n1,rfl⟩:=hY.form;obtain⟨a2,n2,rfl⟩:=da.form;have hf:∀ {w':World},Ext w w'->RFl D w' f (.slice a1 f.vars.length n1) (.slice a2 f.hatches.length n2) v3:=fun h=>⟨hY.ext yG h,da.ext yN h,dm.ext zf h⟩;refine zqq func29 O ntmps29 O (V.inn (Vs 2 O (V.box 1 O O (fun b1=>?_))));refine Vs 7 O (zr2 call59 O (fun w hI=>zfu f _ _ _ D w (hf hI.k0) dB) (zqh O (fun w hI=>zpS O j6) (Vs 2 O (V.bool O (fun s0=>?_) (fun s0=>?_)))))
 .
  have s0':qb f=false:=by simpa using s0
  refine Vs 7 O (zr9 0 tr29 O O (by rw[yO,zt2 s0']))
 have s0':¬ qb f=false:=by simpa using s0
 refine Vs 6 O (zr2 call60 O (fun w hI=>zbU f.vars _ D w iV) (Vs 10 O (zoE O (fun vz=>?_) (fun vz=>?_))))
 . refine Vs 8 O (zr9 0 tr29 O O (by rw[yO,zt1 s0',zt2 vz]))
 have hg:=zbV (show zp f.vars=0 by omega);have dr:yO f=if zr f.vars f.hatches ≠ 0 then zr f.vars f.hatches else if stepsCodeN f.vars f.hatches.length f.body true ≠ 0 then stepsCodeN f.vars f.hatches.length f.body true else if zdr f then 4 else 0:=by rw[yO,zt1 s0',zt1 vz]
 refine Vs 9 O (zrl (σ:=Nat) [1] [1] [1] O (fun e i=>(4,.int .i64 i)::e) (fun e i=>e) (fun i=>i<=f.hatches.length/\(∀ j,j<i->ji f.vars f.hatches j=0)) (fun i=>f.hatches.length - i) 0 j2 j3 j1 j1 j1 JB ?_);rintro i ⟨hi,db⟩;refine Vs 10 O (zoE O (fun dC=>?_) (fun dC=>?_))
 .
  refine Vs 9 O (zri 1000 0 i tO da O O O (fun x dS dT dU dc dD dt du=>?_));obtain⟨dE,rfl,dg⟩:=du;obtain⟨dF,dG,rfl⟩:=dg.form;refine zqQ 1000 tR23 ts109 O dt tO _ rfl O ?_;have dH:=zat (vs:=f.vars) dc
  have hC:∀ c:Int,zI f.vars (f.hatches.take i) x=c->c ≠ 0->yO f=c:=by
   intro c h1 h2;have h3:ji f.vars f.hatches i ≠ 0:=tO;have h4:zr f.vars f.hatches=c:=by rw[zr,jh db tO h3,dH,h1]
   omega
  have dh:zI f.vars (f.hatches.take i) x=0->∀ j,j<i+1->ji f.vars f.hatches j=0:=by
   grind
  have dV:=xS dc;refine Vs 1 O (V.alloc 5 tz109 O O (fun b5=>?_));refine Vs 8 O (zr2 call61 O (fun w hI=>zaH x.name w) (zqh O (fun w hI=>zpS O j6) (Vs 2 O (V.bool O (fun n0=>?_) (fun n0=>?_)))))
  .
   have n0':zcl x.name=false:=by simpa using n0
   refine Vs 12 O (zr9 0 tr29 O O (by rw[hC 7 (by rw[zI,zt2 n0']) tS]))
  have n0':¬ zcl x.name=false:=by simpa using n0
  refine Vs 9 O (zrl (σ:=Nat) [1,4,5] [1,5] [1,5] O (fun e j=>(6,.int .i64 j)::e) (fun e j=>e) (fun j=>j<=i/\(f.hatches.take j).any (fun u=>yc u.name x.name)=false) (fun j=>i - j) 0 j2 j3 j1 j1 j1 JF ?_);rintro j ⟨hj,dI⟩;refine Vs 8 O (zoE O (fun dJ=>?_) (fun dJ=>?_))
  .
   refine zri 2000 0 j tO da O O O (fun y dW dX dY dl dK dw dx=>?_);obtain⟨dL,rfl,dy⟩:=dx;obtain⟨dM,dN,rfl⟩:=dy.form;refine Vs 5 O (Vq tK (Vs 3 O ?_));refine zqT 2000 tR23 ts109 O dw tO _ rfl O (Vs 7 O (zoE O (fun hd=>?_) (fun hd=>?_)))
   .
    have dz:(f.hatches.take i).any (fun u=>yc u.name x.name)=true:=by
     rw[ztZ];refine⟨y,zsS (i:=j) (by rw[ztn,zt2 tO];exact dl),?_⟩;unfold yc;exact zt3 hd
    refine Vs 16 O (zr9 0 tr29 O O (by rw[hC 8 (by rw[zI,zt1 n0',zt2 dz]) tS]))
   refine Va 8 O tO (V.back (j+1) j2 j3 ⟨tO,by rw[ze dl,ztY,dI];simp[yc,hd]⟩ tO 0 O O)
  obtain rfl:j=i:=tO;have n1:¬ (f.hatches.take j).any (fun u=>yc u.name x.name)=true:=tD;refine Vs 12 O (zr2 call62 O (fun w hI=>kZ x.low x.high w) (zqh O (fun w hI=>zpS O j6) (Vs 2 O (V.bool O (fun n3=>?_) (fun n3=>?_)))))
  .
   have n3':zb3 x.low x.high=false:=by simpa using n3
   refine Vs 12 O (zr9 0 tr29 O O (by rw[hC 3 (by rw[zI,zt1 n0',zt1 n1,zt2 n3']) tS]))
  have n3':¬ zb3 x.low x.high=false:=by simpa using n3
  have dZ:zI f.vars (f.hatches.take j) x=zD f.vars true x.term:=by rw[zI,zt1 n0',zt1 n1,zt1 n3']
  refine Vs 8 O (zr2 call63 O (fun w hI=>jE f.vars true _ _ D D w x.term hg iV (RTm.put i6) tO) (Vs 9 O (zoE O (fun tz=>?_) (fun tz=>?_))))
  . refine Vs 12 O Jy
  refine Va 8 O tO (V.back (j+1) j2 j3 ⟨tO,dh tO⟩ tO 0 O O)
 obtain rfl:i=f.hatches.length:=tO;have dO:zr f.vars f.hatches=0:=qf db;rw[dO,zt1 tS]at dr;refine Vs 10 O (zr2 call64 O (fun w hI=>zdo f _ _ _ hg D f.body _ D w true (hf hI.k0) (Tr1 hI.k0 dm) dA) (Vs 10 O (zoE O (fun sz=>?_) (fun sz=>?_))))
 . refine Vs 8 O Jy
 rw[zt1 sz]at dr;refine Vs 6 O (zr2 call65 O (fun w hI=>zaM f.vars f.hatches.length f.body _ D w true tO (Tr1 hI.k0 dm) dA) ?_)
 have ho:zdr f=(decide (4096<cap 4097 (bds f.body).1) || decide (8<cap 9 (bds f.body).2.1) || decide (67108864<cap 67108865 (bds f.body).2.2)):=by
  unfold zdr cap;congr 1;congr 1;all_goals (rw[ztj];omega)
 rw[ho]at dr;refine Vs 15 O (zqb 79 O (fun k1_=>?_) (fun k1_=>?_))
 . refine Vs 17 O Jy
 refine Vs 4 O (zqb 83 O (fun k2_=>?_) (fun k2_=>?_))
 . refine Vs 13 O Jy
 refine Vs 5 O (V.bool O (fun k3_=>?_) (fun k3_=>?_))
 . refine Vs 7 O Jy
 refine Vs 8 O Jy
theorem zfw (vs:List Vr) (vv:Value) (D:Nat->Prop) (w:World) (dg:SlR 5 RVr D w vv vs) (dl:vs.length<=1000000):Calls prog 121 #[vv] w (Ret fun r w'=>r=.int .i64 (zp vs)/\Ext w w'):=by
 obtain⟨av,nv,rfl⟩:=dg.form;have dB:=dg.len_cap.2;refine zqq func121 O ntmps121 O (V.inn (Vs 13 O (zrm (σ:=Unit) [0] [] [] O (fun e u=>e) (fun e u=>e) (fun u=>∀ j,j<vs.length->za2 vs j=0) j1 j1 ?_ ?_)))
 .
  refine Vs 1 O (zrl (σ:=Nat) [0,10,11] [] [] O (fun e i=>(12,.int .i64 i)::e) (fun e i=>e) (fun i=>i<=vs.length/\(∀ j,j<i->za2 vs j=0)) (fun i=>vs.length - i) 0 j2 j3 j1 j1 j1 JB ?_);rintro i ⟨hi,da⟩;refine Vs 6 O (zoE O (fun dm=>?_) (fun dm=>?_))
  .
   refine Vs 7 O (zri 1000 0 i tO dg O O O (fun x dC dD dE dr dw dt du=>?_));obtain rfl:=du;refine zqQ 1000 tR22 ts142 O dt tO _ rfl O ?_;have dx:=zdm dr
   have db:∀ c:Int,yd (vs.take i) x=c->c ≠ 0->zp vs=c:=by
    intro c h1 h2;have h3:za2 vs i ≠ 0:=tO;rw[zp,jh da tO h3,zt2 h3,dx,h1]
   have hC:yd (vs.take i) x=0->∀ j,j<i+1->za2 vs j=0:=by
    grind
   refine Vs 1 O (V.alloc 4 tz142 O O (fun b4=>?_));refine Vs 15 O (zr2 call157 O (fun w hI=>kY x.name w) (zqh O (fun w hI=>zpS O j6) (Vs 3 O (V.bool O (fun n0=>?_) (fun n0=>?_)))))
   .
    have n0':zcl x.name=false:=by simpa using n0
    refine Vs 13 O (zr9 0 tr121 O O (by rw[db 7 (by rw[yd,zt2 n0']) tS]))
   have n0':¬ zcl x.name=false:=by simpa using n0
   refine Vs 4 O (zqh O (fun w hI=>zpM tR22 ts142 O O tO) (Vs 1 O (zr2 call158 O (fun w hI=>zer (vs.take i) _ D w ((Tr1 hI.k0 dg).take i tO) (fun u=>yc u.name x.name) 156 (.pointer (some ⟨b4,0,none⟩)) call156 (fun y _ w' dy=>zkn y x b4 w' (dy.blk (hI.at 4 O) (fun h=>h)))) (Vs 3 O (V.bool O (fun d0=>?_) (fun d0=>?_))))))
   . refine Vs 13 O (zr9 0 tr121 O O (by rw[db 8 (by rw[yd,zt1 n0',zt2 d0]) tS]))
   have n1:¬ (vs.take i).any (fun u=>yc u.name x.name)=true:=by rw[d0];decide
   refine Vs 1 O (zrm (σ:=Unit) [0,4,10,11,12] [4] [4] O (fun e u=>(29,.bool (decide (¬ (0<=x.kind/\x.kind<=3))))::e) (fun e u=>e) (fun u=>True) j1 j1 ?_ ?_)
   .
    refine Vs 5 O (V.sp 33 O (fun k1_=>?_) (fun k1_=>?_))
    . refine Vs 6 O (zoS () Uf j3 trivial 0 O O)
    refine Vs 6 O (zoS () Uf j3 trivial 0 O O)
   rintro u _;refine Vs 1 O (zoE O (fun n2=>?_) (fun n2=>?_))
   . refine Vs 13 O (zr9 0 tr121 O O (by rw[db 1 (by rw[yd,zt1 n0',zt1 n1,zt2 n2]) tS]))
   refine Vs 7 O (zr2 call88 O (fun w hI=>qH x.low x.high w) (zqh O (fun w hI=>zpS O j6) (Vs 3 O (V.bool O (fun n3=>?_) (fun n3=>?_)))))
   .
    have n3':zb3 x.low x.high=false:=by simpa using n3
    refine Vs 16 O (zr9 0 tr121 O O (by rw[db 3 (by rw[yd,zt1 n0',zt1 n1,zt1 n2,zt2 n3']) tS]))
   have n3':¬ zb3 x.low x.high=false:=by simpa using n3
   have b4':x.kind=0/\(x.init<x.low\/x.high<x.init)\/x.kind ≠ 0/\x.init ≠ 0->zp vs=3:=fun h=>db 3 (by rw[yd,zt1 n0',zt1 n1,zt1 n2,zt1 n3',zt2 h]) tS;have g4:¬ (x.kind=0/\(x.init<x.low\/x.high<x.init)\/x.kind ≠ 0/\x.init ≠ 0)->yd (vs.take i) x=0:=fun h=>by rw[yd,zt1 n0',zt1 n1,zt1 n2,zt1 n3',zt1 h]
   refine Vs 6 O (V.sp 48 O (fun k1_=>?_) (fun k1_=>?_))
   .
    refine Vs 7 O (zoE O (fun k2_=>?_) (fun k2_=>?_))
    . refine Vs 16 O UP
    refine Vs 5 O (V.sp 56 O (fun k3_=>?_) (fun k3_=>?_))
    .
     refine Vs 6 O (V.sp 62 O (fun k4_=>?_) (fun k4_=>?_))
     . refine Vs 24 O (zr9 0 tr121 O O tO)
     refine Vs 10 O (zoE O (fun k5_=>?_) (fun k5_=>?_))
     . refine Vs 13 O (zr9 0 tr121 O O tO)
     refine Va 8 O tO (V.back (i+1) j2 j3 JO tO 0 O O)
    refine Va 25 O tO (V.back (i+1) j2 j3 JO tO 0 O O)
   refine Vs 13 O (V.sp 56 O (fun k2_=>?_) (fun k2_=>?_))
   .
    refine Vs 6 O (V.sp 62 O (fun k3_=>?_) (fun k3_=>?_))
    . refine Vs 24 O UP
    refine Vs 10 O (zoE O (fun k4_=>?_) (fun k4_=>?_))
    . refine Vs 13 O UP
    refine Va 8 O tO (V.back (i+1) j2 j3 JO tO 0 O O)
   refine Va 25 O tO (V.back (i+1) j2 j3 JO tO 0 O O)
  obtain rfl:i=vs.length:=tO;refine Vs 4 O (zoS () j2 j3 (da) 0 O O)
 rintro u da;have hg:=qB da;have hz:=qf da;have dz:∀ v ∈ vs,xz (v.low,v.high):=fun v hv=>(hg v hv).1;have hv:zp vs=if xh vs then 4 else 0:=by rw[zp,zt1 tO]
 refine Vs 4 O (zro 71 [(0,_),(1,_),(2,_)] tR226 ts100 zeroValue100 tS O O tK (fun b71=>?_));refine Vs 5 O (zrl (σ:=Nat) [0,71,72] [71] [] O (fun e k=>(73,.int .i64 k)::e) (fun e k=>e) (fun k=>k<=3/\(∀ j,j<k->∃ n,zm ((j:Int)+1) vs=some n/\(j=2->n<=256))) (fun k=>3 - k) 0 j2 j3 j1 j1 j1 JB ?_);rintro k ⟨hk,hY⟩;refine Vs 6 O (zoE O (fun dm=>?_) (fun dm=>?_))
 .
  have dh:(zm ((k:Int)+1) vs=none\/∃ n,zm ((k:Int)+1) vs=some n/\k=2/\256<n)->zp vs=4:=by
   intro h;rw[hv]
   have:xh vs=true:=by
    unfold xh;rcases (show k=0\/k=1\/k=2 by omega) with rfl | rfl | rfl
    .
     rcases h with h | ⟨n,h,h2,_⟩
     . simp at h;simp[h]
     omega
    .
     rcases h with h | ⟨n,h,h2,_⟩
     . simp at h;simp[h]
     omega
    rcases h with h | ⟨n,h,_,h3⟩
    . simp at h;simp[h]
    simp at h;simp[h,h3]
   rw[this];rfl
  refine Vs 6 O (zqh O (fun w hI=>zph tR226 ts100 O O O tO) (zqh O (fun w hI=>R.load tg100 O (v:=.int .i64 ((k:Int)+1)) ((show Blk w b71 [.int .i64 1,.int .i64 2,.int .i64 3] _ from hI.at 71 O).cells.el1 k O tD)) (Vs 7 O (zr2 call159 O (fun w hI=>zfr vs ((k:Int)+1) _ D w tO dz i6 dl) ?_))))
  have dc:(∃ n,zm ((k:Int)+1) vs=some n/\(k=2->n<=256))->∀ j,j<k+1->∃ n,zm ((j:Int)+1) vs=some n/\(j=2->n<=256):=by
   intro h j hj;by_cases e:j=k
   . grind
   exact hY j tO
  rcases hs:zm ((k:Int)+1) vs with _ | n
  .
   refine Vs 12 O (V.sp 85 O (fun c0=>?_) (fun c0=>?_))
   . refine Vs 21 O UP
   grind
  refine Vs 12 O (V.sp 85 O (fun c0=>?_) (fun c0=>?_))
  . grind
  refine Vs 3 O (V.sp 88 O (fun k3=>?_) (fun k3=>?_))
  .
   refine Vs 6 O (zoE O (fun n3=>?_) (fun n3=>?_))
   . refine Vs 11 O (zr9 0 tr121 O O (by rw[dh (.inr ⟨n,hs,tO,n3⟩)]))
   refine Va 7 O tO (V.back (k+1) j2 j3 ⟨tO,dc ⟨n,hs,fun _=>(show ¬ (256:Int)<n from n3) |> fun h=>tO⟩⟩ tO 0 O O)
  refine Va 14 O tO (V.back (k+1) j2 j3 ⟨tO,dc ⟨n,hs,fun h=>absurd tO k3⟩⟩ tO 0 O O)
 obtain rfl:k=3:=tO;obtain⟨n1,h1,_⟩:=hY 0 tO;obtain⟨n2,h2,_⟩:=hY 1 tO;obtain⟨n3,h3,h4⟩:=hY 2 tO
 have dA:xh vs=false:=by
  simp at h1 h2 h3;unfold xh
  grind
 rw[dA]at hv;refine Vs 11 O UP
theorem zfx (s:St) (cs:List Value) (D:Nat->Prop) (w:World) (hs:RSt D w s cs) (hb:s.act=6->0<s.bounds.length):Calls prog 164 #[.agg cs.toArray] w (Ret fun r w'=>r=.bool (xa s)/\Ext w w'):=by
 obtain⟨v1,v2,v3,v4,rfl,hk,ht,he,hC⟩:=hs.get;have dc:=hC.max;obtain⟨av4,nv4,rfl⟩:=hC.form;have dg:=hC.len_cap.2
 have dh:xa s=decide (¬ (s.cost<0\/xw s.act<s.cost\/s.act=4/\(s.n<0\/4096<s.n))/\(s.act ≠ 6\/s.bounds[s.bounds.length - 1]?.getD 0<=67108864)):=by
  rw[ztC,decide_eq_true_iff];unfold xa;simp;omega
 refine zqq func164 O ntmps164 O (V.inn (Vs 2 O (V.box 1 O O (fun b1=>?_))));refine Vs 16 O (zrm (σ:=Unit) [1] [1] [1] O (fun e u=>(3,.int .i64 (xw s.act))::e) (fun e u=>e) (fun u=>True) j1 j1 ?_ ?_)
 .
  refine zoE O (fun a2=>?_) (fun a2=>?_)
  . refine Vs 3 O (zoS () (Sub.cons (by rw[xw,zt2 a2];rfl) j2) j3 trivial 0 O O)
  refine Vs 1 O (zoS () (Sub.cons (by rw[xw,zt1 a2];rfl) j2) j3 trivial 0 O O)
 rintro u _;have dl:xw s.act=67108864\/xw s.act=10000:=by unfold xw;split<;>simp
 refine Vs 3 O (zrm (σ:=Unit) [1] [1] [1] O (fun e u=>(30,.bool (decide (s.cost<0\/xw s.act<s.cost\/s.act=4/\(s.n<0\/4096<s.n))))::e) (fun e u=>e) (fun u=>True) j1 j1 ?_ ?_)
 .
  refine Vs 5 O (V.sp 10 O (fun k1_=>?_) (fun k1_=>?_))
  . refine Vs 21 O (zoS () Uf j3 trivial 0 O O)
  refine Vs 6 O (V.sp 16 O (fun k2_=>?_) (fun k2_=>?_))
  . refine Vs 15 O (zoS () Uf j3 trivial 0 O O)
  refine Vs 4 O (V.sp 20 O (fun k3_=>?_) (fun k3_=>?_))
  .
   refine Vs 4 O (V.sp 24 O (fun k4_=>?_) (fun k4_=>?_))
   . refine Vs 7 O (zoS () Uf j3 trivial 0 O O)
   refine Vs 7 O (zoS () Uf j3 trivial 0 O O)
  refine Vs 11 O (zoS () Uf j3 trivial 0 O O)
 rintro u _;refine Vs 1 O (zoE O (fun h1=>?_) (fun h1=>?_))
 . refine Vs 7 O (zoV results164 O iS)
 refine Vs 8 O (V.sp 34 O (fun a6=>?_) (fun a6=>?_))
 . refine Vs 14 O (zoV results164 O iS)
 have dm:=hb tO;refine zrj 1000 0 (s.bounds.length-1) tO hC O O (fun x dr dt da db hY=>(Va 6 O tO (zqQ 1000 tR27 ts3 O hY tO (s.bounds.length-1) tO O (Vs 7 O (zoV results164 O iS)))))
theorem zcn (f:Fl) (v1 v2 v3:Value) (D:Nat->Prop) (w:World) (hf:RFl D w f v1 v2 v3) (hg:∀ v ∈ f.vars,xz (v.low,v.high)) (dr:∀ h ∈ f.hatches,h.term.nodes<=1000000) (dt:f.hatches.length<=1000000):Calls prog 122 #[.agg #[v1,v2,v3]] w (Ret fun r w'=>r=.int .i64 (zr f.vars f.hatches)/\Ext w w'):=by
 have du:=hf.vars;have dc:=hf.hatches;obtain⟨av,nv,rfl⟩:=dc.form;have dC:=dc.len_cap.2;refine zqq func122 O ntmps122 O (V.inn (Vs 2 O (V.box 1 O O (fun b1=>?_))));refine Vs 13 O (zrl (σ:=Nat) [1,8,9] [1] [1] O (fun e i=>(10,.int .i64 i)::e) (fun e i=>e) (fun i=>i<=f.hatches.length/\(∀ j,j<i->ji f.vars f.hatches j=0)) (fun i=>f.hatches.length - i) 0 j2 j3 j1 j1 j1 JB ?_);rintro i ⟨hi,hY⟩;refine Vs 6 O (zoE O (fun dw=>?_) (fun dw=>?_))
 .
  refine Vs 7 O (zri 1000 0 i tO dc O O O (fun x dD dE dF dg dh dl dm=>?_));obtain⟨dx,rfl,da⟩:=dm;obtain⟨dy,dz,rfl⟩:=da.form;refine zqQ 1000 tR23 ts109 O dl tO _ rfl O ?_;have dA:=zat (vs:=f.vars) dg
  have hC:∀ c:Int,zI f.vars (f.hatches.take i) x=c->c ≠ 0->zr f.vars f.hatches=c:=by
   intro c h1 h2;have h3:ji f.vars f.hatches i ≠ 0:=tO;rw[zr,jh hY tO h3,dA,h1]
  have db:zI f.vars (f.hatches.take i) x=0->∀ j,j<i+1->ji f.vars f.hatches j=0:=by
   grind
  refine Vs 1 O (V.alloc 4 tz109 O O (fun b4=>?_));refine Vs 16 O (zr2 call157 O (fun w hI=>kY x.name w) (zqh O (fun w hI=>zpS O j6) (Vs 3 O (V.bool O (fun n0=>?_) (fun n0=>?_)))))
  .
   have n0':zcl x.name=false:=by simpa using n0
   refine Vs 13 O (zr9 0 tr122 O O (by rw[hC 7 (by rw[zI,zt2 n0']) tS]))
  have n0':¬ zcl x.name=false:=by simpa using n0
  refine Vs 5 O (zqh O (fun w hI=>zpM tR23 ts109 O O tO) (Vs 1 O (zr2 call161 O (fun w hI=>zet (f.hatches.take i) _ D w ((Tr1 hI.k0 dc).take i tO) (fun u=>yc u.name x.name) 160 (.pointer (some ⟨b4,0,none⟩)) call160 (fun y _ kv w' dB=>zkq y x kv _ b4 w' (dB.blk (hI.at 4 O) (fun h=>h)))) (Vs 3 O (V.bool O (fun d0=>?_) (fun d0=>?_))))))
  . refine Vs 13 O (zr9 0 tr122 O O (by rw[hC 8 (by rw[zI,zt1 n0',zt2 d0]) tS]))
  have n1:¬ (f.hatches.take i).any (fun u=>yc u.name x.name)=true:=by rw[d0];decide
  refine Vs 6 O (zr2 call88 O (fun w hI=>qH x.low x.high w) (zqh O (fun w hI=>zpS O j6) (Vs 3 O (V.bool O (fun n3=>?_) (fun n3=>?_)))))
  .
   have n3':zb3 x.low x.high=false:=by simpa using n3
   refine Vs 13 O (zr9 0 tr122 O O (by rw[hC 3 (by rw[zI,zt1 n0',zt1 n1,zt2 n3']) tS]))
  have n3':¬ zb3 x.low x.high=false:=by simpa using n3
  have dG:zI f.vars (f.hatches.take i) x=zD f.vars true x.term:=by rw[zI,zt1 n0',zt1 n1,zt1 n3']
  refine Vs 9 O (zr2 call162 O (fun w hI=>zbM f.vars true v1 _ D D w x.term hg (Tr1 hI.k0 du) YF (dr x dh)) (Vs 9 O (zoE O (fun tz=>?_) (fun tz=>?_))))
  . refine Vs 12 O (zr9 0 tr122 O O tD)
  refine Va 7 O tO (V.back (i+1) j2 j3 ⟨tO,db tO⟩ tO 0 O O)
 obtain rfl:i=f.hatches.length:=tO;refine Vs 11 O (zr9 0 tr122 O O (by rw[zr,qf hY]))
theorem zex (f:Fl) (v1 v2 v3:Value) (hg:∀ v ∈ f.vars,xz (v.low,v.high)) (Df:Nat->Prop) (l:List St):∀ (v:Value) (D:Nat->Prop) (w:World) (top:Bool),RFl Df w f v1 v2 v3->SlR 10 RSt D w v l->sbulk l<=1000000->Calls prog 123 #[.agg #[v1,v2,v3],v,.bool top] w (Ret fun r w'=>r=.int .i64 (stepsCodeN f.vars f.hatches.length l top)/\Ext w w'):=by
 induction l using zqD with
 | h l ih =>
 intro v D w top hf hl hb;obtain⟨du,dE,dF⟩:=hf;have dY:=hl.max;obtain⟨av,nv,rfl⟩:=hl.form;have dZ:RFl Df w f v1 v2 v3:=⟨du,dE,dF⟩;have stable_fl:∀ {w':World},Ext w w'->RFl Df w' f v1 v2 v3:=fun h=>⟨du.ext yG h,dE.ext yN h,dF.ext zf h⟩;refine zqs func123 O ntmps123 O (V.inn (Vs 2 O (V.box 3 O O (fun b3=>?_))));refine Vs 12 O (zrl (σ:=Nat) [1,2,3,13,14] [3] [3] O (fun e i=>(15,.int .i64 i)::e) (fun e i=>e) (fun i=>i<=l.length/\stepsCodeN f.vars f.hatches.length l top=stepsCodeN f.vars f.hatches.length (l.drop i) top) (fun i=>l.length - i) 0 j2 j3 j1 j1 j1 JF ?_);rintro i ⟨hi,dc⟩;refine Vs 6 O (zoE O (fun dG=>?_) (fun dG=>?_))
 .
  refine Vs 7 O (zri 1000 0 i tO hl O O O (fun x d5 d6 d7 dw dl dx dy=>?_));obtain⟨dH,dI,dJ,dK,rfl,hC,hY,da,dg⟩:=dy.get;obtain⟨dL,dM,rfl⟩:=hC.form;obtain⟨dN,dO,rfl⟩:=hY.form;obtain⟨dQ,dR,rfl⟩:=da.form;obtain⟨dS,dT,rfl⟩:=dg.form;refine zqQ 1000 tR24 ts72 O dx tO _ rfl O ?_;have dz:=kn f.vars f.hatches.length top l i x dw;have dU:=kU dl;rw[St.bulk_eq]at dU;have dV:decide ((i:Int)=(l.length:Int) - 1)=decide (i=l.length - 1):=tD;refine Vs 1 O (V.alloc 8 tz72 O O (fun b8=>?_));refine Vs 6 O (zrm (σ:=Unit) [1,2,3,8,13,14,15] [3,8] [3,8] O (fun e u=>(31,.bool (!(zH f.vars f.hatches.length x (top&&decide (i=l.length - 1)))))::e) (fun e u=>e) (fun u=>True) j1 j1 ?_ ?_)
  .
   refine Vs 5 O (zqb 23 O (fun tt=>?_) (fun tt=>?_))
   . refine Va 6 O tO (zr2 call163 O U6 Uz)
   refine Vs 6 O (zr2 call163 O U6 Ux)
  rintro u _;generalize db:(top&&decide (i=l.length - 1))=last;refine Vs 1 O (V.bool O (fun dA=>?_) (fun dA=>?_))
  .
   have dm:zH f.vars f.hatches.length x last=false:=by simpa using dA
   refine Vs 12 O (zr9 0 tr123 O O (by rw[dc,dz,db,zY,zt2 dm];rfl))
  have dm:zH f.vars f.hatches.length x last=true:=by simpa using dA
  have dr:¬ zH f.vars f.hatches.length x last=false:=tD;refine Vs 6 O (zr2 call164 O (fun w hI=>zfx x _ D w (RSt.put Jo iV iR i6) (za4 dm)) (zqh O (fun w hI=>zpS O j6) (Vs 2 O (V.bool O (fun dB=>?_) (fun dB=>?_)))))
  .
   have dh:xa x=false:=by simpa using dB
   refine Vs 12 O (zr9 0 tr123 O O (by rw[dc,dz,db,zY,zt1 dr,zt2 dh];rfl))
  have dh:¬ xa x=false:=by simpa using dB
  refine Vs 9 O (zr2 call162 O (fun w hI=>zbM f.vars false v1 _ _ _ w x.term hg (Tr1 hI.k0 du) (RTm.put Jo) tO) (Vs 9 O (zoE O (fun tz=>?_) (fun tz=>?_))))
  . refine Vs 13 O (zr9 0 tr123 O O (by rw[dc,dz,db,zY,zt1 dr,zt1 dh,zt2 tz,zt2 tz]))
  have dt:zJ f.vars f.hatches.length x last=if stepsCodeN f.vars f.hatches.length x.thn false ≠ 0 then stepsCodeN f.vars f.hatches.length x.thn false else stepsCodeN f.vars f.hatches.length x.els false:=by rw[zY,zt1 dr,zt1 dh,zt1 tz]
  refine Vs 8 O (zro 47 [(0,_),(1,_)] tR230 ts24 zeroValue24 tS O O tK (fun b47=>?_));refine Vs 5 O (zrl (σ:=Nat) [1,2,3,13,14,15,47,48] [3,47] [3] O (fun e k=>(49,.int .i64 k)::e) (fun e k=>e) (fun k=>k<=2/\(1<=k->stepsCodeN f.vars f.hatches.length x.thn false=0)/\(2<=k->stepsCodeN f.vars f.hatches.length x.els false=0)) (fun k=>2 - k) 0 j2 j3 j1 j1 j1 ⟨tO,fun h=>absurd h tS,fun h=>absurd h tS⟩ ?_);rintro k ⟨d8,dW,dX⟩;refine Vs 6 O (zoE O (fun klt=>?_) (fun klt=>?_))
  .
   rcases (show k=0\/k=1 by omega) with rfl | rfl
   .
    refine Vs 6 O (zqh O (fun w hI=>zph tR230 ts24 O O O tO) (zqh O (fun w hI=>R.load tg24 O ((show Blk w b47 _ _ from hI.at 47 O).cells 0 _ O)) (Vs 7 O (zr2 call123 O (fun w hI=>(ih x dl).1 _ _ w false (stable_fl hI.k0) iV tO) (Vs 9 O (zoE O (fun tz1=>?_) (fun tz1=>?_)))))))
    . refine Vs 16 O (zr9 0 tr123 O O tD)
    refine Va 7 O tO (V.back 1 j2 j3 ⟨tO,fun _=>tO,fun h=>absurd h tS⟩ tO 0 O O)
   refine Vs 6 O (zqh O (fun w hI=>zph tR230 ts24 O O O tO) (zqh O (fun w hI=>R.load tg24 O ((show Blk w b47 _ _ from hI.at 47 O).cells 1 _ O)) (Vs 7 O (zr2 call123 O (fun w hI=>(ih x dl).2 _ _ w false (stable_fl hI.k0) iR tO) ?_))));have dC:=dW (ztg _);have dD:zJ f.vars f.hatches.length x last=stepsCodeN f.vars f.hatches.length x.els false:=tO;refine Vs 9 O (zoE O (fun tz1=>?_) (fun tz1=>?_))
   . refine Vs 16 O (zr9 0 tr123 O O tD)
   refine Va 7 O tO (V.back 2 j2 j3 ⟨tO,fun _=>dC,fun _=>tO⟩ tO 0 O O)
  have d9:zJ f.vars f.hatches.length x last=0:=by rw[dt,zt1 tO,dX tO]
  refine Va 10 O tO (V.back (i+1) j2 j3 Ua tO 0 O O)
 obtain rfl:i=l.length:=tO;refine Vs 11 O (zr9 0 tr123 O O (by rw[dc,zud];rfl))
theorem zey (f:Fl) (v1 v2 v3:Value) (D:Nat->Prop) (w:World) (hf:RFl D w f v1 v2 v3) (dE:snodes f.body+zx f.hatches<=1024) (dw:sbulk f.body<=1000000):Calls prog 72 #[.agg #[v1,v2,v3]] w (Ret fun r w'=>r=.int .i64 (yO f)/\Ext w w'):=by
 replace hf:=hf.narrow;generalize dF:(fun b=>D b/\b<w.heap.size)=E at hf;have dl:∀ q,E q->q<w.heap.size:=fun q h=>tD;obtain⟨dc,dg,dh⟩:=hf;have dG:=dc.max;have dH:=dg.max;obtain⟨a1,n1,rfl⟩:=dc.form;obtain⟨a2,n2,rfl⟩:=dg.form;have hf:∀ {w':World},Ext w w'->RFl E w' f (.slice a1 f.vars.length n1) (.slice a2 f.hatches.length n2) v3:=fun h=>⟨dc.ext yG h,dg.ext yN h,dh.ext zf h⟩;have dx:∀ {w':World},Ext w w'->EqD E w' w':=fun h=>EqD.refl fun b hb=>zvP (dl b hb) h.size;refine zqq func72 O ntmps72 O (V.inn (Vs 2 O (V.box 1 O O (fun b1=>?_))));refine Vs 5 O (V.alloc 3 zeroValue189 O O (fun b3=>?_));refine Vs 6 O (zrM [3] (Hn:=fun v_:Int=>[(3,.own b3 [.int .i64 v_,.bool (yI 1 f.body)] 189)]) [(1,some (1,0)),(3,some (3,0)),(10,some (1,2))] call118 O iA j1 (fun w hI=>zbt (k:=3) O iF (zeu f.body _ E w w b3 0 false 1 (Tr1 hI.k0 dh) (dx hI.k0) Ju (hI.at 3 O) tO tO tO tO)) ?_);rintro _ z ⟨rfl,h1,h2⟩;refine Vs 12 O (zrk 3 O (e':=.own b3 [.int .i64 z,.bool (yI 1 f.body || (f.hatches.take 0).any (fun h=>decide (12<h.term.depth)))] 189) tR (zrl (σ:=Nat × Int) [1,3,14,15] [1] [1,3] O (fun e ⟨i,z⟩=>(16,.int .i64 i)::e) (fun e ⟨i,z⟩=>(3,.own b3 [.int .i64 z,.bool (yI 1 f.body || (f.hatches.take i).any (fun h=>decide (12<h.term.depth)))] 189)::e) (fun⟨i,z⟩=>i<=f.hatches.length/\0<=z/\z<=snodes f.body+zx (f.hatches.take i)) (fun⟨i,z⟩=>f.hatches.length - i) (0,z) j2 j3 j1 j1 j1 ⟨zt6 _,h1,tO⟩ ?_));rintro⟨i,z⟩ ⟨hi,dI,dz⟩;refine zqO 3 3 0 O O (Vs 6 O (zoE O (fun dm=>?_) (fun dm=>?_)))
 .
  refine Vs 6 O (zri 1000 0 i tO dg O O O (fun x dJ dK dL hY dA dr dt=>?_));obtain⟨dB,rfl,da⟩:=dt;obtain⟨dC,dD,rfl⟩:=da.form;refine zqQ 1000 tR23 ts109 O dr tO _ rfl O ?_;have dM:=xS hY;have dN:=kw hY;refine Vs 1 O (V.alloc 5 tz109 O O (fun b5=>?_));refine Vs 5 O (zr2 call119 O (fun w hI=>jj b3 _ _ w (hI.at 3 O)) ?_);rw[show decide (1024<z)=false from zt4 tO,ztI];refine zqh O (fun w hI=>zpS O j6) (Vs 2 O (V.bool O (fun hov=>?_) (fun hov=>?_)))
  .
   have db:(yI 1 f.body || (f.hatches.take i).any (fun h=>decide (12<h.term.depth)))=false:=by simpa using hov
   refine zrk 3 O (e':=.own b3 [.int .i64 z,.bool false] 189) tD (Vs 3 O (zrM [3] (Hn:=fun v_:Int=>[(3,.own b3 [.int .i64 v_,.bool (false || decide (12<1+(x.term.depth:Int) - 1))] 189)]) [(1,some (1,0)),(3,some (3,0)),(5,some (5,0)),(18,some (1000,0)),(22,some (5,3))] call120 O iA j1 (fun w hI=>zbt (k:=3) O iF (zbR x.term _ E w w b3 _ _ 1 YF (dx hI.k0) Ju (hI.at 3 O) tO tO tO tO)) ?_));rintro _ z2 ⟨rfl,g1,g2⟩
   have hb:(false || decide (12<1+(x.term.depth:Int) - 1))=(yI 1 f.body || (f.hatches.take (i+1)).any (fun h=>decide (12<h.term.depth))):=by
    rw[ze hY,ztY,<- Bool.or_assoc,db,ztE,ztE]
    grind
   refine Va 7 O tO (zrk 3 O (e':=.own b3 [.int .i64 z2,.bool (yI 1 f.body || (f.hatches.take (i+1)).any (fun h=>decide (12<h.term.depth)))] 189) tD (V.back ⟨i+1,z2⟩ j2 j3 ⟨tO,tO,tO⟩ tD 0 O O))
  have db:(yI 1 f.body || (f.hatches.take i).any (fun h=>decide (12<h.term.depth)))=true:=by rw[<- Bool.not_eq_false];intro h;rw[h]at hov;cases hov
  refine Va 7 O tO (zrk 3 O (e':=.own b3 [.int .i64 z,.bool (yI 1 f.body || (f.hatches.take (i+1)).any (fun h=>decide (12<h.term.depth)))] 189) tD (V.back ⟨i+1,z⟩ j2 j3 ⟨tO,tO,tO⟩ tD 0 O O))
 obtain rfl:i=f.hatches.length:=tO;rw[zsW]at dz;refine Vs 13 O (zrk 3 O (e':=.own b3 [.int .i64 z,.bool (yI 1 f.body || f.hatches.any (fun h=>decide (12<h.term.depth)))] 189) tD ?_)
 have hC:qb f=(decide (f.vars.length<=64)&&decide (f.hatches.length<=8)&&!(yI 1 f.body || f.hatches.any (fun h=>decide (12<h.term.depth)))):=by
  unfold qb yI
  grind
 refine V.sp 30 O (fun g1=>?_) (fun g1=>?_)
 .
  have s0:qb f=false:=by rw[hC,zt4 (show ¬ f.vars.length<=64 by omega)];rfl
  refine Vs 18 O UY
 refine Vs 6 O (V.sp 36 O (fun g2=>?_) (fun g2=>?_))
 .
  have s0:qb f=false:=by rw[hC,zt4 (show ¬ f.hatches.length<=8 by omega),Bool.and_false];rfl
  refine Vs 12 O UY
 rw[zt3 (show f.vars.length<=64 by omega),zt3 (show f.hatches.length<=8 by omega),ztK,ztK]at hC;refine zqO 3 3 0 O O (zr2 call119 O (fun w hI=>jj b3 _ _ w (hI.at 3 O)) ?_);rw[show decide (1024<z)=false from zt4 tO,ztI];refine Vs 3 O (V.bool O (fun s1=>?_) (fun s1=>?_))
 .
  have s0:qb f=false:=by rw[hC,s1];rfl
  refine Vs 7 O UY
 have s0:¬ qb f=false:=by rw[hC,s1];decide
 refine Vs 7 O (zr2 call121 O (fun w hI=>zfw f.vars _ E w ip tO) (Vs 9 O (zoE O (fun vz=>?_) (fun vz=>?_))))
 . refine Vs 8 O (zr9 0 tr72 O O (by rw[yO,zt1 s0,zt2 vz]))
 have hg:=zbV (show zp f.vars=0 by omega);have du:yO f=if zr f.vars f.hatches ≠ 0 then zr f.vars f.hatches else if stepsCodeN f.vars f.hatches.length f.body true ≠ 0 then stepsCodeN f.vars f.hatches.length f.body true else if zdr f then 4 else 0:=by rw[yO,zt1 s0,zt1 vz]
 refine Vs 6 O (zr2 call122 O (fun w hI=>zcn f _ _ _ E w (hf hI.k0) hg (fun h hh=>by obtain⟨i,hi⟩:=zv5.1 hh;have:=xS hi;omega) tO) (Vs 9 O (zoE O (fun dy=>?_) (fun dy=>?_))))
 . refine Vs 8 O Jz
 rw[zt1 dy]at du;refine Vs 8 O (zr2 call123 O (fun w hI=>zex f _ _ _ hg E f.body _ E w true (hf hI.k0) (Tr1 hI.k0 dh) dw) (Vs 9 O (zoE O (fun sz=>?_) (fun sz=>?_))))
 . refine Vs 8 O Jz
 rw[zt1 sz]at du;refine Vs 7 O (zr2 call124 O (fun w hI=>zkt f.vars f.hatches.length f.body _ E w true tO (Tr1 hI.k0 dh) dw) ?_)
 have ho:zdr f=(decide (4096<cap 1099511627776 (bds f.body).1) || decide (8<cap 1099511627776 (bds f.body).2.1) || decide (67108864<cap 1099511627776 (bds f.body).2.2)):=by
  unfold zdr cap;congr 1;congr 1;all_goals (rw[ztj];omega)
 rw[ho]at du;refine V.alloc 9 tz193 O O (fun b9=>(Vs 9 O (zqb 63 O (fun k1_=>?_) (fun k1_=>?_))))
 . refine Vs 19 O Jz
 refine Vs 5 O (zqb 68 O (fun k2_=>?_) (fun k2_=>?_))
 . refine Vs 14 O Jz
 refine Vs 6 O (V.bool O (fun k3_=>?_) (fun k3_=>?_))
 . refine Vs 7 O Jz
 refine Vs 8 O Jz
end Go.Proofs.YtckdhgbepmpgiaaGreat
namespace Go.GL
instance decNd:DecidableEq Nd:=fun a b =>
 if h:a.kind=b.kind/\a.at_=b.at_/\a.next=b.next/\a.other=b.other then isTrue (zrR h.1 h.2.1 h.2.2.1 h.2.2.2) else isFalse (fun e=>h tD)
end Go.GL
namespace Go.Proofs.YtckdhgbepmpgiaaGreat
open Go.GL
theorem zds (l:List St):∀ top,stepsCodeN vs nh l top=0->plainL l=true:=by
 induction l using zqD with
 | h l ih =>
 intro top h;refine zbC (fun s hs=>?_);obtain⟨last,h2⟩:=xT l top h s hs;obtain⟨h3,_,_,h4,h5⟩:=qn h2;rw[s.plainB_eq,(ih s hs).1 _ h4,(ih s hs).2 _ h5,Bool.and_true,Bool.and_true];split
 . rfl
 split
 . rename_i a4;rw[(h3.rep a4).2.2];rfl
 rename_i a3 a4;rw[(h3.free a3 a4).1,(h3.free a3 a4).2];rfl
theorem zZ {f:Fl} (h:yO f=0):qb f=true/\zp f.vars=0/\zr f.vars f.hatches=0/\stepsCodeN f.vars f.hatches.length f.body true=0/\zdr f=false:=by
 unfold yO at h;split at h
 . cases h
 split at h
 . rename_i h1;exact absurd h h1
 split at h
 . rename_i h1;exact absurd h h1
 split at h
 . rename_i h1;exact absurd h h1
 split at h
 . cases h
 rename_i h1 h2 h3 h4 h5;refine⟨by simpa using h1,tO,tO,tO,by simpa using h5⟩
theorem zbW {f:Fl} (h:yO f=0):plainL f.body=true:=zds _ _ (zZ h).2.2.2.1
theorem zku (w:World) (dd:Nat) (a b:Nd):(Op.equalIn (dd+2) 65 (.agg (xM a).toArray) (.agg (xM b).toArray)).run prog w=.ok (decide (a=b)) w:=by
 have hf:Tryz.prog.fieldsOf 65=#[{ name := "Kind",type:=63,offset:=0,embedded:=false,tag := "",pkgPath := "",byteOffset:=0 },{ name := "At",type:=3,offset:=1,embedded:=false,tag := "",pkgPath := "",byteOffset:=8 },{ name := "Next",type:=3,offset:=2,embedded:=false,tag := "",pkgPath := "",byteOffset:=16 },{ name := "Other",type:=3,offset:=3,embedded:=false,tag := "",pkgPath := "",byteOffset:=24 }]:=tK;rw[run_equalIn_struct w _ _ _ _ (by rw[hf];exact underlying65) tK,hf];simp[Op.eqFields,part,xM,isAgg63,run_equalIn_int w _ _ _ _ _ _ underlying63,run_equalIn_int w _ _ _ _ _ _ tu3]
 have e:decide (a=b)=(decide (a.kind=b.kind)&&decide (a.at_=b.at_)&&decide (a.next=b.next)&&decide (a.other=b.other)):=by
  rw[ztC];simp only[ztA,decide_eq_true_eq];exact⟨fun h=>tD,fun h=>zrR h.1.1.1 h.1.1.2 h.1.2 h.2⟩
 rw[e];by_cases h1:a.kind=b.kind
 . grind
 grind
theorem neNd {ty:TypeId} {pos:String} {a b:Nd} (hx:ev env x=some (.agg (xM a).toArray)) (hy:ev env y=some (.agg (xM b).toArray)) :
  yu prog ⟨dst,.binOp .neq 65 x y t',ty,pos,aft,g⟩ env w (.bool (decide (a ≠ b))) w:=by
 intro n c hc;have hm:Tryz.prog.eqGuardType Tryz.prog.depth 65=false:=tK;simp[execOp,hc.eval hx,hc.eval hy,run_eqGuard_agg,hm,run_neq_struct,zku]
theorem zhc (a b:List Nd) (va vb:Value) (D D':Nat->Prop) (w:World) (ha:SlR 4 RNd D w va a) (hb:SlR 4 RNd D' w vb b):Calls prog 73 #[va,vb] w (Ret fun r w'=>r=.bool (decide (a=b))/\Ext w w'):=by
 have dx:=ha.max;have dy:=hb.max;obtain⟨aa,ca,rfl⟩:=ha.form;obtain⟨ab,cb,rfl⟩:=hb.form;refine zqr func73 O ntmps73 O (Gs 15 O (zoD O (fun dl=>?_) (fun dz=>?_)))
 . refine Gs 7 O (zoU results73 O ⟨_,rfl,by rw[zt4 (fun h=>dl tD)],Keep.refl _ _⟩)
 have hl:a.length=b.length:=tO;refine Gs 11 O (G.loop (σ:=Nat) (fun i=>[(0,.slice aa a.length ca),(1,.slice ab b.length cb),(12,.int .i64 a.length),(13,.int .i64 i)]) (fun i=>fun w'=>i<=a.length/\a.take i=b.take i/\Ext w w') (fun i=>a.length - i) 0 j2 JG ?_);rintro i w1 ⟨hi,da,hC⟩;obtain⟨ha,hb⟩:=Tr2 hC ha hb;refine Gs 6 O (zoD O (fun dA=>?_) (fun dB=>?_))
 .
  obtain⟨x,db⟩:∃ x,a[i]?=some x:=j9;obtain⟨y,dc⟩:∃ x,b[i]?=some x:=j9;obtain⟨bx,ox,cx,dm,_,dr,rfl⟩:=ha.at db;obtain⟨by',oy,cy,dt,_,du,rfl⟩:=hb.at dc;refine Gs 11 O (Qt tK (Gs 2 O (zqj O O (fun w1 hY=>zph tR34 ts65 O O dm tO) (zqj O O (fun w1 hY=>zpj isAgg65 ts65 O (by rfl) (hY.cells dr (fun h=>h))) (Gs 2 O (zqj O O (fun w1 hY=>zph tR34 ts65 O O dt tO) (zqj O O (fun w1 hY=>zpj isAgg65 ts65 O (by rfl) (hY.cells du (fun h=>h))) (zqj O O (fun w1 hY=>neNd (a:=x) (b:=y) O O) (zqn (fun wz1 dw=>?_))))))))));obtain⟨ha,hb,hC⟩:=Tr3 dw ha hb hC;refine Gs 1 O (zoD O (fun dg=>?_) (fun dg=>?_))
  . refine Gs 11 O (zoU results73 O ⟨_,rfl,by rw[zt4 (fun h=>dg tD)],hC⟩)
  have dh:x=y:=zt0.1 dg;refine Ga 7 O tO (G.back (i+1) j2 ⟨tO,by rw[ze db,ze dc,da,dh],hC⟩ tO)
 have:i=a.length:=tO;subst this;rw[zsW,hl,zsW]at da;refine Gs 11 O (zoU results73 O ⟨_,rfl,tD,hC⟩)
theorem zkv (f:Fl) (v1 v2 v3:Value) (D:Nat->Prop) (w:World) (hf:RFl D w f v1 v2 v3) (hp:plainL f.body=true) (eE:ssize f.body<=10000) :
  Calls prog 74 #[.agg #[v1,v2,v3]] w (Ret fun r w'=>(∃ nv,r=.agg #[nv]/\SlR 4 RNd (fun b=>w.heap.size<=b) w' nv (zd f))/\Ext w w'):=by
 have eF:=xj f.body;have dV:=hf.narrow.body;refine zqq func74 O ntmps74 O (Gs 2 O (G.mem O O (M.box O O) ?_));rintro _ w1 ⟨c,rfl,hc,eG,da,dW⟩;refine G.mem O O (M.alloc (cs:=[.slice none 0 0]) tz36 O) ?_;rintro _ w2 ⟨r,rfl,hr,eH,dh,dS⟩;replace da:=dS.blk da (fun h=>h);refine Gs 4 O (zqg O O (R.build (v:=.agg #[.int .i64 0,.int .i64 (-1),.int .i64 (-1),.int .i64 (-1)]) [(0,_),(1,_),(2,_),(3,_)] O (fun _=>tK)) (G.mem O O (M.buildSlice (cs:=xM ⟨0,-1,-1,-1⟩) [(0,_)] tR34 ts65 tz65 tS O tK) ?_));rintro _ w3 ⟨g3,rfl,eI,eJ,dD,dE⟩;replace da:=dE.blk da (fun h=>h);replace dh:=dE.blk dh (fun h=>h);refine zqg O O (R.build (v:=.agg #[.slice (some ⟨g3,0,none⟩) 1 1,.int .i64 0]) [(0,_)] O (fun _=>tK)) (G.mem O O (M.box O O) ?_);rintro _ w4 ⟨B,rfl,hB,eK,dX,dz⟩;replace da:=dz.blk da (fun h=>h);replace dh:=dz.blk dh (fun h=>h);replace dD:=dz.blk dD (fun h=>h);have dY:Ext w w4:=((dW.ext dS).ext dE).ext dz
 have dZ:BdS w.heap.size B w4 { nodes:=[⟨0,-1,-1,-1⟩],step:=0 } (.slice (some ⟨g3,0,none⟩) 1 1) :=
  ⟨dX,zN (k:=4) (n:=1) (cap:=1) dD (ztg _) tS rfl,tO,fun g hg=>by obtain rfl:g3=g:=Option.some.inj hg;omega⟩
 have eL:c ≠ r:=tO;refine Gs 5 O (Dw (fun q=>Blk q c [v1,v2,v3] 26) [] (fun w5 dA _=>?_));have dl:=dA.blk da (fun h=>h);have dF:=dA.blk dh (fun h=>h);have d5:=dZ.ext dA;have d6:=dY.ext dA;refine Ds [0,1] tK O (WD.take 2 O tK O O O dl (fun w1 d7=>R.load tg24 O (d7.cells 2 _ O)) (Ds [3,8] tK O (WD.call 4 O tK O O O (F.call (vs:=[_,_]) call126 O) (zdf B 0 w5) ?_)));rintro x w6 ⟨hx,dB⟩;have dm:=dB.blk dl (fun h=>h);have dG:=dB.blk dF (fun h=>h);have d8:=d5.ext dB;have d9:=d6.ext dB;refine⟨fun _=>dm,?_⟩;have eb:=hx;obtain⟨bb,ab,rfl,_,_⟩:=hx;refine WD.mem 5 O tK O O O (M.buildSlice (cs:=[.func (.func 166) #[] #[.pointer (some ⟨bb,0,none⟩),.pointer (some ⟨ab,0,none⟩)]]) [(0,_)] tR198 ts120 tz120 tS O tK) ?_;rintro _ w7 ⟨g7,rfl,eM,eN,ec,dr⟩;have dt:=dr.blk dm (fun h=>h);have dH:=dr.blk dG (fun h=>h);have ed:=d8.ext dr;have dI:=d9.ext dr;refine⟨fun _=>dt,?_⟩;have ee:=Hung.lit ec (eb.ext dr);have ef:=dI.size;refine WD.call 6 O tK O O O (F.call (vs:=[_,_,_]) call125 O) (zmm f.body w.heap.size B _ _ _ w7 _ _ _ (dV.ext zf dI) (fun q h=>h.2) ed ee tR tO hp tD tD) ?_;rintro r9 w9 ⟨⟨nv9,dJ⟩,dC,_,dK⟩;have dL:=dK.blk dt tS;have dM:=dK.blk dH tS;have eh:Ext w w9:=zrV (KT.trans (zrT dI) dK) (ztg _);refine⟨fun _=>dL,?_⟩;have dN:=xE f.body hp { nodes:=[⟨0,-1,-1,-1⟩],step:=0 } [(0,false)] tR;have db:zg7 f=zd f:=zki f hp;unfold zg7 at db;generalize hX:listB f.body { nodes:=[⟨0,-1,-1,-1⟩],step:=0 } [(0,false)]=X at dJ dC dN db;obtain⟨a9,c9,rfl,_⟩:=dC.form;have du:=dN.len;have dO:=dN.lt;have ei:=dC.len;simp only[ztc]at du;obtain⟨an,cn,rfl,eO,_⟩:=xP dJ.row;refine Ds [7] tK O (G.done tK ?_ _);refine Gs 2 O (G.loop (σ:=Nat) (fun j=>[(2,.pointer (some ⟨r,0,none⟩)),(3,.pointer (some ⟨B,0,none⟩)),(16,.slice a9 X.2.length c9),(17,.int .i64 X.2.length),(18,.int .i64 j)]) (fun j=>fun w'=>j<=X.2.length/\BdS w.heap.size B w' { X.1 with nodes:=zo X.1.nodes X.1.nodes.length (X.2.take j) } (.slice an X.1.nodes.length cn)/\Hung B w' (.slice a9 X.2.length c9) X.2/\Blk w' r [.slice none 0 0] 36/\Ext w w') (fun j=>X.2.length - j) 0 j2 ⟨zt6 _,dJ,dC,dM,eh⟩ ?_);rintro j y1 ⟨hj,dg,dT,hY,dQ⟩;refine Gs 6 O (zoD O (fun eP=>?_) (fun eQ=>?_))
 .
  obtain⟨e,he⟩:∃ e,X.2[j]?=some e:=j9;obtain⟨ge,x,rfl,ej,ek⟩:=dT.at he;obtain⟨ie,pe⟩:=e;obtain⟨ff,fcs,rfl,em,dw⟩:=zfl w.heap.size B ie pe (X.1.nodes.length:Nat) _ _ x y1 dg ek (by dsimp only;rw[zT];exact dO _ (zsS he));refine Ga 7 O tO (zqk O isAgg120 (ej 0 _ O) (Gs 8 O (zqk O tg34 (dg.blk.cells 0 _ O) (Gs 1 O (zpo O em dw ?_)))));rintro _ y2 ⟨dx,dR⟩;refine Ga 7 O tO (G.back (j+1) j2 ⟨tO,by rw[kz he];exact dx,dT.kt dR,dR.blk hY tS,zrV (KT.trans (zrT dQ) dR) (ztg _)⟩ tO)
 have er:j=X.2.length:=tO;subst er;rw[zsW]at dg;have hC:=dg.row;dsimp only at hC;rw[zT]at hC;refine Gs 10 O (zqk O tg34 (dg.blk.cells 0 _ O) (zqg O O (R.build (v:=.agg #[.int .i64 1,.int .i64 (-1),.int .i64 (-1),.int .i64 (-1)]) [(0,_),(1,_),(2,_),(3,_)] O (fun _=>tK)) (G.mem O O (M.buildSlice (cs:=xM ⟨1,-1,-1,-1⟩) [(0,_)] tR34 ts65 tz65 tS O tK) ?_)));rintro _ y2 ⟨g2,rfl,yg2,ys2,yB2,yk2⟩;replace hC:=zj hC yk2 (fun _ _ h=>h);replace hY:=yk2.blk hY (fun h=>h);refine G.mem O O (M.append tu34 Tryz.el65 O tS O O hC O (Cells.add yB2.cells) (je _) tO tO) ?_;rintro nv y3 ⟨dc,ew,yk3,_⟩
 have ez:∀ g,Value.ownBlock (.slice an X.1.nodes.length cn)=some g->g ≠ r:=fun g hg=>by
  obtain⟨cs',dx⟩:=xe hC hg;exact dx.ne hY tS
 have eA:∀ g,Value.ownBlock (.slice an X.1.nodes.length cn)=some g->w.heap.size<=g:=dg.far;replace hY:=yk3.blk hY (fun h=>ez r h rfl);have eC:Ext w y3:=Keep.trans (dQ.ext yk2) yk3 (fun k hk h=>tD);obtain⟨av,cv,rfl⟩:=yb dc
 have hnv:∀ g,Value.ownBlock (.slice av (X.1.nodes.length+1) cv)=some g->w.heap.size<=g/\g ≠ r:=by
  intro g hg;refine⟨?_,?_⟩
  .
   rcases ew with h | ⟨g',h1,h2⟩
   . grind
   rw[h1]at hg;cases hg;have:=(dQ.ext yk2).size;omega
  obtain⟨cs',dx⟩:=xe dc hg;exact dx.ne hY tS
 refine zqg O O (R.build (v:=.agg #[.slice av (X.1.nodes.length+1) cv]) [(0,_)] O (fun _=>tK)) (zpt O (zpu ts36 O O O O tX hY tR) ?_);rintro yf ⟨_,eD,dU⟩;have dy:=zj dc dU (fun g hg h=>(hnv g hg).2 h);refine Gs 3 O (zp3 results74 O (kM tg36 ts36 O eD.cells) ?_);refine⟨_,rfl,⟨_,rfl,?_⟩,eC.trans dU (fun q hq h=>tO)⟩;rw[<- db];refine zpL tS xM zL iA (n:=X.1.nodes.length+1) (e:=65) ?_ (fun g hg=>(hnv g hg).1);rw[zuq];simpa using dy
def yt (f:Fl) (g:List Nd):Int:=if yO f ≠ 0 then yO f else if zd f=g then 0 else 2
theorem zbX {f:Fl} (hC:snodes f.body+zx f.hatches<=1024):ssize f.body<=1024:=by have:=zaF f.body;omega
theorem zbY (f:Fl) (g:List Nd) (v1 v2 v3 gv:Value) (D Dg:Nat->Prop) (w:World) (hf:RFl D w f v1 v2 v3) (hg:SlR 4 RNd Dg w gv g) (dr:snodes f.body+zx f.hatches<=1024) (dw:sbulk f.body<=1000000) :
  Calls prog 36 #[.agg #[v1,v2,v3],.agg #[gv]] w (Ret fun r w'=>r=.int .i64 (yt f g)/\Ext w w'):=by
 have dD:=zbX dr;have hE:=Keep.refl (fun _=>False) w;obtain⟨ag,cg,rfl⟩:=hg.form;refine zqr func36 O ntmps36 O (Gs 2 O (G.mem O O (M.box O O) ?_));rintro _ dE ⟨b,rfl,dg,dx,hC,dh⟩;have dt:_<=b:=zsX hE.size (zvO dg.symm);obtain⟨hE,hf,hg⟩:=Tr3 dh hE hf hg;refine G.mem O O (M.box O O) ?_;rintro _ dy ⟨b2,rfl,da,du,hY,db⟩;have dc:b ≠ b2:=tO;have dl:_<=b2:=zsX hE.size (zvO da.symm);obtain⟨hE,hf,hg,hC⟩:=Tr4 db hE hf hg hC;refine Gs 6 O (zqm O tg26 ts26 hC.cells O (G.call O call72 (zey f _ _ _ D _ hf dr dw) ?_));rintro _ wz1 ⟨rfl,dz⟩;obtain⟨hE,hf,hg,hC,hY⟩:=Tr5 dz hE hf hg hC hY;refine Gs 9 O (zoD O (fun h0=>?_) (fun h0=>?_))
 . refine Gs 8 O (zoU results36 O ⟨_,rfl,by rw[yt,zt2 h0],hE⟩)
 have dA:yO f=0:=tO;refine Gs 4 O (Dw (fun q=>Ext wz1 q) [] (fun wd2 hD _=>?_));refine WD.take 0 O tK O O O hD (fun w1 dm=>zpj tg26 ts26 O (by rfl) (dm.blk hC (fun h=>h)).cells) (Ds [3] tK O (WD.take 4 O tK O O O hD (fun w1 dm=>R.load tg34 O ((dm.blk hY (fun h=>h)).cells 0 _ O)) (WD.call 1 O tK O O O (F.call (vs:=[_]) call74 O) (zkv f _ _ _ D _ (hf.ext hD) (zbW dA) tO) ?_)));rintro _ wz3 ⟨⟨nv,rfl,hnv⟩,dB⟩;replace hD:=hD.ext dB;refine⟨fun _=>hD,?_⟩;refine zpG 2 O tK O O O (fun w1=>R.field runUnderlying36 O tg34 O O) (WD.call 5 O tK O O O (F.call (vs:=[_,_]) call73 O) (zhc (zd f) g _ _ _ Dg _ hnv (hg.ext zC hD)) ?_);rintro _ wz4 ⟨rfl,dC⟩;replace hD:=hD.ext dC;refine⟨fun _=>hD,?_⟩;refine zpG 6 O tK O O O (fun w1=>zpS O j6) (G.done tK ?_ _);obtain⟨hE,hf,hg,hC,hY⟩:=Tr5 hD hE hf hg hC hY;refine Gs 1 O (zoD O (fun h1=>?_) (fun h1=>?_))
 . refine Gs 7 O (zoU results36 O ⟨_,rfl,by rw[yt,zt1 tO,zt1 h1],hE⟩)
 refine Gs 8 O (zoU results36 O ⟨_,rfl,by rw[yt,zt1 tO,zt2 (zt0.1 h1)],hE⟩)
end Go.Proofs.YtckdhgbepmpgiaaGreat
namespace Go.GL
open Go.RowKit
def OwnR {α:Type} (e:TypeId) (k:Nat) (R:Rel α) (D:Nat->Prop) (w:World) (v:Value) (l:List α):Prop :=
 ∃ xs:List Value,w.ownsRow 0 e k v l.length xs/\∀ (i:Nat) x,l[i]?=some x->R D w x ((xs.drop (i*k)).take k)
section
variable {k:Nat} {R:Rel α} {D:Nat->Prop} {l:List α}
theorem OwnR.sl {D':Nat->Prop} (h:OwnR e k R D w v l) (hk:0<k) (hs:yq R) (hD:∀ q,D q->D' q) (hv:∀ g,v.ownBlock=some g->D' g):SlR k R D' w v l:=by
 obtain⟨xs,h1,h2⟩:=h;obtain⟨ao,cap,rfl,hc,hm⟩:=xP h1;refine⟨ao,cap,rfl,hc,hm,fun i x hx=>?_⟩;have hi:=(zt5.1 hx).1;have hY:=h1.1
 obtain⟨a0,rfl⟩:∃ a0,ao=some a0:=by
  cases ao with
  | some a0=>exact⟨a0,rfl⟩
  | none =>
   rcases h1.2 with⟨_,h⟩ | ⟨g,cap,cur,h,_⟩
   . omega
   cases h
 obtain⟨e1,e2,hC⟩:=jL h1;obtain⟨b0,o0,s0⟩:=a0;simp only at e1 e2 hC;subst e1;subst e2;have h5:(i+1)*k<=l.length*k:=zvT _ hi;rw[zvX]at h5;refine⟨b0,0,_,rfl,hv b0 rfl,?_,?_,hs D D' w w hD (fun _ _ _=>rfl) x _ (h2 i x hx)⟩
 . grind
 intro j u hj;rw[ztn]at hj;split at hj
 .
  rw[zuz]at hj;have:=hC _ _ hj;rw[zvY]at this ⊢;exact this
 cases hj
end
mutual
/-- The steps in preorder. -/
def St.pre:St->List St
 | .mk a c v n t f g b=>.mk a c v n t f g b::(preL f++preL g)
def preL:List St->List St
 | []=>[]
 | s::r=>s.pre++preL r
end
theorem St.pre_eq (s:St):s.pre=s::(preL s.thn++preL s.els):=by cases s;rw[St.pre];rfl
theorem zbZ (a b:List St):preL (a++b)=preL a++preL b:=by
 induction a with
 | nil=>rfl
 | cons x r ih=>rw[zu3,preL,ih,preL,zu0]
theorem ziq {l:List St} {x:St} (h:l[i]?=some x):preL (l.take (i+1))=preL (l.take i)++x.pre:=by rw[ze h,zbZ];simp[preL]
theorem yp:∀ l:List St,(preL l).length=ssize l:=by
 intro l;induction l using zqD with
 | h l ih =>
  have key:∀ r:List St,(∀ s ∈ r,(preL s.thn).length=ssize s.thn/\(preL s.els).length=ssize s.els)->(preL r).length=ssize r:=by
   intro r;induction r with
   | nil=>intro _;rfl
   | cons x r ih2 =>
    intro h;have h1:=h x (zsV ..);have h2:=ih2 (fun s hs=>h s (zsU _ hs));have h4:=x.size_eq;rw[preL,zsZ,x.pre_eq,ztk,zsZ,h1.1,h1.2,h2,ssize];omega
  exact key l ih
open Go.RowKit Go.ChangeMaps
def lkm:List (Int × Value)->Int->Option (Nat × Value)
 | [],_=>none
 | (a,v)::r,k=>if k=a then some (0,v) else (lkm r k).map fun p=>(p.1+1,p.2)
def zm5 (l:List (Int × Value)) (k:Int):Option Value:=(lkm l k).map (·.2)
def zhW (l:List (Int × Value)) (k:Int) (v:Value):List (Int × Value):=match lkm l k with
 | some p=>l.set p.1 (k,v)
 | none=>l++[(k,v)]
theorem zb5 {p:Nat × Value} (h:lkm l k=some p):l[p.1]?=some (k,p.2):=by
 induction l generalizing p with
 | nil=>simp[lkm]at h
 | cons x r ih =>
  obtain⟨a,v⟩:=x;rw[lkm]at h;split at h
  . grind
  obtain⟨q,h2,rfl⟩:=zw3.1 h
  grind
theorem zkw (h:lkm l k=none):∀ p ∈ l,p.1 ≠ k:=by
 induction l with
 | nil=>intro p hp;simp at hp
 | cons x r ih =>
  obtain⟨a,v⟩:=x;rw[lkm]at h;split at h
  . cases h
  rename_i h1;intro p hp;rcases zt7.1 hp with rfl | hp
  . omega
  exact ih (by simpa using h) p hp
theorem zir (l:List (Int × Value)) (k:Int) (v:Value):(zhW l k v).map (·.1)=match lkm l k with
 | some _=>l.map (·.1)
 | none=>l.map (·.1)++[k]:=by
 unfold zhW;cases h:lkm l k with
 | none=>simp
 | some p =>
  have h1:=zb5 h;simp only;rw[zuZ];apply zuj;intro j;rw[zuF];split
  .
   rename_i hj;subst hj;rw[zt8,h1];split
   . rfl
   rename_i h2;rw[ztb]at h2;exact absurd (zt5.1 h1).1 h2
  rfl
theorem zav (hn:(l.map (·.1)).Nodup) (k:Int) (v:Value):((zhW l k v).map (·.1)).Nodup:=by
 rw[zir];cases h:lkm l k with
 | some p=>exact hn
 | none =>
  simp only;rw[zvc];refine⟨hn,tR,fun a ha b hb=>?_⟩;rw[zt9]at hb;subst hb;obtain⟨p,hp,rfl⟩:=zv6.1 ha;exact zkw h p hp
def MapI (w:World) (m:Nat) (l:List (Int × Value)):Prop :=
 ∃ (es:Array MapEntry) (clock:Nat),w.heap[m]?=some (.map es clock)/\es.toList.map (fun e=>(e.key,e.val))=l.map (fun p=>(Value.int .i64 p.1,p.2))/\(∀ e ∈ es.toList,e.born<clock)/\(es.toList.map (·.born)).Nodup/\(l.map (·.1)).Nodup
theorem MapI.keep {S:Nat->Prop} (h:MapI w m l) (hk:Keep S w w') (hS:¬ S m):MapI w' m l:=by
 obtain⟨es,c,h1,r⟩:=h;exact⟨es,c,by rw[hk.block m (ztt.1 h1).1 hS];exact h1,r⟩
theorem MapI.lt (h:MapI w m l):m<w.heap.size:=by
 obtain⟨es,c,h1,r⟩:=h;exact(ztt.1 h1).1
theorem jk (k:Int):∀ (es:List MapEntry) (l:List (Int × Value)) (i:Nat),es.map (fun e=>(e.key,e.val))=l.map (fun p=>(Value.int .i64 p.1,p.2))->Instr.findNow (.int .i64) (.int .i64 k) es i=some ((lkm l k).map fun p=>(i+p.1,p.2))
 | [],[],i,_=>rfl
 | [],_::_,i,h=>tD
 | _::_,[],i,h=>tD
 | e::es,(a,v)::l,i,h=>by
  simp only[zuV,List.cons.injEq,Prod.mk.injEq]at h;rw[Instr.findNow,h.1.1,lkm];by_cases hk:k=a
  . simp[Instr.sameNow,hk,h.1.2]
  have:(k == a)=false:=by simpa using hk
  simp only[Instr.sameNow,if_true,this,zt1 hk];rw[jk k es l (i+1) h.2];cases lkm l k<;>simp<;>omega
section
variable {kt:TypeId}
theorem jF (hk:P.underlying kt=some (.int .i64)) (k:Int) (b:Bool) (w:World):(Instr.checkKey b 10000 kt (.int .i64 k)).run P w=.ok () w:=MapKept.run_checkKey hk (by simp[MapKept.IsKey]) b 9999
theorem zfy (h:MapI w m l) (ht:P.underlying t=some (.map kt et)) (hk:P.underlying kt=some (.int .i64)) (hz:∀ w,(zeroValue et).run P w=.ok z w) (k:Int):(Instr.lookup t (.map (some m)) (.int .i64 k) false).run P w=.ok ((zm5 l k).getD z) w:=by
 obtain⟨es,c,h1,h2,r⟩:=h;have h3:=jk k _ _ 0 h2;have h5:=MapKept.run_findKey (P:=P) (w:=w) hk h3;cases h6:lkm l k with
 | none=>rw[h6]at h5;simp[Instr.lookup,run_underlying ht,MapKept.run_getObj_map h1,jF hk,h5,hz,Result.andThen,zm5,h6]
 | some p=>rw[h6]at h5;simp[Instr.lookup,run_underlying ht,MapKept.run_getObj_map h1,jF hk,h5,Result.andThen,zm5,h6]
theorem qg {o o':Obj} (h:w.heap[m]?=some o):Keep (fun q=>q=m) w (setBlock w m o') :=
 ⟨rfl,rfl,rfl,ztg _,by simp[setBlock],fun k _ hn=>(MapKept.heap_set h).2 k hn⟩
theorem zcG (f:MapEntry->β) (g:MapEntry->MapEntry) (y:β):∀ (es:List MapEntry) (i:Nat),(∀ e,es[i]?=some e->f (g e)=y)->(es.modify i g).map f=(es.map f).set i y:=by
 intro es i h;apply zuj;intro j;rw[zt8,zuB,zuF];by_cases hj:i=j
 .
  subst hj;cases h1:es[i]? with
  | none =>
   have:=List.getElem?_eq_none_iff.1 h1;rw[zt2 rfl,zt1 tD];simp
  | some e =>
   have:=(zt5.1 h1).1;rw[zt2 rfl,zt2 tD];simp[h e h1]
 rw[zt1 hj,zt8];cases es[j]?<;>simp[hj]
theorem zfz (h:MapI w m l) (ht:P.underlying t=some (.map kt et)) (hk:P.underlying kt=some (.int .i64)) (k:Int) (v:Value) :
  ∃ w',(Instr.mapUpdate t (.map (some m)) (.int .i64 k) v).run P w=.ok () w'/\MapI w' m (zhW l k v)/\Keep (fun q=>q=m) w w'/\w'.heap.size=w.heap.size:=by
 obtain⟨es,c,h1,h2,h3,h4,h5⟩:=h;have h6:=jk k _ _ 0 h2;have h7:=MapKept.run_findKey (P:=P) (w:=w) hk h6;have da:es.toList.length=l.length:=by have:=congrArg List.length h2;simpa using this
 cases h8:lkm l k with
 | none =>
  rw[h8]at h7;refine⟨setBlock w m (.map (es.push ⟨.int .i64 k,v,c⟩) (c+1)),by simp[Instr.mapUpdate,run_underlying ht,MapKept.run_getObj_map h1,jF hk,h7,MapKept.run_setObj_map _ h1,Result.andThen,setBlock],?_,qg h1,by simp[setBlock]⟩;refine⟨_,_,(MapKept.heap_set h1).1,?_,?_,?_,zav h5 k v⟩
  . rw[zhW,h8];simp[h2]
  . grind
  rw[Array.toList_push,zuT,zvc];refine⟨h4,tR,fun a ha b hb=>?_⟩;obtain⟨e,he,rfl⟩:=zv6.1 ha;simp at hb;subst hb;have:=h3 e he;omega
 | some p =>
  rw[h8]at h7;have h9:=zb5 h8;have hp:=(zt5.1 h9).1;obtain⟨e0,db⟩:∃ e0,es.toList[p.1]?=some e0:=j9
  have hC:e0.key=.int .i64 k/\e0.val=p.2:=by
   have:=congrArg (fun L=>L[p.1]?) h2;simp only[zt8,db,h9,zw4,Option.some.injEq,Prod.mk.injEq]at this;exact this
  have hY:es[p.1]?=some e0:=tD;refine⟨setBlock w m (.map (es.modify p.1 fun e=>{ e with key:=.int .i64 k,val:=v }) c),by simp[Instr.mapUpdate,run_underlying ht,MapKept.run_getObj_map h1,jF hk,h7,hY,hC.1,Instr.keyThatStays,Instr.sameBits,MapKept.run_setObj_map _ h1,Result.andThen,setBlock],?_,qg h1,by simp[setBlock]⟩;refine⟨_,_,(MapKept.heap_set h1).1,?_,?_,?_,zav h5 k v⟩
  . rw[zhW,h8,ztz,zcG _ _ (.int .i64 k,v) _ _ iA,h2];simp only[zuZ]
  .
   intro e he;rw[ztz]at he;obtain⟨j,hj⟩:=zv5.1 he;rw[zuB]at hj;obtain⟨e1,dc,rfl⟩:=zw3.1 hj;have:=h3 e1 (zsS dc);split<;>exact this
  have:(es.modify p.1 fun e=>{ e with key:=.int .i64 k,val:=v }).toList.map (·.born)=es.toList.map (·.born):=by
   rw[ztz];apply zuj;intro j;rw[zt8,zt8,zuB];cases es.toList[j]?<;>simp;split<;>rfl
  rw[this];exact h4
end
section
variable {ty:TypeId} {pos:String} {kt:TypeId}
theorem M.makeMap:xd P ⟨dst,.makeMap t none,ty,pos,aft,g⟩ env w (fun u w'=>∃ b,u=.map (some b)/\b=w.heap.size/\w'.heap.size=w.heap.size+1/\MapI w' b []/\Ext w w'):=by
 refine⟨.map (some w.heap.size),w.alloc (.map #[] 0),?_,_,rfl,rfl,tR,⟨#[],0,(MapKept.heap_alloc w _).1,rfl,tR,tR,tR⟩,Keep.alloc w _⟩;intro n a ha;have h:(Instr.makeMap t none).run P w=.ok (.map (some w.heap.size)) (w.alloc (.map #[] 0)):=by simp[Instr.makeMap,Result.andThen]
 simp[execOp,h]
theorem zs0 (h:MapI w m l) (ht:P.underlying t=some (.map kt et)) (hk:P.underlying kt=some (.int .i64)) (hz:∀ w,(zeroValue et).run P w=.ok z w) (hx:ev env x=some (.map (some m))) (hy:ev env y=some (.int .i64 k)) :
  yu P ⟨dst,.lookup t x y false,ty,pos,aft,g⟩ env w ((zm5 l k).getD z) w:=by
 intro n a ha;simp[execOp,ha.eval hx,ha.eval hy,zfy h ht hk hz]
theorem M.insert (h:MapI w m l) (ht:P.underlying t=some (.map kt et)) (hk:P.underlying kt=some (.int .i64)) (hx:ev env x=some (.map (some m))) (hy:ev env y=some (.int .i64 k)) (hu:ev env u=some v) :
  xO P ⟨dst,.insert t x y u,ty,pos,aft,g⟩ env w (fun w'=>MapI w' m (zhW l k v)/\Keep (fun q=>q=m) w w'/\w'.heap.size=w.heap.size):=by
 obtain⟨w',h1,h2⟩:=zfz (P:=P) h ht hk k v;refine⟨w',?_,h2⟩;intro n a ha;simp[execOp,ha.eval hx,ha.eval hy,ha.eval hu,h1]
end
def MapE (w:World) (m:Nat) (l:List (Int × Value)) (k:Int) (st:Nat):Prop :=
 ∃ (es:Array MapEntry) (clock i:Nat) (e:MapEntry) (v:Value),w.heap[m]?=some (.map es clock)/\es.toList.map (fun e=>(e.key,e.val))=l.map (fun p=>(Value.int .i64 p.1,p.2))/\(∀ e ∈ es.toList,e.born<clock)/\(es.toList.map (·.born)).Nodup/\(l.map (·.1)).Nodup /\
  es.toList[i]?=some e/\e.born=st/\lkm l k=some (i,v)
theorem MapE.keep {S:Nat->Prop} {st:Nat} (h:MapE w m l k st) (hk:Keep S w w') (hS:¬ S m):MapE w' m l k st:=by
 obtain⟨es,c,i,e,v,h1,r⟩:=h;exact⟨es,c,i,e,v,by rw[hk.block m (ztt.1 h1).1 hS];exact h1,r⟩
theorem MapE.map {st:Nat} (h:MapE w m l k st):MapI w m l:=by
 obtain⟨es,c,i,e,v,h1,h2,h3,h4,h5,_⟩:=h;exact⟨es,c,h1,h2,h3,h4,h5⟩
section
variable {ty:TypeId} {pos:String} {kt:TypeId}
theorem M.mapEntry (h:MapI w m l) (hv:zm5 l k=some v) (ht:P.underlying t=some (.map kt et)) (hk:P.underlying kt=some (.int .i64)) (hx:ev env x=some (.map (some m))) (hy:ev env y=some (.int .i64 k)) :
  xd P ⟨dst,.mapEntry t x y,ty,pos,aft,g⟩ env w (fun u w'=>∃ st:Nat,u=.tuple #[v,.int .i64 st]/\MapE w' m l k st/\Keep (fun q=>q=m) w w'/\w'.heap.size=w.heap.size):=by
 obtain⟨es,c,h1,h2,h3,h4,h5⟩:=h;have h6:=jk k _ _ 0 h2;have h7:=MapKept.run_findKey (P:=P) (w:=w) hk h6;have dg:es.toList.length=l.length:=by have:=congrArg List.length h2;simpa using this
 obtain⟨p,h8,rfl⟩:=zw3.1 hv;rw[h8]at h7;have h9:=zb5 h8;have hp:=(zt5.1 h9).1;obtain⟨e0,da⟩:∃ e0,es.toList[p.1]?=some e0:=j9
 have hY:e0.key=.int .i64 k/\e0.val=p.2:=by
  have:=congrArg (fun L=>L[p.1]?) h2;simp only[zt8,da,h9,zw4,Option.some.injEq,Prod.mk.injEq]at this;exact this
 have db:es[p.1]?=some e0:=tD
 have dc:(Instr.mapEntry t (.map (some m)) (.int .i64 k)).run P w=.ok (.tuple #[p.2,.int .i64 e0.born]) (setBlock w m (.map (es.modify p.1 fun e=>{ e with key:=.int .i64 k }) c)):=by
  simp[Instr.mapEntry,run_underlying ht,MapKept.run_getObj_map h1,jF hk,h7,db,hY.1,Instr.keyThatStays,Instr.sameBits,MapKept.run_setObj_map _ h1,Result.andThen,setBlock,goInt]
 have hC:(es.modify p.1 fun e=>{ e with key:=.int .i64 k }).toList=es.toList:=by
  rw[ztz];apply zuj;intro j;rw[zuB];by_cases hj:p.1=j
  . subst hj;rw[da];simp[<- hY.1]
  grind
 refine⟨_,_,fun n a ha=>?_,e0.born,rfl,⟨_,c,p.1,e0,p.2,(MapKept.heap_set h1).1,by rw[hC];exact h2,by rw[hC];exact h3,by rw[hC];exact h4,h5,by rw[hC];exact da,rfl,h8⟩,qg h1,by simp[setBlock]⟩;simp[execOp,ha.eval hx,ha.eval hy,dc]
theorem M.entryStore {st:Nat} (h:MapE w m l k st) (hx:ev env x=some (.map (some m))) (hy:ev env y=some (.int .i64 st)) (hu:ev env u=some v) :
  xO P ⟨dst,.entryStore t x y u,ty,pos,aft,g⟩ env w (fun w'=>MapI w' m (zhW l k v)/\Keep (fun q=>q=m) w w'/\w'.heap.size=w.heap.size):=by
 obtain⟨es,c,i,e,v0,h1,h2,h3,h4,h5,h6,rfl,h8⟩:=h;have hi:=(zt5.1 h6).1
 have hC:es.findIdx? (fun x=>(x.born:Int) == (e.born:Int))=some i:=by
  rw[show es=es.toList.toArray from tR,List.findIdx?_toArray,List.findIdx?_eq_some_iff_getElem];refine⟨hi,by rw[(zt5.1 h6).2];simp,fun j hj=>?_⟩;have:=List.nodup_iff_pairwise_ne.1 h4;rw[zvi]at this;have h9:=this j i tD tD hj;rw[List.getElem_map,List.getElem_map,(zt5.1 h6).2]at h9;intro db;have dh:(es.toList[j].born:Int)=e.born:=eq_of_beq db;exact h9 tO
 have hY:(Instr.entryStore t (.map (some m)) (.int .i64 e.born) v).run P w=.ok () (setBlock w m (.map (es.modify i fun x=>{ x with val:=v }) c)):=by
  simp[Instr.entryStore,MapKept.run_getObj_map h1,asInt,asIntOf,hC,MapKept.run_setObj_map _ h1,Result.andThen,setBlock]
 have dc:e.key=.int .i64 k:=by
  have h9:=zb5 h8;have:=congrArg (fun L=>L[i]?) h2;simp only[zt8,h6,h9,zw4,Option.some.injEq,Prod.mk.injEq]at this;exact this.1
 refine⟨setBlock w m (.map (es.modify i fun x=>{ x with val:=v }) c),fun n a ha=>?_,⟨_,c,(MapKept.heap_set h1).1,?_,?_,?_,zav h5 k v⟩,qg h1,by simp[setBlock]⟩
 . simp[execOp,ha.eval hx,ha.eval hy,ha.eval hu,hY]
 . rw[zhW,h8,ztz,zcG _ _ (.int .i64 k,v) _ _ (fun x hx=>tD),h2];simp only[zuZ]
 .
  intro x da;rw[ztz]at da;obtain⟨j,hj⟩:=zv5.1 da;rw[zuB]at hj;obtain⟨e1,dg,rfl⟩:=zw3.1 hj;have:=h3 e1 (zsS dg);split<;>exact this
 have:(es.modify i fun x=>{ x with val:=v }).toList.map (·.born)=es.toList.map (·.born):=by
  rw[ztz];apply zuj;intro j;rw[zt8,zt8,zuB];cases es.toList[j]?<;>simp;split<;>rfl
 rw[this];exact h4
end
end Go.GL
namespace Go.Proofs.YtckdhgbepmpgiaaGreat
open Go.GL
def xY (b:Bool):Int:=if b then 1 else 0
def lki (l:List Int) (i:Nat):Int:=l[i]?.getD 0
theorem zis {l:List Int} {x:Int} (h:l[i]?=some x):lki l i=x:=by simp[lki,h]
theorem zgj {l:List Int} (h:i<l.length):l[i]?=some (lki l i):=by simp[lki,zsR h]
def kD (op a b:Int):Int :=
 if op=8 then a+b else if op=9 then a - b else if op=10 then a*b else if op=11 then a.fdiv b
 else if op=12 then (if b=0 then 0 else a - b*a.fdiv b) else if op=13 then xY (decide (a=b)) else if op=14 then xY (decide (a ≠ b))
 else if op=15 then xY (decide (a<b)) else if op=16 then xY (decide (a<=b)) else if op=17 then xY (decide (b<a)) else if op=18 then xY (decide (b<=a))
 else if op=19 then xY (decide (a ≠ 0)&&decide (b ≠ 0)) else if op=20 then xY (decide (a ≠ 0) || decide (b ≠ 0)) else if op=21 then min a b else max a b
def za6 (vals:List Int) (op n:Int) (ks:List Int):Int :=
 if op=0 then n else if op=24 then lki vals n.toNat else if op=6 then -(lki ks 0) else if op=7 then xY (decide (lki ks 0=0))
 else if op=23 then (if lki ks 0 ≠ 0 then lki ks 1 else lki ks 2)
 else if op=25 then lki ks (1+xt (lki ks 0) 0 ((ks.length:Int) - 2)).toNat
 else kD op (lki ks 0) (lki ks 1)
mutual
def qO (vals:List Int):Tm->Int
 | .mk op n ks=>za6 vals op n (valL vals ks)
def valL (vals:List Int):List Tm->List Int
 | []=>[]
 | k::r=>qO vals k::valL vals r
end
theorem zdt (vals:List Int) (t:Tm):qO vals t=za6 vals t.op t.n (valL vals t.kids):=by cases t;rw[qO];rfl
theorem zb6 (vals:List Int) (l:List Tm):valL vals l=l.map (qO vals):=by
 induction l with
 | nil=>rfl
 | cons x r ih=>rw[valL,ih];rfl
theorem zgk (vals:List Int) (l:List Tm):(valL vals l).length=l.length:=by rw[zb6,ztb]
theorem zgl {l:List Tm} {k:Tm} (h:l[i]?=some k):lki (valL vals l) i=qO vals k:=by
 apply zis;rw[zb6,zt8,h];rfl
structure InV (vs:List Vr) (vals:List Int):Prop where
 len:vals.length=vs.length
 at_:∀ (i:Nat) (v:Vr),vs[i]?=some v->v.low<=lki vals i/\lki vals i<=v.high
theorem zkx (a b:Int) (ha:-1048576<=a/\a<=1048576):(0<=a -> -a<=a.fdiv b/\a.fdiv b<=a)/\(a<=0->a<=a.fdiv b/\a.fdiv b <= -a)/\(0<=a->0<=b->0<=a.fdiv b):=by
 rcases Int.lt_trichotomy b 0 with hb | hb | hb
 .
  have h1:a.fdiv b=(-a).ediv (-b):=by
   rw[<- Int.neg_fdiv_neg,ztO _ tO];rfl
  rw[h1];have h2:=Int.mul_ediv_add_emod (-a) (-b);have h3:=ztM (-a) (show -b ≠ 0 by omega);have h4:=ztL (-a) (show 0 < -b by omega);change -b*((-a).ediv (-b))+(-a).emod (-b)=-a at h2;change 0<=(-a).emod (-b) at h3;change (-a).emod (-b) < -b at h4;generalize (-a).ediv (-b)=q at *;generalize (-a).emod (-b)=r at *;obtain⟨c,rfl⟩:∃ c,b=-c:=⟨-b,tO⟩;simp only[Int.neg_neg]at *;have hc:0<c:=tO;refine⟨fun h=>⟨?_,?_⟩,fun h=>⟨?_,?_⟩,fun h h'=>tO⟩
  .
   rcases ztQ q (-a) with h5 | h5
   .
    have:c*q<=c*(-a - 1):=ztS tO tO;have:c*(-a - 1)<=1*(-a - 1):=ztV tO tO;have e:c*(-a - 1)=c*(-a) - c:=tD;have:c*(-a)<=1*(-a):=ztV tO tO;omega
   exact h5
  .
   rcases ztQ 0 q with h5 | h5
   .
    have:c*1<=c*q:=ztS tO tO;omega
   omega
  .
   rcases ztQ q 0 with h5 | h5
   .
    have:c*q<=c*(-1):=ztS tO tO;omega
   omega
  rcases ztQ (-a) q with h5 | h5
  .
   have:c*(-a+1)<=c*q:=ztS tO tO;have:1*(-a+1)<=c*(-a+1):=ztT tO tO;omega
  exact h5
 . grind
 have h1:a.fdiv b=a.ediv b:=ztO _ tO;rw[h1];have h2:=Int.mul_ediv_add_emod a b;have h3:=ztM a (show b ≠ 0 by omega);have h4:=ztL a hb;change b*(a.ediv b)+a.emod b=a at h2;change 0<=a.emod b at h3;change a.emod b<b at h4;generalize a.ediv b=q at *;generalize a.emod b=r at *
 have hq:0<=a->0<=q:=fun h=>by
  rcases ztQ q 0 with h5 | h5
  .
   have:b*q<=b*(-1):=ztS tO tO;omega
  exact h5
 refine⟨fun h=>⟨tO,?_⟩,fun h=>⟨?_,?_⟩,fun h _=>hq h⟩
 .
  rcases ztQ a q with h5 | h5
  .
   have:b*(a+1)<=b*q:=ztS tO tO;have:1*(a+1)<=b*(a+1):=ztT tO tO;omega
  exact h5
 .
  rcases ztQ q a with h5 | h5
  .
   have:b*q<=b*(a - 1):=ztS tO tO;have:b*(a - 1)<=1*(a - 1):=ztV tO tO;have e:b*(a - 1)=b*a - b:=tD;have:b*a<=1*a:=ztV tO tO;omega
  exact h5
 rcases ztQ 0 q with h5 | h5
 .
  have:b*1<=b*q:=ztS tO tO;omega
 omega
theorem zcH (a b:Int):(b<0->b<a - b*a.fdiv b/\a - b*a.fdiv b<=0)/\(0<b->0<=a - b*a.fdiv b/\a - b*a.fdiv b<b):=by
 have h2:=Int.mul_fdiv_add_fmod a b;refine⟨fun hb=>?_,fun hb=>?_⟩
 .
  have h3:a.fmod b=-((-a).emod (-b)):=by
   have:=Int.neg_fmod_neg (-a) (-b);simp only[Int.neg_neg]at this;rw[this,ztP _ tO];rfl
  have h4:=ztM (-a) (show -b ≠ 0 by omega);have h5:=ztL (-a) (show 0 < -b by omega);change 0<=(-a).emod (-b) at h4;change (-a).emod (-b) < -b at h5;omega
 have h3:a.fmod b=a.emod b:=ztP _ tO;have h4:=ztM a (show b ≠ 0 by omega);have h5:=ztL a hb
 grind
theorem zit {x y d:Int} (hx:a<=x/\x<=b) (hy:c<=y/\y<=d):min (min (a*c) (a*d)) (min (b*c) (b*d))<=x*y/\x*y<=max (max (a*c) (a*d)) (max (b*c) (b*d)):=by
 have key:∀ (u v p q:Int),p<=v->v<=q->min (u*p) (u*q)<=u*v/\u*v<=max (u*p) (u*q):=by
  intro u v p q h1 h2;rcases Int.le_total 0 u with hu | hu
  .
   have:=ztS h1 hu;have:=ztS h2 hu;omega
  have:=ztU (a:=u) hu h1;have:=ztU (a:=u) hu h2;omega
 have h1:=key y x a b hx.1 hx.2;have h2:=key a y c d hy.1 hy.2;have h3:=key b y c d hy.1 hy.2;rw[Int.mul_comm y a,Int.mul_comm y b,Int.mul_comm y x]at h1;omega
theorem zez (x:Rg):∀ l:List Rg,((xk x l).1<=x.1/\x.2<=(xk x l).2)/\∀ r ∈ l,(xk x l).1<=r.1/\r.2<=(xk x l).2:=by
 intro l;induction l generalizing x with
 | nil=>simp[xk]
 | cons y r ih =>
  have h:=ih (min x.1 y.1,max x.2 y.2);rw[show xk x (y::r)=xk (min x.1 y.1,max x.2 y.2) r from rfl];refine⟨tO,fun z hz=>?_⟩;rcases zt7.1 hz with rfl | hz
  . omega
  grind
theorem ziu {op:Int} (h1:op ≠ 8) (h2:op ≠ 9) (h3:op ≠ 10) (h4:op ≠ 11) (h5:op ≠ 12) (h6:op ≠ 21) (h7:op<=20) (h8:8<=op):kD op a b=0\/kD op a b=1:=by
 have hf:∀ b,xY b=0\/xY b=1:=fun b=>by cases b<;>simp[xY]
 unfold kD;rw[zt1 h1,zt1 h2,zt1 h3,zt1 h4,zt1 h5]
 (repeat' split);all_goals first | exact hf _ | omega
theorem jG (n:Int) {lo hi:Int} (h:lo<=hi):lo<=xt n lo hi/\xt n lo hi<=hi:=by
 unfold xt
 (repeat' split);all_goals omega
theorem zky {op n:Int} {ks:List Int} {l:List Rg} (hV:InV vs vals) (hn:NodeOk vs op n l) (hC:ks.length=l.length) (hY:op=23->l.length=3) (db:op=0\/op=24\/op=6\/op=7\/8<=op/\op<=22\/op=23\/op=25)
  (hk:∀ i,i<l.length->(at2 l i).1<=lki ks i/\lki ks i<=(at2 l i).2):(zk vs op n l).1<=za6 vals op n ks/\za6 vals op n ks<=(zk vs op n l).2:=by
 have hg:∀ i,i<l.length->xz (at2 l i):=fun i hi=>hn.good _ (zid hi);have hf:∀ b,0<=xY b/\xY b<=1:=fun b=>by cases b<;>simp[xY]
 unfold xz at hg;unfold zk za6;by_cases c0:op=0
 . grind
 rw[zt1 c0,zt1 c0];by_cases c24:op=24
 .
  rw[zt2 c24,zt2 c24];have h1:=hn.var c24;obtain⟨v,hv⟩:∃ v,vs[n.toNat]?=some v:=j9;rw[zib hv];exact hV.at_ _ _ hv
 rw[zt1 c24,zt1 c24];by_cases c6:op=6
 .
  have:=hn.k1 (.inl c6);have:=hk 0 tO
  grind
 rw[zt1 c6,zt1 c6];by_cases c7:op=7
 . grind
 rw[zt1 c7];by_cases c23:op=23
 .
  have h3:=hn.k3 (.inl c23);rw[zt2 c23]
  repeat rw[zt1 (show ¬ op=_ by omega)]
  rw[zt2 (.inl c23)];have hm:=zez (at2 l 1) (l.drop 2);split
  . grind
  have h2:2<l.length:=by have:=hY c23;omega
  have:=hk 2 tO
  have:=hm.2 (at2 l 2) (by
   unfold at2;rw[zsR h2]
   exact zv5.2 ⟨0,by rw[zuz];exact zsR h2⟩)
  omega
 rw[zt1 c23];by_cases c25:op=25
 .
  have h3:=hn.k3 (.inr c25);rw[zt2 c25]
  repeat rw[zt1 (show ¬ op=_ by omega)]
  rw[zt2 (.inr c25)];have hm:=zez (at2 l 1) (l.drop 2);have da:=jG (lki ks 0) (show (0:Int)<=(ks.length:Int) - 2 by omega);obtain⟨j,hj⟩:∃ j:Nat,xt (lki ks 0) 0 ((ks.length:Int) - 2)=j:=ztN da.1;have dc:j+2<=l.length:=tO;rw[hj,show (1+(j:Int)).toNat=j+1 by omega];have:=hk (j+1) tO;by_cases h2:j=0
  . grind
  have:=hm.2 (at2 l (j+1)) (by
   unfold at2;rw[zsR (show j+1<l.length by omega)]
   exact zv5.2 ⟨j - 1,by rw[zuz,show 2+(j - 1)=j+1 by omega];exact zsR tO⟩)
  omega
 rw[zt1 c25];have hb:8<=op/\op<=22:=tO;have dg:=hn.k2 hb;have h0:=hk 0 tO;have h1:=hk 1 tO;have g0:=hg 0 tO;have g1:=hg 1 tO;generalize lki ks 0=x at *;generalize lki ks 1=y at *;generalize at2 l 0=r0 at *;generalize at2 l 1=r1 at *;by_cases c8:op=8
 . rw[zt2 c8,kD,zt2 c8];dsimp only;omega
 rw[zt1 c8];by_cases c9:op=9
 . rw[zt2 c9,kD,zt1 c8,zt2 c9];dsimp only;omega
 rw[zt1 c9];by_cases c10:op=10
 .
  rw[zt2 c10,kD,zt1 c8,zt1 c9,zt2 c10];have:=zit h0 h1;unfold jS xk
  grind
 rw[zt1 c10];by_cases c11:op=11
 .
  rw[zt2 c11,kD,zt1 c8,zt1 c9,zt1 c10,zt2 c11];have:=zkx x y tO;omega
 rw[zt1 c11];by_cases c12:op=12
 .
  rw[zt2 c12,kD,zt1 c8,zt1 c9,zt1 c10,zt1 c11,zt2 c12];have:=zcH x y;omega
 rw[zt1 c12];by_cases c21:op=21
 .
  rw[zt2 c21]
  have e:kD op x y=min x y:=by
   unfold kD;omega
  omega
 rw[zt1 c21];by_cases c22:op=22
 .
  rw[zt2 c22]
  have e:kD op x y=max x y:=by
   unfold kD;omega
  omega
 rw[zt1 c22,zt1 tO];have:=ziu (a:=x) (b:=y) c8 c9 c10 c11 c12 c21 tO tO;dsimp only;omega
theorem zmp (hv:∀ v ∈ vs,xz (v.low,v.high)) (hV:InV vs vals) (t:Tm):zA vs inp t=true->∀ r,rng vs t=some r->r.1<=qO vals t/\qO vals t<=r.2:=by
 induction t using zqB with
 | h t ih =>
  intro hf r hr;rw[yV,ztA,ztA]at hf;rw[zbK,zvZ]at hr;obtain⟨l,h1,h2⟩:=hr;have hY:=qz _ _ h1
  have hn:NodeOk vs t.op t.n l:=jD hY hf.1.1 hf.1.2 (fun x hx=>by
   obtain⟨k,hk,da⟩:=jT _ _ h1 x hx
   exact za1 hv k (zX hf.2 hk) x da) hv
  have hC:=hf.1.1
  have hget:∀ (ks:List Tm) (m:List Rg),rngL vs ks=some m->∀ (i:Nat) k,ks[i]?=some k->rng vs k=some (at2 m i):=by
   intro ks;induction ks with
   | nil=>intro m _ i k h;simp at h
   | cons y ys ihy =>
    intro m hm i k hk;simp only[rngL,zvZ,zw3]at hm;obtain⟨z,g1,u,g2,rfl⟩:=hm;cases i with
    | zero=>simp at hk;subst hk;simpa[at2] using g1
    | succ i=>simp at hk;have:=ihy u g2 i k hk;simpa[at2] using this
  have H:=zky (n:=t.n) (op:=t.op) (ks:=valL vals t.kids) (l:=l) hV hn (by rw[zgk,hY]) (fun h=>by
    unfold zW at hC;rw[show zR t.op=3 by unfold zR;rw[h];rfl]at hC;simp at hC;omega) (by
    by_cases h:0<=zR t.op\/zR t.op=-2
    .
     unfold zR at h
     repeat' split at h
     all_goals omega
    .
     exfalso;have:=jR t.op;rw[zcB (.inl tO)]at hC
     grind) (fun i hi=>by
    obtain⟨k,hk⟩:∃ k,t.kids[i]?=some k:=j9;rw[zgl hk]
    exact ih k (zsS hk) (zX hf.2 (zsS hk)) _ (hget _ _ h1 i k hk))
  rw[zdt];split at h2
  . grind
  cases h2
end Go.Proofs.YtckdhgbepmpgiaaGreat
namespace Go.GL
section
variable {ty:TypeId} {pos:String} {m j:Int}
theorem R.quo (hx:ev env x=some (.int .i64 m)) (hy:ev env y=some (.int .i64 j)) (hj:j ≠ 0) (hr:-9223372036854775808<m/\m<=9223372036854775807):yu P ⟨dst,.binOp .quo t x y t',ty,pos,aft,g⟩ env w (.int .i64 (m.tdiv j)) w:=by
 intro n a ha;have h1:(m.tdiv j).natAbs<=m.natAbs:=ztW m j;have h2:IntKind.i64.wrap (m.tdiv j)=m.tdiv j:=ql tO;simp[execOp,ha.eval hx,ha.eval hy,eqGuard_quo,binOp_quo,Op.intDiv,hj,h2]
theorem R.rem (hx:ev env x=some (.int .i64 m)) (hy:ev env y=some (.int .i64 j)) (hj:j ≠ 0) (_:-9223372036854775808<m/\m<=9223372036854775807):yu P ⟨dst,.binOp .rem t x y t',ty,pos,aft,g⟩ env w (.int .i64 (m.tmod j)) w:=by
 intro n a ha;simp[execOp,ha.eval hx,ha.eval hy,eqGuard_rem,binOp_rem,Op.intDiv,hj]
end
theorem ziv (a b:Int) (hb:b ≠ 0):a.fdiv b=if a.tmod b ≠ 0/\(decide (a<0) ≠ decide (b<0)) then a.tdiv b - 1 else a.tdiv b:=by
 rw[Int.fdiv_eq_tdiv];have hd:b ∣ a ↔ a.tmod b=0:=⟨Int.tmod_eq_zero_of_dvd,Int.dvd_of_tmod_eq_zero⟩;by_cases h:b ∣ a
 . rw[zt2 h,zt1 (fun h2=>h2.1 (hd.1 h))];omega
 have hm:a.tmod b ≠ 0:=fun h2=>h (hd.2 h2);rw[zt1 h];by_cases ha:0<=a
 .
  rw[zt2 ha];by_cases hC:0<=b
  . rw[zt2 hC,zt1 (fun h2=>h2.2 (by rw[zt4 tO,zt4 tO]))];omega
  rw[zt1 hC,zt2 ⟨hm,by rw[zt4 tO,zt3 tO];decide⟩]
 rw[zt1 ha];by_cases hC:0<=b
 . rw[zt2 hC,zt2 ⟨hm,by rw[zt3 tO,zt4 tO];decide⟩,Int.sign_eq_one_of_pos tO]
 rw[zt1 hC,zt1 (fun h2=>h2.2 (by rw[zt3 tO,zt3 tO])),Int.sign_eq_neg_one_of_neg tO];omega
end Go.GL
namespace Go.Proofs.YtckdhgbepmpgiaaGreat
open Go.GL
abbrev zka (a:Int):Prop := -1048576<=a/\a<=1048576
theorem za7 (a b:Int) (w:World) (ha:zka a) (hb:zka b):Calls prog 170 #[.int .i64 a,.int .i64 b] w (Ret fun r w'=>r=.int .i64 (a.fdiv b)/\Ext w w'):=by
 refine zqr func170 O ntmps170 O (V.inn (Vs 12 O (zoE O (fun h0=>?_) (fun h0=>?_))))
 .
  subst h0;refine Vs 7 O (zr9 0 tr170 O O tD)
 have hd:=ziv a b h0;have hq:(a.tdiv b).natAbs<=a.natAbs:=ztW a b;refine Vs 6 O (zqh O (fun w hI=>R.quo O O h0 tO) (Vs 8 O (zqh O (fun w hI=>R.rem O O h0 tO) (Vs 2 O (V.sp 15 O (fun h1=>?_) (fun h1=>?_))))))
 .
  refine Vs 8 O (zoE O (fun h2=>?_) (fun h2=>?_))
  . refine Va 13 O tO (zr9 0 tr170 O O tD)
  refine Vs 9 O (zr9 0 tr170 O O tD)
 refine Vs 18 O (zr9 0 tr170 O O tD)
theorem zhd (a b:Int) (hb:b ≠ 0):-(a.natAbs:Int) - b.natAbs<=b*a.fdiv b/\b*a.fdiv b<=(a.natAbs:Int)+b.natAbs:=by
 have h:=zcH a b;omega
theorem zdu (a b:Int) (w:World) (ha:zka a) (hb:zka b):Calls prog 171 #[.int .i64 a,.int .i64 b] w (Ret fun r w'=>r=.int .i64 (if b=0 then 0 else a - b*a.fdiv b)/\Ext w w'):=by
 refine zqr func171 O ntmps171 O (V.inn (Vs 12 O (zoE O (fun h0=>?_) (fun h0=>?_))))
 . refine Vs 7 O (zr9 0 results171 O O tD)
 have hm:=zhd a b h0;refine Vs 8 O (zr2 call170 O (fun w hI=>za7 a b w ha hb) (Va 6 O tO (zr9 0 results171 O O tD)))
theorem zdv (op a b:Int) (w:World) (ha:zka a) (hb:zka b):Calls prog 133 #[.int .i64 op,.int .i64 a,.int .i64 b] w (Ret fun r w'=>r=.int .i64 (kD op a b)/\Ext w w'):=by
 have hC:=zcC ha hb;refine zqs func133 O ntmps133 O (V.inn (Vs 18 O (zoE O (fun k1_=>?_) (fun k1_=>?_))))
 . refine Va 11 O tO (zr9 0 tr133 O O (by simp[kD,k1_]))
 refine Vs 6 O (zoE O (fun k2_=>?_) (fun k2_=>?_))
 . refine Va 11 O tO (zr9 0 tr133 O O (by simp[kD,k2_]))
 refine Vs 6 O (zoE O (fun k3_=>?_) (fun k3_=>?_))
 . refine Va 11 O tO (zr9 0 tr133 O O (by simp[kD,k3_]))
 refine Vs 6 O (zoE O (fun k4_=>?_) (fun k4_=>?_))
 . refine Vs 4 O (zr2 call170 O (fun w hI=>za7 a b w ha hb) (Vs 6 O (zr9 0 tr133 O O (by simp[kD,k4_]))))
 refine Vs 6 O (zoE O (fun k5_=>?_) (fun k5_=>?_))
 . refine Vs 4 O (zr2 call171 O (fun w hI=>zdu a b w ha hb) (Vs 6 O (zr9 0 tr133 O O (by simp[kD,k5_]))))
 refine Vs 6 O (zoE O (fun k6_=>?_) (fun k6_=>?_))
 . refine Vs 5 O (zr2 tc131 O i8 (Vs 6 O (zr9 0 tr133 O O (by simp[kD,xY,k6_]))))
 refine Vs 6 O (zoE O (fun k7_=>?_) (fun k7_=>?_))
 . refine Vs 5 O (zr2 tc131 O i8 (Vs 6 O (zr9 0 tr133 O O (by simp[kD,xY,k7_]))))
 refine Vs 6 O (zoE O (fun k8_=>?_) (fun k8_=>?_))
 . refine Vs 5 O (zr2 tc131 O i8 (Vs 6 O (zr9 0 tr133 O O (by simp[kD,xY,k8_]))))
 refine Vs 6 O (zoE O (fun k9_=>?_) (fun k9_=>?_))
 . refine Vs 5 O (zr2 tc131 O i8 (Vs 6 O (zr9 0 tr133 O O (by simp[kD,xY,k9_]))))
 refine Vs 6 O (zoE O (fun k10_=>?_) (fun k10_=>?_))
 . refine Vs 5 O (zr2 tc131 O i8 (Vs 6 O (zr9 0 tr133 O O (by simp[kD,xY,k10_]))))
 refine Vs 6 O (zoE O (fun k11_=>?_) (fun k11_=>?_))
 . refine Vs 5 O (zr2 tc131 O i8 (Vs 6 O (zr9 0 tr133 O O (by simp[kD,xY,k11_]))))
 refine Vs 6 O (zoE O (fun k12_=>?_) (fun k12_=>?_))
 .
  refine Vs 5 O (V.sp 73 O (fun k13_=>?_) (fun k13_=>?_))
  . refine Vs 3 O U9
  refine Vs 3 O U9
 refine Vs 6 O (zoE O (fun k13_=>?_) (fun k13_=>?_))
 .
  refine Vs 5 O (V.sp 82 O (fun k14_=>?_) (fun k14_=>?_))
  . refine Vs 3 O YA
  refine Vs 3 O YA
 refine Vs 6 O (zoE O (fun k14_=>?_) (fun k14_=>?_))
 . refine Vs 11 O (zr9 0 tr133 O O (by simp[kD,k14_]))
 refine Vs 12 O (zr9 0 tr133 O O (by simp[kD,k1_,k2_,k3_,k4_,k5_,k6_,k7_,k8_,k9_,k10_,k11_,k12_,k13_,k14_]))
structure TmOk (vs:List Vr) (vals:List Int) (t:Tm):Prop where
 ops:t.op=0\/t.op=24\/t.op=6\/t.op=7\/8<=t.op/\t.op<=22\/t.op=23\/t.op=25
 k1:t.op=6\/t.op=7->t.kids.length=1
 k2:8<=t.op/\t.op<=22->t.kids.length=2
 k3:t.op=23->t.kids.length=3
 k25:t.op=25->2<=t.kids.length/\t.kids.length<=33
 var:t.op=24->0<=t.n/\t.n<vs.length
 self:zka (qO vals t)
 kid:∀ k ∈ t.kids,zka (qO vals k)
theorem tmOk (hv:∀ v ∈ vs,xz (v.low,v.high)) (hV:InV vs vals) {t:Tm} (hf:zA vs inp t=true) (hr:(rng vs t).isSome=true):TmOk vs vals t/\∀ k ∈ t.kids,zA vs inp k=true/\(rng vs k).isSome=true:=by
 obtain⟨r,hr⟩:=zw2.1 hr
 have db:∀ k,zA vs inp k=true->∀ r,rng vs k=some r->zka (qO vals k):=fun k h1 r h2=>by
  have h3:=zmp hv hV k h1 r h2;have h4:=za1 hv k h1 r h2;unfold xz at h4;omega
 have hY:=db t hf r hr;rw[yV,ztA,ztA]at hf;rw[zbK,zvZ]at hr;obtain⟨l,h1,h2⟩:=hr;have hC:=qz _ _ h1
 have dc:∀ (ks:List Tm) (m:List Rg),rngL vs ks=some m->∀ k ∈ ks,(rng vs k).isSome=true:=by
  intro ks;induction ks with
  | nil=>intro m _ k h;simp at h
  | cons y ys ihy =>
   intro m hm k hk;simp only[rngL,zvZ,zw3]at hm;obtain⟨z,g1,u,g2,rfl⟩:=hm;rcases zt7.1 hk with rfl | hk
   . grind
   grind
 have da:∀ k ∈ t.kids,zA vs inp k=true/\(rng vs k).isSome=true:=fun k hk=>⟨zX hf.2 hk,dc _ _ h1 k hk⟩
 have hn:NodeOk vs t.op t.n l:=jD hC hf.1.1 hf.1.2 (fun x hx=>by
  obtain⟨k,hk,dg⟩:=jT _ _ h1 x hx
  exact za1 hv k (zX hf.2 hk) x dg) hv
 refine⟨⟨?_,fun h=>by rw[<- hC];exact hn.k1 h,fun h=>by rw[<- hC];exact hn.k2 h,fun h=>?_,fun h=>by rw[<- hC];exact hn.k3 (.inr h),hn.var,hY,fun k hk=>?_⟩,da⟩
 .
  by_cases h:0<=zR t.op\/zR t.op=-2
  .
   unfold zR at h
   repeat' split at h
   all_goals omega
  exfalso;have:=jR t.op;have h3:=hf.1.1;rw[zcB (.inl tO)]at h3;cases h3
 .
  have h3:=hf.1.1;unfold zW at h3;rw[show zR t.op=3 by unfold zR;rw[h];rfl]at h3
  grind
 obtain⟨h3,h4⟩:=da k hk;obtain⟨r',h5⟩:=zw2.1 h4;exact db k h3 r' h5
def zmq (vals:List Int) (k:Tm):Prop:=∀ (cs:List Value) (D Dv:Nat->Prop) (w:World) (vv:Value),SlR 1 zG Dv w vv vals->RTm D w k cs->Calls prog 90 #[vv,.agg cs.toArray] w (Ret fun r w'=>r=.int .i64 (qO vals k)/\Ext w w')
theorem za8 (vals:List Int) (t:Tm) (ii:Int) (i:Nat) (dr:ii=(i:Int)) (k:Tm) (hk:t.kids[i]?=some k) (b2 b3:Nat) (vv kv:Value) (D Dv:Nat->Prop) (w:World) (dt:Blk w b2 [vv] 27) (du:Blk w b3 [.int .i64 t.op,.int .i64 t.n,kv] 70) (dc:SlR 3 RTm D w kv t.kids) (dw:SlR 1 zG Dv w vv vals) (ih:zmq vals k) :
  Calls prog 130 #[.int .i64 ii,.pointer (some ⟨b2,0,none⟩),.pointer (some ⟨b3,0,none⟩)] w (Ret fun r w'=>r=.int .i64 (qO vals k)/\Ext w w'):=by
 subst dr;have hi:=(zt5.1 hk).1;obtain⟨a3,c3,rfl⟩:=dc.form;refine zqs func130 O ntmps130 O (V.inn (V.fr 900 0 O O dt.cells (V.fr 901 0 O O du.cells (zqO 1 900 0 O O (zqO 2 901 0 O O (zri 1000 0 i tO dc O O O (fun k2 dx dy dz hY dg da db=>?_)))))));obtain⟨dh,rfl,hC⟩:=db.get;obtain⟨dl,dm,rfl⟩:=hC.form;obtain rfl:k=k2:=Option.some.inj (hk.symm.trans hY);refine Vs 6 O (Vw [900,901,1000] [] O (Vd [0,1,2,3] 0 tK O O O ?_));refine zqR 4 1000 tR68 ts70 O tK O da tO _ rfl O (Vd [5] 0 tK O O O (zr3 6 0 call90 O tK O O (fun w hI=>ih _ D Dv w _ (Tr1 hI.k0 dw) (RTm.put Jo)) (Vd [7] 0 tK O O O (VD.done tK (Vs 2 O (zr9 0 results130 O O rfl))))))
theorem zkz (hv:∀ v ∈ vs,xz (v.low,v.high)) (hV:InV vs vals) (t:Tm):zA vs inp t=true->(rng vs t).isSome=true->zmq vals t:=by
 induction t using zqB with
 | h t ih =>
 intro hf hr cs D Dv w vv hY ht;obtain⟨ok,dt⟩:=tmOk hv hV hf hr;have ihk:∀ k ∈ t.kids,zmq vals k:=fun k hk=>ih k hk (dt k hk).1 (dt k hk).2;obtain⟨kv,rfl,da⟩:=ht.get;obtain⟨a3,c3,rfl⟩:=da.form;obtain⟨av,cv,rfl⟩:=hY.form;have dc:=zdt vals t;have dy:=ok.ops
 have hget:∀ i:Nat,i<t.kids.length->∃ k,t.kids[i]?=some k/\lki (valL vals t.kids) i=qO vals k/\zka (qO vals k):=fun i hi=>by
  obtain⟨k,hk⟩:∃ k,t.kids[i]?=some k:=⟨_,zsR hi⟩;exact⟨k,hk,zgl hk,ok.kid k (zsS hk)⟩
 refine zqr func90 O ntmps90 O (V.inn (Vs 2 O (V.box 2 O O (fun b2=>?_))));refine V.box 3 O O (fun b3=>(Vs 23 O (zoE O (fun c0=>?_) (fun c0=>?_))))
 . refine Vs 10 O (zoV tr90 O (fun w hI=>⟨_,rfl,by rw[dc];simp[za6,c0],hI.k0⟩))
 refine Vs 6 O (zoE O (fun c24=>?_) (fun c24=>?_))
 .
  have hn:=ok.var c24;have dC:=hV.len;refine zrj 1000 0 t.n.toNat tO hY O O (fun x dD dE dl dz dm=>(Vs 5 O (zqQ 1000 tR27 ts3 O dm tO (t.n.toNat) tO O (Vs 7 O (zoV tr90 O (fun w hI=>⟨_,rfl,by rw[dc];simp[za6,c24,lki,dl],hI.k0⟩))))))
 refine Vs 6 O (zoE O (fun c6=>?_) (fun c6=>?_))
 .
  have h1:=ok.k1 (.inl c6);obtain⟨k0,hC,db,dg⟩:=hget 0 tO;refine Vs 3 O (zrI tc130 O (fun w hI=>za8 vals t 0 0 O k0 hC b2 b3 _ _ D Dv w (hI.at 2 O) (hI.at 3 O) iR iV (ihk k0 (zsS hC))) (Va 7 O tO (zoV tr90 O (fun w hI=>⟨_,rfl,by rw[dc];simp[za6,c6,db],hI.k0⟩))))
 refine Vs 6 O (zoE O (fun c7=>?_) (fun c7=>?_))
 .
  have h1:=ok.k1 (.inr c7);obtain⟨k0,hC,db,dg⟩:=hget 0 tO;refine Vs 3 O (zrI tc130 O (fun w hI=>za8 vals t 0 0 O k0 hC b2 b3 _ _ D Dv w (hI.at 2 O) (hI.at 3 O) iR iV (ihk k0 (zsS hC))) (Vs 1 O (zr2 tc131 O i8 (Vs 6 O (zoV tr90 O (fun w hI=>⟨_,rfl,by rw[dc,za6,zt1 c0,zt1 c24,zt1 c6,zt2 c7,db];rfl,hI.k0⟩))))))
 refine Vs 6 O (zoE O (fun c23=>?_) (fun c23=>?_))
 .
  have h1:=ok.k3 c23;obtain⟨k0,hC,db,dg⟩:=hget 0 tO;obtain⟨k1,dh,dr,du⟩:=hget 1 tO;obtain⟨k2,dw,dA,dF⟩:=hget 2 tO;refine Vs 4 O (zrI tc130 O (fun w hI=>za8 vals t 0 0 O k0 hC b2 b3 _ _ D Dv w (hI.at 2 O) (hI.at 3 O) iR iV (ihk k0 (zsS hC))) (Vs 3 O (zoE O (fun z=>?_) (fun z=>?_))))
  . refine Vs 3 O (zrI tc130 O (fun w hI=>za8 vals t 1 1 O k1 dh b2 b3 _ _ D Dv w (hI.at 2 O) (hI.at 3 O) iR iV (ihk k1 (zsS dh))) (Vs 7 O (zoV tr90 O (fun w hI=>⟨_,rfl,by rw[dc];simp[za6,c23,db,z,dr],hI.k0⟩))))
  refine Vs 5 O (zrI tc130 O (fun w hI=>za8 vals t 2 2 O k2 dw b2 b3 _ _ D Dv w (hI.at 2 O) (hI.at 3 O) iR iV (ihk k2 (zsS dw))) (Vs 6 O (zoV tr90 O (fun w hI=>⟨_,rfl,by rw[dc];simp[za6,c23,db,z,dA],hI.k0⟩))))
 refine Vs 6 O (zoE O (fun c25=>?_) (fun c25=>?_))
 .
  have h1:=ok.k25 c25;obtain⟨k0,hC,db,dg⟩:=hget 0 tO;have dG:=jG (qO vals k0) (show (0:Int)<=(t.kids.length:Int) - 2 by omega);obtain⟨kj,dx,dB,dH⟩:=hget (1+xt (qO vals k0) 0 ((t.kids.length:Int) - 2)).toNat tO;refine Vs 1 O (Vw [2,3] [] O (Vb [0,1,3,4,5,6] 0 tK O O O tO (zrJ 2 0 tc130 O tK O O (fun w hI=>za8 vals t 0 0 O k0 hC b2 b3 _ _ D Dv w (hI.at 2 O) (hI.at 3 O) iR iV (ihk k0 (zsS hC))) (zr3 7 0 call132 O tK O O (fun w hI=>zej _ _ _ w tO) (Vb [8] 0 tK O O O tO (zrJ 9 0 tc130 O tK O O (fun w hI=>za8 vals t (1+xt (qO vals k0) 0 ((t.kids.length:Int) - 2)) _ tO kj dx b2 b3 _ _ D Dv w (hI.at 2 O) (hI.at 3 O) iR iV (ihk kj (zsS dx))) ?_))))));refine Vd [10] 0 tK O O O (VD.done tK (Vs 4 O (zoV tr90 O (fun w hI=>⟨_,rfl,by rw[dc,za6,zt1 c0,zt1 c24,zt1 c6,zt1 c7,zt1 c23,zt2 c25,db,zgk,dB],hI.k0⟩))))
 have h1:=ok.k2 tO;obtain⟨k0,hC,db,dg⟩:=hget 0 tO;obtain⟨k1,dh,dr,du⟩:=hget 1 tO;refine Vs 4 O (Vw [2,3] [] O (Vd [0,1,2,4] 0 tK O O O (zrJ 3 0 tc130 O tK O O (fun w hI=>za8 vals t 0 0 O k0 hC b2 b3 _ _ D Dv w (hI.at 2 O) (hI.at 3 O) iR iV (ihk k0 (zsS hC))) (zrJ 5 0 tc130 O tK O O (fun w hI=>za8 vals t 1 1 O k1 dh b2 b3 _ _ D Dv w (hI.at 2 O) (hI.at 3 O) iR iV (ihk k1 (zsS dh))) (zr3 6 0 call133 O tK O O (fun w hI=>zdv _ _ _ w dg du) ?_)))));refine Vd [7] 0 tK O O O (VD.done tK (Vs 2 O (zoV tr90 O (fun w hI=>⟨_,rfl,by rw[dc,za6,zt1 c0,zt1 c24,zt1 c6,zt1 c7,zt1 c23,zt1 c25,db,dr],hI.k0⟩))))
theorem zc0 (hg:∀ v ∈ vs,xz (v.low,v.high)) (hV:InV vs vals) (t:Tm) (hf:zA vs false t=true) (hr:(rng vs t).isSome=true) (du:t.nodes<=1000000) (cs:List Value) (D Dv Dl:Nat->Prop) (w:World) (vv lv:Value) (hC:SlR 5 RVr Dv w vv vs) (dc:SlR 1 zG Dl w lv vals) (ht:RTm D w t cs) :
  Calls prog 45 #[vv,lv,.agg cs.toArray] w (Ret fun r w'=>r=.tuple #[.int .i64 (qO vals t),.int .i64 0]/\Ext w w'):=by
 have dB:=hV.len;have dC:=ht.one;obtain⟨kv,rfl,da⟩:=ht.get;obtain⟨a3,c3,rfl⟩:=da.form;obtain⟨av,cv,rfl⟩:=hC.form;obtain⟨al,cl,rfl⟩:=dc.form;have dD:=hC.max;refine zqs func45 O ntmps45 O (V.inn (Vs 2 O (V.box 5 O O (fun b5=>?_))));refine Vs 13 O (V.sp 17 O (fun dw=>?_) (fun dw=>?_))
 . omega
 refine Vs 2 O (zr2 call87 O (fun w hI=>za0 vs false _ Dv t _ D w Jo YF) ?_);rw[hf];refine zqh O (fun w hI=>zpS O j6) (Vs 3 O (V.bool O (fun hx=>?_) (fun hx=>?_)))
 . cases hx
 refine Vs 11 O (zrl (σ:=Nat) [0,1,5,23,24] [5] [5] O (fun e i=>(25,.int .i64 i)::e) (fun e i=>e) (fun i=>i<=vs.length) (fun i=>vs.length - i) 0 j2 j3 j1 j1 j1 (zt6 _) ?_);rintro i hi;refine Vs 6 O (zoE O (fun dE=>?_) (fun dF=>?_))
 .
  refine Vs 7 O (zri 1000 0 i tO hC O O O (fun x dG dH dI dg dh dl dm=>?_));obtain rfl:=dm;refine zqQ 1000 tR22 ts142 O dl tO _ rfl O ?_;have db:=hg x dh;have dx:zb3 x.low x.high=true:=by unfold xz at db;unfold zb3;exact zt3 ⟨db.2.1,db.1,db.2.2⟩
  have dJ:=hV.at_ i x dg;refine zrj 2000 0 i tO dc O O (fun y dK dL dr dy hY=>?_);have hy:lki vals i=y:=by unfold lki;rw[dr];rfl
  refine Vs 1 O (V.alloc 9 tz142 O O (fun b9=>?_));refine Vs 5 O (Vw [5,1000,2000,9] [] O (Vd [0,1,2,3] 0 tK O O O (zr3 4 0 call88 O tK O O (fun w hI=>qH x.low x.high w) ?_)));rw[dx];refine zqi 5 0 O tK O O (fun w hI=>R.not O) (Vd [6] 0 tK O O O (VD.sb 36 O (fun n3=>?_) (fun n3=>?_)))
  . cases n3
  refine Vd [7,8,11,12] 0 tK O O O ?_;refine zqR 9 2000 tR27 ts3 O tK O hY tO _ rfl O (Vd [10,13,14,15] 0 tK O O O (VD.sp 45 O (fun n4=>?_) (fun n4=>?_)))
  . exact absurd n4 tO
  refine Vd [16,17,20,21] 0 tK O O O ?_;refine zqR 18 2000 tR27 ts3 O tK O hY tO _ rfl O (Vd [19,22,23] 0 tK O O O (VD.done tK (Vs 1 O (zoE O (fun n5=>?_) (fun n5=>?_)))))
  . exact absurd n5 tO
  refine Va 7 O tO (V.back (i+1) j2 j3 tO tO 0 O O)
 refine Vs 10 O (zr4 call89 O (fun w hI=>zep vs false _ Dv hg t _ D w Jo YF hf du) ?_);rintro r w1 w2 dM dz ⟨a,b',rfl,dN⟩ dA;rw[hr];refine Vs 3 O (V.alloc 10 tz159 O O (fun b10=>?_));refine Vs 7 O (zqh O (fun w hI=>zpS O j6) (Vs 2 O (V.bool O (fun dt=>?_) (fun dt=>?_))))
 . cases dt
 refine Vs 6 O (zr2 call90 O (fun w hI=>zkz hg hV t hf hr _ D Dl w _ (Tr1 hI.k1 dc) (RTm.put (Tr1 hI.k1 da))) (Vs 5 O (zoY results45 O O (fun w hI=>⟨_,rfl,rfl,hI.k1⟩))))
def yY (time:Int) (s:Int × Bool) (b:Int):Int × Bool:=if time<=b/\(s.2=false\/b<s.1) then (b,true) else s
def kF (bounds:List Int) (time:Int):Int:=(bounds.foldl (yY time) (time,false)).1
theorem zhe (f:β->α->β) (b:β) {l:List α} {x:α} (h:l[i]?=some x):(l.take (i+1)).foldl f b=f ((l.take i).foldl f b) x:=by rw[ze h,zuv];rfl
theorem zco (l:List Int) (time:Int) (v:Value) (D:Nat->Prop) (w:World) (hl:SlR 1 zG D w v l):Calls prog 134 #[v,.int .i64 time] w (Ret fun r w'=>r=.int .i64 (kF l time)/\Ext w w'):=by
 have dc:=hl.max;obtain⟨al,cl,rfl⟩:=hl.form;refine zqr func134 O ntmps134 O (V.inn (Vs 21 O (zrl (σ:=Nat × Int × Bool) [1,10,11] [] [] O (fun e ⟨i,b,fd⟩=>(5,.int .i64 b)::(6,.bool fd)::(12,.int .i64 i)::e) (fun e ⟨i,b,fd⟩=>e) (fun⟨i,b,fd⟩=>i<=l.length/\(b,fd)=(l.take i).foldl (yY time) (time,false)) (fun⟨i,b,fd⟩=>l.length - i) (0,time,false) j2 j3 j1 j1 j1 JF ?_)));rintro⟨i,b,fd⟩ ⟨hi,hs⟩;refine Vs 6 O (zoE O (fun dg=>?_) (fun dh=>?_))
 .
  refine Vs 6 O (zrj 1000 0 i tO hl O O (fun x dl dm hC db hY=>?_));refine zqQ 1000 tR27 ts3 O hY tO _ rfl O ?_;have da:=zhe (yY time) (time,false) hC;rw[<- hs,show yY time (b,fd) x=if time<=x/\(fd=false\/x<b) then (x,true) else (b,fd) from rfl]at da;refine Vs 10 O (V.sp 19 O (fun h1=>?_) (fun h1=>?_))
  .
   refine Vs 1 O (zqh O (fun w hI=>zpS O j6) (Vs 1 O (zqb 22 O (fun h2=>?_) (fun h2=>?_))))
   . refine Va 19 O tO (V.back ⟨i+1,x,true⟩ j2 j3 ⟨tO,by rw[da,zt2 ⟨h1,.inl (by simpa using h2)⟩]⟩ tD 0 O O)
   have dr:fd=true:=by simpa using h2
   refine Vs 7 O (zoE O (fun h3=>?_) (fun h3=>?_))
   . refine Va 11 O tO (V.back ⟨i+1,x,true⟩ j2 j3 Ua tD 0 O O)
   refine Va 7 O tO (V.back ⟨i+1,b,fd⟩ j2 j3 Ua tD 0 O O)
  refine Va 18 O tO (V.back ⟨i+1,b,fd⟩ j2 j3 Ua tD 0 O O)
 obtain rfl:i=l.length:=tO;rw[zsW]at hs;refine Vs 12 O (zr9 0 results134 O O (by rw[kF,<- hs]))
end Go.Proofs.YtckdhgbepmpgiaaGreat
namespace Go.GL
def xZ (r:Ins) (k:Int):List Int:=if k=1 then r.secret else if k=2 then r.pub else r.random
structure StS where
 vals:List Int
 a:Nat
 b:Nat
 c:Nat
def zaO (s:StS) (k:Int):Nat:=if k=1 then s.a else if k=2 then s.b else s.c
def zcp (s:StS) (k:Int) (n:Int):StS:=if k=1 then ⟨s.vals++[n],s.a+1,s.b,s.c⟩ else if k=2 then ⟨s.vals++[n],s.a,s.b+1,s.c⟩ else ⟨s.vals++[n],s.a,s.b,s.c+1⟩
def zt (r:Ins) (o:Option StS) (v:Vr):Option StS:=o.bind fun s=>if v.kind=0 then some { s with vals:=s.vals++[v.init] } else ((xZ r v.kind)[zaO s v.kind]?).map fun n=>zcp s v.kind n
def zaP (vs:List Vr) (r:Ins):Option StS:=vs.foldl (zt r) (some ⟨[],0,0,0⟩)
def inB (p:Vr × Int):Bool:=decide (p.1.low<=p.2)&&decide (p.2<=p.1.high)
def zb7 (vs:List Vr) (r:Ins) (s:StS):Int:=if s.a ≠ r.secret.length\/s.b ≠ r.pub.length\/s.c ≠ r.random.length then 1 else if (vs.zip s.vals).all inB then 0 else 3
def zz (vs:List Vr) (r:Ins):Int:=match zaP vs r with
 | none=>1
 | some s=>zb7 vs r s
def zK (vs:List Vr) (r:Ins):List Int:=match zaP vs r with
 | none=>[]
 | some s=>s.vals
theorem zhf (r:Ins) (vs:List Vr):vs.foldl (zt r) none=none:=by
 induction vs with
 | nil=>rfl
 | cons x t ih=>rw[zuw];exact ih
theorem zfA (h:(vs.take i).foldl (zt r) (some ⟨[],0,0,0⟩)=none):zaP vs r=none:=by
 have:=zvz i vs;rw[zaP,<- this,zuv,h,zhf]
theorem zc1 {x:Vr} (h:vs[i]?=some x) {s:StS} (hs:(vs.take i).foldl (zt r) (some ⟨[],0,0,0⟩)=some s):(vs.take (i+1)).foldl (zt r) (some ⟨[],0,0,0⟩)=if x.kind=0 then some { s with vals:=s.vals++[x.init] } else ((xZ r x.kind)[zaO s x.kind]?).map fun n=>zcp s x.kind n:=by
 rw[ze h,zuv,hs];rfl
theorem zhg (s:StS) (k n:Int):(zcp s k n).vals=s.vals++[n]:=by
 unfold zcp
 (repeat' split);all_goals rfl
theorem zcI:∀ (i:Nat) (s:StS),i<=vs.length->(vs.take i).foldl (zt r) (some ⟨[],0,0,0⟩)=some s->s.vals.length=i/\s.a<=i/\s.b<=i/\s.c<=i:=by
 intro i;induction i with
 | zero=>intro s _ h;simp at h;subst h;simp
 | succ i ih =>
  intro s hi h;obtain⟨x,hx⟩:∃ x,vs[i]?=some x:=j9;cases h1:(vs.take i).foldl (zt r) (some ⟨[],0,0,0⟩) with
  | none=>rw[ze hx,zuv,h1]at h;cases h
  | some s0 =>
   obtain⟨e1,e2,e3,e4⟩:=ih s0 tO h1;rw[zc1 hx h1]at h;split at h
   . grind
   obtain⟨n,_,rfl⟩:=zw3.1 h;unfold zcp
   (repeat' split);all_goals (simp;omega)
theorem zeA (s:StS) {k':Int} (hk:1<=k/\k<=3) (hC:1<=k'/\k'<=3) (n:Int):zaO (zcp s k n) k'=if k'=k then zaO s k'+1 else zaO s k':=by
 have h1:k=1\/k=2\/k=3:=tO;have h2:k'=1\/k'=2\/k'=3:=tO;rcases h1 with rfl | rfl | rfl<;>rcases h2 with rfl | rfl | rfl<;>simp[zcp,zaO]
theorem ziw (da:∀ v ∈ vs,0<=v.kind/\v.kind<=3):∀ (i:Nat) (s:StS),i<=vs.length->(vs.take i).foldl (zt r) (some ⟨[],0,0,0⟩)=some s->∀ k,1<=k->k<=3->zaO s k<=(xZ r k).length:=by
 intro i;induction i with
 | zero=>intro s _ h k _ _;simp at h;subst h;unfold zaO;(repeat' split);all_goals simp
 | succ i ih =>
  intro s hi h k hC hY;obtain⟨x,hx⟩:∃ x,vs[i]?=some x:=j9;have db:=da x (zsS hx);cases h1:(vs.take i).foldl (zt r) (some ⟨[],0,0,0⟩) with
  | none=>rw[ze hx,zuv,h1]at h;cases h
  | some s0 =>
   have e1:=ih s0 tO h1 k hC hY;rw[zc1 hx h1]at h;split at h
   . cases h;exact e1
   obtain⟨n,hn,rfl⟩:=zw3.1 h;have:=(zt5.1 hn).1;rw[zeA s0 (k:=x.kind) tO ⟨hC,hY⟩];split
   . grind
   exact e1
theorem zkA {x:Vr} (hx:vs[i]?=some x) (vals:List Int) (hv:vals.length=i) (n:Int):((vs.take (i+1)).zip (vals++[n])).all inB=(((vs.take i).zip vals).all inB&&inB (x,n)):=by
 have hi:=(zt5.1 hx).1;rw[ze hx,List.zip_append tD,List.all_append];simp
structure Sg where
 vals:List Int
 outs:List Int
 time:Int
end Go.GL
namespace Go.Proofs.YtckdhgbepmpgiaaGreat
open Go.GL
abbrev zb:Int->Value:=.int .i64
structure WkV where
 (W m:Nat) (v1 v2 v3 sv vv hv ov:Value) (rm:List (Int × Value))
def zm6 (vs:List Vr) (vals:List Int) (v n:Int):List Int:=match vs[v.toNat]? with
 | some x=>vals.set v.toNat (xt n x.low x.high)
 | none=>vals
theorem InV.set (hg:∀ v ∈ vs,xz (v.low,v.high)) (h:InV vs vals) (v n:Int):InV vs (zm6 vs vals v n):=by
 unfold zm6;cases hx:vs[v.toNat]? with
 | none=>exact h
 | some x =>
  have hC:=hg x (zsS hx);unfold xz at hC;have hc:=jG n (show x.low<=x.high from hC.2.1);refine⟨by simp[h.len],fun i y hy=>?_⟩;simp only[lki,zuF];by_cases hi:v.toNat=i
  .
   subst hi;rw[hx]at hy;cases hy;have:=(zt5.1 hx).1;rw[zt2 rfl,zt2 (by rw[h.len];exact this)];exact hc
  rw[zt1 hi];exact h.at_ i y hy
def qt (f:Fl) (hs:List Int) (s:St) (σ:Sg):Sg :=
 if s.act=0 then { σ with vals:=zm6 f.vars σ.vals s.var (qO σ.vals s.term),time:=σ.time+s.cost }
 else if s.act=1 then { σ with outs:=σ.outs++[qO σ.vals s.term],time:=σ.time+s.cost }
 else if s.act=5 then { σ with vals:=zm6 f.vars σ.vals s.var (lki hs s.n.toNat),time:=σ.time+s.cost }
 else if s.act=6 then { σ with time:=kF s.bounds (σ.time+s.cost) }
 else { σ with time:=σ.time+s.cost }
structure StepOk (f:Fl) (s:St):Prop where
 formed:zA f.vars false s.term=true
 ranged:(rng f.vars s.term).isSome=true
 small:s.term.nodes<=1000000
 cost:0<=s.cost/\s.cost<=67108864
 var:s.act=0\/s.act=5->0<=s.var/\s.var<f.vars.length
 num:s.act=5->0<=s.n/\s.n<f.hatches.length
def ze0 (rd:Int->Int) (k n:Int):Int->Int:=fun j=>if j=k then n else rd j
def xp (f:Fl) (hs:List Int) (x:Nd) (s:St) (σ:Sg) (rd:Int->Int):Int × Sg × (Int->Int) :=
 if x.kind=0 then (x.next,σ,rd)
 else if x.kind=2 then (x.next,qt f hs s σ,rd)
 else if x.kind=4 then (x.next,σ,ze0 rd x.at_ 0)
 else if x.kind=5/\rd x.at_=s.n then (x.other,σ,rd)
 else (if qO σ.vals s.term ≠ 0 then x.next else x.other,{ σ with time:=σ.time+s.cost },if x.kind=5 then ze0 rd x.at_ (rd x.at_+1) else rd)
end Go.Proofs.YtckdhgbepmpgiaaGreat
