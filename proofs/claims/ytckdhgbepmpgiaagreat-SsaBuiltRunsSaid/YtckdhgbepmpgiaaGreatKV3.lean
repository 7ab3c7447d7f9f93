/-
  Contracts and the mathematics that the proof needs. Nothing here is a claim.
-/
import Derived.Test.YtckdhgbepmpgiaaGreatKV2
theorem iF {p:Prop}(h:p:=by exact zrz 0 tr112 O O tD):p:=h
theorem iJ {p:Prop}(h:p:=by simp only[*]<;>rfl):p:=h
theorem iK {p:Prop}(h:p:=by exact fun _=>⟨trivial,fun _ h=>h⟩):p:=h
theorem ig {p:Prop}(h:p:=by exact zrz 0 tr163 O O tD):p:=h
theorem iy {p:Prop}(h:p:=by exact Tr1 hI.k0 hY):p:=h
theorem i7 {p:Prop}(h:p:=by exact fun w hI=>yv _ w):p:=h
theorem i8 {p:Prop}(h:p:=by exact fun w hI=>zY _ w):p:=h
theorem JB {p:Prop}(h:p:=by exact ⟨ztC _,fun j h=>absurd h (zwz _)⟩):p:=h
theorem JD {p:Prop}(h:p:=by unfold zmq;simp only[*]<;>rfl):p:=h
theorem JF {p:Prop}(h:p:=by exact ⟨ztC _,rfl,Keep.refl _ _⟩):p:=h
theorem JO {p:Prop}(h:p:=by exact zrz 0 tr200 O O (by unfold utB;simp[*])):p:=h
theorem JP {p:Prop}(h:p:=by exact ⟨tO,hY (g4 tO)⟩):p:=h
theorem Jb {p:Prop}(h:p:=by simp[plainB, *]):p:=h
theorem Jr {p:Prop}(h:p:=by exact fun q h=>by have:=(hI.inS 0 3 O O (q:=b3) O).1.elim False.elim id;have:=dm q h;omega):p:=h
theorem Jt {p:Prop}(h:p:=by simp[qm,k1_,k2_,k3_,k4_,k5_,k6_,k7_,k8_,k9_,k10_,k11_,k12_,k13_,k14_]):p:=h
theorem Jw {p:Prop}(h:p:=by exact zrz 0 tr29 O O tD):p:=h
theorem Jx {p:Prop}(h:p:=by exact zrz 0 tr72 O O tD):p:=h
theorem J0 {p:Prop}(h:p:=by simp[qm,yQ,k12_,k13_]):p:=h
theorem J1 {p:Prop}(h:p:=by simp[qm,yQ,k13_,k14_]):p:=h
theorem J2 {p:Prop}(h:p:=by exact ⟨_,rfl,⟨_,rfl,tD⟩,db⟩):p:=h
theorem J5 {p:Prop}(h:p:=by exact zrz 0 tr64 O O (by rw[da,dw,hY,yb,ztx dl,zty (show xb x=false by grind)];rfl)):p:=h
theorem UD {p:Prop}(h:p:=by unfold qQ;simp only[*]<;>rfl):p:=h
theorem UM {p:Prop}(h:p:=by exact zrz 0 tr121 O O tD):p:=h
theorem UV {p:Prop}(h:p:=by exact zrz 0 tr72 O O (by rw[yq,zty s0])):p:=h
theorem Ug {p:Prop}(h:p:=by exact Sub.cons iJ j2):p:=h
theorem Un {p:Prop}(h:p:=by exact zrL 900 O (e':=.own m [.int .i64 (z+1),.bool ((d || yJ dep (l.take i)) || decide (12<dep))] 189) tD (zpi () j2 j3 trivial 0 O O)):p:=h
theorem Uo {p:Prop}(h:p:=by exact zqH O (fun w hI=>zqi O j6) (Vs 1 O (zpi () (Sub.cons (by rw[tt,Bool.false_and];rfl) j2) j3 trivial 0 O O))):p:=h
theorem Uq {p:Prop}(h:p:=by exact zrL 900 O (e':=.own m [.int .i64 (n+1),.bool (d || decide (12<dep))] 189) tD (zpi () j2 j3 trivial 0 O O)):p:=h
theorem Ur {p:Prop}(h:p:=by exact zqH O (fun w hI=>zqi O j6) (Vs 1 O (zpi () (Sub.cons (by rw[tt,zui,<- dW];rfl) j2) j3 trivial 0 O O))):p:=h
theorem Uy {p:Prop}(h:p:=by exact fun w hI=>kX f x _ v1 v2 v3 _ _ _ w (stable_fl hI.k0) (RSt.put iy iT iQ im)):p:=h
theorem Uz {p:Prop}(h:p:=by exact fun w hI=>zaQ f x _ v1 v2 v3 _ _ _ w (hf hI.k0) (RSt.put iQ JK il im)):p:=h
theorem U3 {p:Prop}(h:p:=by exact RTm.put iy):p:=h
open Go.Proofs.Tryz
variable {α:Type} {k K a c b:Int} {vs:List Go.GL.Vr} {i nh fuel d m:Nat} {f:Nat->Int} {p:α->Bool} {s:Go.GL.St} {w w':Go.World} {hx H:Go.GL.Hp} {Bs:Go.GL.zq} {hn:Nat->Go.GL.Hp} {P:Go.Program} {env:Go.GL.Env} {ops:Array Go.Oper} {listed:Array Bool} {aft:Array Go.Edge} {cs:List Go.Value} {e t' t et:Go.TypeId} {z v:Go.Value} {val:Nat->Go.Value} {dst:Option Go.Tmp} {g:Option (Nat × Bool)} {x y u:Go.Operand} {l:List (Int × Go.Value)} {vals:List Int} {inp:Bool}
namespace Go.Proofs.YtckdhgbepmpgiaaGreat
open Go.GL
def zD (vs:List Vr) (inp:Bool) (t:Tm):Int:=if zA vs inp t then (if (rng vs t).isSome then 0 else 3) else 1
theorem jI (vs:List Vr) (inp:Bool) (vv:Value) (cs:List Value) (Dv D:Nat->Prop) (w:World) (t:Tm) (dm:∀ v ∈ vs,yT (v.low,v.high)) (da:SlR 5 RVr Dv w vv vs) (ht:RTm D w t cs) (dr:t.nodes<=1000000):Calls prog 63 #[vv,.agg cs.toArray,.bool inp] w (Ret fun r w'=>r=.int .i64 (zD vs inp t)/\Ext w w'):=by
 obtain⟨v,rfl,hk⟩:=ht.get;have hE:=Keep.refl (fun _=>False) w;refine zqS func63 O ntmps63 O (Gs 2 O (G.mem O O (M.box O O) ?_));rintro _ dx ⟨b,rfl,dc,dt,hY,dg⟩;have dl:_<=b:=ztt hE.size (zwr dc.symm);obtain⟨hE,da,hk⟩:=Tr3 dg hE da hk;refine Gs 7 O (zqM O tg70 ts70 hY.cells O (Gs 1 O (G.call O call110 (zeB vs inp vv Dv t _ D _ da (RTm.put hk)) ?_)));rintro _ wz1 ⟨rfl,du⟩;obtain⟨hE,da,hk,hY⟩:=Tr4 du hE da hk hY;refine zqG O O (zqi O j6) (Gs 2 O (G.bool O (fun hf=>?_) (fun hf=>?_)))
 .
  have db:zA vs inp t=false:=by simpa using hf
  refine Gs 7 O (zpk results63 O ⟨_,rfl,by rw[zD,db];rfl,hE⟩)
 have db:zA vs inp t=true:=by simpa using hf
 refine Gs 5 O (zqM O tg70 ts70 hY.cells O (G.call O call111 (zfP vs inp vv Dv dm t _ D _ da (RTm.put hk) db dr) ?_));rintro _ wz2 ⟨⟨a,c,rfl,_⟩,dw⟩;obtain⟨hE,da,hk,hY⟩:=Tr4 dw hE da hk hY;refine Gs 13 O (zqG O O (zqi O j6) (Gs 2 O (G.bool O (fun ho=>?_) (fun ho=>?_))))
 .
  have dh:(rng vs t).isSome=false:=by simpa using ho
  refine Gs 7 O (zpk results63 O ⟨_,rfl,by rw[zD,db,dh];rfl,hE⟩)
 have dh:(rng vs t).isSome=true:=by simpa using ho
 refine Gs 8 O (zpk results63 O ⟨_,rfl,by rw[zD,db,dh];rfl,hE⟩)
theorem zbR (vs:List Vr) (inp:Bool) (vv:Value) (cs:List Value) (Dv D:Nat->Prop) (w:World) (t:Tm) (dy:∀ v ∈ vs,yT (v.low,v.high)) (da:SlR 5 RVr Dv w vv vs) (ht:RTm D w t cs) (dz:t.nodes<=1000000):Calls prog 162 #[vv,.agg cs.toArray,.bool inp] w (Ret fun r w'=>r=.int .i64 (zD vs inp t)/\Ext w w'):=by
 obtain⟨v,rfl,hk⟩:=ht.get;have hE:=Keep.refl (fun _=>False) w;refine zqS func162 O ntmps162 O (Gs 2 O (G.mem O O (M.box O O) ?_));rintro _ dE ⟨b,rfl,dl,dA,hY,dm⟩;have dw:_<=b:=ztt hE.size (zwr dl.symm);obtain⟨hE,da,hk⟩:=Tr3 dm hE da hk;refine Gs 7 O (zqM O tg70 ts70 hY.cells O (Gs 1 O (G.call O call87 (kU vs inp vv Dv t _ D _ da (RTm.put hk)) ?_)));rintro _ wz1 ⟨rfl,dB⟩;obtain⟨hE,da,hk,hY⟩:=Tr4 dB hE da hk hY;refine zqG O O (zqi O j6) (Gs 2 O (G.bool O (fun hf=>?_) (fun hf=>?_)))
 .
  have dc:zA vs inp t=false:=by simpa using hf
  refine Gs 7 O (zpk results162 O ⟨_,rfl,by rw[zD,dc];rfl,hE⟩)
 have dc:zA vs inp t=true:=by simpa using hf
 refine Gs 6 O (zqM O tg70 ts70 hY.cells O (G.call O call89 (zeF vs inp vv Dv dy t _ D _ da (RTm.put hk) dc dz) ?_));rintro _ wz2 ⟨⟨a,c,rfl,_⟩,dC⟩;obtain⟨hE,da,hk,hY⟩:=Tr4 dC hE da hk hY;refine Gs 3 O (G.mem O O (M.alloc (cs:=_) tz159 O) ?_);rintro _ wa3 ⟨o,rfl,dr,dD,dg,db⟩;refine zpT O (zpU ts159 O O O O tY dg tR) ?_;rintro dF ⟨_,dg,dh⟩;replace db:=db.trans dh (fun q hq h=>tO);have dt:b ≠ o:=by have:=hY.lt;omega
 have dx:_<=o:=ztt hE.size (zwr dr.symm);obtain⟨hE,da,hk,hY⟩:=Tr4 db hE da hk hY;refine Gs 6 O (zqG O O (zqi O j6) (Gs 2 O (G.bool O (fun ho=>?_) (fun ho=>?_))))
 .
  have du:(rng vs t).isSome=false:=by simpa using ho
  refine Gs 7 O (zpk results162 O ⟨_,rfl,by rw[zD,dc,du];rfl,hE⟩)
 have du:(rng vs t).isSome=true:=by simpa using ho
 refine Gs 8 O (zpk results162 O ⟨_,rfl,by rw[zD,dc,du];rfl,hE⟩)
def yi (k:Int):List Vr->Int->Option Int
 | [],n=>some n
 | v::r,n=>if v.kind=k then (if 4096<n*(v.high - v.low+1) then none else yi k r (n*(v.high - v.low+1))) else yi k r n
def zl (k:Int) (vs:List Vr):Option Int:=yi k vs 1
theorem yj (k:Int):∀ (a b:List Vr) (n:Int),yi k (a++b) n=(yi k a n).bind (yi k b)
 | [],b,n=>rfl
 | v::r,b,n=>by
  simp only[zuH,yi];split
  .
   split
   . rfl
   exact yj k r b _
  exact yj k r b _
theorem yg (k:Int):∀ (a:List Vr) (n m:Int),(∀ v ∈ a,yT (v.low,v.high))->1<=n->n<=4096->yi k a n=some m->1<=m/\m<=4096
 | [],n,m,_,h1,h2,h=>by simp[yi]at h;omega
 | v::r,n,m,hg,h1,h2,h=>by
  have hv:=hg v (ztr ..);have hr:=fun x hx=>hg x Jq;unfold yT at hv;simp only[yi]at h;split at h
  .
   split at h
   . cases h
   rename_i h3;refine yg k r _ m hr ?_ tO h;have:(1:Int)*1<=n*(v.high - v.low+1):=zuq h1 tO tO tO;omega
  exact yg k r n m hr h1 h2 h
theorem zfQ {n s:Int} (h1:1<=n) (h2:n<=4096) (h3:1<=s) (h4:s<=2097153):1<=n*s/\n*s<=4096*2097153:=by
 have a:(1:Int)*1<=n*s:=zuq h1 h3 tO tO;have b:n*s<=4096*2097153:=zuq h2 h4 tO tO;omega
theorem ji (vs:List Vr) (k:Int) (vv:Value) (D:Nat->Prop) (w:World) (hg:∀ v ∈ vs,yT (v.low,v.high)) (da:SlR 5 RVr D w vv vs):Calls prog 109 #[vv,.int .i64 k] w (Ret fun r w'=>r=.int .i64 ((zl k vs).getD 4097)/\Ext w w'):=by
 have dC:=da.max;obtain⟨av,nv,rfl⟩:=da.form;refine zqR func109 O ntmps109 O (Gs 17 O (G.loop (σ:=Nat × Int) (fun⟨i,n⟩=>[(0,.slice av vs.length nv),(1,.int .i64 k),(5,.int .i64 n),(6,.int .i64 i)]) (fun⟨i,n⟩=>fun w'=>i<=vs.length/\yi k (vs.take i) 1=some n/\Ext w w') (fun⟨i,n⟩=>vs.length - i) (0,1) j2 JF ?_));rintro⟨i,n⟩ w1 ⟨hi,hs,db⟩;replace da:=Tr1 db da;have hn:=yg k (vs.take i) 1 n (fun v hv=>hg v (zvL hv)) tO tO hs;refine Gs 9 O (zp3 O (fun dw=>?_) (fun dw=>?_))
 .
  obtain⟨x,dg,dm⟩:=gE_ vs (i) tO;obtain⟨dx,dD,dE,dc,_,hY,dh⟩:=da.at dg;have dy:=RVr.one dh;obtain rfl:=dh;have dr:dx<_:=ztp _ _ (hY 0 _ rfl);have dt:=hg x dm;unfold yT at dt;dsimp only at dt;have hp:=zfQ (n:=n) (s:=x.high - x.low+1) hn.1 hn.2 tO tO
  have du:yi k (vs.take (i+1)) 1=if x.kind=k then (if 4096<n*(x.high - x.low+1) then none else some (n*(x.high - x.low+1))) else some n:=by
   rw[ze dg,yj,hs];simp[yi]
  have dz:yi k (vs.take (i+1)) 1=none->zl k vs=none:=by
   intro h;unfold zl;rw[<- zwa (i+1) vs,yj,h];rfl
  refine Gs 9 O (zqG O O (zpH tR22 ts142 O O dc tO) (Gs 1 O (zqK O tg100 (hY 1 _ O) (Gs 4 O (zp3 O (fun hk=>?_) (fun hk=>?_))))))
  . refine Ga 9 O tO (G.back (i+1,n) j2 ⟨tO,tD,db⟩ tD)
  have dA:x.kind=k:=ztw.1 hk;rw[zty dA]at du;refine Gs 3 O (Qt tK (Gs 3 O (zqJ O O (fun w1 dl=>zpH tR22 ts142 O O dc tO) (Gs 1 O (zqL O tg3 (fun w1 dl=>((dl.cells hY (fun h=>h)) 3 _ O)) (Gs 2 O (zqJ O O (fun w1 dl=>zpH tR22 ts142 O O dc tO) (Gs 1 O (zqL O tg3 (fun w1 dl=>((dl.cells hY (fun h=>h)) 2 _ O)) (Ga 4 O tO (zqN (fun wz1 dB=>?_))))))))))));obtain⟨da,db,hY⟩:=Tr3 dB da db hY;refine Gs 7 O (zp3 O (fun hb=>?_) (fun hb=>?_))
  .
   rw[zty hb]at du;refine Gs 11 O (zpk results109 O ⟨_,rfl,tD,db⟩)
  refine Ga 8 O tO (G.back (i+1,n*(x.high - x.low+1)) j2 ⟨tO,tD,db⟩ tD)
 have:i=vs.length:=tO;subst this;rw[zts]at hs;refine Gs 12 O (zpk results109 O ⟨_,rfl,by rw[zl,hs];rfl,db⟩)
theorem zhv (v:Vr) (w:World) (hg:yT (v.low,v.high)):Calls prog 214 #[.agg #[.string v.name,.int .i64 v.kind,.int .i64 v.low,.int .i64 v.high,.int .i64 v.init]] w (Ret fun r w'=>r=.int .i64 (v.high - v.low+1)/\Ext w w'):=by
 unfold yT at hg;dsimp only at hg;have hE:=Keep.refl (fun _=>False) w;refine zqQ func214 O ntmps214 O (Gs 2 O (G.mem O O (M.box O O) ?_));rintro _ dh ⟨b,rfl,da,dg,hY,db⟩;have dc:_<=b:=ztt hE.size (zwr da.symm);replace hE:=Tr1 db hE;refine Gs 6 O (zqK O tg3 (hY.cells 3 _ O) (Gs 1 O (zqK O tg3 (hY.cells 2 _ O) (Ga 6 O tO (zpk results214 O ⟨_,rfl,rfl,hE⟩)))))
def zgB (v:Vr):List Value:=[.string v.name,.int .i64 v.kind,.int .i64 v.low,.int .i64 v.high,.int .i64 v.init]
theorem zgC (v:Vr):(zgB v).length=5:=rfl
theorem zgD (v:Vr):∀ u ∈ zgB v,u.oneCell'=true:=by simp[zgB,Value.oneCell']
def zf (k:Int) (vs:List Vr):List Vr:=vs.filter fun v=>decide (v.kind=k)
theorem qt {x:Vr} (h:vs[i]?=some x):zf k (vs.take (i+1))=zf k (vs.take i)++(if x.kind=k then [x] else []):=by
 unfold zf;rw[ze h,zuX]
 grind
theorem qn (k:Int) (vs:List Vr):(zf k vs).length<=vs.length:=zvr _ _
theorem xz (k:Int):∀ (vs:List Vr) (n:Int),yi k (zf k vs) n=yi k vs n
 | [],n=>rfl
 | v::r,n=>by
  unfold zf;by_cases e:v.kind=k
  .
   rw[zuZ tD];simp only[yi,e,if_true];split
   . rfl
   exact xz k r _
  rw[zuY tD];simp only[yi,e,if_false];exact xz k r n
theorem ziD (vs:List Vr) (k:Int) (vv:Value) (D:Nat->Prop) (w:World) (hk:0<=k/\k<=3) (hg:∀ v ∈ vs,yT (v.low,v.high)) (dc:SlR 5 RVr D w vv vs) (dX:vs.length<=1000000):Calls prog 196 #[vv,.int .i64 k] w (Ret fun r w'=>(∃ vl,r=.tuple #[vl,.int .i64 ((zl k vs).getD 0),.int .i64 (if (zl k vs).isSome then 0 else 4)]/\((zl k vs).isSome=true->SlR 5 RVr (fun b=>w.heap.size<=b) w' vl (zf k vs))/\((zl k vs).isSome=false->vl=.slice none 0 0))/\Ext w w'):=by
 obtain⟨av,nv,rfl⟩:=dc.form;have hE:=Keep.refl (fun _=>False) w;refine zqR func196 O ntmps196 O (Gs 13 O (zpf (σ:=Unit) (fun u=>[(0,.slice av vs.length nv),(1,.int .i64 k)]) (fun u=>fun w'=>w'=w) ?_ ?_))
 .
  refine Gs 8 O (zp3 O (fun h0=>?_) (fun h0=>?_))
  . refine Gs 5 O (zph () j2 rfl)
  refine Gs 6 O (zp3 O (fun h1=>?_) (fun h1=>?_))
  . refine Gs 5 O (zph () j2 rfl)
  refine Gs 6 O (zp3 O (fun h2=>?_) (fun h2=>?_))
  . refine Gs 5 O (zph () j2 rfl)
  refine Gs 5 O (zp3 O (fun h3=>?_) (fun h3=>?_))
  . refine Gs 2 O (zph () j2 rfl)
  omega
 rintro u w1 dY;subst dY;refine Gs 14 O (zpf (σ:=Value) (fun vl=>[(0,.slice av vs.length nv),(1,.int .i64 k),(7,vl)]) (fun vl=>fun w'=>w'.ownsRow 0 142 5 vl (zf k vs).length ((zf k vs).flatMap zgB)/\(∀ q,vl.ownBlock=some q->w1.heap.size<=q)/\Ext w1 w') ?_ ?_)
 .
  refine Gs 1 O (G.loop (σ:=Nat × Value) (fun⟨i,vl⟩=>[(0,.slice av vs.length nv),(1,.int .i64 k),(7,vl),(19,.slice av vs.length nv),(20,.int .i64 vs.length),(21,.int .i64 i)]) (fun⟨i,vl⟩=>fun w'=>i<=vs.length/\w'.ownsRow 0 142 5 vl (zf k (vs.take i)).length ((zf k (vs.take i)).flatMap zgB)/\(∀ q,vl.ownBlock=some q->w1.heap.size<=q)/\Ext w1 w') (fun⟨i,vl⟩=>vs.length - i) (0,.slice none 0 0) j2 ⟨ztC _,qq _ _ _,fun q hq=>by simp[Value.ownBlock]at hq,Keep.refl _ _⟩ ?_);rintro⟨i,vl⟩ w2 ⟨hi,db,dG,dr⟩;obtain⟨hE,dc⟩:=Tr2 dr hE dc;refine Gs 6 O (zp3 O (fun dH=>?_) (fun dH=>?_))
  .
   obtain⟨x,dh,dt⟩:=gE_ vs (i) tO;obtain⟨dI,dZ,d5,dw,_,da,dl⟩:=dc.at dh;have dx:=RVr.one dl;obtain rfl:=dl;have dA:dI<_:=ztp _ _ (da 0 _ rfl);have dB:=hg x dt;unfold yT at dB;dsimp only at dB;have dN:=qt (k:=k) dh;have dO:=qn k (vs.take i);rw[ztR]at dO;refine Gs 6 O (zqG O O (zpH tR22 ts142 O O dw tO) (zqM O tg142 ts142 da O (G.mem O O (M.alloc (cs:=_) tz142 O) ?_)));rintro _ wa1 ⟨c,rfl,dy,dJ,hY,dg⟩;refine zpT O (zpU ts142 O O O O dx hY tR) ?_;rintro d6 ⟨_,hY,dm⟩;replace dg:=dg.trans dm (fun q hq h=>tO);have dC:_<=c:=ztt hE.size (zwr dy.symm);obtain⟨hE,dc,dr,db,da⟩:=Tr5 dg hE dc dr db da;refine Gs 6 O (zqK O tg100 (hY.cells 1 _ O) (Gs 4 O (zp3 O (fun dK=>?_) (fun dK=>?_))))
   .
    rw[ztx dK,zuF]at dN;refine Ga 8 O tO (G.back (i+1,vl) j2 ⟨tO,tD,dG,dr⟩ tD)
   have dL:x.kind=k:=ztw.1 dK;rw[zty dL]at dN;refine Gs 6 O (zqK O tg3 (hY.cells 2 _ O) (Gs 1 O (zqK O tg3 (hY.cells 3 _ O) (Gs 2 O (G.sp 34 O (fun b0=>?_) (fun b0=>?_))))))
   . omega
   refine Gs 1 O (zqK O tg3 (hY.cells 2 _ O) (Gs 3 O (G.sp 39 O (fun b1=>?_) (fun b1=>?_))))
   . omega
   refine Gs 1 O (zqK O tg3 (hY.cells 3 _ O) (Gs 4 O (zp3 O (fun b2=>?_) (fun b2=>?_))))
   . omega
   refine Gs 4 O (zqM O tg142 ts142 hY.cells O (G.mem O O (M.buildSlice (cs:=zgB x) [(0,_)] tR22 ts142 tz142 tS O tK) ?_));rintro _ w5 ⟨b5,rfl,dQ,dR,dD,dE⟩;obtain⟨hE,dc,dr,db,da,hY⟩:=Tr6 dE hE dc dr db da hY;refine G.mem O O (M.append underlying22 Tryz.el142 O tS O O db O (Cells.add dD.cells) (zgD _) tO tO) ?_;rintro vl' w6 ⟨dS,d7,d8,_⟩;have d9:=dr.size;refine Ga 8 O tO (G.back (i+1,vl') j2 ⟨tO,?_,?_,dr.trans d8 (fun q hq h=>tD)⟩ tD)
   . grind
   grind
  have:i=vs.length:=tO;subst this;rw[zts]at db;refine Gs 4 O (zph (vl) j2 ⟨db,dG,dr⟩)
 rintro vl w2 ⟨db,dG,hX⟩;obtain⟨hE,dc⟩:=Tr2 hX hE dc;have du:SlR 5 RVr (fun b=>w1.heap.size<=b) w2 vl (zf k vs):=zqb tO zgB zgC J3 db dG;obtain⟨al,nl,rfl⟩:=du.form;have dO:=qn k vs;have dT:∀ v ∈ zf k vs,yT (v.low,v.high):=fun v hv=>hg v (zvE.1 hv).1;have dU:yi k (zf k vs) 1=zl k vs:=xz k vs 1;have dM:∀ v ∈ zf k vs,v.kind=k:=fun v hv=>by simpa using (zvE.1 hv).2
 refine Gs 15 O (G.loop (σ:=Nat × Int) (fun⟨i,n⟩=>[(7,.slice al (zf k vs).length nl),(10,.int .i64 n),(49,.slice al (zf k vs).length nl),(50,.int .i64 (zf k vs).length),(51,.int .i64 i)]) (fun⟨i,n⟩=>fun w'=>i<=(zf k vs).length/\yi k ((zf k vs).take i) 1=some n/\Ext w2 w') (fun⟨i,n⟩=>(zf k vs).length - i) (0,1) j2 JF ?_);rintro⟨i,n⟩ w3 ⟨hi,hs,dz⟩;obtain⟨hE,dc,du⟩:=Tr3 dz hE dc du;have hn:=yg k ((zf k vs).take i) 1 n (fun v hv=>dT v (zvL hv)) tO tO hs;refine Gs 6 O (zp3 O (fun dH=>?_) (fun dH=>?_))
 .
  obtain⟨x,dh,dt⟩:=gE_ (zf k vs) (i) tO;obtain⟨dI,dZ,d5,dw,_,da,dl⟩:=du.at dh;have dx:=RVr.one dl;obtain rfl:=dl;have dA:dI<_:=ztp _ _ (da 0 _ rfl);have dB:=dT x dt;have dF:=dB;unfold yT at dF;dsimp only at dF;have hp:=zfQ (n:=n) (s:=x.high - x.low+1) hn.1 hn.2 tO tO
  have dV:yi k ((zf k vs).take (i+1)) 1=if 4096<n*(x.high - x.low+1) then none else some (n*(x.high - x.low+1)):=by
   rw[ze dh,yj,hs];simp[yi,dM x dt]
  refine Gs 6 O (zqG O O (zpH tR22 ts142 O O dw tO) (zqM O tg142 ts142 da O (G.mem O O (M.alloc (cs:=_) tz142 O) ?_)));rintro _ wa2 ⟨c,rfl,dy,dJ,hY,dg⟩;refine zpT O (zpU ts142 O O O O dx hY tR) ?_;rintro d6 ⟨_,hY,dm⟩;replace dg:=dg.trans dm (fun q hq h=>tO);have dC:_<=c:=ztt hE.size (zwr dy.symm);obtain⟨hE,dc,du,dz,da⟩:=Tr5 dg hE dc du dz da;refine Gs 5 O (zqM O tg142 ts142 hY.cells O (G.call O call214 (zhv x _ dB) ?_));rintro _ wz3 ⟨rfl,eb⟩;obtain⟨hE,dc,du,dz,da,hY⟩:=Tr6 eb hE dc du dz da hY;refine Ga 10 O tO (zp3 O (fun hb=>?_) (fun hb=>?_))
  .
   rw[zty hb]at dV
   have dW:zl k vs=none:=by
    rw[<- dU,<- zwa (i+1) (zf k vs),yj,dV];rfl
   refine Gs 13 O (zpq results196 O O O ⟨_,rfl,⟨.slice none 0 0,tD,(fun (h:(zl k vs).isSome=true)=>tD),fun _=>rfl⟩,hE⟩)
  refine Ga 7 O tO (G.back (i+1,n*(x.high - x.low+1)) j2 ⟨tO,tD,dz⟩ tD)
 have:i=(zf k vs).length:=tO;subst this;rw[zts,dU]at hs;refine Gs 15 O (zpq results196 O O O ⟨_,rfl,⟨_,tD,fun _=>du,(fun (h:(zl k vs).isSome=false)=>tD)⟩,hE⟩)
theorem zfR (vs:List Vr) (k:Int) (vv:Value) (D:Nat->Prop) (w:World) (hk:0<=k/\k<=3) (hg:∀ v ∈ vs,yT (v.low,v.high)) (da:SlR 5 RVr D w vv vs) (hY:vs.length<=1000000):Calls prog 159 #[vv,.int .i64 k] w (Ret fun r w'=>r=.tuple #[.int .i64 ((zl k vs).getD 0),.int .i64 (if (zl k vs).isSome then 0 else 4)]/\Ext w w'):=by
 have hE:=Keep.refl (fun _=>False) w;refine zqR func159 O ntmps159 O (Gs 10 O (G.call O call196 (ziD vs k vv D w hk hg da hY) ?_));rintro _ wz1 ⟨⟨vl,rfl,_,_⟩,db⟩;replace hE:=Tr1 db hE;refine Gs 18 O (zpn results159 O O ⟨_,rfl,rfl,hE⟩)
def yX (f:Nat->Int):Nat->Nat->Int
 | _,0=>0
 | i,n+1=>if f i ≠ 0 then f i else yX f (i+1) n
theorem jj (f:Nat->Int):∀ (k i m:Nat),(∀ j,i<=j->j<i+k->f j=0)->yX f i (k+m)=yX f (i+k) m
 | 0,i,m,_=>tR
 | k+1,i,m,h=>by
  rw[show k+1+m=(k+m)+1 by omega,yX,ztx tD,jj f k (i+1) m (fun j h1 h2=>h j tO tO)]
  grind
theorem jk {n:Nat} (h:∀ j,j<i->f j=0) (hi:i<n) (hb:f i ≠ 0):yX f 0 n=f i:=by
 obtain⟨m,rfl⟩:∃ m,n=i+(m+1):=⟨n - i - 1,tO⟩;rw[jj f i 0 (m+1) (fun j _ h2=>h j tO),zwC,yX,zty hb]
theorem qj {n:Nat} (h:∀ j,j<n->f j=0):yX f 0 n=0:=by
 have:=jj f n 0 0 (fun j _ h2=>h j tO);simpa[yX] using this
theorem qb {f:Nat->Int}:∀ (n i:Nat),yX f i n=0->∀ j,i<=j->j<i+n->f j=0
 | 0,i,_,j,h1,h2=>tO
 | n+1,i,h,j,h1,h2=>by
  rw[yX]at h;split at h
  . omega
  rename_i h3;by_cases e:j=i
  . grind
  exact qb n (i+1) h j tO tO
def yd (a b:ByteArray):Bool:=decide (a.toList=b.toList)
def zO (prev:List Vr) (v:Vr):Int :=
 if zcy v.name=false then 7
 else if prev.any (fun u=>yd u.name v.name)=true then 8
 else if ¬ (0<=v.kind/\v.kind<=3) then 1
 else if zb9 v.low v.high=false then 3
 else if v.kind=0/\(v.init<v.low\/v.high<v.init)\/v.kind ≠ 0/\v.init ≠ 0 then 3
 else 0
def kW (vs:List Vr) (i:Nat):Int:=match vs[i]? with
 | some v=>zO (vs.take i) v
 | none=>0
theorem zbb {v:Vr} (h:vs[i]?=some v):kW vs i=zO (vs.take i) v:=by simp[kW,h]
def xh (vs:List Vr):Bool:=(zl 1 vs).isNone || (zl 2 vs).isNone || (match zl 3 vs with
 | some n=>decide (256<n)
 | none=>true)
def zr (vs:List Vr):Int:=if yX (kW vs) 0 vs.length ≠ 0 then yX (kW vs) 0 vs.length else if xh vs then 4 else 0
theorem zeG {prev:List Vr} {v:Vr} (h:zO prev v=0):yT (v.low,v.high)/\0<=v.kind/\v.kind<=3:=by
 unfold zO at h;split at h
 . cases h
 split at h
 . cases h
 split at h
 . cases h
 split at h
 . cases h
 rename_i h1 h2 h3 h4;have h5:zb9 v.low v.high=true:=tD;unfold zb9 at h5;have:=of_decide_eq_true h5;have h3:=ztw.1 h3;exact⟨⟨this.2.1,this.1,this.2.2⟩,h3.1,h3.2⟩
theorem qI (h:∀ j,j<vs.length->kW vs j=0):∀ v ∈ vs,yT (v.low,v.high)/\0<=v.kind/\v.kind<=3:=by
 intro v hv;obtain⟨i,hi⟩:=zvH.1 hv;have:=h i (ztB.1 hi).1;rw[zbb hi]at this;exact zeG this
theorem zcO (h1:(zl 1 vs).isNone=false) (h2:(zl 2 vs).isNone=false):xh vs=decide ((256:Int)<(zl 3 vs).getD 4097):=by
 unfold xh;rw[h1,h2];cases zl 3 vs<;>simp
theorem zaP {l:List α} {k:Nat} {x:α} (hx:l[k]?=some x) (h:(l.take k).any p=false) (hp:p x=false):(l.take (k+1)).any p=false:=by rw[ze hx,zuC,h];simp[hp]
theorem zoT {l:List α} {x:α} (hx:x ∈ l) (hp:p x=true):l.any p=true:=zuD.2 ⟨x,hx,hp⟩
theorem ziE (vs:List Vr) (vv:Value) (D:Nat->Prop) (w:World) (da:SlR 5 RVr D w vv vs) (p:Vr->Bool) (g:FuncId) (cp:Value) (hf:∀ args w,(callFunc g args).run prog w=.ok (.enter g args) w)
  (hc:∀ x ∈ vs,∀ w',Ext w w'->Calls prog g #[.agg (zgB x).toArray,cp] w' (Ret fun r w''=>r=.bool (p x)/\Ext w' w'')) :
  Calls prog 195 #[vv,.func (.func g) #[] #[cp]] w (Ret fun r w'=>(∃ i:Int,r=.int .i64 i/\(0<=i ↔ vs.any p=true))/\Ext w w'):=by
 have dy:=da.max;obtain⟨av,nv,rfl⟩:=da.form;refine zqR func195 O ntmps195 O (Gs 14 O (G.loop (σ:=Nat) (fun i=>[(0,.slice av vs.length nv),(1,.func (.func g) #[] #[cp]),(7,.int .i64 vs.length),(8,.int .i64 i)]) (fun i=>fun w'=>i<=vs.length/\(vs.take i).any p=false/\Ext w w') (fun i=>vs.length - i) 0 j2 JF ?_));rintro i w1 ⟨hi,dm,db⟩;replace da:=Tr1 db da;refine Gs 6 O (zp3 O (fun dt=>?_) (fun dt=>?_))
 .
  obtain⟨x,dc,dh⟩:=gE_ vs (i) tO;obtain⟨du,dz,dA,dl,_,hY,dg⟩:=da.at dc;have dw:=RVr.one dg;obtain rfl:=dg;have dr:du<_:=ztp _ _ (hY 0 _ rfl);refine Gs 15 O (zqG O O (zpH tR22 ts142 O O dl tO) (zqM O tg142 ts142 hY O (zpO O hf (hc x dh _ db) ?_)));rintro _ wz1 ⟨rfl,dx⟩;obtain⟨da,db,hY⟩:=Tr3 dx da db hY;refine Gs 2 O (G.bool O (fun hp=>?_) (fun hp=>?_))
  . refine Gs 12 O (zpk results195 O J2)
  refine Ga 7 O tO (G.back (i+1) j2 ⟨tO,zaP dc dm hp,db⟩ tO)
 have:i=vs.length:=tO;subst this;rw[zts]at dm;refine Gs 11 O (zpk results195 O J2)
theorem zeH (vs:List Vr) (vv:Value) (D:Nat->Prop) (w:World) (hY:SlR 5 RVr D w vv vs) (p:Vr->Bool) (g:FuncId) (cp:Value) (hf:∀ args w,(callFunc g args).run prog w=.ok (.enter g args) w)
  (hc:∀ x ∈ vs,∀ w',Ext w w'->Calls prog g #[.agg (zgB x).toArray,cp] w' (Ret fun r w''=>r=.bool (p x)/\Ext w' w'')) :
  Calls prog 158 #[vv,.func (.func g) #[] #[cp]] w (Ret fun r w'=>r=.bool (vs.any p)/\Ext w w'):=by
 have hE:=Keep.refl (fun _=>False) w;refine zqR func158 O ntmps158 O (Gs 9 O (G.call O call195 (ziE vs vv D w hY p g cp hf hc) ?_));rintro _ wz1 ⟨⟨i,rfl,hi⟩,da⟩;replace hE:=Tr1 da hE;refine Gs 5 O (zpk results158 O ⟨_,rfl,tD,hE⟩)
theorem zkL (v x:Vr) (c:Nat) (w:World) (hB:Blk w c (zgB x) 142):Calls prog 156 #[.agg (zgB v).toArray,.pointer (some ⟨c,0,none⟩)] w (Ret fun r w'=>r=.bool (yd v.name x.name)/\Ext w w'):=by
 have hE:=Keep.refl (fun _=>False) w;refine zqR func156 O ntmps156 O (Gs 2 O (G.mem O O (M.box O O) ?_));rintro _ dh ⟨b,rfl,hY,dg,da,db⟩;have dc:_<=b:=ztt hE.size (zwr hY.symm);obtain⟨hE,hB⟩:=Tr2 db hE hB;refine Gs 6 O (zqK O tg9 (da.cells 0 _ O) (Gs 1 O (zqK O tg9 (hB.cells 0 _ O) (Gs 5 O (zpk results156 O ⟨_,rfl,rfl,hE⟩)))))
def plainB (t:Tm):Bool:=decide (t.op=0)&&decide (t.n=0)&&decide (t.kids.length=0)
theorem kD (t:Tm) (cs:List Value) (D:Nat->Prop) (w:World) (ht:RTm D w t cs):Calls prog 152 #[.agg cs.toArray] w (Ret fun r w'=>r=.bool (plainB t)/\Ext w w'):=by
 obtain⟨v,rfl,hk⟩:=ht.get;obtain⟨ao,cap,rfl⟩:=hk.form;refine zqQ func152 O ntmps152 O (V.inn (Vs 2 O (V.box 1 O O (fun b1=>?_))));refine Vs 9 O (zqB 6 O (fun k1_=>?_) (fun k1_=>?_))
 .
  refine Vs 5 O (zqB 11 O (fun k2_=>?_) (fun k2_=>?_))
  . refine Vs 9 O (zrz 0 results152 O O Jb)
  refine Vs 9 O (zrz 0 results152 O O Jb)
 refine Vs 14 O (zrz 0 results152 O O Jb)
theorem zfS (t:Tm) (cs:List Value) (D:Nat->Prop) (w:World) (ht:RTm D w t cs):Calls prog 201 #[.agg cs.toArray] w (Ret fun r w'=>r=.bool (plainB t)/\Ext w w'):=by
 obtain⟨v,rfl,hk⟩:=ht.get;obtain⟨ao,cap,rfl⟩:=hk.form;refine zqQ func201 O ntmps201 O (V.inn (Vs 2 O (V.box 1 O O (fun b1=>?_))));refine Vs 9 O (zqB 6 O (fun k1_=>?_) (fun k1_=>?_))
 .
  refine Vs 5 O (zqB 11 O (fun k2_=>?_) (fun k2_=>?_))
  . refine Vs 9 O (zrz 0 results201 O O Jb)
  refine Vs 9 O (zrz 0 results201 O O Jb)
 refine Vs 14 O (zrz 0 results201 O O Jb)
@[irreducible] def uvB (a:Int):Bool:=decide (a=0\/a=5)
@[irreducible] def unB (a:Int):Bool:=decide (a=4\/a=5)
@[irreducible] def utB (a:Int):Bool:=decide (a=0\/a=1\/a=3\/a=4)
theorem zcP (a:Int) (w:World):Calls prog 198 #[.int .i64 a] w (Ret fun r w'=>r=.bool (uvB a)/\Ext w w'):=by
 refine zqQ func198 O ntmps198 O (V.inn (Vs 10 O (zqB 5 O (fun k1_=>?_) (fun k1_=>?_))))
 . refine Vs 7 O (zrz 0 results198 O O (by unfold uvB;simp[*]))
 refine Vs 7 O (zrz 0 results198 O O (by unfold uvB;simp[*]))
theorem zkM (a:Int) (w:World):Calls prog 199 #[.int .i64 a] w (Ret fun r w'=>r=.bool (unB a)/\Ext w w'):=by
 refine zqQ func199 O ntmps199 O (V.inn (Vs 10 O (zqB 5 O (fun k1_=>?_) (fun k1_=>?_))))
 . refine Vs 7 O (zrz 0 results199 O O (by unfold unB;simp[*]))
 refine Vs 7 O (zrz 0 results199 O O (by unfold unB;simp[*]))
theorem zfT (a:Int) (w:World):Calls prog 200 #[.int .i64 a] w (Ret fun r w'=>r=.bool (utB a)/\Ext w w'):=by
 refine zqQ func200 O ntmps200 O (V.inn (Vs 10 O (zqB 5 O (fun k1_=>?_) (fun k1_=>?_))))
 . refine Vs 15 O JO
 refine Vs 4 O (zqB 9 O (fun k2_=>?_) (fun k2_=>?_))
 . refine Vs 11 O JO
 refine Vs 4 O (zqB 13 O (fun k3_=>?_) (fun k3_=>?_))
 . refine Vs 7 O JO
 refine Vs 7 O JO
def xA:List Int->Bool
 | x::y::r=>decide (x<y)&&xA (y::r)
 | _=>true
theorem xI:∀ l:List Int,xA l=true ↔ ∀ i x y,l[i]?=some x->l[i+1]?=some y->x<y
 | []=>by simp[xA]
 | [a]=>by simp[xA]
 | a::b::r=>by
  simp only[xA,zu8,decide_eq_true_eq,xI (b::r)];constructor
  . grind
  intro h;exact⟨h 0 a b O rfl,fun i x y hx hy=>h (i+1) x y tD tD⟩
theorem zdy (l:List Int) (v:Value) (D:Nat->Prop) (w:World) (hl:SlR 1 zv D w v l):Calls prog 202 #[v] w (Ret fun r w'=>r=.bool (xA l)/\Ext w w'):=by
 have dw:=hl.max;obtain⟨al,nl,rfl⟩:=hl.form;refine zqQ func202 O ntmps202 O (V.inn (Vs 14 O (zrM (σ:=Nat) [0,5] [] [] O (fun e i=>(6,.int .i64 i)::e) (fun e i=>e) (fun i=>i<=l.length/\(∀ j x y,j+1<i->l[j]?=some x->l[j+1]?=some y->x<y)) (fun i=>l.length - i) 0 j2 j3 j1 j1 j1 ⟨ztC _,fun j x y h=>absurd h (zwz _)⟩ ?_)));rintro i ⟨hi,db⟩;refine Vs 6 O (zp4 O (fun dm=>?_) (fun dm=>?_))
 .
  refine zqD (p:=i=0) (fun i0=>?_) (fun i0=>?_)
  .
   subst i0;refine Vs 11 O (Vq tK (Vs 3 O (V.sp 11 O (fun h0=>?_) (fun h0=>?_))))
   . exact absurd h0 tO
   refine Va 21 O tO (V.back 1 j2 j3 ⟨tO,fun j x y h=>tO⟩ tZ 0 O O)
  .
   obtain⟨k,rfl⟩:∃ k,i=k+1:=⟨i - 1,tO⟩;refine zrJ 1000 0 (k+1) tO hl O O (fun y dx dy hY dr dc=>(zrJ 2000 0 k tO hl O O (fun x dz dA da dt dg=>?_)));refine Vs 11 O (Vq tK (Vs 3 O (V.sp 11 O (fun h0=>?_) (fun h0=>?_))))
   .
    refine Vs 2 O ?_;refine zrj 1000 tR27 ts3 O dc tO _ rfl O (Va 4 O tO (zrj 2000 tR27 ts3 O dg tO (k) tO O (Vs 5 O (zp4 O (fun hb=>?_) (fun hb=>?_)))))
    .
     have dB:xA l=false:=by rw[zua];intro h;have:=(xI l).1 h k x y da hY;omega
     refine Vs 11 O (zrz 0 results202 O O tD)
    .
     have g:∀ j x y,j+1<k+1+1->l[j]?=some x->l[j+1]?=some y->x<y:=by
      intro j x' y' hj dh dl;by_cases e:j=k
      .
       subst e;rw[da]at dh;cases dh;rw[hY]at dl;cases dl;omega
      exact db j x' y' tO dh dl
     refine Va 7 O tO (V.back (k+1+1) j2 j3 ⟨tO,g⟩ (by first|omega|(dsimp only;omega)) 0 O O)
   exact absurd tO h0
 have du:xA l=true:=(xI l).2 (fun j x y hx hy=>db j x y (by have:=(ztB.1 hy).1;omega) hx hy);refine Vs 11 O (zrz 0 results202 O O tD)
def xJ (l:List Int):Bool:=decide (1<=l.length)&&decide (l.length<=32)&&decide ((0:Int)<=l[0]?.getD 0)&&xA l
theorem zeI (l:List Int) (v:Value) (D:Nat->Prop) (w:World) (hl:SlR 1 zv D w v l):Calls prog 153 #[v] w (Ret fun r w'=>r=.bool (xJ l)/\Ext w w'):=by
 have dB:=hl.max;obtain⟨al,nl,rfl⟩:=hl.form;refine zqQ func153 O ntmps153 O (V.inn (Vs 12 O (V.sp 7 O (fun h1=>?_) (fun h1=>?_))))
 . refine Vs 20 O (zrz 0 tr153 O O (by unfold xJ;rw[ztA (show ¬ 1<=l.length by omega)];rfl))
 refine Vs 5 O (V.sp 12 O (fun h2=>?_) (fun h2=>?_))
 . refine Vs 15 O (zrz 0 tr153 O O (by unfold xJ;rw[ztA (show ¬ l.length<=32 by omega)];simp))
 refine Vs 1 O (zrJ 1000 0 0 tO hl O O (fun x0 du dw hY dm da=>?_));refine zrg 1000 tR27 ts3 O da tO _ rfl O (Vs 5 O (zp4 O (fun h3=>?_) (fun h3=>?_)))
 . refine Vs 7 O (zrz 0 tr153 O O (by unfold xJ;rw[hY,ztA (show ¬ (0:Int)<=(some x0).getD 0 by simpa using h3)];simp))
 have hg:xJ l=xA l:=by unfold xJ;rw[hY,ztz (show 1<=l.length by omega),ztz (show l.length<=32 by omega),ztz (show (0:Int)<=(some x0).getD 0 by simpa using h3)];rfl
 refine Vs 9 O (zrM (σ:=Nat) [0] [] [] O (fun e i=>(3,.int .i64 (i+1:Nat))::e) (fun e i=>e) (fun i=>i+1<=l.length/\(∀ (j:Nat) (x y:Int),j<i->l[j]?=some x->l[j+1]?=some y->x<y)) (fun i=>l.length - i) 0 j2 j3 j1 j1 j1 ⟨tO,fun j x y h=>absurd h (zwz _)⟩ ?_);rintro i ⟨hi,dg⟩;refine Vs 9 O (zp4 O (fun dx=>?_) (fun dx=>?_))
 .
  refine zrJ 2000 0 (i+1) tO hl O O (fun y dC dD db dy dh=>(zrJ 3000 0 i tO hl O O (fun x dE dF dc dz dl=>?_)));refine Vs 5 O (Vq tK (Vs 2 O ?_));refine zrj 2000 tR27 ts3 O dh tO _ rfl O (Va 4 O tO (zrj 3000 tR27 ts3 O dl tO (i) tO O (Vs 4 O (zp4 O (fun hb=>?_) (fun hb=>?_)))))
  .
   have dG:xA l=false:=by rw[zua];intro h;have:=(xI l).1 h i x y dc db;omega
   refine Vs 11 O (zrz 0 tr153 O O tD)
  have g:∀ (j:Nat) (x y:Int),j<i+1->l[j]?=some x->l[j+1]?=some y->x<y:=by
   intro j x' y' hj dr dt;by_cases e:j=i
   .
    subst e;rw[dc]at dr;cases dr;rw[db]at dt;cases dt;omega
   exact dg j x' y' tO dr dt
  refine Va 8 O tO (V.back (i+1) j2 j3 ⟨tO,g⟩ tO 0 O O)
 have dA:xA l=true:=(xI l).2 (fun j x y hx hy=>dg j x y (by have:=(ztB.1 hy).1;omega) hx hy);refine Vs 11 O (zrz 0 tr153 O O tD)
def zbS (s:St):Bool:=decide ((s.thn.length:Int)=0)&&decide ((s.els.length:Int)=0)
def qQ (vs:List Vr) (n:Int):Bool:=decide (0<=n)&&decide (n<(vs.length:Int))&&xy vs n
def zK (vs:List Vr) (nh:Nat) (s:St) (last:Bool):Bool :=
 if s.act=0 then zbS s&&qQ vs s.var&&decide (s.n=0)&&decide ((s.bounds.length:Int)=0)
 else if s.act=1 then zbS s&&decide (s.var=0)&&decide (s.n=0)&&decide ((s.bounds.length:Int)=0)
 else if s.act=2 then zbS s&&decide (s.var=0)&&decide (s.n=0)&&decide ((s.bounds.length:Int)=0)&&plainB s.term
 else if s.act=3 then decide (s.var=0)&&decide (s.n=0)&&decide ((s.bounds.length:Int)=0)
 else if s.act=4 then decide (s.var=0)&&decide ((s.els.length:Int)=0)&&decide ((s.bounds.length:Int)=0)
 else if s.act=5 then zbS s&&qQ vs s.var&&decide (0<=s.n)&&decide (s.n<(nh:Int))&&decide ((s.bounds.length:Int)=0)&&plainB s.term
 else if s.act=6 then zbS s&&last&&decide (s.var=0)&&decide (s.n=0)&&plainB s.term&&xJ s.bounds
 else false
theorem zkN (vs:List Vr) (n:Int):(!qQ vs n)=(decide (n<0) || decide ((vs.length:Int)<=n) || !xy vs n):=by
 unfold qQ
 grind
theorem zhw (l:List Int):xJ l=(decide ((0:Int)<l.length)&&decide ((l.length:Int)<=32)&&decide ((0:Int)<=l[0]?.getD 0)&&xA l):=by
 unfold xJ
 grind
theorem zaQ (f:Fl) (s:St) (last:Bool) (v1 v2 v3:Value) (cs:List Value) (D D':Nat->Prop) (w:World) (hf:RFl D w f v1 v2 v3) (hs:RSt D' w s cs):Calls prog 112 #[.agg #[v1,v2,v3],.agg cs.toArray,.bool last] w (Ret fun r w'=>r=.bool (zK f.vars f.hatches.length s last)/\Ext w w'):=by
 obtain⟨dc,dg,dl⟩:=hf;obtain⟨a1,n1,rfl⟩:=dc.form;obtain⟨a2,n2,rfl⟩:=dg.form;obtain⟨u1,u2,u3,u4,rfl,hk,ht,he,hb⟩:=hs.get;obtain⟨a4,n4,rfl⟩:=hk.form;obtain⟨a5,n5,rfl⟩:=ht.form;obtain⟨a6,n6,rfl⟩:=he.form;obtain⟨a7,n7,rfl⟩:=hb.form;unfold zK;refine zqS func112 O ntmps112 O (V.inn (Vs 2 O (V.box 3 O O (fun b3=>?_))));refine V.box 4 O O (fun b4=>(Vs 4 O (zrN (σ:=Unit) [2,3,4] [3,4] [3,4] O (fun e u=>(7,.bool (zbS s))::e) (fun e u=>e) (fun u=>True) j1 j1 ?_ ?_)))
 .
  refine Vs 6 O (zqB 13 O (fun k1_=>?_) (fun k1_=>?_))
  . refine Vs 7 O (zpi () (Sub.cons (by unfold zbS;simp only[*]<;>rfl) j2) j3 trivial 0 O O)
  refine Vs 7 O (zpi () (Sub.cons (by unfold zbS;simp only[*]<;>rfl) j2) j3 trivial 0 O O)
 rintro u _;refine Vs 2 O (zrN (σ:=Unit) [2,3,4,7] [3,4] [3,4] O (fun e u=>(8,.bool (qQ f.vars s.var))::e) (fun e u=>e) (fun u=>True) j1 j1 ?_ ?_)
 .
  refine Vs 5 O (zqB 22 O (fun k1_=>?_) (fun k1_=>?_))
  .
   refine Vs 8 O (zqB 30 O (fun k2_=>?_) (fun k2_=>?_))
   .
    refine Vs 4 O ?_;have hv:=And.intro (of_decide_eq_true k1_) (of_decide_eq_true k2_);refine zrI 1000 0 s.var.toNat tO dc O O O (fun x dm dr dt hY dh da db=>?_);obtain rfl:=db;refine zrg 1000 tR22 ts142 O da tO (s.var.toNat) tO O ?_;have du:xy f.vars s.var=decide (x.kind=0):=by unfold xy;rw[hY]
    refine Vs 6 O (zpi () (Sub.cons UD j2) j3 trivial 0 O O)
   refine Vs 11 O (zpi () (Sub.cons UD j2) j3 trivial 0 O O)
  refine Vs 19 O (zpi () (Sub.cons UD j2) j3 trivial 0 O O)
 rintro u _;refine Vs 15 O (zp4 O (fun a0=>?_) (fun a0=>?_))
 .
  simp only[zty a0];refine Vs 4 O (zqB 45 O (fun k1_=>?_) (fun k1_=>?_))
  .
   refine Vs 3 O (zqB 48 O (fun k2_=>?_) (fun k2_=>?_))
   .
    refine Vs 5 O (zqB 53 O (fun k3_=>?_) (fun k3_=>?_))
    . refine Vs 11 O iF
    refine Vs 11 O iF
   refine Vs 16 O iF
  refine Vs 19 O iF
 simp only[ztx a0];refine Vs 6 O (zp4 O (fun a1=>?_) (fun a1=>?_))
 .
  simp only[zty a1];refine Vs 4 O (zqB 62 O (fun k1_=>?_) (fun k1_=>?_))
  .
   refine Vs 5 O (zqB 67 O (fun k2_=>?_) (fun k2_=>?_))
   .
    refine Vs 5 O (zqB 72 O (fun k3_=>?_) (fun k3_=>?_))
    . refine Vs 11 O iF
    refine Vs 11 O iF
   refine Vs 16 O iF
  refine Vs 21 O iF
 simp only[ztx a1];refine Vs 6 O (zp4 O (fun a2=>?_) (fun a2=>?_))
 .
  simp only[zty a2];refine Vs 4 O (zqB 81 O (fun k1_=>?_) (fun k1_=>?_))
  .
   refine Vs 5 O (zqB 86 O (fun k2_=>?_) (fun k2_=>?_))
   .
    refine Vs 5 O (zqB 91 O (fun k3_=>?_) (fun k3_=>?_))
    .
     refine Vs 6 O (zqB 97 O (fun k4_=>?_) (fun k4_=>?_))
     . refine Vs 2 O (zrs call152 O (fun w hI=>kD s.term _ D' w JI) (Vs 7 O iF))
     refine Vs 10 O iF
    refine Vs 16 O iF
   refine Vs 21 O iF
  refine Vs 26 O iF
 simp only[ztx a2];refine Vs 6 O (zp4 O (fun a3=>?_) (fun a3=>?_))
 .
  simp only[zty a3];refine Vs 6 O (zqB 107 O (fun k1_=>?_) (fun k1_=>?_))
  .
   refine Vs 5 O (zqB 112 O (fun k2_=>?_) (fun k2_=>?_))
   . refine Vs 11 O iF
   refine Vs 11 O iF
  refine Vs 16 O iF
 simp only[ztx a3];refine Vs 6 O (zp4 O (fun a4=>?_) (fun a4=>?_))
 .
  simp only[zty a4];refine Vs 6 O (zqB 123 O (fun k1_=>?_) (fun k1_=>?_))
  .
   refine Vs 6 O (zqB 129 O (fun k2_=>?_) (fun k2_=>?_))
   . refine Vs 11 O iF
   refine Vs 11 O iF
  refine Vs 17 O iF
 simp only[ztx a4];refine Vs 6 O (zp4 O (fun a5=>?_) (fun a5=>?_))
 .
  simp only[zty a5];refine Vs 4 O (zqB 138 O (fun k1_=>?_) (fun k1_=>?_))
  .
   refine Vs 3 O (zqB 141 O (fun k2_=>?_) (fun k2_=>?_))
   .
    refine Vs 5 O (zqB 146 O (fun k3_=>?_) (fun k3_=>?_))
    .
     refine Vs 8 O (zqB 154 O (fun k4_=>?_) (fun k4_=>?_))
     .
      refine Vs 6 O (zqB 160 O (fun k5_=>?_) (fun k5_=>?_))
      . refine Vs 2 O (zrs call152 O (fun w hI=>kD s.term _ D' w JI) (Vs 7 O iF))
      refine Vs 10 O iF
     refine Vs 16 O iF
    refine Vs 24 O iF
   refine Vs 29 O iF
  refine Vs 32 O iF
 simp only[ztx a5];refine Vs 6 O (zp4 O (fun a6=>?_) (fun a6=>?_))
 .
  simp only[zty a6];refine Vs 4 O (zqB 168 O (fun k1_=>?_) (fun k1_=>?_))
  .
   refine Vs 3 O (zqB 171 O (fun k2_=>?_) (fun k2_=>?_))
   .
    refine Vs 5 O (zqB 176 O (fun k3_=>?_) (fun k3_=>?_))
    .
     refine Vs 5 O (zqB 181 O (fun k4_=>?_) (fun k4_=>?_))
     .
      refine Vs 2 O (zrs call152 O (fun w hI=>kD s.term _ D' w JI) (Vs 2 O (zqB 186 O (fun k5_=>?_) (fun k5_=>?_))))
      . refine Vs 2 O (zrs call153 O (fun w hI=>zeI s.bounds _ D' w (Tr1 hI.k0 hb)) (Vs 7 O iF))
      refine Vs 10 O iF
     refine Vs 15 O iF
    refine Vs 20 O iF
   refine Vs 25 O iF
  refine Vs 28 O iF
 simp only[ztx a6];refine Vs 9 O (zrz 0 tr112 O O rfl)
theorem zbT (vs:List Vr) (nh:Nat) (s:St) (last:Bool):zK vs nh s last=(!(decide (s.act<0) || decide (6<s.act))&&!(!uvB s.act&&decide (s.var ≠ 0))&&!(!unB s.act&&decide (s.n ≠ 0))&&!(!utB s.act&&!plainB s.term)
  && !(decide (s.act ≠ 3)&&decide (s.act ≠ 4)&&decide (0<(s.thn.length:Int)))&&!(decide (s.act ≠ 3)&&decide (0<(s.els.length:Int)))&&!(decide (s.act ≠ 6)&&decide (0<(s.bounds.length:Int)))
  && !(uvB s.act&&!qQ vs s.var)&&!(decide (s.act=5)&&(decide (s.n<0) || decide ((nh:Int)<=s.n)))
  && (decide (s.act ≠ 6) || (last&&xJ s.bounds))):=by
 have c0:∀ n:Nat,decide ((n:Int)=0)=!decide (0<(n:Int)):=tD;have c1:decide (s.var=0)=!decide (s.var ≠ 0):=tD;have c2:decide (s.n=0)=!decide (s.n ≠ 0):=tD;have c3:decide (0<=s.n)=!decide (s.n<0):=tD;have c4:decide (s.n<(nh:Int))=!decide ((nh:Int)<=s.n):=tD;unfold zK zbS uvB unB utB;simp only[c0,c1,c2,c3,c4];generalize decide (0<(s.thn.length:Int))=p1;generalize decide (0<(s.els.length:Int))=p2;generalize decide (0<(s.bounds.length:Int))=p3;generalize decide (s.var ≠ 0)=p4;generalize decide (s.n ≠ 0)=p5;generalize decide (s.n<0)=p6;generalize decide ((nh:Int)<=s.n)=p7;generalize plainB s.term=p8;generalize qQ vs s.var=p9;generalize xJ s.bounds=p10;rcases (show s.act<0\/s.act=0\/s.act=1\/s.act=2\/s.act=3\/s.act=4\/s.act=5\/s.act=6\/6<s.act by omega) with h | h | h | h | h | h | h | h | h
 . grind
 . rw[h];revert p1 p2 p3 p4 p5 p6 p7 p8 p9 p10 last;decide
 . rw[h];revert p1 p2 p3 p4 p5 p6 p7 p8 p9 p10 last;decide
 . rw[h];revert p1 p2 p3 p4 p5 p6 p7 p8 p9 p10 last;decide
 . rw[h];revert p1 p2 p3 p4 p5 p6 p7 p8 p9 p10 last;decide
 . rw[h];revert p1 p2 p3 p4 p5 p6 p7 p8 p9 p10 last;decide
 . grind
 . grind
 grind
theorem kX (f:Fl) (s:St) (last:Bool) (v1 v2 v3:Value) (cs:List Value) (D D':Nat->Prop) (w:World) (hf:RFl D w f v1 v2 v3) (hs:RSt D' w s cs):Calls prog 163 #[.agg #[v1,v2,v3],.agg cs.toArray,.bool last] w (Ret fun r w'=>r=.bool (zK f.vars f.hatches.length s last)/\Ext w w'):=by
 obtain⟨dg,dh,dt⟩:=hf;obtain⟨a1,n1,rfl⟩:=dg.form;obtain⟨a2,n2,rfl⟩:=dh.form;obtain⟨u1,u2,u3,u4,rfl,hk,ht,he,hb⟩:=hs.get;obtain⟨a4,n4,rfl⟩:=hk.form;obtain⟨a5,n5,rfl⟩:=ht.form;obtain⟨a6,n6,rfl⟩:=he.form;obtain⟨a7,n7,rfl⟩:=hb.form;rw[zbT,zkN,zhw];refine zqS func163 O ntmps163 O (V.inn (Vs 2 O (V.box 3 O O (fun b3=>?_))));refine V.box 4 O O (fun b4=>(Vs 14 O (zrN (σ:=Unit) [2,3,4,7] [3,4] [3,4] O (fun e u=>(10,.bool (decide (s.act<0) || decide (6<s.act)))::e) (fun e u=>e) (fun u=>True) j1 j1 ?_ ?_)))
 .
  refine Vs 4 O (zqB 13 O (fun k1_=>?_) (fun k1_=>?_))
  . refine Vs 5 O (zpi () Ug j3 trivial 0 O O)
  refine Vs 5 O (zpi () Ug j3 trivial 0 O O)
 rintro u _;refine Vs 1 O (V.bool O (fun c2=>?_) (fun c2=>?_))
 . refine Vs 11 O ig
 skip;refine Vs 1 O (zrN (σ:=Unit) [2,3,4,7] [3,4] [3,4] O (fun e u=>(10,.bool (!uvB s.act&&decide (s.var ≠ 0)))::e) (fun e u=>e) (fun u=>True) j1 j1 ?_ ?_)
 .
  refine Vs 2 O (zrs call198 O (fun w hI=>zcP s.act w) (zqH O (fun w hI=>zqi O j6) (Vs 1 O (zqB 20 O (fun k1_=>?_) (fun k1_=>?_)))))
  . refine Vs 6 O (zpi () Ug j3 trivial 0 O O)
  refine Vs 6 O (zpi () Ug j3 trivial 0 O O)
 rintro u _;refine Vs 1 O (V.bool O (fun c3=>?_) (fun c3=>?_))
 . refine Vs 11 O ig
 skip;refine Vs 1 O (zrN (σ:=Unit) [2,3,4,7] [3,4] [3,4] O (fun e u=>(10,.bool (!unB s.act&&decide (s.n ≠ 0)))::e) (fun e u=>e) (fun u=>True) j1 j1 ?_ ?_)
 .
  refine Vs 2 O (zrs call199 O (fun w hI=>zkM s.act w) (zqH O (fun w hI=>zqi O j6) (Vs 1 O (zqB 28 O (fun k1_=>?_) (fun k1_=>?_)))))
  . refine Vs 6 O (zpi () Ug j3 trivial 0 O O)
  refine Vs 6 O (zpi () Ug j3 trivial 0 O O)
 rintro u _;refine Vs 1 O (V.bool O (fun c4=>?_) (fun c4=>?_))
 . refine Vs 11 O ig
 skip;refine Vs 1 O (zrN (σ:=Unit) [2,3,4,7] [3,4] [3,4] O (fun e u=>(10,.bool (!utB s.act&&!plainB s.term))::e) (fun e u=>e) (fun u=>True) j1 j1 ?_ ?_)
 .
  refine Vs 2 O (zrs call200 O (fun w hI=>zfT s.act w) (zqH O (fun w hI=>zqi O j6) (Vs 1 O (zqB 36 O (fun k1_=>?_) (fun k1_=>?_)))))
  . refine Vs 2 O (zrs call201 O (fun w hI=>zfS s.term _ D' w JI) (zqH O (fun w hI=>zqi O j6) (Vs 3 O (zpi () Ug j3 trivial 0 O O))))
  refine Vs 7 O (zpi () Ug j3 trivial 0 O O)
 rintro u _;refine Vs 1 O (V.bool O (fun c5=>?_) (fun c5=>?_))
 . refine Vs 11 O ig
 skip;refine Vs 1 O (zrN (σ:=Unit) [2,3,4,7] [3,4] [3,4] O (fun e u=>(10,.bool (decide (s.act ≠ 3)&&decide (s.act ≠ 4)&&decide (0<(s.thn.length:Int))))::e) (fun e u=>e) (fun u=>True) j1 j1 ?_ ?_)
 .
  refine Vs 4 O (zqB 44 O (fun k1_=>?_) (fun k1_=>?_))
  .
   refine Vs 4 O (zqB 48 O (fun k2_=>?_) (fun k2_=>?_))
   . refine Vs 7 O (zpi () Ug j3 trivial 0 O O)
   refine Vs 7 O (zpi () Ug j3 trivial 0 O O)
  refine Vs 11 O (zpi () Ug j3 trivial 0 O O)
 rintro u _;refine Vs 1 O (V.bool O (fun c6=>?_) (fun c6=>?_))
 . refine Vs 11 O ig
 skip;refine Vs 1 O (zrN (σ:=Unit) [2,3,4,7] [3,4] [3,4] O (fun e u=>(10,.bool (decide (s.act ≠ 3)&&decide (0<(s.els.length:Int))))::e) (fun e u=>e) (fun u=>True) j1 j1 ?_ ?_)
 .
  refine Vs 4 O (zqB 56 O (fun k1_=>?_) (fun k1_=>?_))
  . refine Vs 7 O (zpi () Ug j3 trivial 0 O O)
  refine Vs 7 O (zpi () Ug j3 trivial 0 O O)
 rintro u _;refine Vs 1 O (V.bool O (fun c7=>?_) (fun c7=>?_))
 . refine Vs 11 O ig
 skip;refine Vs 1 O (zrN (σ:=Unit) [2,3,4,7] [3,4] [3,4] O (fun e u=>(10,.bool (decide (s.act ≠ 6)&&decide (0<(s.bounds.length:Int))))::e) (fun e u=>e) (fun u=>True) j1 j1 ?_ ?_)
 .
  refine Vs 4 O (zqB 64 O (fun k1_=>?_) (fun k1_=>?_))
  . refine Vs 7 O (zpi () Ug j3 trivial 0 O O)
  refine Vs 7 O (zpi () Ug j3 trivial 0 O O)
 rintro u _;refine Vs 1 O (V.bool O (fun c8=>?_) (fun c8=>?_))
 . refine Vs 11 O ig
 skip;refine Vs 1 O (zrN (σ:=Unit) [2,3,4,7] [3,4] [3,4] O (fun e u=>(10,.bool (uvB s.act&&(decide (s.var<0) || decide ((f.vars.length:Int)<=s.var) || !xy f.vars s.var)))::e) (fun e u=>e) (fun u=>True) j1 j1 ?_ ?_)
 .
  refine Vs 2 O (zrs call198 O (fun w hI=>zcP s.act w) (Vs 1 O (zqB 72 O (fun k1_=>?_) (fun k1_=>?_))))
  .
   refine Vs 4 O (zqB 76 O (fun k2_=>?_) (fun k2_=>?_))
   . refine Vs 20 O (zpi () Ug j3 trivial 0 O O)
   refine Vs 8 O (zqB 84 O (fun k3_=>?_) (fun k3_=>?_))
   . refine Vs 12 O (zpi () Ug j3 trivial 0 O O)
   refine Vs 4 O ?_;have hv:=And.intro (of_decide_eq_false k2_) (of_decide_eq_false k3_);refine zrI 1000 0 s.var.toNat tO dg O O O (fun x du dw dx hY dl da db=>?_);obtain rfl:=db;refine zrg 1000 tR22 ts142 O da tO (s.var.toNat) tO O ?_;have dy:(!xy f.vars s.var)=decide (x.kind ≠ 0):=by unfold xy;rw[hY,za]
   refine Vs 7 O (zpi () Ug j3 trivial 0 O O)
  refine Vs 24 O (zpi () Ug j3 trivial 0 O O)
 rintro u _;refine Vs 1 O (V.bool O (fun c9=>?_) (fun c9=>?_))
 . refine Vs 11 O ig
 skip;refine zrN (σ:=Unit) [2,4,7] [4] [4] O (fun e u=>(10,.bool (decide (s.act=5)&&(decide (s.n<0) || decide ((f.hatches.length:Int)<=s.n))))::e) (fun e u=>e) (fun u=>True) j1 j1 ?_ ?_
 .
  refine Vs 4 O (zqB 97 O (fun k1_=>?_) (fun k1_=>?_))
  .
   refine Vs 4 O (zqB 101 O (fun k2_=>?_) (fun k2_=>?_))
   . refine Vs 10 O (zpi () Ug j3 trivial 0 O O)
   refine Vs 10 O (zpi () Ug j3 trivial 0 O O)
  refine Vs 14 O (zpi () Ug j3 trivial 0 O O)
 rintro u _;refine Vs 1 O (V.bool O (fun c10=>?_) (fun c10=>?_))
 . refine Vs 8 O ig
 skip;refine Vs 8 O (zqB 112 O (fun k1_=>?_) (fun k1_=>?_))
 . refine Vs 30 O ig
 refine Vs 2 O (zqB 114 O (fun k2_=>?_) (fun k2_=>?_))
 .
  refine Vs 6 O (zqB 120 O (fun k3_=>?_) (fun k3_=>?_))
  .
   refine Vs 6 O (zqB 126 O (fun k4_=>?_) (fun k4_=>?_))
   .
    refine Vs 2 O ?_;have h0:=of_decide_eq_true k3_;refine zrJ 2000 0 0 tO hb O O (fun y dz dA dm dr dc=>?_);refine zrg 2000 tR27 ts3 O dc tO _ rfl O ?_;have h1:s.bounds[0]?.getD 0=y:=tD;refine Vs 4 O (zqB 133 O (fun k5_=>?_) (fun k5_=>?_))
    . refine Vs 2 O (zrs call202 O (fun w hI=>zdy s.bounds _ D' w (Tr1 hI.k0 hb)) (Vs 6 O ig))
    refine Vs 9 O ig
   refine Vs 16 O ig
  refine Vs 22 O ig
 refine Vs 28 O ig
def xB (a:Int):Int:=if a=2 then 67108864 else 10000
def xb (s:St):Bool:=!(decide (s.cost<0) || decide (xB s.act<s.cost) || (decide (s.act=4)&&(decide (s.n<0) || decide (4096<s.n))))&&(decide (s.act ≠ 6) || decide (s.bounds[s.bounds.length - 1]?.getD 0<=67108864))
theorem ziF (vs:List Ht) (vv:Value) (D:Nat->Prop) (w:World) (da:SlR 6 RHt D w vv vs) (p:Ht->Bool) (g:FuncId) (cp:Value) (hf:∀ args w,(callFunc g args).run prog w=.ok (.enter g args) w)
  (hc:∀ x ∈ vs,∀ kv w',Ext w w'->Calls prog g #[.agg #[.string x.name,.int .i64 x.low,.int .i64 x.high,.int .i64 x.term.op,.int .i64 x.term.n,kv],cp] w' (Ret fun r w''=>r=.bool (p x)/\Ext w' w'')) :
  Calls prog 197 #[vv,.func (.func g) #[] #[cp]] w (Ret fun r w'=>(∃ i:Int,r=.int .i64 i/\(0<=i ↔ vs.any p=true))/\Ext w w'):=by
 have dC:=da.max;obtain⟨av,nv,rfl⟩:=da.form;refine zqR func197 O ntmps197 O (Gs 14 O (G.loop (σ:=Nat) (fun i=>[(0,.slice av vs.length nv),(1,.func (.func g) #[] #[cp]),(7,.int .i64 vs.length),(8,.int .i64 i)]) (fun i=>fun w'=>i<=vs.length/\(vs.take i).any p=false/\Ext w w') (fun i=>vs.length - i) 0 j2 JF ?_));rintro i w1 ⟨hi,dr,db⟩;replace da:=Tr1 db da;refine Gs 6 O (zp3 O (fun du=>?_) (fun du=>?_))
 .
  obtain⟨x,dg,dl⟩:=gE_ vs (i) tO;obtain⟨dw,dD,dE,dm,_,hY,dh⟩:=da.at dg;have dx:=RHt.one dh;obtain⟨dy,rfl,dc⟩:=dh;obtain⟨dz,dA,rfl⟩:=dc.form;have dt:dw<_:=ztp _ _ (hY 0 _ rfl);refine Gs 15 O (zqG O O (zpH tR23 ts109 O O dm tO) (zqM O isAgg109 ts109 hY O (zpO O hf (hc x dl _ _ db) ?_)));rintro _ wz1 ⟨rfl,dB⟩;obtain⟨da,db,hY,dc⟩:=Tr4 dB da db hY dc;refine Gs 2 O (G.bool O (fun hp=>?_) (fun hp=>?_))
  . refine Gs 12 O (zpk results197 O J2)
  refine Ga 7 O tO (G.back (i+1) j2 ⟨tO,zaP dg dr hp,db⟩ tO)
 have:i=vs.length:=tO;subst this;rw[zts]at dr;refine Gs 11 O (zpk results197 O J2)
theorem zeJ (vs:List Ht) (vv:Value) (D:Nat->Prop) (w:World) (hY:SlR 6 RHt D w vv vs) (p:Ht->Bool) (g:FuncId) (cp:Value) (hf:∀ args w,(callFunc g args).run prog w=.ok (.enter g args) w)
  (hc:∀ x ∈ vs,∀ kv w',Ext w w'->Calls prog g #[.agg #[.string x.name,.int .i64 x.low,.int .i64 x.high,.int .i64 x.term.op,.int .i64 x.term.n,kv],cp] w' (Ret fun r w''=>r=.bool (p x)/\Ext w' w'')) :
  Calls prog 161 #[vv,.func (.func g) #[] #[cp]] w (Ret fun r w'=>r=.bool (vs.any p)/\Ext w w'):=by
 have hE:=Keep.refl (fun _=>False) w;refine zqR func161 O ntmps161 O (Gs 9 O (G.call O call197 (ziF vs vv D w hY p g cp hf hc) ?_));rintro _ wz1 ⟨⟨i,rfl,hi⟩,da⟩;replace hE:=Tr1 da hE;refine Gs 5 O (zpk results161 O ⟨_,rfl,tD,hE⟩)
theorem zkO (h x:Ht) (kv kx:Value) (c:Nat) (w:World) (hB:Blk w c [.string x.name,.int .i64 x.low,.int .i64 x.high,.int .i64 x.term.op,.int .i64 x.term.n,kx] 109):Calls prog 160 #[.agg #[.string h.name,.int .i64 h.low,.int .i64 h.high,.int .i64 h.term.op,.int .i64 h.term.n,kv],.pointer (some ⟨c,0,none⟩)] w (Ret fun r w'=>r=.bool (yd h.name x.name)/\Ext w w'):=by
 have hE:=Keep.refl (fun _=>False) w;refine zqR func160 O ntmps160 O (Gs 2 O (G.mem O O (M.box O O) ?_));rintro _ dh ⟨b,rfl,hY,dg,da,db⟩;have dc:_<=b:=ztt hE.size (zwr hY.symm);obtain⟨hE,hB⟩:=Tr2 db hE hB;refine Gs 6 O (zqK O tg9 (da.cells 0 _ O) (Gs 1 O (zqK O tg9 (hB.cells 0 _ O) (Gs 5 O (zpk results160 O ⟨_,rfl,rfl,hE⟩)))))
def zL (vs:List Vr) (prev:List Ht) (h:Ht):Int :=
 if zcy h.name=false then 7
 else if prev.any (fun u=>yd u.name h.name)=true then 8
 else if zb9 h.low h.high=false then 3
 else zD vs true h.term
def jl (vs:List Vr) (hs:List Ht) (i:Nat):Int:=match hs[i]? with
 | some h=>zL vs (hs.take i) h
 | none=>0
theorem zas {hs:List Ht} {h:Ht} (e:hs[i]?=some h):jl vs hs i=zL vs (hs.take i) h:=by simp[jl,e]
def zw (vs:List Vr) (hs:List Ht):Int:=yX (jl vs hs) 0 hs.length
mutual
def zM (vs:List Vr) (nh:Nat):St->Bool->Int
 | .mk a c v n t f g bs,last =>
  if zK vs nh (.mk a c v n t f g bs) last=false then 1
  else if xb (.mk a c v n t f g bs)=false then 3
  else if zD vs false t ≠ 0 then zD vs false t
  else if stepsCodeN vs nh f false ≠ 0 then stepsCodeN vs nh f false
  else stepsCodeN vs nh g false
def stepsCodeN (vs:List Vr) (nh:Nat):List St->Bool->Int
 | [],_=>0
 | s::r,top=>if zM vs nh s (top&&r.isEmpty) ≠ 0 then zM vs nh s (top&&r.isEmpty) else stepsCodeN vs nh r top
end
theorem yb (vs:List Vr) (nh:Nat) (s:St) (last:Bool):zM vs nh s last =
  if zK vs nh s last=false then 1 else if xb s=false then 3 else if zD vs false s.term ≠ 0 then zD vs false s.term
  else if stepsCodeN vs nh s.thn false ≠ 0 then stepsCodeN vs nh s.thn false else stepsCodeN vs nh s.els false:=by
 cases s;rw[zM];rfl
theorem kq (vs:List Vr) (nh:Nat) (top:Bool) (l:List St) (i:Nat) (x:St) (h:l[i]?=some x) :
  stepsCodeN vs nh (l.drop i) top=if zM vs nh x (top&&decide (i=l.length - 1)) ≠ 0 then zM vs nh x (top&&decide (i=l.length - 1)) else stepsCodeN vs nh (l.drop (i+1)) top:=by
 obtain⟨hi,hx⟩:=ztB.1 h;rw[zuO hi,hx,stepsCodeN]
 have:(l.drop (i+1)).isEmpty=decide (i=l.length - 1):=by
  rw[zub];simp;omega
 rw[this]
theorem kY {last:Bool} (h:zK vs nh s last=true):s.act=6->0<s.bounds.length:=by
 intro h6;rw[zbT]at h;simp[h6,xJ]at h;omega
open Go.GL
def zmq (s:St):Bool:=decide (s.cost<0) || decide (xB s.act<s.cost) || decide (s.n<0) || (decide (s.act=4)&&decide (4096<s.n))
def znU (s:St):Bool:=decide ((0:Int)<s.bounds.length)&&decide (67108864<s.bounds[s.bounds.length - 1]?.getD 0)
theorem zhx {last:Bool} (h:zK vs nh s last=true):xb s=(!zmq s&&!znU s):=by
 have h0:(s.n<0->s.act=4)/\(s.act ≠ 6->s.bounds.length=0):=by
  unfold zK at h
  repeat' split at h
  all_goals simp[zbS]at h
  all_goals (refine⟨fun hn=>?_,fun h6=>?_⟩<;>first | omega | simp_all)
 have h1:=kY h;unfold xb zmq znU;rw[zub];simp only[zu8,zue,Bool.and_eq_false_iff,zuf,zug,decide_eq_false_iff_not,decide_eq_true_eq];generalize s.bounds[s.bounds.length - 1]?.getD 0=e;omega
theorem zdz (f:Fl) (v1 v2 v3:Value) (hg:∀ v ∈ f.vars,yT (v.low,v.high)) (Df:Nat->Prop) (l:List St):∀ (v:Value) (D:Nat->Prop) (w:World) (top:Bool),RFl Df w f v1 v2 v3->SlR 10 RSt D w v l->sbulk l<=1000000->Calls prog 64 #[.agg #[v1,v2,v3],v,.bool top] w (Ret fun r w'=>r=.int .i64 (stepsCodeN f.vars f.hatches.length l top)/\Ext w w'):=by
 induction l using zr3 with
 | h l ih =>
 intro v D w top hf hl hb;obtain⟨dC,dF,dG⟩:=hf;have d5:=hl.max;obtain⟨av,nv,rfl⟩:=hl.form;have hf:∀ {w':World},Ext w w'->RFl Df w' f v1 v2 v3:=fun h=>⟨dC.ext yI h,dF.ext yO h,dG.ext zg h⟩;refine zqS func64 O ntmps64 O (V.inn (Vs 2 O (V.box 3 O O (fun b3=>?_))));refine Vs 10 O (zrM (σ:=Nat) [1,2,3] [3] [3] O (fun e i=>(7,.int .i64 i)::e) (fun e i=>e) (fun i=>i<=l.length/\stepsCodeN f.vars f.hatches.length l top=stepsCodeN f.vars f.hatches.length (l.drop i) top) (fun i=>l.length - i) 0 j2 j3 j1 j1 j1 y8 ?_);rintro i ⟨hi,da⟩;refine Vs 9 O (zp4 O (fun dH=>?_) (fun dH=>?_))
 .
  refine Vs 8 O (zrI 1000 0 i tO hl O O O (fun x d6 d7 d8 dx dm dy dz=>?_));obtain⟨dI,dJ,dK,dL,rfl,db,dc,dg,dh⟩:=dz.get;obtain⟨dM,dN,rfl⟩:=db.form;obtain⟨dO,dQ,rfl⟩:=dc.form;obtain⟨dR,dS,rfl⟩:=dg.form;obtain⟨dT,dU,rfl⟩:=dh.form;refine zrg 1000 tR24 ts72 O dy tO _ rfl O ?_;have dw:=kq f.vars f.hatches.length top l i x dx;have dV:=kO dm;rw[St.bulk_eq]at dV;have dW:decide ((i:Int)=(l.length:Int) - 1)=decide (i=l.length - 1):=tD;refine Vs 1 O (V.alloc 8 tz72 O O (fun b8=>?_));refine Vs 5 O (zrN (σ:=Unit) [1,2,3,7,8] [3,8] [3,8] O (fun e u=>(32,.bool (!(zK f.vars f.hatches.length x (top&&decide (i=l.length - 1)))))::e) (fun e u=>e) (fun u=>True) j1 j1 ?_ ?_)
  .
   refine Vs 5 O (zqB 24 O (fun tt=>?_) (fun tt=>?_))
   . refine Va 6 O tO (zrs call112 O Uz Ur)
   refine Vs 6 O (zrs call112 O Uz Uo)
  rintro u _;generalize hY:(top&&decide (i=l.length - 1))=last;refine Vs 1 O (V.bool O (fun dA=>?_) (fun dA=>?_))
  .
   have dr:zK f.vars f.hatches.length x last=false:=by simpa using dA
   refine Vs 12 O (zrz 0 tr64 O O (by rw[da,dw,hY,yb,zty dr];rfl))
  have dr:zK f.vars f.hatches.length x last=true:=by simpa using dA
  have dl:¬ zK f.vars f.hatches.length x last=false:=tD;have dX:=zhx dr;refine Vs 15 O (zrN (σ:=Unit) [1,2,3,7,8] [3,8] [3,8] O (fun e u=>(9,.int .i64 (xB x.act))::e) (fun e u=>e) (fun u=>True) j1 j1 ?_ ?_)
  .
   refine zp4 O (fun a2=>?_) (fun a2=>?_)
   . refine Vs 3 O (zpi () (Sub.cons (by rw[xB,zty a2];rfl) j2) j3 trivial 0 O O)
   refine Vs 1 O (zpi () (Sub.cons (by rw[xB,ztx a2];rfl) j2) j3 trivial 0 O O)
  rintro u _;refine Vs 3 O (zrN (σ:=Unit) [1,2,3,7,8] [3,8] [3,8] O (fun e u=>(59,.bool (zmq x))::e) (fun e u=>e) (fun u=>True) j1 j1 ?_ ?_)
  .
   refine Vs 5 O (zqB 39 O (fun k1_=>?_) (fun k1_=>?_))
   . refine Vs 21 O (zpi () (Sub.cons JD j2) j3 trivial 0 O O)
   refine Vs 6 O (zqB 45 O (fun k2_=>?_) (fun k2_=>?_))
   . refine Vs 15 O (zpi () (Sub.cons JD j2) j3 trivial 0 O O)
   refine Vs 5 O (zqB 50 O (fun k3_=>?_) (fun k3_=>?_))
   . refine Vs 10 O (zpi () (Sub.cons JD j2) j3 trivial 0 O O)
   refine Vs 4 O (zqB 54 O (fun k4_=>?_) (fun k4_=>?_))
   . refine Vs 6 O (zpi () (Sub.cons JD j2) j3 trivial 0 O O)
   refine Vs 6 O (zpi () (Sub.cons JD j2) j3 trivial 0 O O)
  rintro u _;refine Vs 1 O (V.bool O (fun dD=>?_) (fun dD=>?_))
  . refine Vs 12 O J5
  refine Vs 4 O (zrN (σ:=Unit) [1,2,3,7,8] [3,8] [3,8] O (fun e u=>(74,.bool (znU x))::e) (fun e u=>e) (fun u=>True) j1 j1 ?_ ?_)
  .
   refine Vs 6 O (zqB 64 O (fun k1_=>?_) (fun k1_=>?_))
   .
    refine Va 6 O tO ?_;have h0:=of_decide_eq_true k1_;refine zrJ 2000 0 (x.bounds.length-1) tO dh O O (fun y d9 eb dY dZ dB=>(zrg 2000 tR27 ts3 O dB tO (x.bounds.length-1) tO O ?_));have h1:x.bounds[x.bounds.length - 1]?.getD 0=y:=tD;refine Vs 4 O (zpi () (Sub.cons (by unfold znU;simp only[*,zwE]<;>rfl) j2) j3 trivial 0 O O)
   refine Vs 11 O (zpi () (Sub.cons (by unfold znU;simp only[*]<;>rfl) j2) j3 trivial 0 O O)
  rintro u _;refine Vs 1 O (V.bool O (fun dE=>?_) (fun dE=>?_))
  . refine Vs 12 O J5
  have dt:¬ xb x=false:=by rw[dX,dD,dE];decide
  refine Vs 8 O (zrs call63 O (fun w hI=>jI f.vars false v1 _ _ _ w x.term hg (Tr1 hI.k0 dC) U2 tO) (Vs 10 O (zp4 O (fun tz=>?_) (fun tz=>?_))))
  . refine Vs 13 O (zrz 0 tr64 O O (by rw[da,dw,hY,yb,ztx dl,ztx dt,zty tz,zty tz]))
  have du:zM f.vars f.hatches.length x last=if stepsCodeN f.vars f.hatches.length x.thn false ≠ 0 then stepsCodeN f.vars f.hatches.length x.thn false else stepsCodeN f.vars f.hatches.length x.els false:=by rw[yb,ztx dl,ztx dt,ztx tz]
  refine Vs 7 O (zrs call64 O (fun w hI=>(ih x dm).1 _ _ w false (hf hI.k0) JK tO) (Vs 10 O (zp4 O (fun tz1=>?_) (fun tz1=>?_))))
  . refine Vs 13 O (zrz 0 tr64 O O tD)
  rw[ztx tz1]at du;refine Vs 7 O (zrs call64 O (fun w hI=>(ih x dm).2 _ _ w false (hf hI.k0) il tO) (Vs 9 O (zp4 O (fun tz2=>?_) (fun tz2=>?_))))
  . refine Vs 12 O (zrz 0 tr64 O O tD)
  refine Va 8 O tO (V.back (i+1) j2 j3 Jn tO 0 O O)
 obtain rfl:i=l.length:=tO;refine Vs 11 O (zrz 0 tr64 O O (by rw[da,zuP];rfl))
mutual
def qO:St->Int × Int × Int
 | .mk a c _ n _ f g _=>if a=4 then (1+n*(1+(bds f).1),n*(bds f).2.1,n*(c+(bds f).2.2))
  else (1+max (bds f).1 (bds g).1,if a=1 then 1 else max (bds f).2.1 (bds g).2.1,c+max (bds f).2.2 (bds g).2.2)
def bds:List St->Int × Int × Int
 | []=>(0,0,0)
 | s::r=>((qO s).1+(bds r).1,(qO s).2.1+(bds r).2.1,(qO s).2.2+(bds r).2.2)
end
theorem yY (s:St):qO s=if s.act=4 then (1+s.n*(1+(bds s.thn).1),s.n*(bds s.thn).2.1,s.n*(s.cost+(bds s.thn).2.2))
  else (1+max (bds s.thn).1 (bds s.els).1,if s.act=1 then 1 else max (bds s.thn).2.1 (bds s.els).2.1,s.cost+max (bds s.thn).2.2 (bds s.els).2.2):=by cases s;rw[qO];rfl
theorem zhy (a b:List St):bds (a++b)=((bds a).1+(bds b).1,(bds a).2.1+(bds b).2.1,(bds a).2.2+(bds b).2.2):=by
 induction a with
 | nil=>simp[bds]
 | cons s r ih=>rw[zuH,bds,ih,bds];simp only[Prod.mk.injEq];omega
theorem zgE {l:List St} {x:St} (h:l[i]?=some x):bds (l.take (i+1))=((bds (l.take i)).1+(qO x).1,(bds (l.take i)).2.1+(qO x).2.1,(bds (l.take i)).2.2+(qO x).2.2):=by
 rw[ze h,zhy];simp[bds]
structure OkS (s:St):Prop where
 cost:0<=s.cost/\s.cost<=67108864
 rep:s.act=4->0<=s.n/\s.n<=4096/\s.els=[]
 free:s.act ≠ 3->s.act ≠ 4->s.thn=[]/\s.els=[]
theorem qu {last:Bool} (h:zM vs nh s last=0):OkS s/\zD vs false s.term=0/\zK vs nh s last=true/\stepsCodeN vs nh s.thn false=0/\stepsCodeN vs nh s.els false=0:=by
 rw[yb]at h;split at h
 . cases h
 rename_i h1;split at h
 . cases h
 rename_i h2;split at h
 . omega
 rename_i h3;split at h
 . omega
 rename_i h4;have hY:zK vs nh s last=true:=tD;refine⟨?_,tO,hY,tO,h⟩;have da:xb s=true:=tD;unfold xb xB at da;simp at da;have hz:∀ l:List St,(l.length:Int)=0->l=[]:=fun l h=>zuT tO;refine⟨tO,fun h4=>?_,fun h3 h4=>?_⟩
 .
  have hh:=da.1.2.resolve_left (fun h=>h h4);refine⟨tO,tO,?_⟩;unfold zK at hY;rw[ztx tO,ztx tO,ztx tO,ztx tO,zty h4]at hY;simp at hY;exact hY.1.2
 unfold zK at hY
 repeat' split at hY
 all_goals simp[zbS]at hY
 all_goals first | exact⟨hY.1.1.1.1,hY.1.1.1.2⟩ | exact⟨hY.1.1.1.1.1,hY.1.1.1.1.2⟩ | exact⟨hY.1.1.1.1.1.1,hY.1.1.1.1.1.2⟩ | omega | simp_all
theorem qc {vs:List Vr} {nh:Nat}:∀ (l:List St) (top:Bool),stepsCodeN vs nh l top=0->∀ x ∈ l,∃ last,zM vs nh x last=0
 | [],_,_,x,hx=>tD
 | s::r,top,h,x,hx=>by
  rw[stepsCodeN]at h;split at h
  . omega
  rename_i h1;rcases ztD.1 hx with rfl | hx
  . grind
  exact qc r top h x hx
theorem znV (n c a K:Int) (hn:0<=n) (hc:0<=c) (ha:0<=a) (hK:0<=K):min (n*(c+min a K)) K=min (n*(c+a)) K:=by
 rcases Int.le_total a K with h | h
 . grind
 rw[Int.min_eq_right h];by_cases h0:n=0
 . grind
 have h1:1*(c+K)<=n*(c+K):=zus tO tO;have h2:1*(c+a)<=n*(c+a):=zus tO tO;omega
def cap (K a:Int):Int:=min a K
theorem zF (ha:0<=a) (hK:0<=K):0<=cap K a/\cap K a<=K:=by unfold cap;omega
theorem zat {S x x':Int} (hS:0<=S) (hx:0<=x) (hY:0<=x') (h:cap K x'=cap K x):min (cap K S+x') K=cap K (S+x):=by unfold cap at *;omega
theorem zdA (hc:0<=c) (_:0<=a) (_:0<=b):cap K (c+max (cap K a) (cap K b))=cap K (c+max a b):=by unfold cap;omega
theorem zgF (_:0<=a) (_:0<=b):cap K (max (cap K a) (cap K b))=cap K (max a b):=by unfold cap;omega
theorem zbU {n:Int} (hn:0<=n) (hc:0<=c) (ha:0<=a) (hK:0<=K):cap K (n*(c+cap K a))=cap K (n*(c+a)):=by unfold cap;exact znV n c a K hn hc ha hK
theorem zgG {n:Int} (hn:0<=n) (ha:0<=a) (hK:0<=K):cap K (n*cap K a)=cap K (n*a):=by
 have:=zbU (c:=0) hn (zuo 0) ha hK
 grind
theorem ziG (_:0<=a) (_:0<=b) (h:cap K a=cap K b):cap K (1+a)=cap K (1+b):=by unfold cap at *;omega
theorem qR (n a N A:Int) (hn:0<=n) (hN:n<=N) (ha:0<=a) (hA:a<=A):0<=n*a/\n*a<=N*A :=
 ⟨ztS hn ha,zuq hN hA ha tO⟩
theorem xq (l:List St):∀ top,stepsCodeN vs nh l top=0->0<=(bds l).1/\0<=(bds l).2.1/\0<=(bds l).2.2:=by
 induction l using zr3 with
 | h l ih =>
 intro top h;have hm:=qc l top h
 have key:∀ r:List St,(∀ x ∈ r,x ∈ l)->0<=(bds r).1/\0<=(bds r).2.1/\0<=(bds r).2.2:=by
  intro r;induction r with
  | nil=>intro _;simp[bds]
  | cons x r ihr =>
   intro hx;have h1:=ihr (fun y hy=>hx y iq);obtain⟨last,h2⟩:=hm x (hx x (ztr ..));obtain⟨h3,_,_,h4,h5⟩:=qu h2;have h6:=(ih x (hx x (ztr ..))).1 _ h4;have h7:=(ih x (hx x (ztr ..))).2 _ h5;have h8:=h3.cost;rw[bds,yY];split
   .
    rename_i ha;have h9:=h3.rep ha;have p1:=ztS h9.1 (show 0<=1+(bds x.thn).1 by omega);have p2:=ztS h9.1 h6.2.1;have p3:=ztS h9.1 (show 0<=x.cost+(bds x.thn).2.2 by omega)
    grind
   simp only;refine⟨tO,?_,tO⟩;split<;>omega
 exact key l (fun x hx=>hx)
theorem ziH {l:List St} {top:Bool} (h:stepsCodeN vs nh l top=0) (i:Nat):0<=(bds (l.take i)).1/\0<=(bds (l.take i)).2.1/\0<=(bds (l.take i)).2.2:=by
 have key:∀ r:List St,(∀ x ∈ r,x ∈ l)->0<=(bds r).1/\0<=(bds r).2.1/\0<=(bds r).2.2:=by
  intro r;induction r with
  | nil=>intro _;simp[bds]
  | cons x r ihr =>
   intro hx;have h1:=ihr (fun y hy=>hx y iq);obtain⟨last,h2⟩:=qc l top h x (hx x (ztr ..))
   have h3:stepsCodeN vs nh [x] true=0\/stepsCodeN vs nh [x] false=0:=by
    cases last
    . right;simp[stepsCodeN,h2]
    left;simp[stepsCodeN,h2]
   have h4:0<=(bds [x]).1/\0<=(bds [x]).2.1/\0<=(bds [x]).2.2:=by rcases h3 with h3 | h3<;>exact xq _ _ h3
   simp only[bds]at h4 ⊢;omega
 exact key _ (fun x hx=>zvL hx)
theorem zaR {x:St} {last:Bool} (h:zM vs nh x last=0):0<=(qO x).1/\0<=(qO x).2.1/\0<=(qO x).2.2:=by
 have h3:stepsCodeN vs nh [x] true=0\/stepsCodeN vs nh [x] false=0:=by
  cases last
  . right;simp[stepsCodeN,h]
  left;simp[stepsCodeN,h]
 have h4:0<=(bds [x]).1/\0<=(bds [x]).2.1/\0<=(bds [x]).2.2:=by rcases h3 with h3 | h3<;>exact xq _ _ h3
 simpa[bds] using h4
theorem zaS (vs:List Vr) (nh:Nat) (l:List St):∀ (v:Value) (D:Nat->Prop) (w:World) (top:Bool),stepsCodeN vs nh l top=0->SlR 10 RSt D w v l->sbulk l<=1000000->Calls prog 65 #[v] w (Ret fun r w'=>r=.tuple #[.int .i64 (cap 4097 (bds l).1),.int .i64 (cap 9 (bds l).2.1),.int .i64 (cap 67108865 (bds l).2.2)]/\Ext w w'):=by
 induction l using zr3 with
 | h l ih =>
 intro v D w top dw hl hb;have dO:=hl.max;obtain⟨av,nv,rfl⟩:=hl.form;refine zqQ func65 O ntmps65 O (V.inn (Vs 21 O (zrM (σ:=Nat) [0] [] [] O (fun e i=>(5,.int .i64 (cap 4097 (bds (l.take i)).1))::(6,.int .i64 (cap 9 (bds (l.take i)).2.1))::(7,.int .i64 (cap 67108865 (bds (l.take i)).2.2))::(8,.int .i64 i)::e) (fun e i=>e) (fun i=>i<=l.length) (fun i=>l.length - i) 0 j2 j3 j1 j1 j1 (ztC _) ?_)));rintro i hi;refine Vs 9 O (zp4 O (fun dA=>?_) (fun dA=>?_))
 .
  refine Vs 8 O (zrI 1000 0 i tO hl O O O (fun x dQ dR dS dh da dl dm=>?_));obtain⟨dB,dC,dD,dE,rfl,dr,dc,dg,dt⟩:=dm.get;obtain⟨dF,dG,rfl⟩:=dr.form;obtain⟨dH,dI,rfl⟩:=dc.form;obtain⟨dJ,dK,rfl⟩:=dg.form;obtain⟨dL,dM,rfl⟩:=dt.form;refine zrg 1000 tR24 ts72 O dl tO _ rfl O ?_;have du:=zgE dh;have hY:0<=(bds (l.take i)).1/\0<=(bds (l.take i)).2.1/\0<=(bds (l.take i)).2.2:=ziH dw i;obtain⟨last,dx⟩:=qc l top dw x da;obtain⟨hS,_,_,dy,dz⟩:=qu dx;have db:=hS.cost;have n1:=xq x.thn _ dy;have n2:=xq x.els _ dz;have r1:=zF n1.1 (show (0:Int)<=4097 by decide);have r2:=zF n1.2.1 (show (0:Int)<=9 by decide);have r3:=zF n1.2.2 (show (0:Int)<=67108865 by decide);have r4:=zF n2.1 (show (0:Int)<=4097 by decide);have r5:=zF n2.2.1 (show (0:Int)<=9 by decide);have r6:=zF n2.2.2 (show (0:Int)<=67108865 by decide);have t1:=zF hY.1 (show (0:Int)<=4097 by decide);have t2:=zF hY.2.1 (show (0:Int)<=9 by decide);have t3:=zF hY.2.2 (show (0:Int)<=67108865 by decide);have y:=zaR dx;have dN:=kO da;rw[St.bulk_eq]at dN;refine Vs 1 O (V.alloc 9 tz72 O O (fun b9=>?_));refine Vs 7 O (zrs call65 O (fun w hI=>(ih x da).1 _ _ w _ dy JK tO) (Vs 13 O (zrs call65 O (fun w hI=>(ih x da).2 _ _ w _ dz il tO) (Vs 10 O (Vw [1000,9] [] O (Vd [0,1,4,5,7,8,9,10] 0 tK O O O (zrt 2 0 tc113 O tK O O i6 (Vb [3] 0 tK O O O tO (zrt 6 0 tc113 O tK O O i6 (zrt 11 0 tc113 O tK O O i6 ?_))))))))));refine Vb [12,13,14,15] 0 tK O O O tO (VD.done tK (Vs 9 O (zrN (σ:=Int × Int × Int) [0,5,6,7,8,9] [9] [9] O (fun e ⟨a,b,c⟩=>(16,.int .i64 a)::(17,.int .i64 b)::(18,.int .i64 c)::e) (fun e ⟨a,b,c⟩=>e) (fun⟨a,b,c⟩=>(0<=a/\a<=16789506/\cap 4097 a=cap 4097 (qO x).1)/\(0<=b/\b<=36864/\(x.act ≠ 1->cap 9 b=cap 9 (qO x).2.1))/\0<=c/\c<=549755813888000/\cap 67108865 c=cap 67108865 (qO x).2.2) j1 j1 ?_ ?_)))
  .
   refine zp4 O (fun a4=>?_) (fun a4=>?_)
   .
    have hr:=hS.rep a4;have p1:=qR x.n (1+cap 4097 (bds x.thn).1) 4096 4098 hr.1 hr.2.1 tO tO;have p2:=qR x.n (cap 9 (bds x.thn).2.1) 4096 9 hr.1 hr.2.1 tO tO;have p3:=qR x.n (x.cost+cap 67108865 (bds x.thn).2.2) 4096 134217729 hr.1 hr.2.1 tO tO;have q1:=ztS hr.1 (show 0<=1+(bds x.thn).1 by omega);rw[yY,zty a4];refine Vq tK (Va 21 O tO (zpi ⟨_,_,_⟩ j2 j3 ⟨⟨tO,tO,ziG p1.1 q1 (zbU hr.1 tO n1.1 tO)⟩,⟨p2.1,tO,fun _=>zgG hr.1 n1.2.1 tO⟩,p3.1,tO,zbU hr.1 db.1 n1.2.2 tO⟩ 0 O O))
   rw[yY,ztx a4];refine Vs 1 O (zpi ⟨_,_,_⟩ j2 j3 ⟨⟨tO,tO,zdA tO n1.1 n2.1⟩,⟨tO,tO,fun a1=>by simp only[a1,if_false];exact zgF n1.2.1 n2.2.1⟩,tO,tO,zdA db.1 n1.2.2 n2.2.2⟩ 0 O O)
  rintro⟨a,b,c⟩ ⟨⟨z1,u1,f1⟩,⟨z2,u2,f2⟩,z3,u3,f3⟩;refine Vs 9 O (zrN (σ:=Int) [0,5,6,7,8,16,18] [] [] O (fun e b=>(17,.int .i64 b)::e) (fun e b=>e) (fun b=>0<=b/\b<=36864/\cap 9 b=cap 9 (qO x).2.1) j1 j1 ?_ ?_)
  .
   refine zp4 O (fun a1=>?_) (fun a1=>?_)
   . refine Vs 3 O (zpi 1 j2 j3 ⟨tS,tS,by rw[yY,ztx tO];simp[a1]⟩ 0 O O)
   refine Vs 1 O ?_;refine zpi _ j2 j3 ⟨z2,u2,f2 a1⟩ 0 O O
  rintro b ⟨z2,u2,f2⟩;refine Va 6 O tO (zrs tc114 O JA (Va 8 O tO (zrs tc114 O JA (Va 7 O tO (zrs tc114 O JA (Va 9 O tO (V.back (i+1) (Sub.cons (qg O (by rw[du];exact zat hY.1 y.1 z1 f1)) (Sub.cons (qg O (by rw[du];exact zat hY.2.1 y.2.1 z2 f2)) (Sub.cons (qg O (by rw[du];exact zat hY.2.2 y.2.2 z3 f3)) YB))) j3 tO tO 0 O O)))))))
 obtain rfl:i=l.length:=tO;refine Vs 16 O (zpr results65 O O O iR)
open Go.GL
abbrev MsP (m:Nat) (n:Int) (d:Bool):HE:=.own m [.int .i64 n,.bool d] 189
theorem jm (m:Nat) (n:Int) (d:Bool) (w:World) (hB:Blk w m [.int .i64 n,.bool d] 189):Calls prog 119 #[.pointer (some ⟨m,0,none⟩)] w (Ret fun r w'=>r=.bool (d || decide (1024<n))/\Ext w w'):=by
 refine zqQ func119 O ntmps119 O (V.inn (V.fr 900 0 O O hB.cells (zre 0 900 0 O O (Vs 12 O (zqB 7 O (fun k1_=>?_) (fun k1_=>?_))))))
 . refine Vs 10 O (zrz 0 results119 O O tD)
 refine Vs 10 O (zrz 0 results119 O O tD)
theorem zbV (t:Tm):∀ (cs:List Value) (D:Nat->Prop) (W0 W:World) (m:Nat) (n:Int) (d:Bool) (dep:Int),RTm D W0 t cs->EqD D W0 W->(∀ q,D q->q ≠ m)->Blk W m [.int .i64 n,.bool d] 189->0<=n->n+t.nodes<=1024->1<=dep->dep<=13->Calls prog 120 #[.pointer (some ⟨m,0,none⟩),.agg cs.toArray,.int .i64 dep] W (Ret fun r w'=>∃ n':Int,(r=.tuple #[]/\n<=n'/\n'<=n+t.nodes)/\(MsP m n' (d || decide (12<dep+t.depth - 1))).holds w'/\Keep (MsP m n d).S W w'/\∀ q,(MsP m n' (d || decide (12<dep+t.depth - 1))).S q->((MsP m n d).S q\/W.heap.size<=q)/\q<w'.heap.size):=by
 induction t using zr1 with
 | h t ih =>
 intro cs D W0 W m n d dep ht db DM hB hn dD dE dF;obtain⟨v,rfl,dm⟩:=ht.get;have hk:=db.to yN dm;obtain⟨av,nv,rfl⟩:=hk.form;have dG:=t.nodes_eq;have dH:=t.depth_eq;have dr:∀ q,(MsP m n d).S q->¬ D q:=fun q h hd=>DM q hd h;refine zqS func120 O ntmps120 O (zs3 900 (.own m [.int .i64 n,.bool d] 189) (hB) trivial (fun _ h=>h) (fun q hq=>by have hq:q=m:=hq;subst hq;exact hB.lt) (zre 0 900 0 O O (Vs 2 O (V.box 4 O O (fun b4=>?_)))));refine Va 15 O tO (zrN (σ:=Unit) [0,2,4] [4] [0,4] O (fun e u=>e) (fun e u=>(900,.own m [.int .i64 (n+1),.bool (d || decide (12<dep))] 189)::e) (fun u=>True) j1 j1 ?_ ?_)
 .
  refine Vs 7 O (zqB 20 O (fun hd=>?_) (fun hd=>?_))
  . refine Vs 7 O Uq
  refine Vs 7 O Uq
 rintro u _;refine zre 0 900 0 O O (Vs 5 O (zrs call119 O (fun w hI=>jm m _ _ w (hI.at 900 O)) ?_));rw[show (decide (1024<n+1))=false from ztA tO,zuh];refine Vs 2 O (V.bool O (fun hov=>?_) (fun hov=>?_))
 .
  have e:(d || decide (12<dep+(t.depth:Int) - 1))=(d || decide (12<dep)):=by
   grind
  refine Vs 2 O (zpA results120 (fun w hI=>⟨_,rfl,n+1,⟨rfl,tO,tO⟩,by rw[e];exact hI.at 900 rfl,hI.k0,fun q hq=>hI.inS 0 900 O O hq⟩))
 have dI:d=false/\¬ 12<dep:=by revert hov;cases d<;>simp
 have dc:(d || decide (12<dep+(t.depth:Int) - 1))=decide (12<dep+(tdepth t.kids:Int)):=by
  grind
 have dt:=zbC t.kids;refine Vs 11 O (zrL 900 O (e':=.own m [.int .i64 (n+1),.bool (decide (12<dep+(tdepth (t.kids.take 0):Int)))] 189) (by rw[hov,ztA (by simp[tdepth];omega)]) (zrM (σ:=Nat × Int) [0,2,29,30] [] [0] O (fun e ⟨i,z⟩=>(31,.int .i64 i)::e) (fun e ⟨i,z⟩=>(900,.own m [.int .i64 z,.bool (decide (12<dep+(tdepth (t.kids.take i):Int)))] 189)::e) (fun⟨i,z⟩=>i<=t.kids.length/\n<=z/\z<=n+1+tnodes (t.kids.take i)) (fun⟨i,z⟩=>t.kids.length - i) (0,n+1) j2 j3 j1 j1 j1 ⟨ztC _,tO,tO⟩ ?_));rintro⟨i,z⟩ ⟨hi,du,dw⟩;refine Vs 6 O (zp4 O (fun dx=>?_) (fun dx=>?_))
 .
  refine Vs 6 O (zrH 1000 0 i tO hk O O O (fun b_ d_ h_=>by have dy:=dr _ h_;first | omega | exact dy d_) (fun x dJ dK dL hY dg dh dz dl=>?_));obtain⟨dA,rfl,da⟩:=dl.get;obtain⟨dB,dC,rfl⟩:=da.form;refine zrg 1000 tR68 ts70 O dh tO _ rfl O ?_;have dM:=xZ hY;have dN:=kw hY
  have dO:(decide (12<dep+(tdepth (t.kids.take i):Int)) || decide (12<dep+1+(x.depth:Int) - 1))=decide (12<dep+(tdepth (t.kids.take (i+1)):Int)):=by
   rw[zby hY,<- Bool.decide_or,ztP];omega
  refine Vs 1 O (V.alloc 7 tz70 O O (fun b7=>?_));refine Va 8 O tO (zsf [900] (Hn:=fun v_:Int=>[(900,.own m [.int .i64 v_,.bool (decide (12<dep+(tdepth (t.kids.take i):Int)) || decide (12<dep+1+(x.depth:Int) - 1))] 189)]) [(0,some (900,0)),(7,some (7,0)),(33,some (1000,0)),(35,some (900,0))] call120 O j9 j1 (fun w hI=>zbx (k:=900) O iK (ih x dg _ D W0 w m z _ (dep+1) (RTm.put (db.back yN da)) (db.keep hI.k0 (fun b hb=>db.lt hb) (fun b hb hs=>DM b hb hs)) DM (hI.at 900 O) tO tO tO tO)) ?_);rintro _ z2 ⟨rfl,h1,h2⟩;refine Va 7 O tO (zrL 900 O (e':=.own m [.int .i64 z2,.bool (decide (12<dep+(tdepth (t.kids.take (i+1)):Int)))] 189) tD (V.back ⟨i+1,z2⟩ j2 j3 ⟨tO,tO,tO⟩ tD 0 O O))
 obtain rfl:i=t.kids.length:=tO;rw[zts]at dw;refine zrL 900 O (e':=.own m [.int .i64 z,.bool (decide (12<dep+(tdepth t.kids:Int)))] 189) tD (Vs 4 O (zpA results120 (fun w hI=>⟨_,rfl,z,⟨rfl,du,tO⟩,by rw[dc];exact hI.at 900 rfl,hI.k0,fun q hq=>hI.inS 0 900 O O hq⟩)))
def yJ (dep:Int) (l:List St):Bool:=decide (12<dep+sdepth l - 1) || stdeep l
theorem zhz {l:List St} {x:St} (h:x ∈ l):1<=sdepth l:=by
 obtain⟨i,hi⟩:=zvH.1 h
 conv=>rhs;rw[yP hi]
 rw[je,sdepth,St.depth_eq];omega
theorem zhA {dep:Int} {l:List St} (h:yJ dep (l.take i)=true):yJ dep l=true:=by
 unfold yJ at *
 have h1:sdepth (l.take i)<=sdepth l:=by
  conv=>rhs;rw[<- zwa i l]
  rw[je];omega
 have h2:stdeep (l.take i)=true->stdeep l=true:=by
  intro h;rw[<- zwa i l,jf,h];rfl
 rw[zug,decide_eq_true_eq]at *;rcases h with h | h
 . left;omega
 exact .inr (h2 h)
theorem zeK (l:List St):∀ (v:Value) (D:Nat->Prop) (W0 W:World) (m:Nat) (n:Int) (d:Bool) (dep:Int),SlR 10 RSt D W0 v l->EqD D W0 W->(∀ q,D q->q ≠ m)->Blk W m [.int .i64 n,.bool d] 189->0<=n->n+snodes l<=1024->1<=dep->dep<=13->Calls prog 118 #[.pointer (some ⟨m,0,none⟩),v,.int .i64 dep] W (Ret fun r w'=>∃ n':Int,(r=.tuple #[]/\n<=n'/\n'<=n+snodes l)/\(MsP m n' (d || yJ dep l)).holds w'/\Keep (MsP m n d).S W w'/\∀ q,(MsP m n' (d || yJ dep l)).S q->((MsP m n d).S q\/W.heap.size<=q)/\q<w'.heap.size):=by
 induction l using zr3 with
 | h l ih =>
 intro v D W0 W m n d dep du db DM hB hn dO dQ dR;have hl:=db.to zg du;have dS:=hl.max;obtain⟨av,nv,rfl⟩:=hl.form;have dw:∀ q,(MsP m n d).S q->¬ D q:=fun q h hd=>DM q hd h;have dx:=zdp l
 have dT:(d || yJ dep (l.take 0))=d:=by
  have:yJ dep (l.take 0)=false:=by unfold yJ;simp[sdepth,stdeep];omega
  grind
 refine zqS func118 O ntmps118 O (zs3 900 (.own m [.int .i64 n,.bool d] 189) (hB) trivial (fun _ h=>h) (fun q hq=>by have hq:q=m:=hq;subst hq;exact hB.lt) (zre 0 900 0 O O (Vs 8 O (zrL 900 O (e':=.own m [.int .i64 n,.bool (d || yJ dep (l.take 0))] 189) tD (zrM (σ:=Nat × Int) [0,2,8,9] [] [0] O (fun e ⟨i,z⟩=>(10,.int .i64 i)::e) (fun e ⟨i,z⟩=>(900,.own m [.int .i64 z,.bool (d || yJ dep (l.take i))] 189)::e) (fun⟨i,z⟩=>i<=l.length/\n<=z/\z<=n+snodes (l.take i)) (fun⟨i,z⟩=>l.length - i) (0,n) j2 j3 j1 j1 j1 ⟨ztC _,tO,tO⟩ ?_)))));rintro⟨i,z⟩ ⟨hi,dy,dt⟩;refine zre 0 900 0 O O (Vs 6 O (zp4 O (fun dz=>?_) (fun dz=>?_)))
 .
  refine Vs 6 O (zrH 1000 0 i tO hl O O O (fun b_ d_ h_=>by have dA:=dw _ h_;first | omega | exact dA d_) (fun x dU dV dW hY da dl dB dm=>?_));obtain⟨dC,dD,dE,dF,rfl,dc,dg,dh,dr⟩:=dm.get;obtain⟨dG,dH,rfl⟩:=dc.form;obtain⟨dI,dJ,rfl⟩:=dg.form;obtain⟨dK,dL,rfl⟩:=dh.form;obtain⟨dM,dN,rfl⟩:=dr.form;refine zrg 1000 tR24 ts72 O dl tO _ rfl O ?_;have dX:=qF hY;have dY:=zbz hY;have dZ:=x.nodes_eq;refine Vs 1 O (V.alloc 7 tz72 O O (fun b7=>?_));refine Va 16 O tO (zrN (σ:=Unit) [0,2,7,8,9,10] [7] [0,7] O (fun e u=>e) (fun e u=>(900,.own m [.int .i64 (z+1),.bool ((d || yJ dep (l.take i)) || decide (12<dep))] 189)::e) (fun u=>True) j1 j1 ?_ ?_)
  .
   refine Vs 7 O (zqB 26 O (fun hd=>?_) (fun hd=>?_))
   . refine Vs 7 O Un
   refine Vs 7 O Un
  rintro u _;refine zre 0 900 0 O O (Vs 5 O (zrs call119 O (fun w hI=>jm m _ _ w (hI.at 900 O)) ?_));rw[show (decide (1024<z+1))=false from ztA tO,zuh];refine Vs 2 O (V.bool O (fun hov=>?_) (fun hov=>?_))
  .
   have e:(d || yJ dep l)=((d || yJ dep (l.take i)) || decide (12<dep)):=by
    rw[hov];simp only[zug,decide_eq_true_eq]at hov ⊢;rcases hov with (h | h) | h
    . grind
    . exact .inr (zhA h)
    right;unfold yJ;rw[ztz (by have:=zhz da;omega)];rfl
   refine Vs 6 O (zpA results118 (fun w hI=>⟨_,rfl,z+1,⟨rfl,tO,tO⟩,by rw[e];exact hI.at 900 rfl,hI.k0,fun q hq=>hI.inS 0 900 O O hq⟩))
  rw[hov];simp only[zuf,decide_eq_false_iff_not]at hov;have hK:∀ {w:World},Keep (MsP m n d).S W w->EqD D W0 w:=fun h=>db.keep h (fun b hb=>db.lt hb) (fun b hb hs=>DM b hb hs);refine Vs 7 O (zsf [900] (Hn:=fun v_:Int=>[(900,.own m [.int .i64 v_,.bool (false || decide (12<1+(x.term.depth:Int) - 1))] 189)]) [(0,some (900,0)),(7,some (7,0)),(32,some (900,0)),(34,some (900,0)),(35,some (7,4))] call120 O j9 j1 (fun w hI=>zbx (k:=900) O iK (zbV x.term _ D W0 w m _ _ 1 (RTm.put (db.back yN dc)) (hK hI.k0) DM (hI.at 900 O) tO tO tO tO)) ?_);rintro _ z2 ⟨rfl,h1,h2⟩;refine Va 9 O tO (zsf [900] (Hn:=fun v_:Int=>[(900,.own m [.int .i64 v_,.bool ((false || decide (12<1+(x.term.depth:Int) - 1)) || yJ (dep+1) x.thn)] 189)]) [(0,some (900,0)),(7,some (7,0)),(32,some (900,0)),(34,some (900,0)),(35,some (7,4)),(38,some (900,0)),(39,some (7,7))] call118 O j9 j1 (fun w hI=>zbx (k:=900) O iK ((ih x da).1 _ D W0 w m _ _ (dep+1) (db.back zg dg) (hK hI.k0) DM (hI.at 900 O) tO tO tO tO)) ?_);rintro _ z3 ⟨rfl,h3,h4⟩;refine Va 8 O tO (zsf [900] (Hn:=fun v_:Int=>[(900,.own m [.int .i64 v_,.bool (((false || decide (12<1+(x.term.depth:Int) - 1)) || yJ (dep+1) x.thn) || yJ (dep+1) x.els)] 189)]) [(0,some (900,0)),(7,some (7,0)),(32,some (900,0)),(34,some (900,0)),(35,some (7,4)),(38,some (900,0)),(39,some (7,7)),(44,some (900,0)),(45,some (7,8))] call118 O j9 j1 (fun w hI=>zbx (k:=900) O iK ((ih x da).2 _ D W0 w m _ _ (dep+1) (db.back zg dh) (hK hI.k0) DM (hI.at 900 O) tO tO tO tO)) ?_);rintro _ z4 ⟨rfl,h5,h6⟩
  have hb:(((false || decide (12<1+(x.term.depth:Int) - 1)) || yJ (dep+1) x.thn) || yJ (dep+1) x.els)=(d || yJ dep (l.take (i+1))):=by
   have h9:=hov.1.2;unfold yJ at h9 ⊢;rw[zuf,decide_eq_false_iff_not]at h9;rw[hov.1.1,zbA hY,zbB hY,h9.2,St.tdeep_eq,St.depth_eq,zub];simp only[zug,decide_eq_true_eq,zud];generalize stdeep x.thn=q1;generalize stdeep x.els=q2;cases q1<;>cases q2<;>simp<;>omega
  refine Va 7 O tO (zrL 900 O (e':=.own m [.int .i64 z4,.bool (d || yJ dep (l.take (i+1)))] 189) (by rw[hb]) (V.back ⟨i+1,z4⟩ j2 j3 ⟨tO,tO,tO⟩ tZ 0 O O))
 obtain rfl:i=l.length:=tO;rw[zts]at dt;refine zrL 900 O (e':=.own m [.int .i64 z,.bool (d || yJ dep l)] 189) (by rw[zts]) (Vs 4 O (zpA results118 (fun w hI=>⟨_,rfl,z,⟨rfl,dy,dt⟩,hI.at 900 rfl,hI.k0,fun q hq=>hI.inS 0 900 O O hq⟩)))
end Go.Proofs.YtckdhgbepmpgiaaGreat
namespace Go.GL
structure MI where
 i:Nat
 o:Oper
 d:Nat
 dp:List Nat
 q:Bool
 Φ:(Nat->Value)->Value->Hp->Prop
abbrev MK:=Nat × Nat × List Nat × Bool
def MI.key (x:MI):MK:=(x.i,x.d,x.dp,x.q)
def ziI (x:MK) (J:List MK):Bool:=x.2.2.1.all fun m=>J.all fun y=>!Nat.beq y.2.1 m
def zkP (i:Nat) (J:List MK):List MK:=J.filter fun y=>!Nat.beq y.1 i
def zmr (ops:Array Oper) (l:Array Bool) (x:MK):Bool:=x.2.2.2&&(Region.noSelect ops&&Region.free .any ops l x.1&&(Region.ready .any ops l).contains x.1)
def zkQ (i:Nat):List MK->Option MK
 | []=>none
 | y::r=>cond (Nat.beq y.1 i) (some y) (zkQ i r)
def zaT (ops:Array Oper) (L3:Array Bool):Nat->List MK->Array Bool->Bool
 | 0,J,l=>J.isEmpty&&(l == L3)
 | k+1,J,l=>match J.find? (zmr ops l) with
  | some x=>ziI x J&&zaT ops L3 k (zkP x.1 J) (l.setIfInBounds x.1 true)
  | none=>!(Region.ready .any ops l).isEmpty&&(Region.ready .any ops l).all fun j=>match zkQ j J with
   | some x=>!x.2.2.2&&ziI x J&&zaT ops L3 k (zkP x.1 J) (l.setIfInBounds x.1 true)
   | none=>false
theorem zeL {i:Nat}:∀ {J:List MK} {x:MK},zkQ i J=some x->x ∈ J/\x.1=i
 | [],_,h=>by cases h
 | y::r,x,h=>by
  simp only[zkQ]at h;cases hb:Nat.beq y.1 i with
  | true=>rw[hb]at h;cases h;exact⟨ztr ..,ztu hb⟩
  | false=>rw[hb]at h;obtain⟨h1,h2⟩:=zeL h;exact⟨ztq _ h1,h2⟩
structure Dn (w w':World) (hx:Hp) (lo hi:Nat):Prop where
 p0:w.heap.size<=lo
 le:lo<=hi
 p1:hi<=w'.heap.size
 ok:∀ z ∈ hx,z.2.holds w'/\z.2.loc/\(∀ b,¬ z.2.fz b)/\∀ q,z.2.S q->lo<=q/\q<hi
 apart:hx.Pairwise (fun x y=>∀ q,x.2.S q->¬ y.2.S q)
theorem Dn.ext {w2:World} {lo hi:Nat} (h:Dn w w' hx lo hi) (hk:Ext w' w2):Dn w w2 hx lo hi :=
 ⟨h.p0,h.le,ztt h.p1 hk.size,fun z hz=>by
  obtain⟨h1,h2,h3,h4⟩:=h.ok z hz
  exact⟨HE.keep h1 h2 hk (fun _ _ h=>h) (fun _ _ h=>h),h2,h3,h4⟩,h.apart⟩
theorem zbW (h:Hands [] [] hx w w'):Ext w w':=h.keep.mono fun q _ ⟨x,hx,_⟩=>tD
theorem Dn.of {a a':World} (hk:Ext w a) (h:Hands [] [] hx a a'):Dn w a' hx a.heap.size a'.heap.size :=
 ⟨hk.size,(zbW h).size,ztM _,fun z hz=>by
  obtain⟨h1,h2,h3,h4⟩:=h.ok z hz;refine⟨h1,h2,h3,fun q hq=>⟨?_,(h4 q hq).2⟩⟩;rcases (h4 q hq).1 with⟨x,hx,_⟩ | h5
  . cases hx
  .
   exact h5,h.apart⟩
theorem zeM:∀ H:Hp,yB [] H=H
 | []=>rfl
 | x::r=>by show x::yB [] r=x::r;rw[zeM r]
theorem ziJ {lo hi:Nat->Nat} (hI:VI Bs H w) (hk:Ext w w') (K:List Nat) (hY:K.Nodup) (hd:∀ m ∈ K,Dn w w' (hn m) (lo m) (hi m)) (db:∀ m ∈ K,∀ m' ∈ K,m ≠ m'->hi m<=lo m'\/hi m'<=lo m):VI Bs (K.flatMap hn++H) w':=by
 have hh:Hands H [] (K.flatMap hn) w w':=by
  refine⟨hk.mono fun q _ h=>h.elim,fun z hz=>?_,?_⟩
  .
   obtain⟨m,hm,hz⟩:=zvF.1 hz;obtain⟨h1,h2,h3,h4⟩:=(hd m hm).ok z hz;exact⟨h1,h2,h3,fun q hq=>⟨.inr (ztt (hd m hm).p0 (h4 q hq).1),zws (h4 q hq).2 (hd m hm).p1⟩⟩
  clear hI;induction K with
  | nil=>exact List.Pairwise.nil
  | cons m r ih =>
   rw[zvQ]at hY;rw[zv4];refine zvT.2 ⟨(hd m (ztr ..)).apart,ih hY.2 (fun x hx=>hd x Jq) (fun x hx y hy=>db x Jq y iq),fun x hx y hy q hq dc=>?_⟩;obtain⟨m',da,hy⟩:=zvF.1 hy;have g1:=((hd m (ztr ..)).ok x hx).2.2.2 q hq;have g2:=((hd m' (ztq _ da)).ok y hy).2.2.2 q dc;rcases db m (ztr ..) m' (ztq _ da) (fun e=>hY.1 (e ▸ da)) with h | h<;>omega
 have:=hI.hands hh;rw[zeM]at this;exact this
theorem ziK {env:Env} {val:Nat->Value}:∀ (D:List Nat) (m:Nat) (v:Value),get (D.map (fun d=>(d,val d))++env) m=some v->(m ∈ D/\v=val m)\/get env m=some v
 | [],_,_,h=>.inr h
 | d::r,m,v,h=>by
  rw[zvx,zuH]at h;simp only[GL.get]at h;cases hb:Nat.beq d m with
  | true =>
   rw[hb]at h;have e:=ztu hb;subst e;exact .inl ⟨ztr ..,(Option.some.inj h).symm⟩
  | false =>
   rw[hb]at h;rcases ziK r m v h with⟨h1,h2⟩ | h1
   . grind
   grind
section
variable {n:Fm} {Q:Exit->Act->World->Prop} {ks:List Fr} {A:Tgs} {Hs:Hp} {B0:zq} {L:List Nat}
abbrev MI.Ds (I:List MI) (x:MI) (val:Nat->Value) (hn:Nat->Hp):Prop:=∀ y ∈ I,y.d ∈ x.dp->y.Φ val (val y.d) (hn y.d)
theorem zmO {I:List MI} {x:MI} {J:List MI} (_:(I.map (·.d)).Nodup) (_:∀ y ∈ J,y ∈ I) (h:ziI x.key (J.map MI.key)=true) {y:MI} (_:y ∈ I) (hd:y.d ∈ x.dp):y ∉ J:=by
 intro hY;unfold ziI at h;rw[zuB]at h;have:=h y.d hd;rw[zuB]at this;have:=this y.key (zvI.2 ⟨y,hY,rfl⟩);simp[MI.key,]at this
theorem zsp (j:Nat) (I:List MI) (L3:Array Bool) (hI:∀ x ∈ I,ops[x.i]?=some x.o/\x.o.guard=none/\x.o.dst=some x.d/\Nat.blt x.d n=true/\get env x.d=none/\∀ m ∈ x.dp,m ∈ I.map (·.d))
  (dr:(I.map (·.d)).Nodup) (dI:(I.map (·.i)).Nodup) (dJ:∀ x ∈ I,x.dp.Nodup) (hr:zaT ops L3 I.length (I.map MI.key) listed=true) (hB:Bs.drop j=B0) (hu:qd (Hs.map (·.1))=true)
  (hΦ:∀ x ∈ I,∀ val val' v hx,(∀ m ∈ x.dp,val m=val' m)->x.Φ val v hx->x.Φ val' v hx)
  (hc:∀ x ∈ I,x.q=false->∀ val hn,x.Ds I val hn->∀ w,VI Bs (x.dp.flatMap hn++H) w->Does P x.o (x.dp.map (fun m=>(m,val m))++env) w (fun v w'=>∃ hx,x.Φ val v hx/\Hands [] [] hx w w'))
  (hq:∀ x ∈ I,x.q=true->∀ val hn,x.Ds I val hn->∃ v,x.Φ val v []/\∀ w,yx P x.o (x.dp.map (fun m=>(m,val m))++env) w v w)
  (h:∀ val hn,(∀ x ∈ I,x.Φ val (val x.d) (hn x.d))->Hs.map (fun y=>hget ((I.map (·.d)).flatMap hn++H) y.1)=Hs.map (fun y=>some y.2)/\VD P n Q ks ops Hs B0 L fuel L3 (I.map (fun x=>(x.d,val x.d))++env) [] ((I.map (·.d)).flatMap hn++H) Bs) :
  VD P n Q ks ops Hs B0 L (fuel+I.length) listed env A H Bs:=by
 subst hB;intro hH _ w hw
 have key:∀ (k:Nat) (J:List MI) (listed:Array Bool) (env':Env) (w':World) (val:Nat->Value) (hn:Nat->Hp) (lo hi:Nat->Nat),(∀ x ∈ J,x ∈ I)->zaT ops L3 k (J.map MI.key) listed=true->Ext w w'->Sub env env' ->
   (∀ x ∈ I,x ∉ J->get env' x.d=some (val x.d)/\x.Φ val (val x.d) (hn x.d)/\Dn w w' (hn x.d) (lo x.d) (hi x.d)/\∀ m ∈ x.dp,∀ y ∈ I,y.d=m->y ∉ J)->(∀ x ∈ I,x ∉ J->∀ y ∈ I,y ∉ J->x.d ≠ y.d->hi x.d<=lo y.d\/hi y.d<=lo x.d) ->
   WD P n ops (QK P Q ks) (VI (Bs.drop j) Hs) L (fuel+k) listed env' w':=by
  intro k;induction k with
  | zero =>
   intro J listed env' w' val hn lo hi hJ ho hE db hY dC;rw[zaT,zu8,zvp,List.map_eq_nil_iff]at ho;obtain⟨rfl,ho⟩:=ho;have e:listed=L3:=tD;rw[e];have dt:∀ x ∈ I,x ∉ ([]:List MI):=fun x _=>tR;obtain⟨g1,g2⟩:=h val hn fun x hx=>(hY x hx (dt x hx)).2.1
   have dK:VI Bs ((I.map (·.d)).flatMap hn++H) w':=ziJ hw hE _ dr (fun m hm=>by
    obtain⟨x,hx,rfl⟩:=zvI.1 hm;exact(hY x hx (dt x hx)).2.2.1) (fun m hm m' dL dh=>by
    grind)
   refine(g2 (Has.of g1) TgOk.nil w' dK).sub ?_;intro m v hv;have dD:get (I.map (fun x=>(x.d,val x.d))++env) m=some v:=hv;rw[show (I.map fun x=>(x.d,val x.d))=(I.map (·.d)).map (fun d=>(d,val d)) by rw[zvy];rfl]at dD;rcases ziK _ m v dD with⟨h1,h2⟩ | h1
   . grind
   exact db m v h1
  | succ k ih =>
   intro J listed env' w' val hn lo hi hJ ho hE db hY dC
   have one:∀ x ∈ J,ziI x.key (J.map MI.key)=true->zaT ops L3 k (zkP x.i (J.map MI.key)) (listed.setIfInBounds x.i true)=true ->
     (Sub (x.dp.map (fun m=>(m,val m))++env) env'/\x.Ds I val hn/\VI Bs (x.dp.flatMap hn++H) w') /\
     ∀ v w2 hx,x.Φ val v hx->Hands [] [] hx w' w2->WD P n ops (QK P Q ks) (VI (Bs.drop j) Hs) L (fuel+k) (listed.setIfInBounds x.i true) ((x.d,v)::env') w2:=by
    intro x hx dy dM;have dl:=hJ x hx
    have dQ:∀ m ∈ x.dp,∃ y ∈ I,y.d=m/\y ∉ J:=fun m hm=>by
     obtain⟨y,hy,e⟩:=zvI.1 ((hI x dl).2.2.2.2.2 m hm);exact⟨y,hy,e,zmO dr hJ dy hy tD⟩
    refine⟨⟨?_,fun y hy hd=>(hY y hy (zmO dr hJ dy hy hd)).2.1,ziJ (lo:=lo) (hi:=hi) hw hE _ (dJ x dl) (fun m hm=>?_) (fun m hm m' dL dh=>?_)⟩,?_⟩
    .
     intro m v hv;rcases ziK _ m v hv with⟨h1,h2⟩ | h1
     . grind
     exact db m v h1
    . grind
    . grind
    intro v w2 dz hv hh;have k2:=zbW hh;have dh:∀ y ∈ I,y ∉ J->y.d ≠ x.d:=fun y hy dc e=>dc (by rw[zbH dr hy dl e];exact hx)
    have dm:∀ z ∈ I,z ∉ J.filter (fun y=>!Nat.beq y.i x.i)->z=x\/z ∉ J:=by
     intro z hz du;by_cases da:z ∈ J
     .
      left;cases e:Nat.beq z.i x.i with
      | true=>exact zbH dI hz dl (ztu e)
      | false=>exact absurd (zvE.2 ⟨da,tD⟩) du
     grind
    have dw:∀ z ∈ I,(z=x\/z ∉ J)->∀ m ∈ z.dp,val m=(if m=x.d then v else val m):=by
     grind
    refine ih (J.filter (fun y=>!Nat.beq y.i x.i)) (listed.setIfInBounds x.i true) ((x.d,v)::env') w2 (fun m=>if m=x.d then v else val m) (fun m=>if m=x.d then dz else hn m) (fun m=>if m=x.d then w'.heap.size else lo m) (fun m=>if m=x.d then w2.heap.size else hi m) (fun z hz=>hJ z (zvE.1 hz).1) ?_ (hE.ext k2) ?_ ?_ ?_
    .
     have:=dM;unfold zkP at this;rw[List.filter_map]at this;exact this
    .
     intro m u dA;simp only[GL.get];cases hb:Nat.beq x.d m with
     | true =>
      have e:=ztu hb;rw[<- e,(hI x dl).2.2.2.2.1]at dA;cases dA
     | false=>exact db m u dA
    .
     intro z hz du;have dE:=dm z hz du
     have dF:∀ m ∈ z.dp,∀ y ∈ I,y.d=m->y ∉ J.filter (fun y=>!Nat.beq y.i x.i):=by
      intro m hm y hy e dN;have dc:=(zvE.1 dN).1;rcases dE with rfl | da
      . exact zmO dr hJ dy hy tD dc
      grind
     rcases dE with rfl | da
     .
      refine⟨by simp[GL.get,],?_,?_,dF⟩
      .
       simp only[if_true];exact hΦ _ dl _ _ _ _ (dw _ dl (.inl O)) hv
      simp only[if_true];exact Dn.of hE hh
     have dG:=dh z hz da;simp only[dG,if_false];obtain⟨g1,g2,g3,g4⟩:=hY z hz da;refine⟨?_,hΦ z hz _ _ _ _ (dw z hz (.inr da)) g2,g3.ext k2,dF⟩;simp only[GL.get];cases hb:Nat.beq x.d z.d with
     | true=>exact absurd (ztu hb).symm dG
     | false=>exact g1
    intro z hz du y hy dO dH;rcases dm z hz du with rfl | da<;>rcases dm y hy dO with rfl | dc
    . exact absurd O dH
    .
     simp only[dh y hy dc,if_false,if_true];exact .inr (hY y hy dc).2.2.1.p1
    .
     simp only[dh z hz da,if_false,if_true];exact .inl (hY z hz da).2.2.1.p1
    simp only[dh z hz da,dh y hy dc,if_false];exact dC z hz da y hy dc dH
   have dg:∀ y ∈ J.map MI.key,∃ x ∈ J,x.key=y:=fun y hy=>by
    obtain⟨x,hx,e⟩:=zvI.1 hy;exact⟨x,hx,e⟩
   rw[zaT]at ho;split at ho
   .
    rename_i y hy;obtain⟨x,hx,rfl⟩:=dg y (zvJ hy);have dx:=List.find?_some hy;unfold zmr at dx;rw[zu8]at dx;rw[zu8]at ho;obtain⟨⟨g1,g2,_⟩,g3⟩:=one x hx ho.1 ho.2;obtain⟨q1,q2,q3,q4,_⟩:=hI x (hJ x hx);obtain⟨v,hv,dB⟩:=hq x (hJ x hx) dx.1 val hn g2;exact zqU x.i q1 dx.2 q3 q4 (.inl ⟨fun a _=>by simp[Region.wanted,q2],fun w3 m a ha=>dB w3 m a (ha.sub g1)⟩) (g3 v w' [] hv ⟨Keep.refl _ _,fun z hz=>(by cases hz),List.Pairwise.nil⟩)
   intro a ha;rw[zu8,zuB]at ho;refine⟨fun h0=>(by rw[h0]at ho;simp at ho),fun i hi=>?_⟩;have h1:=ho.2 i hi;split at h1
   .
    rename_i y hy;obtain⟨h2,h3⟩:=zeL hy;obtain⟨x,hx,rfl⟩:=dg y h2;have h3:x.i=i:=h3;subst h3;rw[zu8,zu8,zue]at h1;obtain⟨⟨g1,g2,g4⟩,g3⟩:=one x hx h1.1.2 h1.2;obtain⟨q1,q2,q3,q4,_⟩:=hI x (hJ x hx);refine zmL q1 q2 q3 ha ((hc x (hJ x hx) h1.1.1 val hn g2 w' g4).sub g1) ?_;rintro v w2 ⟨dz,hv,hh⟩;have k2:=zbW hh;exact⟨fun _ _=>((hw.ext (hE.ext k2)).drop j).pick hH hu,g3 v w2 dz hv hh _ (ha.put q4)⟩
   cases h1
 exact key I.length I listed env w (fun _=>undef) (fun _=>[]) (fun _=>0) (fun _=>0) (fun x hx=>hx) hr ix (Sub.refl _) (fun x hx h=>absurd hx h) (fun x hx h=>absurd hx h)
theorem zsq (A1:Tgs) (hY:A1.map (fun p=>zcJ env p.1)=A1.map (fun p=>jc H p.2)) (da:A1.all (fun p=>(jc H p.2).isSome)=true) (h:VD P n Q ks ops Hs B0 L fuel listed env A1 H Bs):VD P n Q ks ops Hs B0 L fuel listed env A H Bs:=fun hH _ w hI=>h hH (TgOk.of hY da) w hI
end
abbrev Ph:=(Nat->Value)->Value->Hp->Prop
abbrev Psi:=Nat->Ph
def psi:List (Nat × Ph)->Psi
 | [],_=>fun _ _ _=>False
 | (k,f)::r,m=>match Nat.beq k m with
  | true=>f
  | false=>psi r m
def zdB (Ψ:Psi) (val:Nat->Value) (hn:Nat->Hp):List Nat->Prop
 | []=>True
 | m::r=>Ψ m val (val m) (hn m)/\zdB Ψ val hn r
def zms (val:Nat->Value):List Nat->Env->Env
 | [],env=>env
 | m::r,env=>(m,val m)::zms val r env
def hpD (hn:Nat->Hp):List Nat->Hp->Hp
 | [],H=>H
 | m::r,H=>hn m++hpD hn r H
theorem zbX (val:Nat->Value) (env:Env):∀ D:List Nat,zms val D env=D.map (fun m=>(m,val m))++env
 | []=>rfl
 | m::r=>by rw[zms,zbX val env r];rfl
theorem zgH (hn:Nat->Hp) (H:Hp):∀ D:List Nat,hpD hn D H=D.flatMap hn++H
 | []=>rfl
 | m::r=>by rw[hpD,zgH hn H r,zv4,zuE]
theorem dpAll_iff {Ψ:Psi} {val:Nat->Value} {hn:Nat->Hp}:∀ {D:List Nat},zdB Ψ val hn D ↔ ∀ m ∈ D,Ψ m val (val m) (hn m)
 | []=>by simp[zdB]
 | m::r=>by simp only[zdB,List.forall_mem_cons];rw[dpAll_iff]
def zcQ:List Nat->Bool
 | []=>true
 | x::r=>r.all (fun y=>!Nat.beq x y)&&zcQ r
theorem kZ:∀ {l:List Nat},zcQ l=true->l.Nodup
 | [],_=>List.Pairwise.nil
 | x::r,h=>by
  rw[zcQ,zu8,zuB]at h;refine zvQ.2 ⟨fun hx=>?_,kZ h.2⟩;have:=h.1 x hx;simp[]at this
def znW (I:List MK) (env:Env):Bool:=zcQ (I.map (·.2.1))&&zcQ (I.map (·.1))&&I.all fun x=>(get env x.2.1).isNone&&zcQ x.2.2.1&&x.2.2.1.all fun m=>(I.map (·.2.1)).any fun y=>Nat.beq y m
section
variable {n:Fm} {Q:Exit->Act->World->Prop} {ks:List Fr} {A:Tgs} {Hs:Hp} {B0:zq} {L:List Nat} {Ψ:Psi}
def MP (P:Program) (n:Fm) (ops:Array Oper) (env:Env) (H:Hp) (Bs:zq) (Ψ:Psi) (x:MK):Prop:=∃ o,(ops[x.1]?=some o/\o.guard=none/\o.dst=some x.2.1/\Nat.blt x.2.1 n=true)/\(∀ val val' v hx,(∀ m ∈ x.2.2.1,val m=val' m)->Ψ x.2.1 val v hx->Ψ x.2.1 val' v hx) /\
 (x.2.2.2=false->∀ val hn,zdB Ψ val hn x.2.2.1->∀ w,VI Bs (hpD hn x.2.2.1 H) w->Does P o (zms val x.2.2.1 env) w (fun v w'=>∃ hx,Ψ x.2.1 val v hx/\Hands [] [] hx w w')) /\
 (x.2.2.2=true->∀ val hn,zdB Ψ val hn x.2.2.1->∃ v,Ψ x.2.1 val v []/\∀ w,yx P o (zms val x.2.2.1 env) w v w)
def MPs (P:Program) (n:Fm) (ops:Array Oper) (env:Env) (H:Hp) (Bs:zq) (Ψ:Psi):List MK->Prop
 | []=>True
 | x::r=>MP P n ops env H Bs Ψ x/\MPs P n ops env H Bs Ψ r
theorem MPs.all:∀ {I:List MK},MPs P n ops env H Bs Ψ I->∀ x ∈ I,MP P n ops env H Bs Ψ x
 | y::r,h,x,hx=>by
  rcases ztD.1 hx with rfl | hx
  . exact h.1
  exact MPs.all h.2 x hx
theorem zsr {dp:List Nat} {op:Op} {ty:TypeId} {ps:String} (hi:ops[i]?=some ⟨some d,op,ty,ps,aft,none⟩) (hb:Nat.blt d n=true) (hΦ:∀ val val' v hx,(∀ m ∈ dp,val m=val' m)->Ψ d val v hx->Ψ d val' v hx)
  (hc:∀ val hn,zdB Ψ val hn dp->∀ w,VI Bs (hpD hn dp H) w->Does P ⟨some d,op,ty,ps,aft,none⟩ (zms val dp env) w (fun v w'=>∃ hx,Ψ d val v hx/\Hands [] [] hx w w')):MP P n ops env H Bs Ψ (i,d,dp,false) :=
 ⟨_,⟨hi,rfl,rfl,hb⟩,hΦ,fun _=>hc,fun h=>tD⟩
theorem Does.new {o:Oper} {f:Nat->Value} (K:Nat) (h:yM P o env w (fun u w'=>∃ b,u=f b/\New w cs e b w')):Does P o env w (fun v w'=>∃ hx,(∃ b,v=f b/\hx=[(K,HE.own b cs e)])/\Hands [] [] hx w w'):=by
 obtain⟨v,w',hr,b,rfl,h1,h2,h3,h4⟩:=h;refine .inl ⟨_,w',hr,_,⟨b,rfl,rfl⟩,h4.mono fun q _ h=>h.elim,fun z hz=>?_,zvX _ _⟩;rw[ztF]at hz;subst hz;exact⟨h3,trivial,fun _ h=>h,fun q hq=>by have hq:q=b:=hq;exact⟨.inr tO,tO⟩⟩
theorem ziL {f:FuncId} {args:Array Value} {Φ:Value->α->Prop} {Hn:α->Hp} (hc:Calls P f args w (Ret fun r w'=>∃ y,Φ r y/\Hands H [] (Hn y) w w')):Calls P f args w (Ret fun r w'=>∃ hx,(∃ y,Φ r y/\hx=Hn y)/\Hands [] [] hx w w'):=by
 refine hc.mono ?_;rintro _ w' ⟨r,rfl,y,h1,h2⟩;refine⟨r,rfl,_,⟨y,h1,rfl⟩,h2.keep.mono fun q _ ⟨x,_,h,_⟩=>by simp[zfH]at h,fun z hz=>?_,h2.apart⟩;obtain⟨g1,g2,g3,g4⟩:=h2.ok z hz;refine⟨g1,g2,g3,fun q hq=>⟨.inr ?_,(g4 q hq).2⟩⟩;rcases (g4 q hq).1 with⟨x,_,h,_⟩ | h
 . simp[zfH]at h
 exact h
theorem zss (fuel j:Nat) (I:List MK) (Ψ:Psi) (hr:zaT ops (zek (I.map (·.1)) listed) I.length I listed=true) (hs:znW I env=true) (hB:Bs.drop j=B0) (hu:qd (Hs.map (·.1))=true) (hM:MPs P n ops env H Bs Ψ I)
  (h:∀ val hn,zdB Ψ val hn (I.map (·.2.1))->Hs.map (fun y=>hget (hpD hn (I.map (·.2.1)) H) y.1)=Hs.map (fun y=>some y.2)/\VD P n Q ks ops Hs B0 L fuel (zek (I.map (·.1)) listed) (zms val (I.map (·.2.1)) env) [] (hpD hn (I.map (·.2.1)) H) Bs) :
  VD P n Q ks ops Hs B0 L (fuel+I.length) listed env A H Bs:=by
 unfold znW at hs;simp only[zu8,zuB,zuD,zwF]at hs;obtain⟨⟨s1,s2⟩,s3⟩:=hs
 let mk:MK->MI:=fun x=>⟨x.1,(ops[x.1]?).getD ⟨none,.nilCheck (.tmp 0),0, "",#[],none⟩,x.2.1,x.2.2.1,x.2.2.2,Ψ x.2.1⟩
 have e1:(I.map mk).map (·.d)=I.map (·.2.1):=by rw[zvy];rfl
 have e2:(I.map mk).map (·.i)=I.map (·.1):=by rw[zvy];rfl
 have e3:(I.map mk).map MI.key=I:=by rw[zvy];exact List.map_id'' (fun x=>rfl) I
 have e4:(I.map mk).length=I.length:=ztH ..
 have da:∀ x ∈ I,∀ val hn,MI.Ds (I.map mk) (mk x) val hn->zdB Ψ val hn x.2.2.1:=fun x hx val hn hD=>dpAll_iff.2 fun m hm=>by
  obtain⟨y,hy,he⟩:=(s3 x hx).2 m hm;obtain⟨z,hz,rfl⟩:=zvI.1 hy;have he:=ztu he;have:=hD (mk z) (zvI.2 ⟨z,hz,rfl⟩) tD
  grind
 rw[<- e4];refine zsp j (I.map mk) (zek (I.map (·.1)) listed) ?_ (by rw[e1];exact kZ s1) (by rw[e2];exact kZ s2) ?_ tD hB hu ?_ ?_ ?_ ?_
 .
  intro y hy;obtain⟨x,hx,rfl⟩:=zvI.1 hy;obtain⟨o,⟨h1,h2,h3,h4⟩,_⟩:=hM.all x hx;have ho:(mk x).o=o:=tD;refine⟨tD,tD,tD,h4,(s3 x hx).1.1,fun m hm=>?_⟩;rw[e1];obtain⟨z,hz,he⟩:=(s3 x hx).2 m hm;rw[<- ztu he];exact hz
 .
  intro y hy;obtain⟨x,hx,rfl⟩:=zvI.1 hy;exact kZ (s3 x hx).1.2
 .
  intro y hy;obtain⟨x,hx,rfl⟩:=zvI.1 hy;obtain⟨o,_,h2,_⟩:=hM.all x hx;exact h2
 .
  intro y hy hq val hn hD w hw;obtain⟨x,hx,rfl⟩:=zvI.1 hy;obtain⟨o,⟨h1,_⟩,_,h3,_⟩:=hM.all x hx;have ho:(mk x).o=o:=by show (ops[x.1]?).getD _=o;rw[h1];rfl
  have:=h3 hq val hn (da x hx val hn hD) w (by rw[zgH];exact hw);rw[zbX]at this;rw[ho];exact this
 .
  intro y hy hq val hn hD;obtain⟨x,hx,rfl⟩:=zvI.1 hy;obtain⟨o,⟨h1,_⟩,_,_,h4⟩:=hM.all x hx;have ho:(mk x).o=o:=by show (ops[x.1]?).getD _=o;rw[h1];rfl
  have:=h4 hq val hn (da x hx val hn hD);rw[zbX]at this;rw[ho];exact this
 intro val hn hY
 have:=h val hn (dpAll_iff.2 fun m hm=>by
  obtain⟨x,hx,rfl⟩:=zvI.1 hm
  exact hY (mk x) (zvI.2 ⟨x,hx,rfl⟩))
 rw[zgH,zbX]at this;rw[e1];refine⟨this.1,?_⟩;rw[show (I.map mk).map (fun x=>(x.d,val x.d))=(I.map (·.2.1)).map (fun m=>(m,val m)) by rw[zvy,zvy];rfl];exact this.2
def phA (K:Nat) (cs:List Value) (t:TypeId):Ph:=fun _ v hx=>∃ b,v=.pointer (some ⟨b,0,none⟩)/\hx=[(K,.own b cs t)]
theorem MP.alloc (K:Nat) {ty:TypeId} {ps:String} (hi:ops[i]?=some ⟨some d,.alloc e,ty,ps,aft,none⟩) (hb:Nat.blt d n=true) (hz:∀ w,(zeroValue e).run P w=.ok z w) (hc:z.cells=cs.toArray) (hΨ:Ψ d=phA K cs e):MP P n ops env H Bs Ψ (i,d,[],false) :=
 zsr hi hb (fun val val' v hx _ h=>by rw[hΨ]at h ⊢;exact h) fun val hn _ w _=>by rw[hΨ];exact Does.new K (M.alloc hz hc)
theorem zhB {v':Value} {l l':List (Nat × Value)} (h:v=v') (h2:l=l'):(m,v)::l=(m,v')::l':=tD
theorem znM {a b c d:Hp} (h:a=b) (h2:c=d):a++c=b++d:=tD
theorem VD.cast {D:List Nat} (A1:Tgs) (vals:List (Nat × Value)) (Hn:Hp) (he:D.map (fun m=>(m,val m))=vals) (hh:D.flatMap hn=Hn) (h1:Hs.map (fun y=>hget (Hn++H) y.1)=Hs.map (fun y=>some y.2)) (hY:A1.map (fun p=>zcJ (vals++env) p.1)=A1.map (fun p=>jc (Hn++H) p.2)) (da:A1.all (fun p=>(jc (Hn++H) p.2).isSome)=true)
  (h:VD P n Q ks ops Hs B0 L fuel listed (vals++env) A1 (Hn++H) Bs) :
  Hs.map (fun y=>hget (hpD hn D H) y.1)=Hs.map (fun y=>some y.2)/\VD P n Q ks ops Hs B0 L fuel listed (zms val D env) [] (hpD hn D H) Bs:=by
 rw[zbX,zgH];subst he hh;exact⟨h1,zsq A1 hY da h⟩
end
end Go.GL
namespace Go.Proofs.YtckdhgbepmpgiaaGreat
open Go.GL
theorem zkR (vs:List Vr) (nh:Nat) (l:List St):∀ (v:Value) (D:Nat->Prop) (w:World) (top:Bool),stepsCodeN vs nh l top=0->SlR 10 RSt D w v l->sbulk l<=1000000->Calls prog 124 #[v] w (Ret fun r w'=>r=.agg #[.int .i64 (cap 1099511627776 (bds l).1),.int .i64 (cap 1099511627776 (bds l).2.1),.int .i64 (cap 1099511627776 (bds l).2.2)]/\Ext w w'):=by
 induction l using zr3 with
 | h l ih =>
 intro v D w top du hl hb;have dO:=hl.max;obtain⟨av,nv,rfl⟩:=hl.form;refine zqQ func124 O ntmps124 O (V.inn (Vs 2 O (V.alloc 2 tz193 O O (fun b2=>?_))));refine Vs 4 O (V.alloc 3 tz193 O O (fun b3=>?_));refine Vs 11 O (zrM (σ:=Nat) [2,3,9,10] [2] [2,3] O (fun e i=>(11,.int .i64 i)::e) (fun e i=>(3,.own b3 [.int .i64 (cap 1099511627776 (bds (l.take i)).1),.int .i64 (cap 1099511627776 (bds (l.take i)).2.1),.int .i64 (cap 1099511627776 (bds (l.take i)).2.2)] 193)::e) (fun i=>i<=l.length) (fun i=>l.length - i) 0 j2 j3 j1 j1 j1 (ztC _) ?_);rintro i hi;refine Vs 6 O (zp4 O (fun dz=>?_) (fun dz=>?_))
 .
  refine Vs 6 O (zrI 1000 0 i tO hl O O O (fun x dQ dR dS dh db dl dm=>?_));obtain⟨dA,dB,dC,dD,rfl,dr,dc,dg,dt⟩:=dm.get;obtain⟨dE,dF,rfl⟩:=dr.form;obtain⟨dG,dH,rfl⟩:=dc.form;obtain⟨dI,dJ,rfl⟩:=dg.form;obtain⟨dK,dL,rfl⟩:=dt.form;refine zrg 1000 tR24 ts72 O dl tO _ rfl O ?_;have dM:=zgE dh;have da:0<=(bds (l.take i)).1/\0<=(bds (l.take i)).2.1/\0<=(bds (l.take i)).2.2:=ziH du i;obtain⟨last,dw⟩:=qc l top du x db;obtain⟨hS,_,_,dx,dy⟩:=qu dw;have hY:=hS.cost;have n1:=xq x.thn _ dx;have n2:=xq x.els _ dy;have y:=zaR dw;have dN:=kO db;rw[St.bulk_eq]at dN;have z0:(0:Int)<=1099511627776:=tS;have r1:=zF n1.1 z0;have r2:=zF n1.2.1 z0;have r3:=zF n1.2.2 z0;have r4:=zF n2.1 z0;have r5:=zF n2.2.1 z0;have r6:=zF n2.2.2 z0;have t1:=zF da.1 z0;have t2:=zF da.2.1 z0;have t3:=zF da.2.2 z0
  have fin:∀ a b c:Int,0<=a->0<=b->0<=c->cap 1099511627776 a=cap 1099511627776 (qO x).1->cap 1099511627776 b=cap 1099511627776 (qO x).2.1->cap 1099511627776 c=cap 1099511627776 (qO x).2.2 ->
    HE.own b3 [.int .i64 (min (cap 1099511627776 (bds (l.take i)).1+a) 1099511627776),.int .i64 (min (cap 1099511627776 (bds (l.take i)).2.1+b) 1099511627776),.int .i64 (min (cap 1099511627776 (bds (l.take i)).2.2+c) 1099511627776)] 193=HE.own b3 [.int .i64 (cap 1099511627776 (bds (l.take (i+1))).1),.int .i64 (cap 1099511627776 (bds (l.take (i+1))).2.1),.int .i64 (cap 1099511627776 (bds (l.take (i+1))).2.2)] 193:=by
   intro a b c ha hb hc e1 e2 e3;rw[dM,zat da.1 y.1 ha e1,zat da.2.1 y.2.1 hb e2,zat da.2.2 y.2.2 hc e3]
  refine Vs 1 O (V.alloc 5 tz72 O O (fun b5=>?_));refine Vs 7 O (zrW [Value.int IntKind.i64 0,Value.int IntKind.i64 0,Value.int IntKind.i64 0] [(0,1),(1,1),(2,1)] [(0,_),(2,_)] O O (fun _=>tK) (V.alloc 6 tz193 O O (fun b6=>?_)));refine Vs 4 O (Vw [2,3,1000,5,6] [] O (Vd [0,1,3,4] 0 tK O O O (zss 2 0 [(2,20,[],false),(5,23,[],false),(6,7,[],false),(7,8,[],false)] (psi [(20,fun _ v hx=>∃ y:Unit,v=.agg #[.int .i64 (cap 1099511627776 (bds (x.thn)).1),.int .i64 (cap 1099511627776 (bds (x.thn)).2.1),.int .i64 (cap 1099511627776 (bds (x.thn)).2.2)]/\hx=[]),(23,fun _ v hx=>∃ y:Unit,v=.agg #[.int .i64 (cap 1099511627776 (bds (x.els)).1),.int .i64 (cap 1099511627776 (bds (x.els)).2.1),.int .i64 (cap 1099511627776 (bds (x.els)).2.2)]/\hx=[]),(7,phA 7 [Value.int IntKind.i64 0,Value.int IntKind.i64 0,Value.int IntKind.i64 0] 193),(8,phA 8 [Value.int IntKind.i64 0,Value.int IntKind.i64 0,Value.int IntKind.i64 0] 193)]) tK tK O O ⟨?_,?_,?_,?_,True.intro⟩ ?_)))
  . exact zsr O O (fun _ _ _ _ _ h=>h) (fun val hn _ w hI=>Does.call (F.call call124 (yr O)) (ziL (H:=[]) (zey ((ih x db).1 _ _ _ _ dx JK tO))))
  . exact zsr O O (fun _ _ _ _ _ h=>h) (fun val hn _ w hI=>Does.call (F.call call124 (yr O)) (ziL (H:=[]) (zey ((ih x db).2 _ _ _ _ dy il tO))))
  . exact MP.alloc 7 O O tz193 O O
  . exact MP.alloc 8 O O tz193 O O
  rintro val hn ⟨⟨u1,e20,n20⟩,⟨u2,e23,n23⟩,⟨b7,e7,n7⟩,⟨b8,e8,n8⟩,_⟩;refine VD.cast [(2,some (2,0)),(3,some (3,0)),(5,some (5,0)),(6,some (6,0)),(13,some (1000,0)),(15,some (5,1)),(18,some (5,7)),(21,some (5,8)),(7,some (7,0)),(8,some (8,0))] _ _ (zhB e20 (zhB e23 (zhB e7 (zhB e8 rfl)))) (znM n20 (znM n23 (znM n7 (znM n8 rfl)))) O O O ?_;clear n20 n23 n7 n8;refine Ve 8 0 O tK O O O (Ve 9 0 O tK O O O (VD.done tK (Vs 15 O (zp4 O (fun a1=>?_) (fun a1=>?_)))))
  .
   obtain⟨g1,g2⟩:=hS.free tO tO;have eB:qO x=(1,1,x.cost):=by rw[yY,g1,g2,ztx tO];simp[bds,a1]
   refine Va 42 O tO (zrL 3 O (e':=.own b3 [.int .i64 (cap 1099511627776 (bds (l.take (i+1))).1),.int .i64 (cap 1099511627776 (bds (l.take (i+1))).2.1),.int .i64 (cap 1099511627776 (bds (l.take (i+1))).2.2)] 193) (fin 1 1 x.cost tS tS hY.1 (by rw[eB]) (by rw[eB]) (by rw[eB])) (Va 4 O tO (V.back (i+1) j2 j3 tO tZ 0 O O)))
  refine Vs 6 O (zp4 O (fun a3=>?_) (fun a3=>?_))
  .
   have n4:¬ x.act=4:=tO;refine Va 75 O tO (zrL 3 O (e':=.own b3 [.int .i64 (cap 1099511627776 (bds (l.take (i+1))).1),.int .i64 (cap 1099511627776 (bds (l.take (i+1))).2.1),.int .i64 (cap 1099511627776 (bds (l.take (i+1))).2.2)] 193) (fin _ _ _ tO tO tO (by rw[yY,ztx n4];exact zdA tO n1.1 n2.1) (by rw[yY,ztx n4];simp only[a1,if_false];exact zgF n1.2.1 n2.2.1) (by rw[yY,ztx n4];exact zdA hY.1 n1.2.2 n2.2.2)) (Va 4 O tO (V.back (i+1) j2 j3 tO tZ 0 O O)))
  refine Vs 6 O (zp4 O (fun a4=>?_) (fun a4=>?_))
  .
   have hr:=hS.rep a4;have p1:=qR x.n (1+cap 1099511627776 (bds x.thn).1) 4096 1099511627777 hr.1 hr.2.1 tO tO;have p2:=qR x.n (cap 1099511627776 (bds x.thn).2.1) 4096 1099511627776 hr.1 hr.2.1 tO tO;have p3:=qR x.n (x.cost+cap 1099511627776 (bds x.thn).2.2) 4096 1099578736640 hr.1 hr.2.1 tO tO;have q1:=ztS hr.1 (show 0<=1+(bds x.thn).1 by omega);refine Va 76 O tO (zrL 3 O (e':=.own b3 [.int .i64 (cap 1099511627776 (bds (l.take (i+1))).1),.int .i64 (cap 1099511627776 (bds (l.take (i+1))).2.1),.int .i64 (cap 1099511627776 (bds (l.take (i+1))).2.2)] 193) (fin _ _ _ tO p2.1 p3.1 (by rw[yY,zty a4];exact ziG p1.1 q1 (zbU hr.1 tO n1.1 tO)) (by rw[yY,zty a4];exact zgG hr.1 n1.2.1 tO) (by rw[yY,zty a4];exact zbU hr.1 hY.1 n1.2.2 tO)) (Va 4 O tO (V.back (i+1) j2 j3 tO tZ 0 O O)))
  obtain⟨g1,g2⟩:=hS.free a3 a4;have eB:qO x=(1,0,x.cost):=by rw[yY,g1,g2,ztx a4];simp[bds,a1]
  refine Va 39 O tO (zrL 3 O (e':=.own b3 [.int .i64 (cap 1099511627776 (bds (l.take (i+1))).1),.int .i64 (cap 1099511627776 (bds (l.take (i+1))).2.1),.int .i64 (cap 1099511627776 (bds (l.take (i+1))).2.2)] 193) (fin 1 0 x.cost tS tS hY.1 (by rw[eB]) (by rw[eB]) (by rw[eB])) (Va 4 O tO (V.back (i+1) j2 j3 tO tZ 0 O O)))
 obtain rfl:i=l.length:=tO;refine zrL 3 O (e':=.own b3 [.int .i64 (cap 1099511627776 (bds (l)).1),.int .i64 (cap 1099511627776 (bds (l)).2.1),.int .i64 (cap 1099511627776 (bds (l)).2.2)] 193) (by rw[zts]) (Vs 12 O (zpu results124 isAgg193 sizeOf193 O O O (fun w hI=>⟨_,rfl,rfl,hI.k0⟩)))
def qi (f:Fl):Bool:=decide (f.vars.length<=64)&&decide (f.hatches.length<=8)&&f.hatches.all (fun h=>decide (h.term.depth<=12))&&(decide (sdepth f.body<=12)&&!stdeep f.body)
theorem zfU (f:Fl) (v1 v2 v3:Value) (D:Nat->Prop) (w:World) (hf:RFl D w f v1 v2 v3) (dz:snodes f.body+zz f.hatches<=1024):Calls prog 59 #[.agg #[v1,v2,v3]] w (Ret fun r w'=>r=.bool (qi f)/\Ext w w'):=by
 obtain⟨dr,dg,dh⟩:=hf;have dA:=dr.max;have dB:=dg.max;obtain⟨a1,n1,rfl⟩:=dr.form;obtain⟨a2,n2,rfl⟩:=dg.form;refine zqQ func59 O ntmps59 O (V.inn (Vs 2 O (V.box 1 O O (fun b1=>?_))));refine Vs 11 O (V.sp 9 O (fun g1=>?_) (fun g1=>?_))
 . refine Vs 15 O (zrz 0 tr59 O O (by unfold qi;rw[ztA (show ¬ f.vars.length<=64 by omega)];rfl))
 refine Vs 7 O (zp4 O (fun g2=>?_) (fun g2=>?_))
 . refine Vs 7 O (zrz 0 tr59 O O (by unfold qi;rw[ztA (show ¬ f.hatches.length<=8 by omega),zu9];rfl))
 have dl:qi f=(f.hatches.all (fun h=>decide (h.term.depth<=12))&&(decide (sdepth f.body<=12)&&!stdeep f.body)):=by
  unfold qi;rw[ztz (show f.vars.length<=64 by omega),ztz (show f.hatches.length<=8 by omega)];rfl
 refine Vs 6 O (zrs call104 O (fun w hI=>zfM f.body _ D w im tO) (Vs 10 O (zrM (σ:=Nat) [1] [1] [1] O (fun e i=>(3,.int .i64 (snodes f.body+zz (f.hatches.take i):Nat))::(4,.int .i64 i)::e) (fun e i=>e) (fun i=>i<=f.hatches.length/\(f.hatches.take i).all (fun h=>decide (h.term.depth<=12))=true) (fun i=>f.hatches.length - i) 0 j2 j3 j1 j1 j1 y8 ?_)));rintro i ⟨hi,hY⟩;refine Vs 10 O (zp4 O (fun dt=>?_) (fun dt=>?_))
 .
  refine zrI 1000 0 i tO dg O O O (fun x dC dD dE da du dc dm=>?_);obtain⟨dw,rfl,db⟩:=dm;obtain⟨dx,dy,rfl⟩:=db.form;have dF:=qa da;have dG:=kz da;have dH:x.term.depth<=x.term.nodes:=by have:=zaM [x.term];simp[tdepth,tnodes]at this;exact this
  refine Vs 10 O ?_;refine zrg 1000 tR23 ts109 O dc tO _ rfl O (Vs 2 O (zrs call105 O (fun w hI=>jF x.term _ D w U2 tO) (Va 9 O tO ?_)));refine zrg 1000 tR23 ts109 O dc tO _ rfl O (Vs 2 O (zrs call106 O (fun w hI=>jG x.term _ D w U2 tO) (Vs 3 O (zp4 O (fun dd=>?_) (fun dd=>?_)))))
  .
   have dI:f.hatches.all (fun h=>decide (h.term.depth<=12))=false:=by
    grind
   refine Vs 11 O (zrz 0 tr59 O O tD)
  refine Va 8 O tO (V.back (i+1) Uf j3 ⟨tO,by rw[ze da,zuA,hY];simp;omega⟩ tO 0 O O)
 obtain rfl:i=f.hatches.length:=tO;rw[zts]at hY;rw[hY,zui]at dl;have dJ:=jE f.body;refine Vs 10 O (V.sp 44 O (fun gn=>?_) (fun gn=>?_))
 .
  refine Vs 2 O (zrs call107 O (fun w hI=>zbJ f.body _ D w im tO) (Vs 3 O (V.sp 50 O (fun gd=>?_) (fun gd=>?_))))
  . refine Vs 2 O (zrs call108 O (fun w hI=>zbK f.body _ D w im tO) (zqH O (fun w hI=>zqi O j6) (Vs 5 O (zrz 0 tr59 O O tD))))
  refine Vs 9 O (zrz 0 tr59 O O tD)
 grind
theorem zbY (vs:List Vr) (vv:Value) (D:Nat->Prop) (w:World) (db:SlR 5 RVr D w vv vs):Calls prog 60 #[vv] w (Ret fun r w'=>r=.int .i64 (zr vs)/\Ext w w'):=by
 have dD:=db.max;obtain⟨av,nv,rfl⟩:=db.form;refine zqQ func60 O ntmps60 O (V.inn (Vs 12 O (zrM (σ:=Nat) [0] [] [] O (fun e i=>(3,.int .i64 i)::e) (fun e i=>e) (fun i=>i<=vs.length/\(∀ j,j<i->kW vs j=0)) (fun i=>vs.length - i) 0 j2 j3 j1 j1 j1 JB ?_)));rintro i ⟨hi,dc⟩;refine Vs 9 O (zp4 O (fun dx=>?_) (fun dx=>?_))
 .
  refine Vs 8 O (zrI 1000 0 i tO db O O O (fun x dE dF dG dl dy dm dr=>?_));obtain rfl:=dr;refine zrg 1000 tR22 ts142 O dm tO _ rfl O ?_;have dz:=zbb dl
  have da:∀ c:Int,zO (vs.take i) x=c->c ≠ 0->zr vs=c:=by
   intro c h1 h2;have h3:kW vs i ≠ 0:=tO;rw[zr,jk dc tO h3,zty h3,dz,h1]
  have hY:zO (vs.take i) x=0->∀ j,j<i+1->kW vs j=0:=by
   grind
  refine Vs 1 O (V.alloc 4 tz142 O O (fun b4=>?_));refine Vs 8 O (zrs call61 O (fun w hI=>zaN x.name w) (zqH O (fun w hI=>zqi O j6) (Vs 2 O (V.bool O (fun n0=>?_) (fun n0=>?_)))))
  .
   have n0':zcy x.name=false:=by simpa using n0
   refine Vs 12 O (zrz 0 tr60 O O (by rw[da 7 (by rw[zO,zty n0']) tS]))
  have n0':¬ zcy x.name=false:=by simpa using n0
  refine Vs 9 O (zrM (σ:=Nat) [0,3,4] [4] [4] O (fun e j=>(5,.int .i64 j)::e) (fun e j=>e) (fun j=>j<=i/\(vs.take j).any (fun u=>yd u.name x.name)=false) (fun j=>i - j) 0 j2 j3 j1 j1 j1 y8 ?_);rintro j ⟨hj,dA⟩;refine Vs 8 O (zp4 O (fun dB=>?_) (fun dB=>?_))
  .
   refine zrI 2000 0 j tO db O O O (fun y dH dI dJ dg dC dt du=>?_);obtain rfl:=du;refine Vs 5 O (Vq tK (Vs 2 O (zrj 2000 tR22 ts142 O dt tO (j) tO O (Vs 7 O (zp4 O (fun hd=>?_) (fun hd=>?_))))))
   .
    have dw:(vs.take i).any (fun u=>yd u.name x.name)=true:=by
     rw[zuD];refine⟨y,zto (i:=j) (by rw[ztT,zty tO];exact dg),?_⟩;unfold yd;exact ztz hd
    refine Vs 16 O (zrz 0 tr60 O O (by rw[da 8 (by rw[zO,ztx n0',zty dw]) tS]))
   refine Va 8 O tO (V.back (j+1) j2 j3 ⟨tO,by rw[ze dg,zuC,dA];simp[yd,hd]⟩ tO 0 O O)
  obtain rfl:j=i:=tO;have n1:¬ (vs.take j).any (fun u=>yd u.name x.name)=true:=tD;refine Vs 7 O (zrN (σ:=Unit) [0,3,4] [4] [4] O (fun e u=>(50,.bool (decide (¬ (0<=x.kind/\x.kind<=3))))::e) (fun e u=>e) (fun u=>True) j1 j1 ?_ ?_)
  .
   refine Vs 5 O (V.sp 36 O (fun k1_=>?_) (fun k1_=>?_))
   .
    refine Vs 5 O (V.sp 41 O (fun k2_=>?_) (fun k2_=>?_))
    .
     refine Vs 5 O (V.sp 46 O (fun k3_=>?_) (fun k3_=>?_))
     . refine Vs 5 O (zpi () Ub j3 trivial 0 O O)
     refine Vs 5 O (zpi () Ub j3 trivial 0 O O)
    refine Vs 10 O (zpi () Ub j3 trivial 0 O O)
   refine Vs 15 O (zpi () Ub j3 trivial 0 O O)
  rintro u _;refine Vs 1 O (zp4 O (fun n2=>?_) (fun n2=>?_))
  . refine Vs 12 O (zrz 0 tr60 O O (by rw[da 1 (by rw[zO,ztx n0',ztx n1,zty n2]) tS]))
  refine Vs 9 O (zrs call62 O (fun w hI=>kT x.low x.high w) (zqH O (fun w hI=>zqi O j6) (Vs 2 O (V.bool O (fun n3=>?_) (fun n3=>?_)))))
  .
   have n3':zb9 x.low x.high=false:=by simpa using n3
   refine Vs 12 O (zrz 0 tr60 O O (by rw[da 3 (by rw[zO,ztx n0',ztx n1,ztx n2,zty n3']) tS]))
  have n3':¬ zb9 x.low x.high=false:=by simpa using n3
  have b4':x.kind=0/\(x.init<x.low\/x.high<x.init)\/x.kind ≠ 0/\x.init ≠ 0->zr vs=3:=fun h=>da 3 (by rw[zO,ztx n0',ztx n1,ztx n2,ztx n3',zty h]) tS;have g4:¬ (x.kind=0/\(x.init<x.low\/x.high<x.init)\/x.kind ≠ 0/\x.init ≠ 0)->zO (vs.take j) x=0:=fun h=>by rw[zO,ztx n0',ztx n1,ztx n2,ztx n3',ztx h]
  refine Vs 8 O (V.sp 60 O (fun k1_=>?_) (fun k1_=>?_))
  .
   refine Vs 6 O (V.sp 66 O (fun k2_=>?_) (fun k2_=>?_))
   . refine Vs 31 O (zrz 0 tr60 O O tD)
   refine Vs 8 O (V.sp 74 O (fun k3_=>?_) (fun k3_=>?_))
   . refine Vs 23 O (zrz 0 tr60 O O tD)
   refine Vs 4 O (V.sp 78 O (fun k4_=>?_) (fun k4_=>?_))
   .
    refine Vs 7 O (zp4 O (fun k5_=>?_) (fun k5_=>?_))
    . refine Vs 11 O (zrz 0 tr60 O O tO)
    refine Va 8 O tO (V.back (j+1) j2 j3 JP tO 0 O O)
   refine Va 16 O tO (V.back (j+1) j2 j3 JP tO 0 O O)
  refine Vs 18 O (V.sp 78 O (fun k2_=>?_) (fun k2_=>?_))
  .
   refine Vs 7 O (zp4 O (fun k3_=>?_) (fun k3_=>?_))
   . refine Vs 11 O (zrz 0 tr60 O O tD)
   refine Va 8 O tO (V.back (j+1) j2 j3 JP tO 0 O O)
  refine Va 16 O tO (V.back (j+1) j2 j3 JP tO 0 O O)
 obtain rfl:i=vs.length:=tO;have hg:=qI dc;have hz:=qj dc;have dh:∀ v ∈ vs,yT (v.low,v.high):=fun v hv=>(hg v hv).1;have hv:zr vs=if xh vs then 4 else 0:=by rw[zr,ztx tO]
 have sp:∀ k n,zl k vs=some n->1<=n/\n<=4096:=fun k n h=>yg k vs 1 n dh tO tO h
 have isN:∀ k,(4096:Int)<(zl k vs).getD 4097 ↔ (zl k vs).isNone=true:=by
  intro k;cases h:zl k vs with
  | none=>simp
  | some n=>have:=sp k n h;simp;omega
 refine Vs 9 O (zrs call109 O (fun w hI=>ji vs 1 _ D w dh iQ) (Vs 2 O (V.sp 87 O (fun s1=>?_) (fun s1=>?_))))
 . refine Vs 19 O (zrz 0 tr60 O O (by rw[hv,xh,(isN 1).1 s1];rfl))
 have s1':(zl 1 vs).isNone=false:=by rw[zua];exact fun h=>s1 ((isN 1).2 h)
 refine Vs 1 O (zrs call109 O (fun w hI=>ji vs 2 _ D w dh iQ) (Vs 3 O (V.sp 92 O (fun s2=>?_) (fun s2=>?_))))
 . refine Vs 14 O (zrz 0 tr60 O O (by rw[hv,xh,s1',(isN 2).1 s2];rfl))
 have s2':(zl 2 vs).isNone=false:=by rw[zua];exact fun h=>s2 ((isN 2).2 h)
 refine Vs 1 O (zrs call109 O (fun w hI=>ji vs 3 _ D w dh iQ) (Vs 4 O (zp4 O (fun s3=>?_) (fun s3=>?_))))
 . refine Vs 7 O (zrz 0 tr60 O O (by rw[hv,zcO s1' s2',ztz s3];rfl))
 refine Vs 8 O (zrz 0 tr60 O O (by rw[hv,zcO s1' s2',ztA s3];rfl))
def zdC (f:Fl):Bool:=decide (4096<(bds f.body).1) || decide (8<(bds f.body).2.1) || decide (67108864<(bds f.body).2.2)
def yq (f:Fl):Int :=
 if qi f=false then 4
 else if zr f.vars ≠ 0 then zr f.vars
 else if zw f.vars f.hatches ≠ 0 then zw f.vars f.hatches
 else if stepsCodeN f.vars f.hatches.length f.body true ≠ 0 then stepsCodeN f.vars f.hatches.length f.body true
 else if zdC f then 4 else 0
theorem zbZ (h:zr vs=0):∀ v ∈ vs,yT (v.low,v.high):=by
 have h1:∀ j,j<vs.length->kW vs j=0:=by
  unfold zr at h;split at h
  . omega
  rename_i h2;intro j hj;exact qb vs.length 0 tO j (ztC _) tO
 exact fun v hv=>(qI h1 v hv).1
theorem zc0 (f:Fl) (v1 v2 v3:Value) (D:Nat->Prop) (w:World) (hf:RFl D w f v1 v2 v3) (dC:snodes f.body+zz f.hatches<=1024) (dB:sbulk f.body<=1000000):Calls prog 29 #[.agg #[v1,v2,v3]] w (Ret fun r w'=>r=.int .i64 (yq f)/\Ext w w'):=by
 obtain⟨da,db,dr⟩:=hf;have dR:=da.max;have dS:=db.max;obtain⟨a1,n1,rfl⟩:=da.form;obtain⟨a2,n2,rfl⟩:=db.form;have hf:∀ {w':World},Ext w w'->RFl D w' f (.slice a1 f.vars.length n1) (.slice a2 f.hatches.length n2) v3:=fun h=>⟨da.ext yI h,db.ext yO h,dr.ext zg h⟩;refine zqQ func29 O ntmps29 O (V.inn (Vs 2 O (V.box 1 O O (fun b1=>?_))));refine Vs 7 O (zrs call59 O (fun w hI=>zfU f _ _ _ D w (hf hI.k0) dC) (zqH O (fun w hI=>zqi O j6) (Vs 2 O (V.bool O (fun s0=>?_) (fun s0=>?_)))))
 .
  have s0':qi f=false:=by simpa using s0
  refine Vs 7 O (zrz 0 tr29 O O (by rw[yq,zty s0']))
 have s0':¬ qi f=false:=by simpa using s0
 refine Vs 6 O (zrs call60 O (fun w hI=>zbY f.vars _ D w iT) (Vs 10 O (zp4 O (fun vz=>?_) (fun vz=>?_))))
 . refine Vs 8 O (zrz 0 tr29 O O (by rw[yq,ztx s0',zty vz]))
 have hg:=zbZ (show zr f.vars=0 by omega);have dt:yq f=if zw f.vars f.hatches ≠ 0 then zw f.vars f.hatches else if stepsCodeN f.vars f.hatches.length f.body true ≠ 0 then stepsCodeN f.vars f.hatches.length f.body true else if zdC f then 4 else 0:=by rw[yq,ztx s0',ztx vz]
 refine Vs 9 O (zrM (σ:=Nat) [1] [1] [1] O (fun e i=>(4,.int .i64 i)::e) (fun e i=>e) (fun i=>i<=f.hatches.length/\(∀ j,j<i->jl f.vars f.hatches j=0)) (fun i=>f.hatches.length - i) 0 j2 j3 j1 j1 j1 JB ?_);rintro i ⟨hi,dc⟩;refine Vs 10 O (zp4 O (fun dD=>?_) (fun dD=>?_))
 .
  refine Vs 9 O (zrI 1000 0 i tO db O O O (fun x dT dU dV dg dE du dw=>?_));obtain⟨dF,rfl,dh⟩:=dw;obtain⟨dG,dH,rfl⟩:=dh.form;refine zrg 1000 tR23 ts109 O du tO _ rfl O ?_;have dI:=zas (vs:=f.vars) dg
  have hY:∀ c:Int,zL f.vars (f.hatches.take i) x=c->c ≠ 0->yq f=c:=by
   intro c h1 h2;have h3:jl f.vars f.hatches i ≠ 0:=tO;have h4:zw f.vars f.hatches=c:=by rw[zw,jk dc tO h3,dI,h1]
   omega
  have dl:zL f.vars (f.hatches.take i) x=0->∀ j,j<i+1->jl f.vars f.hatches j=0:=by
   grind
  have dW:=qa dg;refine Vs 1 O (V.alloc 5 tz109 O O (fun b5=>?_));refine Vs 8 O (zrs call61 O (fun w hI=>zaN x.name w) (zqH O (fun w hI=>zqi O j6) (Vs 2 O (V.bool O (fun n0=>?_) (fun n0=>?_)))))
  .
   have n0':zcy x.name=false:=by simpa using n0
   refine Vs 12 O (zrz 0 tr29 O O (by rw[hY 7 (by rw[zL,zty n0']) tS]))
  have n0':¬ zcy x.name=false:=by simpa using n0
  refine Vs 9 O (zrM (σ:=Nat) [1,4,5] [1,5] [1,5] O (fun e j=>(6,.int .i64 j)::e) (fun e j=>e) (fun j=>j<=i/\(f.hatches.take j).any (fun u=>yd u.name x.name)=false) (fun j=>i - j) 0 j2 j3 j1 j1 j1 y8 ?_);rintro j ⟨hj,dJ⟩;refine Vs 8 O (zp4 O (fun dK=>?_) (fun dK=>?_))
  .
   refine zrI 2000 0 j tO db O O O (fun y dX dY dZ dm dL dx dy=>?_);obtain⟨dM,rfl,dz⟩:=dy;obtain⟨dN,dO,rfl⟩:=dz.form;refine Vs 5 O (Vq tK (Vs 3 O ?_));refine zrj 2000 tR23 ts109 O dx tO _ rfl O (Vs 7 O (zp4 O (fun hd=>?_) (fun hd=>?_)))
   .
    have dA:(f.hatches.take i).any (fun u=>yd u.name x.name)=true:=by
     rw[zuD];refine⟨y,zto (i:=j) (by rw[ztT,zty tO];exact dm),?_⟩;unfold yd;exact ztz hd
    refine Vs 16 O (zrz 0 tr29 O O (by rw[hY 8 (by rw[zL,ztx n0',zty dA]) tS]))
   refine Va 8 O tO (V.back (j+1) j2 j3 ⟨tO,by rw[ze dm,zuC,dJ];simp[yd,hd]⟩ tO 0 O O)
  obtain rfl:j=i:=tO;have n1:¬ (f.hatches.take j).any (fun u=>yd u.name x.name)=true:=tD;refine Vs 12 O (zrs call62 O (fun w hI=>kT x.low x.high w) (zqH O (fun w hI=>zqi O j6) (Vs 2 O (V.bool O (fun n3=>?_) (fun n3=>?_)))))
  .
   have n3':zb9 x.low x.high=false:=by simpa using n3
   refine Vs 12 O (zrz 0 tr29 O O (by rw[hY 3 (by rw[zL,ztx n0',ztx n1,zty n3']) tS]))
  have n3':¬ zb9 x.low x.high=false:=by simpa using n3
  have d5:zL f.vars (f.hatches.take j) x=zD f.vars true x.term:=by rw[zL,ztx n0',ztx n1,ztx n3']
  refine Vs 8 O (zrs call63 O (fun w hI=>jI f.vars true _ _ D D w x.term hg iT (RTm.put im) tO) (Vs 9 O (zp4 O (fun tz=>?_) (fun tz=>?_))))
  . refine Vs 12 O Jw
  refine Va 8 O tO (V.back (j+1) j2 j3 ⟨tO,dl tO⟩ tO 0 O O)
 obtain rfl:i=f.hatches.length:=tO;have dQ:zw f.vars f.hatches=0:=qj dc;rw[dQ,ztx tS]at dt;refine Vs 10 O (zrs call64 O (fun w hI=>zdz f _ _ _ hg D f.body _ D w true (hf hI.k0) (Tr1 hI.k0 dr) dB) (Vs 10 O (zp4 O (fun sz=>?_) (fun sz=>?_))))
 . refine Vs 8 O Jw
 rw[ztx sz]at dt;refine Vs 6 O (zrs call65 O (fun w hI=>zaS f.vars f.hatches.length f.body _ D w true tO (Tr1 hI.k0 dr) dB) ?_)
 have ho:zdC f=(decide (4096<cap 4097 (bds f.body).1) || decide (8<cap 9 (bds f.body).2.1) || decide (67108864<cap 67108865 (bds f.body).2.2)):=by
  unfold zdC cap;congr 1;congr 1;all_goals (rw[ztP];omega)
 rw[ho]at dt;refine Vs 15 O (zqB 79 O (fun k1_=>?_) (fun k1_=>?_))
 . refine Vs 17 O Jw
 refine Vs 4 O (zqB 83 O (fun k2_=>?_) (fun k2_=>?_))
 . refine Vs 13 O Jw
 refine Vs 5 O (V.bool O (fun k3_=>?_) (fun k3_=>?_))
 . refine Vs 7 O Jw
 refine Vs 8 O Jw
theorem zfV (vs:List Vr) (vv:Value) (D:Nat->Prop) (w:World) (dh:SlR 5 RVr D w vv vs) (dm:vs.length<=1000000):Calls prog 121 #[vv] w (Ret fun r w'=>r=.int .i64 (zr vs)/\Ext w w'):=by
 obtain⟨av,nv,rfl⟩:=dh.form;have dC:=dh.len_cap.2;refine zqQ func121 O ntmps121 O (V.inn (Vs 13 O (zrN (σ:=Unit) [0] [] [] O (fun e u=>e) (fun e u=>e) (fun u=>∀ j,j<vs.length->kW vs j=0) j1 j1 ?_ ?_)))
 .
  refine Vs 1 O (zrM (σ:=Nat) [0,10,11] [] [] O (fun e i=>(12,.int .i64 i)::e) (fun e i=>e) (fun i=>i<=vs.length/\(∀ j,j<i->kW vs j=0)) (fun i=>vs.length - i) 0 j2 j3 j1 j1 j1 JB ?_);rintro i ⟨hi,db⟩;refine Vs 6 O (zp4 O (fun dr=>?_) (fun dr=>?_))
  .
   refine Vs 7 O (zrI 1000 0 i tO dh O O O (fun x dD dE dF dt dx du dw=>?_));obtain rfl:=dw;refine zrg 1000 tR22 ts142 O du tO _ rfl O ?_;have dy:=zbb dt
   have dc:∀ c:Int,zO (vs.take i) x=c->c ≠ 0->zr vs=c:=by
    intro c h1 h2;have h3:kW vs i ≠ 0:=tO;rw[zr,jk db tO h3,zty h3,dy,h1]
   have hY:zO (vs.take i) x=0->∀ j,j<i+1->kW vs j=0:=by
    grind
   refine Vs 1 O (V.alloc 4 tz142 O O (fun b4=>?_));refine Vs 15 O (zrs call157 O (fun w hI=>kS x.name w) (zqH O (fun w hI=>zqi O j6) (Vs 3 O (V.bool O (fun n0=>?_) (fun n0=>?_)))))
   .
    have n0':zcy x.name=false:=by simpa using n0
    refine Vs 13 O (zrz 0 tr121 O O (by rw[dc 7 (by rw[zO,zty n0']) tS]))
   have n0':¬ zcy x.name=false:=by simpa using n0
   refine Vs 4 O (zqH O (fun w hI=>zqc tR22 ts142 O O tO) (Vs 1 O (zrs call158 O (fun w hI=>zeH (vs.take i) _ D w ((Tr1 hI.k0 dh).take i tO) (fun u=>yd u.name x.name) 156 (.pointer (some ⟨b4,0,none⟩)) call156 (fun y _ w' dz=>zkL y x b4 w' (dz.blk (hI.at 4 O) (fun h=>h)))) (Vs 3 O (V.bool O (fun d0=>?_) (fun d0=>?_))))))
   . refine Vs 13 O (zrz 0 tr121 O O (by rw[dc 8 (by rw[zO,ztx n0',zty d0]) tS]))
   have n1:¬ (vs.take i).any (fun u=>yd u.name x.name)=true:=by rw[d0];decide
   refine Vs 1 O (zrN (σ:=Unit) [0,4,10,11,12] [4] [4] O (fun e u=>(29,.bool (decide (¬ (0<=x.kind/\x.kind<=3))))::e) (fun e u=>e) (fun u=>True) j1 j1 ?_ ?_)
   .
    refine Vs 5 O (V.sp 33 O (fun k1_=>?_) (fun k1_=>?_))
    . refine Vs 6 O (zpi () Ub j3 trivial 0 O O)
    refine Vs 6 O (zpi () Ub j3 trivial 0 O O)
   rintro u _;refine Vs 1 O (zp4 O (fun n2=>?_) (fun n2=>?_))
   . refine Vs 13 O (zrz 0 tr121 O O (by rw[dc 1 (by rw[zO,ztx n0',ztx n1,zty n2]) tS]))
   refine Vs 7 O (zrs call88 O (fun w hI=>qN x.low x.high w) (zqH O (fun w hI=>zqi O j6) (Vs 3 O (V.bool O (fun n3=>?_) (fun n3=>?_)))))
   .
    have n3':zb9 x.low x.high=false:=by simpa using n3
    refine Vs 16 O (zrz 0 tr121 O O (by rw[dc 3 (by rw[zO,ztx n0',ztx n1,ztx n2,zty n3']) tS]))
   have n3':¬ zb9 x.low x.high=false:=by simpa using n3
   have b4':x.kind=0/\(x.init<x.low\/x.high<x.init)\/x.kind ≠ 0/\x.init ≠ 0->zr vs=3:=fun h=>dc 3 (by rw[zO,ztx n0',ztx n1,ztx n2,ztx n3',zty h]) tS;have g4:¬ (x.kind=0/\(x.init<x.low\/x.high<x.init)\/x.kind ≠ 0/\x.init ≠ 0)->zO (vs.take i) x=0:=fun h=>by rw[zO,ztx n0',ztx n1,ztx n2,ztx n3',ztx h]
   refine Vs 6 O (V.sp 48 O (fun k1_=>?_) (fun k1_=>?_))
   .
    refine Vs 7 O (zp4 O (fun k2_=>?_) (fun k2_=>?_))
    . refine Vs 16 O UM
    refine Vs 5 O (V.sp 56 O (fun k3_=>?_) (fun k3_=>?_))
    .
     refine Vs 6 O (V.sp 62 O (fun k4_=>?_) (fun k4_=>?_))
     . refine Vs 24 O (zrz 0 tr121 O O tO)
     refine Vs 10 O (zp4 O (fun k5_=>?_) (fun k5_=>?_))
     . refine Vs 13 O (zrz 0 tr121 O O tO)
     refine Va 8 O tO (V.back (i+1) j2 j3 JP tO 0 O O)
    refine Va 25 O tO (V.back (i+1) j2 j3 JP tO 0 O O)
   refine Vs 13 O (V.sp 56 O (fun k2_=>?_) (fun k2_=>?_))
   .
    refine Vs 6 O (V.sp 62 O (fun k3_=>?_) (fun k3_=>?_))
    . refine Vs 24 O UM
    refine Vs 10 O (zp4 O (fun k4_=>?_) (fun k4_=>?_))
    . refine Vs 13 O UM
    refine Va 8 O tO (V.back (i+1) j2 j3 JP tO 0 O O)
   refine Va 25 O tO (V.back (i+1) j2 j3 JP tO 0 O O)
  obtain rfl:i=vs.length:=tO;refine Vs 4 O (zpi () j2 j3 (db) 0 O O)
 rintro u db;have hg:=qI db;have hz:=qj db;have dA:∀ v ∈ vs,yT (v.low,v.high):=fun v hv=>(hg v hv).1;have hv:zr vs=if xh vs then 4 else 0:=by rw[zr,ztx tO]
 refine Vs 4 O (zrP 71 [(0,_),(1,_),(2,_)] tR226 ts100 zeroValue100 tS O O tK (fun b71=>?_));refine Vs 5 O (zrM (σ:=Nat) [0,71,72] [71] [] O (fun e k=>(73,.int .i64 k)::e) (fun e k=>e) (fun k=>k<=3/\(∀ j,j<k->∃ n,zl ((j:Int)+1) vs=some n/\(j=2->n<=256))) (fun k=>3 - k) 0 j2 j3 j1 j1 j1 JB ?_);rintro k ⟨hk,da⟩;refine Vs 6 O (zp4 O (fun dr=>?_) (fun dr=>?_))
 .
  have dl:(zl ((k:Int)+1) vs=none\/∃ n,zl ((k:Int)+1) vs=some n/\k=2/\256<n)->zr vs=4:=by
   intro h;rw[hv]
   have:xh vs=true:=by
    unfold xh;rcases (show k=0\/k=1\/k=2 by omega) with rfl | rfl | rfl
    .
     rcases h with h | ⟨n,h,h2,_⟩
     . simp at h;simp[h]
     omega
    .
     rcases h with h | ⟨n,h,h2,_⟩
     . simp at h;simp[h]
     omega
    rcases h with h | ⟨n,h,_,h3⟩
    . simp at h;simp[h]
    simp at h;simp[h,h3]
   rw[this];rfl
  refine Vs 6 O (zqH O (fun w hI=>zpH tR226 ts100 O O O tO) (zqH O (fun w hI=>R.load tg100 O (v:=.int .i64 ((k:Int)+1)) ((show Blk w b71 [.int .i64 1,.int .i64 2,.int .i64 3] _ from hI.at 71 O).cells.el1 k O tD)) (Vs 7 O (zrs call159 O (fun w hI=>zfR vs ((k:Int)+1) _ D w tO dA im dm) ?_))))
  have dg:(∃ n,zl ((k:Int)+1) vs=some n/\(k=2->n<=256))->∀ j,j<k+1->∃ n,zl ((j:Int)+1) vs=some n/\(j=2->n<=256):=by
   intro h j hj;by_cases e:j=k
   . grind
   exact da j tO
  rcases hs:zl ((k:Int)+1) vs with _ | n
  .
   refine Vs 12 O (V.sp 85 O (fun c0=>?_) (fun c0=>?_))
   . refine Vs 21 O UM
   grind
  refine Vs 12 O (V.sp 85 O (fun c0=>?_) (fun c0=>?_))
  . grind
  refine Vs 3 O (V.sp 88 O (fun k3=>?_) (fun k3=>?_))
  .
   refine Vs 6 O (zp4 O (fun n3=>?_) (fun n3=>?_))
   . refine Vs 11 O (zrz 0 tr121 O O (by rw[dl (.inr ⟨n,hs,tO,n3⟩)]))
   refine Va 7 O tO (V.back (k+1) j2 j3 ⟨tO,dg ⟨n,hs,fun _=>(show ¬ (256:Int)<n from n3) |> fun h=>tO⟩⟩ tO 0 O O)
  refine Va 14 O tO (V.back (k+1) j2 j3 ⟨tO,dg ⟨n,hs,fun h=>absurd tO k3⟩⟩ tO 0 O O)
 obtain rfl:k=3:=tO;obtain⟨n1,h1,_⟩:=da 0 tO;obtain⟨n2,h2,_⟩:=da 1 tO;obtain⟨n3,h3,h4⟩:=da 2 tO
 have dB:xh vs=false:=by
  simp at h1 h2 h3;unfold xh
  grind
 rw[dB]at hv;refine Vs 11 O UM
theorem zfW (s:St) (cs:List Value) (D:Nat->Prop) (w:World) (hs:RSt D w s cs) (hb:s.act=6->0<s.bounds.length):Calls prog 164 #[.agg cs.toArray] w (Ret fun r w'=>r=.bool (xb s)/\Ext w w'):=by
 obtain⟨v1,v2,v3,v4,rfl,hk,ht,he,hY⟩:=hs.get;have dg:=hY.max;obtain⟨av4,nv4,rfl⟩:=hY.form;have dh:=hY.len_cap.2
 have dl:xb s=decide (¬ (s.cost<0\/xB s.act<s.cost\/s.act=4/\(s.n<0\/4096<s.n))/\(s.act ≠ 6\/s.bounds[s.bounds.length - 1]?.getD 0<=67108864)):=by
  rw[zub,decide_eq_true_iff];unfold xb;simp;omega
 refine zqQ func164 O ntmps164 O (V.inn (Vs 2 O (V.box 1 O O (fun b1=>?_))));refine Vs 16 O (zrN (σ:=Unit) [1] [1] [1] O (fun e u=>(3,.int .i64 (xB s.act))::e) (fun e u=>e) (fun u=>True) j1 j1 ?_ ?_)
 .
  refine zp4 O (fun a2=>?_) (fun a2=>?_)
  . refine Vs 3 O (zpi () (Sub.cons (by rw[xB,zty a2];rfl) j2) j3 trivial 0 O O)
  refine Vs 1 O (zpi () (Sub.cons (by rw[xB,ztx a2];rfl) j2) j3 trivial 0 O O)
 rintro u _;have dm:xB s.act=67108864\/xB s.act=10000:=by unfold xB;split<;>simp
 refine Vs 3 O (zrN (σ:=Unit) [1] [1] [1] O (fun e u=>(30,.bool (decide (s.cost<0\/xB s.act<s.cost\/s.act=4/\(s.n<0\/4096<s.n))))::e) (fun e u=>e) (fun u=>True) j1 j1 ?_ ?_)
 .
  refine Vs 5 O (V.sp 10 O (fun k1_=>?_) (fun k1_=>?_))
  . refine Vs 21 O (zpi () Ub j3 trivial 0 O O)
  refine Vs 6 O (V.sp 16 O (fun k2_=>?_) (fun k2_=>?_))
  . refine Vs 15 O (zpi () Ub j3 trivial 0 O O)
  refine Vs 4 O (V.sp 20 O (fun k3_=>?_) (fun k3_=>?_))
  .
   refine Vs 4 O (V.sp 24 O (fun k4_=>?_) (fun k4_=>?_))
   . refine Vs 7 O (zpi () Ub j3 trivial 0 O O)
   refine Vs 7 O (zpi () Ub j3 trivial 0 O O)
  refine Vs 11 O (zpi () Ub j3 trivial 0 O O)
 rintro u _;refine Vs 1 O (zp4 O (fun h1=>?_) (fun h1=>?_))
 . refine Vs 7 O (zpl results164 O iR)
 refine Vs 8 O (V.sp 34 O (fun a6=>?_) (fun a6=>?_))
 . refine Vs 14 O (zpl results164 O iR)
 have dr:=hb tO;refine zrJ 1000 0 (s.bounds.length-1) tO hY O O (fun x dt du db dc da=>(Va 6 O tO (zrg 1000 tR27 ts3 O da tO (s.bounds.length-1) tO O (Vs 7 O (zpl results164 O iR)))))
theorem zcz (f:Fl) (v1 v2 v3:Value) (D:Nat->Prop) (w:World) (hf:RFl D w f v1 v2 v3) (hg:∀ v ∈ f.vars,yT (v.low,v.high)) (dt:∀ h ∈ f.hatches,h.term.nodes<=1000000) (du:f.hatches.length<=1000000):Calls prog 122 #[.agg #[v1,v2,v3]] w (Ret fun r w'=>r=.int .i64 (zw f.vars f.hatches)/\Ext w w'):=by
 have dw:=hf.vars;have dg:=hf.hatches;obtain⟨av,nv,rfl⟩:=dg.form;have dD:=dg.len_cap.2;refine zqQ func122 O ntmps122 O (V.inn (Vs 2 O (V.box 1 O O (fun b1=>?_))));refine Vs 13 O (zrM (σ:=Nat) [1,8,9] [1] [1] O (fun e i=>(10,.int .i64 i)::e) (fun e i=>e) (fun i=>i<=f.hatches.length/\(∀ j,j<i->jl f.vars f.hatches j=0)) (fun i=>f.hatches.length - i) 0 j2 j3 j1 j1 j1 JB ?_);rintro i ⟨hi,da⟩;refine Vs 6 O (zp4 O (fun dx=>?_) (fun dx=>?_))
 .
  refine Vs 7 O (zrI 1000 0 i tO dg O O O (fun x dE dF dG dh dl dm dr=>?_));obtain⟨dy,rfl,db⟩:=dr;obtain⟨dz,dA,rfl⟩:=db.form;refine zrg 1000 tR23 ts109 O dm tO _ rfl O ?_;have dB:=zas (vs:=f.vars) dh
  have hY:∀ c:Int,zL f.vars (f.hatches.take i) x=c->c ≠ 0->zw f.vars f.hatches=c:=by
   intro c h1 h2;have h3:jl f.vars f.hatches i ≠ 0:=tO;rw[zw,jk da tO h3,dB,h1]
  have dc:zL f.vars (f.hatches.take i) x=0->∀ j,j<i+1->jl f.vars f.hatches j=0:=by
   grind
  refine Vs 1 O (V.alloc 4 tz109 O O (fun b4=>?_));refine Vs 16 O (zrs call157 O (fun w hI=>kS x.name w) (zqH O (fun w hI=>zqi O j6) (Vs 3 O (V.bool O (fun n0=>?_) (fun n0=>?_)))))
  .
   have n0':zcy x.name=false:=by simpa using n0
   refine Vs 13 O (zrz 0 tr122 O O (by rw[hY 7 (by rw[zL,zty n0']) tS]))
  have n0':¬ zcy x.name=false:=by simpa using n0
  refine Vs 5 O (zqH O (fun w hI=>zqc tR23 ts109 O O tO) (Vs 1 O (zrs call161 O (fun w hI=>zeJ (f.hatches.take i) _ D w ((Tr1 hI.k0 dg).take i tO) (fun u=>yd u.name x.name) 160 (.pointer (some ⟨b4,0,none⟩)) call160 (fun y _ kv w' dC=>zkO y x kv _ b4 w' (dC.blk (hI.at 4 O) (fun h=>h)))) (Vs 3 O (V.bool O (fun d0=>?_) (fun d0=>?_))))))
  . refine Vs 13 O (zrz 0 tr122 O O (by rw[hY 8 (by rw[zL,ztx n0',zty d0]) tS]))
  have n1:¬ (f.hatches.take i).any (fun u=>yd u.name x.name)=true:=by rw[d0];decide
  refine Vs 6 O (zrs call88 O (fun w hI=>qN x.low x.high w) (zqH O (fun w hI=>zqi O j6) (Vs 3 O (V.bool O (fun n3=>?_) (fun n3=>?_)))))
  .
   have n3':zb9 x.low x.high=false:=by simpa using n3
   refine Vs 13 O (zrz 0 tr122 O O (by rw[hY 3 (by rw[zL,ztx n0',ztx n1,zty n3']) tS]))
  have n3':¬ zb9 x.low x.high=false:=by simpa using n3
  have dH:zL f.vars (f.hatches.take i) x=zD f.vars true x.term:=by rw[zL,ztx n0',ztx n1,ztx n3']
  refine Vs 9 O (zrs call162 O (fun w hI=>zbR f.vars true v1 _ D D w x.term hg (Tr1 hI.k0 dw) U2 (dt x dl)) (Vs 9 O (zp4 O (fun tz=>?_) (fun tz=>?_))))
  . refine Vs 12 O (zrz 0 tr122 O O tD)
  refine Va 7 O tO (V.back (i+1) j2 j3 ⟨tO,dc tO⟩ tO 0 O O)
 obtain rfl:i=f.hatches.length:=tO;refine Vs 11 O (zrz 0 tr122 O O (by rw[zw,qj da]))
theorem zeN (f:Fl) (v1 v2 v3:Value) (hg:∀ v ∈ f.vars,yT (v.low,v.high)) (Df:Nat->Prop) (l:List St):∀ (v:Value) (D:Nat->Prop) (w:World) (top:Bool),RFl Df w f v1 v2 v3->SlR 10 RSt D w v l->sbulk l<=1000000->Calls prog 123 #[.agg #[v1,v2,v3],v,.bool top] w (Ret fun r w'=>r=.int .i64 (stepsCodeN f.vars f.hatches.length l top)/\Ext w w'):=by
 induction l using zr3 with
 | h l ih =>
 intro v D w top hf hl hb;obtain⟨dw,dF,dG⟩:=hf;have dZ:=hl.max;obtain⟨av,nv,rfl⟩:=hl.form;have d5:RFl Df w f v1 v2 v3:=⟨dw,dF,dG⟩;have stable_fl:∀ {w':World},Ext w w'->RFl Df w' f v1 v2 v3:=fun h=>⟨dw.ext yI h,dF.ext yO h,dG.ext zg h⟩;refine zqS func123 O ntmps123 O (V.inn (Vs 2 O (V.box 3 O O (fun b3=>?_))));refine Vs 12 O (zrM (σ:=Nat) [1,2,3,13,14] [3] [3] O (fun e i=>(15,.int .i64 i)::e) (fun e i=>e) (fun i=>i<=l.length/\stepsCodeN f.vars f.hatches.length l top=stepsCodeN f.vars f.hatches.length (l.drop i) top) (fun i=>l.length - i) 0 j2 j3 j1 j1 j1 y8 ?_);rintro i ⟨hi,dg⟩;refine Vs 6 O (zp4 O (fun dH=>?_) (fun dH=>?_))
 .
  refine Vs 7 O (zrI 1000 0 i tO hl O O O (fun x d6 d7 d8 dx dm dy dz=>?_));obtain⟨dI,dJ,dK,dL,rfl,hY,da,db,dh⟩:=dz.get;obtain⟨dM,dN,rfl⟩:=hY.form;obtain⟨dO,dQ,rfl⟩:=da.form;obtain⟨dR,dS,rfl⟩:=db.form;obtain⟨dT,dU,rfl⟩:=dh.form;refine zrg 1000 tR24 ts72 O dy tO _ rfl O ?_;have dA:=kq f.vars f.hatches.length top l i x dx;have dV:=kO dm;rw[St.bulk_eq]at dV;have dW:decide ((i:Int)=(l.length:Int) - 1)=decide (i=l.length - 1):=tD;refine Vs 1 O (V.alloc 8 tz72 O O (fun b8=>?_));refine Vs 6 O (zrN (σ:=Unit) [1,2,3,8,13,14,15] [3,8] [3,8] O (fun e u=>(31,.bool (!(zK f.vars f.hatches.length x (top&&decide (i=l.length - 1)))))::e) (fun e u=>e) (fun u=>True) j1 j1 ?_ ?_)
  .
   refine Vs 5 O (zqB 23 O (fun tt=>?_) (fun tt=>?_))
   . refine Va 6 O tO (zrs call163 O Uy Ur)
   refine Vs 6 O (zrs call163 O Uy Uo)
  rintro u _;generalize dc:(top&&decide (i=l.length - 1))=last;refine Vs 1 O (V.bool O (fun dB=>?_) (fun dB=>?_))
  .
   have dr:zK f.vars f.hatches.length x last=false:=by simpa using dB
   refine Vs 12 O (zrz 0 tr123 O O (by rw[dg,dA,dc,yb,zty dr];rfl))
  have dr:zK f.vars f.hatches.length x last=true:=by simpa using dB
  have dt:¬ zK f.vars f.hatches.length x last=false:=tD;refine Vs 6 O (zrs call164 O (fun w hI=>zfW x _ D w (RSt.put iy iT iQ im) (kY dr)) (zqH O (fun w hI=>zqi O j6) (Vs 2 O (V.bool O (fun dC=>?_) (fun dC=>?_)))))
  .
   have dl:xb x=false:=by simpa using dC
   refine Vs 12 O (zrz 0 tr123 O O (by rw[dg,dA,dc,yb,ztx dt,zty dl];rfl))
  have dl:¬ xb x=false:=by simpa using dC
  refine Vs 9 O (zrs call162 O (fun w hI=>zbR f.vars false v1 _ _ _ w x.term hg (Tr1 hI.k0 dw) U3 tO) (Vs 9 O (zp4 O (fun tz=>?_) (fun tz=>?_))))
  . refine Vs 13 O (zrz 0 tr123 O O (by rw[dg,dA,dc,yb,ztx dt,ztx dl,zty tz,zty tz]))
  have du:zM f.vars f.hatches.length x last=if stepsCodeN f.vars f.hatches.length x.thn false ≠ 0 then stepsCodeN f.vars f.hatches.length x.thn false else stepsCodeN f.vars f.hatches.length x.els false:=by rw[yb,ztx dt,ztx dl,ztx tz]
  refine Vs 8 O (zrP 47 [(0,_),(1,_)] tR230 ts24 zeroValue24 tS O O tK (fun b47=>?_));refine Vs 5 O (zrM (σ:=Nat) [1,2,3,13,14,15,47,48] [3,47] [3] O (fun e k=>(49,.int .i64 k)::e) (fun e k=>e) (fun k=>k<=2/\(1<=k->stepsCodeN f.vars f.hatches.length x.thn false=0)/\(2<=k->stepsCodeN f.vars f.hatches.length x.els false=0)) (fun k=>2 - k) 0 j2 j3 j1 j1 j1 ⟨tO,fun h=>absurd h tS,fun h=>absurd h tS⟩ ?_);rintro k ⟨d9,dX,dY⟩;refine Vs 6 O (zp4 O (fun klt=>?_) (fun klt=>?_))
  .
   rcases (show k=0\/k=1 by omega) with rfl | rfl
   .
    refine Vs 6 O (zqH O (fun w hI=>zpH tR230 ts24 O O O tO) (zqH O (fun w hI=>R.load tg24 O ((show Blk w b47 _ _ from hI.at 47 O).cells 0 _ O)) (Vs 7 O (zrs call123 O (fun w hI=>(ih x dm).1 _ _ w false (stable_fl hI.k0) iT tO) (Vs 9 O (zp4 O (fun tz1=>?_) (fun tz1=>?_)))))))
    . refine Vs 16 O (zrz 0 tr123 O O tD)
    refine Va 7 O tO (V.back 1 j2 j3 ⟨tO,fun _=>tO,fun h=>absurd h tS⟩ tO 0 O O)
   refine Vs 6 O (zqH O (fun w hI=>zpH tR230 ts24 O O O tO) (zqH O (fun w hI=>R.load tg24 O ((show Blk w b47 _ _ from hI.at 47 O).cells 1 _ O)) (Vs 7 O (zrs call123 O (fun w hI=>(ih x dm).2 _ _ w false (stable_fl hI.k0) iQ tO) ?_))));have dD:=dX (ztM _);have dE:zM f.vars f.hatches.length x last=stepsCodeN f.vars f.hatches.length x.els false:=tO;refine Vs 9 O (zp4 O (fun tz1=>?_) (fun tz1=>?_))
   . refine Vs 16 O (zrz 0 tr123 O O tD)
   refine Va 7 O tO (V.back 2 j2 j3 ⟨tO,fun _=>dD,fun _=>tO⟩ tO 0 O O)
  have eb:zM f.vars f.hatches.length x last=0:=by rw[du,ztx tO,dY tO]
  refine Va 10 O tO (V.back (i+1) j2 j3 Jn tO 0 O O)
 obtain rfl:i=l.length:=tO;refine Vs 11 O (zrz 0 tr123 O O (by rw[dg,zuP];rfl))
theorem zeO (f:Fl) (v1 v2 v3:Value) (D:Nat->Prop) (w:World) (hf:RFl D w f v1 v2 v3) (dF:snodes f.body+zz f.hatches<=1024) (dx:sbulk f.body<=1000000):Calls prog 72 #[.agg #[v1,v2,v3]] w (Ret fun r w'=>r=.int .i64 (yq f)/\Ext w w'):=by
 replace hf:=hf.narrow;generalize dG:(fun b=>D b/\b<w.heap.size)=E at hf;have dm:∀ q,E q->q<w.heap.size:=fun q h=>tD;obtain⟨dg,dh,dl⟩:=hf;have dH:=dg.max;have dI:=dh.max;obtain⟨a1,n1,rfl⟩:=dg.form;obtain⟨a2,n2,rfl⟩:=dh.form;have hf:∀ {w':World},Ext w w'->RFl E w' f (.slice a1 f.vars.length n1) (.slice a2 f.hatches.length n2) v3:=fun h=>⟨dg.ext yI h,dh.ext yO h,dl.ext zg h⟩;have dy:∀ {w':World},Ext w w'->EqD E w' w':=fun h=>EqD.refl fun b hb=>zws (dm b hb) h.size;refine zqQ func72 O ntmps72 O (V.inn (Vs 2 O (V.box 1 O O (fun b1=>?_))));refine Vs 5 O (V.alloc 3 zeroValue189 O O (fun b3=>?_));refine Vs 6 O (zsf [3] (Hn:=fun v_:Int=>[(3,.own b3 [.int .i64 v_,.bool (yJ 1 f.body)] 189)]) [(1,some (1,0)),(3,some (3,0)),(10,some (1,2))] call118 O j9 j1 (fun w hI=>zbx (k:=3) O iK (zeK f.body _ E w w b3 0 false 1 (Tr1 hI.k0 dl) (dy hI.k0) Jr (hI.at 3 O) tO tO tO tO)) ?_);rintro _ z ⟨rfl,h1,h2⟩;refine Vs 12 O (zrL 3 O (e':=.own b3 [.int .i64 z,.bool (yJ 1 f.body || (f.hatches.take 0).any (fun h=>decide (12<h.term.depth)))] 189) tR (zrM (σ:=Nat × Int) [1,3,14,15] [1] [1,3] O (fun e ⟨i,z⟩=>(16,.int .i64 i)::e) (fun e ⟨i,z⟩=>(3,.own b3 [.int .i64 z,.bool (yJ 1 f.body || (f.hatches.take i).any (fun h=>decide (12<h.term.depth)))] 189)::e) (fun⟨i,z⟩=>i<=f.hatches.length/\0<=z/\z<=snodes f.body+zz (f.hatches.take i)) (fun⟨i,z⟩=>f.hatches.length - i) (0,z) j2 j3 j1 j1 j1 ⟨ztC _,h1,tO⟩ ?_));rintro⟨i,z⟩ ⟨hi,dJ,dA⟩;refine zre 3 3 0 O O (Vs 6 O (zp4 O (fun dr=>?_) (fun dr=>?_)))
 .
  refine Vs 6 O (zrI 1000 0 i tO dh O O O (fun x dK dL dM da dB dt du=>?_));obtain⟨dC,rfl,db⟩:=du;obtain⟨dD,dE,rfl⟩:=db.form;refine zrg 1000 tR23 ts109 O dt tO _ rfl O ?_;have dN:=qa da;have dO:=kz da;refine Vs 1 O (V.alloc 5 tz109 O O (fun b5=>?_));refine Vs 5 O (zrs call119 O (fun w hI=>jm b3 _ _ w (hI.at 3 O)) ?_);rw[show decide (1024<z)=false from ztA tO,zuh];refine zqH O (fun w hI=>zqi O j6) (Vs 2 O (V.bool O (fun hov=>?_) (fun hov=>?_)))
  .
   have dc:(yJ 1 f.body || (f.hatches.take i).any (fun h=>decide (12<h.term.depth)))=false:=by simpa using hov
   refine zrL 3 O (e':=.own b3 [.int .i64 z,.bool false] 189) tD (Vs 3 O (zsf [3] (Hn:=fun v_:Int=>[(3,.own b3 [.int .i64 v_,.bool (false || decide (12<1+(x.term.depth:Int) - 1))] 189)]) [(1,some (1,0)),(3,some (3,0)),(5,some (5,0)),(18,some (1000,0)),(22,some (5,3))] call120 O j9 j1 (fun w hI=>zbx (k:=3) O iK (zbV x.term _ E w w b3 _ _ 1 U2 (dy hI.k0) Jr (hI.at 3 O) tO tO tO tO)) ?_));rintro _ z2 ⟨rfl,g1,g2⟩
   have hb:(false || decide (12<1+(x.term.depth:Int) - 1))=(yJ 1 f.body || (f.hatches.take (i+1)).any (fun h=>decide (12<h.term.depth))):=by
    rw[ze da,zuC,<- Bool.or_assoc,dc,zud,zud]
    grind
   refine Va 7 O tO (zrL 3 O (e':=.own b3 [.int .i64 z2,.bool (yJ 1 f.body || (f.hatches.take (i+1)).any (fun h=>decide (12<h.term.depth)))] 189) tD (V.back ⟨i+1,z2⟩ j2 j3 ⟨tO,tO,tO⟩ tD 0 O O))
  have dc:(yJ 1 f.body || (f.hatches.take i).any (fun h=>decide (12<h.term.depth)))=true:=by rw[<- Bool.not_eq_false];intro h;rw[h]at hov;cases hov
  refine Va 7 O tO (zrL 3 O (e':=.own b3 [.int .i64 z,.bool (yJ 1 f.body || (f.hatches.take (i+1)).any (fun h=>decide (12<h.term.depth)))] 189) tD (V.back ⟨i+1,z⟩ j2 j3 ⟨tO,tO,tO⟩ tD 0 O O))
 obtain rfl:i=f.hatches.length:=tO;rw[zts]at dA;refine Vs 13 O (zrL 3 O (e':=.own b3 [.int .i64 z,.bool (yJ 1 f.body || f.hatches.any (fun h=>decide (12<h.term.depth)))] 189) tD ?_)
 have hY:qi f=(decide (f.vars.length<=64)&&decide (f.hatches.length<=8)&&!(yJ 1 f.body || f.hatches.any (fun h=>decide (12<h.term.depth)))):=by
  unfold qi yJ
  grind
 refine V.sp 30 O (fun g1=>?_) (fun g1=>?_)
 .
  have s0:qi f=false:=by rw[hY,ztA (show ¬ f.vars.length<=64 by omega)];rfl
  refine Vs 18 O UV
 refine Vs 6 O (V.sp 36 O (fun g2=>?_) (fun g2=>?_))
 .
  have s0:qi f=false:=by rw[hY,ztA (show ¬ f.hatches.length<=8 by omega),zu9];rfl
  refine Vs 12 O UV
 rw[ztz (show f.vars.length<=64 by omega),ztz (show f.hatches.length<=8 by omega),zui,zui]at hY;refine zre 3 3 0 O O (zrs call119 O (fun w hI=>jm b3 _ _ w (hI.at 3 O)) ?_);rw[show decide (1024<z)=false from ztA tO,zuh];refine Vs 3 O (V.bool O (fun s1=>?_) (fun s1=>?_))
 .
  have s0:qi f=false:=by rw[hY,s1];rfl
  refine Vs 7 O UV
 have s0:¬ qi f=false:=by rw[hY,s1];decide
 refine Vs 7 O (zrs call121 O (fun w hI=>zfV f.vars _ E w il tO) (Vs 9 O (zp4 O (fun vz=>?_) (fun vz=>?_))))
 . refine Vs 8 O (zrz 0 tr72 O O (by rw[yq,ztx s0,zty vz]))
 have hg:=zbZ (show zr f.vars=0 by omega);have dw:yq f=if zw f.vars f.hatches ≠ 0 then zw f.vars f.hatches else if stepsCodeN f.vars f.hatches.length f.body true ≠ 0 then stepsCodeN f.vars f.hatches.length f.body true else if zdC f then 4 else 0:=by rw[yq,ztx s0,ztx vz]
 refine Vs 6 O (zrs call122 O (fun w hI=>zcz f _ _ _ E w (hf hI.k0) hg (fun h hh=>by obtain⟨i,hi⟩:=zvH.1 hh;have:=qa hi;omega) tO) (Vs 9 O (zp4 O (fun dz=>?_) (fun dz=>?_))))
 . refine Vs 8 O Jx
 rw[ztx dz]at dw;refine Vs 8 O (zrs call123 O (fun w hI=>zeN f _ _ _ hg E f.body _ E w true (hf hI.k0) (Tr1 hI.k0 dl) dx) (Vs 9 O (zp4 O (fun sz=>?_) (fun sz=>?_))))
 . refine Vs 8 O Jx
 rw[ztx sz]at dw;refine Vs 7 O (zrs call124 O (fun w hI=>zkR f.vars f.hatches.length f.body _ E w true tO (Tr1 hI.k0 dl) dx) ?_)
 have ho:zdC f=(decide (4096<cap 1099511627776 (bds f.body).1) || decide (8<cap 1099511627776 (bds f.body).2.1) || decide (67108864<cap 1099511627776 (bds f.body).2.2)):=by
  unfold zdC cap;congr 1;congr 1;all_goals (rw[ztP];omega)
 rw[ho]at dw;refine V.alloc 9 tz193 O O (fun b9=>(Vs 9 O (zqB 63 O (fun k1_=>?_) (fun k1_=>?_))))
 . refine Vs 19 O Jx
 refine Vs 5 O (zqB 68 O (fun k2_=>?_) (fun k2_=>?_))
 . refine Vs 14 O Jx
 refine Vs 6 O (V.bool O (fun k3_=>?_) (fun k3_=>?_))
 . refine Vs 7 O Jx
 refine Vs 8 O Jx
end Go.Proofs.YtckdhgbepmpgiaaGreat
namespace Go.GL
instance decNd:DecidableEq Nd:=fun a b =>
 if h:a.kind=b.kind/\a.at_=b.at_/\a.next=b.next/\a.other=b.other then isTrue (zsk h.1 h.2.1 h.2.2.1 h.2.2.2) else isFalse (fun e=>h tD)
end Go.GL
namespace Go.Proofs.YtckdhgbepmpgiaaGreat
open Go.GL
theorem zdD (l:List St):∀ top,stepsCodeN vs nh l top=0->plainL l=true:=by
 induction l using zr3 with
 | h l ih =>
 intro top h;refine zbG (fun s hs=>?_);obtain⟨last,h2⟩:=qc l top h s hs;obtain⟨h3,_,_,h4,h5⟩:=qu h2;rw[s.plainB_eq,(ih s hs).1 _ h4,(ih s hs).2 _ h5,Bool.and_true,Bool.and_true];split
 . rfl
 split
 . rename_i a4;rw[(h3.rep a4).2.2];rfl
 rename_i a3 a4;rw[(h3.free a3 a4).1,(h3.free a3 a4).2];rfl
theorem yc {f:Fl} (h:yq f=0):qi f=true/\zr f.vars=0/\zw f.vars f.hatches=0/\stepsCodeN f.vars f.hatches.length f.body true=0/\zdC f=false:=by
 unfold yq at h;split at h
 . cases h
 split at h
 . rename_i h1;exact absurd h h1
 split at h
 . rename_i h1;exact absurd h h1
 split at h
 . rename_i h1;exact absurd h h1
 split at h
 . cases h
 rename_i h1 h2 h3 h4 h5;refine⟨by simpa using h1,tO,tO,tO,by simpa using h5⟩
theorem zc1 {f:Fl} (h:yq f=0):plainL f.body=true:=zdD _ _ (yc h).2.2.2.1
theorem zkS (w:World) (dd:Nat) (a b:Nd):(Op.equalIn (dd+2) 65 (.agg (xV a).toArray) (.agg (xV b).toArray)).run prog w=.ok (decide (a=b)) w:=by
 have hf:Tryz.prog.fieldsOf 65=#[{ name := "Kind",type:=63,offset:=0,embedded:=false,tag := "",pkgPath := "",byteOffset:=0 },{ name := "At",type:=3,offset:=1,embedded:=false,tag := "",pkgPath := "",byteOffset:=8 },{ name := "Next",type:=3,offset:=2,embedded:=false,tag := "",pkgPath := "",byteOffset:=16 },{ name := "Other",type:=3,offset:=3,embedded:=false,tag := "",pkgPath := "",byteOffset:=24 }]:=tK;rw[run_equalIn_struct w _ _ _ _ (by rw[hf];exact underlying65) tK,hf];simp[Op.eqFields,part,xV,isAgg63,run_equalIn_int w _ _ _ _ _ _ underlying63,run_equalIn_int w _ _ _ _ _ _ tu3]
 have e:decide (a=b)=(decide (a.kind=b.kind)&&decide (a.at_=b.at_)&&decide (a.next=b.next)&&decide (a.other=b.other)):=by
  rw[zub];simp only[zu8,decide_eq_true_eq];exact⟨fun h=>tD,fun h=>zsk h.1.1.1 h.1.1.2 h.1.2 h.2⟩
 rw[e];by_cases h1:a.kind=b.kind
 . grind
 grind
theorem neNd {ty:TypeId} {pos:String} {a b:Nd} (hx:ev env x=some (.agg (xV a).toArray)) (hy:ev env y=some (.agg (xV b).toArray)) :
  yx prog ⟨dst,.binOp .neq 65 x y t',ty,pos,aft,g⟩ env w (.bool (decide (a ≠ b))) w:=by
 intro n c hc;have hm:Tryz.prog.eqGuardType Tryz.prog.depth 65=false:=tK;simp[execOp,hc.eval hx,hc.eval hy,run_eqGuard_agg,hm,run_neq_struct,zkS]
theorem zhC (a b:List Nd) (va vb:Value) (D D':Nat->Prop) (w:World) (ha:SlR 4 RNd D w va a) (hb:SlR 4 RNd D' w vb b):Calls prog 73 #[va,vb] w (Ret fun r w'=>r=.bool (decide (a=b))/\Ext w w'):=by
 have dy:=ha.max;have dz:=hb.max;obtain⟨aa,ca,rfl⟩:=ha.form;obtain⟨ab,cb,rfl⟩:=hb.form;refine zqR func73 O ntmps73 O (Gs 15 O (zp3 O (fun dm=>?_) (fun dA=>?_)))
 . refine Gs 7 O (zpk results73 O ⟨_,rfl,by rw[ztA (fun h=>dm tD)],Keep.refl _ _⟩)
 have hl:a.length=b.length:=tO;refine Gs 11 O (G.loop (σ:=Nat) (fun i=>[(0,.slice aa a.length ca),(1,.slice ab b.length cb),(12,.int .i64 a.length),(13,.int .i64 i)]) (fun i=>fun w'=>i<=a.length/\a.take i=b.take i/\Ext w w') (fun i=>a.length - i) 0 j2 JF ?_);rintro i w1 ⟨hi,db,hY⟩;obtain⟨ha,hb⟩:=Tr2 hY ha hb;refine Gs 6 O (zp3 O (fun dB=>?_) (fun dC=>?_))
 .
  obtain⟨x,dc⟩:∃ x,a[i]?=some x:=iA;obtain⟨y,dg⟩:∃ x,b[i]?=some x:=iA;obtain⟨bx,ox,cx,dr,_,dt,rfl⟩:=ha.at dc;obtain⟨by',oy,cy,du,_,dw,rfl⟩:=hb.at dg;refine Gs 11 O (Qt tK (Gs 2 O (zqJ O O (fun w1 da=>zpH tR34 ts65 O O dr tO) (zqJ O O (fun w1 da=>zpJ isAgg65 ts65 O (by rfl) (da.cells dt (fun h=>h))) (Gs 2 O (zqJ O O (fun w1 da=>zpH tR34 ts65 O O du tO) (zqJ O O (fun w1 da=>zpJ isAgg65 ts65 O (by rfl) (da.cells dw (fun h=>h))) (zqJ O O (fun w1 da=>neNd (a:=x) (b:=y) O O) (zqN (fun wz1 dx=>?_))))))))));obtain⟨ha,hb,hY⟩:=Tr3 dx ha hb hY;refine Gs 1 O (zp3 O (fun dh=>?_) (fun dh=>?_))
  . refine Gs 11 O (zpk results73 O ⟨_,rfl,by rw[ztA (fun h=>dh tD)],hY⟩)
  have dl:x=y:=ztw.1 dh;refine Ga 7 O tO (G.back (i+1) j2 ⟨tO,by rw[ze dc,ze dg,db,dl],hY⟩ tO)
 have:i=a.length:=tO;subst this;rw[zts,hl,zts]at db;refine Gs 11 O (zpk results73 O ⟨_,rfl,tD,hY⟩)
theorem zkT (f:Fl) (v1 v2 v3:Value) (D:Nat->Prop) (w:World) (hf:RFl D w f v1 v2 v3) (hp:plainL f.body=true) (eF:ssize f.body<=10000) :
  Calls prog 74 #[.agg #[v1,v2,v3]] w (Ret fun r w'=>(∃ nv,r=.agg #[nv]/\SlR 4 RNd (fun b=>w.heap.size<=b) w' nv (zd f))/\Ext w w'):=by
 have eG:=xk f.body;have dW:=hf.narrow.body;refine zqQ func74 O ntmps74 O (Gs 2 O (G.mem O O (M.box O O) ?_));rintro _ w1 ⟨c,rfl,hc,eH,db,dX⟩;refine G.mem O O (M.alloc (cs:=[.slice none 0 0]) tz36 O) ?_;rintro _ w2 ⟨r,rfl,hr,eI,dl,dT⟩;replace db:=dT.blk db (fun h=>h);refine Gs 4 O (zqG O O (R.build (v:=.agg #[.int .i64 0,.int .i64 (-1),.int .i64 (-1),.int .i64 (-1)]) [(0,_),(1,_),(2,_),(3,_)] O (fun _=>tK)) (G.mem O O (M.buildSlice (cs:=xV ⟨0,-1,-1,-1⟩) [(0,_)] tR34 ts65 tz65 tS O tK) ?_));rintro _ w3 ⟨g3,rfl,eJ,eK,dE,dF⟩;replace db:=dF.blk db (fun h=>h);replace dl:=dF.blk dl (fun h=>h);refine zqG O O (R.build (v:=.agg #[.slice (some ⟨g3,0,none⟩) 1 1,.int .i64 0]) [(0,_)] O (fun _=>tK)) (G.mem O O (M.box O O) ?_);rintro _ w4 ⟨B,rfl,hB,eL,dY,dA⟩;replace db:=dA.blk db (fun h=>h);replace dl:=dA.blk dl (fun h=>h);replace dE:=dA.blk dE (fun h=>h);have dZ:Ext w w4:=((dX.ext dT).ext dF).ext dA
 have d5:BdS w.heap.size B w4 { nodes:=[⟨0,-1,-1,-1⟩],step:=0 } (.slice (some ⟨g3,0,none⟩) 1 1) :=
  ⟨dY,zG (k:=4) (n:=1) (cap:=1) dE (ztM _) tS rfl,tO,fun g hg=>by obtain rfl:g3=g:=Option.some.inj hg;omega⟩
 have eM:c ≠ r:=tO;refine Gs 5 O (Dw (fun q=>Blk q c [v1,v2,v3] 26) [] (fun w5 dB _=>?_));have dm:=dB.blk db (fun h=>h);have dG:=dB.blk dl (fun h=>h);have d6:=d5.ext dB;have d7:=dZ.ext dB;refine Ds [0,1] tK O (WD.take 2 O tK O O O dm (fun w1 d8=>R.load tg24 O (d8.cells 2 _ O)) (Ds [3,8] tK O (WD.call 4 O tK O O O (F.call (vs:=[_,_]) call126 O) (zdr B 0 w5) ?_)));rintro x w6 ⟨hx,dC⟩;have dr:=dC.blk dm (fun h=>h);have dH:=dC.blk dG (fun h=>h);have d9:=d6.ext dC;have eb:=d7.ext dC;refine⟨fun _=>dr,?_⟩;have ec:=hx;obtain⟨bb,ab,rfl,_,_⟩:=hx;refine WD.mem 5 O tK O O O (M.buildSlice (cs:=[.func (.func 166) #[] #[.pointer (some ⟨bb,0,none⟩),.pointer (some ⟨ab,0,none⟩)]]) [(0,_)] tR198 ts120 tz120 tS O tK) ?_;rintro _ w7 ⟨g7,rfl,eN,eO,ed,dt⟩;have du:=dt.blk dr (fun h=>h);have dI:=dt.blk dH (fun h=>h);have ee:=d9.ext dt;have dJ:=eb.ext dt;refine⟨fun _=>du,?_⟩;have ef:=Hung.lit ed (ec.ext dt);have eh:=dJ.size;refine WD.call 6 O tK O O O (F.call (vs:=[_,_,_]) call125 O) (zmM f.body w.heap.size B _ _ _ w7 _ _ _ (dW.ext zg dJ) (fun q h=>h.2) ee ef tR tO hp tD tD) ?_;rintro r9 w9 ⟨⟨nv9,dK⟩,dD,_,dL⟩;have dM:=dL.blk du tS;have dN:=dL.blk dI tS;have ei:Ext w w9:=zso (KT.trans (zsm dJ) dL) (ztM _);refine⟨fun _=>dM,?_⟩;have dO:=xH f.body hp { nodes:=[⟨0,-1,-1,-1⟩],step:=0 } [(0,false)] tR;have dc:zgw f=zd f:=zkG f hp;unfold zgw at dc;generalize hX:listB f.body { nodes:=[⟨0,-1,-1,-1⟩],step:=0 } [(0,false)]=X at dK dD dO dc;obtain⟨a9,c9,rfl,_⟩:=dD.form;have dw:=dO.len;have dQ:=dO.lt;have ej:=dD.len;simp only[ztI]at dw;obtain⟨an,cn,rfl,eP,_⟩:=xv dK.row;refine Ds [7] tK O (G.done tK ?_ _);refine Gs 2 O (G.loop (σ:=Nat) (fun j=>[(2,.pointer (some ⟨r,0,none⟩)),(3,.pointer (some ⟨B,0,none⟩)),(16,.slice a9 X.2.length c9),(17,.int .i64 X.2.length),(18,.int .i64 j)]) (fun j=>fun w'=>j<=X.2.length/\BdS w.heap.size B w' { X.1 with nodes:=zt X.1.nodes X.1.nodes.length (X.2.take j) } (.slice an X.1.nodes.length cn)/\Hung B w' (.slice a9 X.2.length c9) X.2/\Blk w' r [.slice none 0 0] 36/\Ext w w') (fun j=>X.2.length - j) 0 j2 ⟨ztC _,dK,dD,dN,ei⟩ ?_);rintro j y1 ⟨hj,dh,dU,da,dR⟩;refine Gs 6 O (zp3 O (fun eQ=>?_) (fun eR=>?_))
 .
  obtain⟨e,he⟩:∃ e,X.2[j]?=some e:=iA;obtain⟨ge,x,rfl,ek,em⟩:=dU.at he;obtain⟨ie,pe⟩:=e;obtain⟨ff,fcs,rfl,er,dx⟩:=zfL w.heap.size B ie pe (X.1.nodes.length:Nat) _ _ x y1 dh em (by dsimp only;rw[zU];exact dQ _ (zto he));refine Ga 7 O tO (zqK O isAgg120 (ek 0 _ O) (Gs 8 O (zqK O tg34 (dh.blk.cells 0 _ O) (Gs 1 O (zpO O er dx ?_)))));rintro _ y2 ⟨dy,dS⟩;refine Ga 7 O tO (G.back (j+1) j2 ⟨tO,by rw[kB he];exact dy,dU.kt dS,dS.blk da tS,zso (KT.trans (zsm dR) dS) (ztM _)⟩ tO)
 have ew:j=X.2.length:=tO;subst ew;rw[zts]at dh;have hY:=dh.row;dsimp only at hY;rw[zU]at hY;refine Gs 10 O (zqK O tg34 (dh.blk.cells 0 _ O) (zqG O O (R.build (v:=.agg #[.int .i64 1,.int .i64 (-1),.int .i64 (-1),.int .i64 (-1)]) [(0,_),(1,_),(2,_),(3,_)] O (fun _=>tK)) (G.mem O O (M.buildSlice (cs:=xV ⟨1,-1,-1,-1⟩) [(0,_)] tR34 ts65 tz65 tS O tK) ?_)));rintro _ y2 ⟨g2,rfl,yg2,ys2,yB2,yk2⟩;replace hY:=zj hY yk2 (fun _ _ h=>h);replace da:=yk2.blk da (fun h=>h);refine G.mem O O (M.append tu34 Tryz.el65 O tS O O hY O (Cells.add yB2.cells) (jh _) tO tO) ?_;rintro nv y3 ⟨dg,ez,yk3,_⟩
 have eA:∀ g,Value.ownBlock (.slice an X.1.nodes.length cn)=some g->g ≠ r:=fun g hg=>by
  obtain⟨cs',dy⟩:=xe hY hg;exact dy.ne da tS
 have eC:∀ g,Value.ownBlock (.slice an X.1.nodes.length cn)=some g->w.heap.size<=g:=dh.far;replace da:=yk3.blk da (fun h=>eA r h rfl);have eD:Ext w y3:=Keep.trans (dR.ext yk2) yk3 (fun k hk h=>tD);obtain⟨av,cv,rfl⟩:=zI dg
 have hnv:∀ g,Value.ownBlock (.slice av (X.1.nodes.length+1) cv)=some g->w.heap.size<=g/\g ≠ r:=by
  intro g hg;refine⟨?_,?_⟩
  .
   rcases ez with h | ⟨g',h1,h2⟩
   . grind
   rw[h1]at hg;cases hg;have:=(dR.ext yk2).size;omega
  obtain⟨cs',dy⟩:=xe dg hg;exact dy.ne da tS
 refine zqG O O (R.build (v:=.agg #[.slice av (X.1.nodes.length+1) cv]) [(0,_)] O (fun _=>tK)) (zpT O (zpU ts36 O O O O tY da tR) ?_);rintro yf ⟨_,eE,dV⟩;have dz:=zj dg dV (fun g hg h=>(hnv g hg).2 h);refine Gs 3 O (zpt results74 O (kH tg36 ts36 O eE.cells) ?_);refine⟨_,rfl,⟨_,rfl,?_⟩,eD.trans dV (fun q hq h=>tO)⟩;rw[<- dc];refine zqb tS xV zN j9 (n:=X.1.nodes.length+1) (e:=65) ?_ (fun g hg=>(hnv g hg).1);rw[zv3];simpa using dz
def yw (f:Fl) (g:List Nd):Int:=if yq f ≠ 0 then yq f else if zd f=g then 0 else 2
theorem zc2 {f:Fl} (hY:snodes f.body+zz f.hatches<=1024):ssize f.body<=1024:=by have:=zaL f.body;omega
theorem zc3 (f:Fl) (g:List Nd) (v1 v2 v3 gv:Value) (D Dg:Nat->Prop) (w:World) (hf:RFl D w f v1 v2 v3) (hg:SlR 4 RNd Dg w gv g) (dt:snodes f.body+zz f.hatches<=1024) (dx:sbulk f.body<=1000000) :
  Calls prog 36 #[.agg #[v1,v2,v3],.agg #[gv]] w (Ret fun r w'=>r=.int .i64 (yw f g)/\Ext w w'):=by
 have dE:=zc2 dt;have hE:=Keep.refl (fun _=>False) w;obtain⟨ag,cg,rfl⟩:=hg.form;refine zqR func36 O ntmps36 O (Gs 2 O (G.mem O O (M.box O O) ?_));rintro _ dF ⟨b,rfl,dh,dy,hY,dl⟩;have du:_<=b:=ztt hE.size (zwr dh.symm);obtain⟨hE,hf,hg⟩:=Tr3 dl hE hf hg;refine G.mem O O (M.box O O) ?_;rintro _ dz ⟨b2,rfl,db,dw,da,dc⟩;have dg:b ≠ b2:=tO;have dm:_<=b2:=ztt hE.size (zwr db.symm);obtain⟨hE,hf,hg,hY⟩:=Tr4 dc hE hf hg hY;refine Gs 6 O (zqM O tg26 ts26 hY.cells O (G.call O call72 (zeO f _ _ _ D _ hf dt dx) ?_));rintro _ wz1 ⟨rfl,dA⟩;obtain⟨hE,hf,hg,hY,da⟩:=Tr5 dA hE hf hg hY da;refine Gs 9 O (zp3 O (fun h0=>?_) (fun h0=>?_))
 . refine Gs 8 O (zpk results36 O ⟨_,rfl,by rw[yw,zty h0],hE⟩)
 have dB:yq f=0:=tO;refine Gs 4 O (Dw (fun q=>Ext wz1 q) [] (fun wd2 hD _=>?_));refine WD.take 0 O tK O O O hD (fun w1 dr=>zpJ tg26 ts26 O (by rfl) (dr.blk hY (fun h=>h)).cells) (Ds [3] tK O (WD.take 4 O tK O O O hD (fun w1 dr=>R.load tg34 O ((dr.blk da (fun h=>h)).cells 0 _ O)) (WD.call 1 O tK O O O (F.call (vs:=[_]) call74 O) (zkT f _ _ _ D _ (hf.ext hD) (zc1 dB) tO) ?_)));rintro _ wz3 ⟨⟨nv,rfl,hnv⟩,dC⟩;replace hD:=hD.ext dC;refine⟨fun _=>hD,?_⟩;refine zq6 2 O tK O O O (fun w1=>R.field runUnderlying36 O tg34 O O) (WD.call 5 O tK O O O (F.call (vs:=[_,_]) call73 O) (zhC (zd f) g _ _ _ Dg _ hnv (hg.ext zC hD)) ?_);rintro _ wz4 ⟨rfl,dD⟩;replace hD:=hD.ext dD;refine⟨fun _=>hD,?_⟩;refine zq6 6 O tK O O O (fun w1=>zqi O j6) (G.done tK ?_ _);obtain⟨hE,hf,hg,hY,da⟩:=Tr5 hD hE hf hg hY da;refine Gs 1 O (zp3 O (fun h1=>?_) (fun h1=>?_))
 . refine Gs 7 O (zpk results36 O ⟨_,rfl,by rw[yw,ztx tO,ztx h1],hE⟩)
 refine Gs 8 O (zpk results36 O ⟨_,rfl,by rw[yw,ztx tO,zty (ztw.1 h1)],hE⟩)
end Go.Proofs.YtckdhgbepmpgiaaGreat
namespace Go.GL
open Go.RowKit
def OwnR {α:Type} (e:TypeId) (k:Nat) (R:Rel α) (D:Nat->Prop) (w:World) (v:Value) (l:List α):Prop :=
 ∃ xs:List Value,w.ownsRow 0 e k v l.length xs/\∀ (i:Nat) x,l[i]?=some x->R D w x ((xs.drop (i*k)).take k)
section
variable {k:Nat} {R:Rel α} {D:Nat->Prop} {l:List α}
theorem OwnR.nil:OwnR e k R D w (.slice none 0 0) ([]:List α):=⟨[],qq _ _ _,fun i x h=>tD⟩
theorem OwnR.keep {S:Nat->Prop} (h:OwnR e k R D w v l) (hs:ye R) (hk:Keep S w w') (hD:∀ q,D q->q<w.heap.size->¬ S q) (hv:∀ g,v.ownBlock=some g->¬ S g):OwnR e k R D w' v l:=by
 obtain⟨xs,h1,h2⟩:=h;exact⟨xs,zj h1 hk hv,fun i x hx=>hs D D w w' (fun _ h=>h) (fun b hb hY=>hk.block b hY (hD b hb hY)) x _ (h2 i x hx)⟩
theorem OwnR.lit {g:Nat} {x:α} (hb:Blk w g cs e) (hk:cs.length=k) (hx:R D w x cs):OwnR e k R D w (.slice (some ⟨g,0,none⟩) 1 1) [x]:=by
 refine⟨cs,?_,fun i y hy=>?_⟩
 .
  have:=zG (k:=k) (n:=1) (cap:=1) hb (ztM _) tS tO
  grind
 cases i with
 | zero=>simp at hy;subst hy;rw[Nat.zero_mul,List.drop_zero,zwc tO];exact hx
 | succ i=>simp at hy
theorem zst (hR:∀ x cs,R D w x cs->∀ u ∈ cs,u.oneCell'=true) {n:Nat} {xs:List Value} (h1:w.ownsRow 0 e k v n xs) (hn:n=l.length) (h2:∀ (i:Nat) x,l[i]?=some x->R D w x ((xs.drop (i*k)).take k)):∀ u ∈ xs,u.oneCell'=true:=by
 intro u hu;obtain⟨q,hq⟩:=zvH.1 hu;have hY:=(ztB.1 hq).1;have da:=h1.1
 have hk:0<k:=by
  grind
 have hi:q / k<l.length:=by rw[zwo hk,<- hn];omega
 have hd:q / k*k+q % k=q:=by rw[Nat.mul_comm];exact zwn q k
 have hm:=zwv q hk;refine hR _ _ (h2 (q / k) l[q / k] (ztn hi)) u ?_;refine zvH.2 ⟨q % k,?_⟩;rw[ztT,zty hm,zvc,hd];exact hq
theorem OwnR.sl {D':Nat->Prop} (h:OwnR e k R D w v l) (hk:0<k) (hs:ye R) (hD:∀ q,D q->D' q) (hv:∀ g,v.ownBlock=some g->D' g):SlR k R D' w v l:=by
 obtain⟨xs,h1,h2⟩:=h;obtain⟨ao,cap,rfl,hc,hm⟩:=xv h1;refine⟨ao,cap,rfl,hc,hm,fun i x hx=>?_⟩;have hi:=(ztB.1 hx).1;have da:=h1.1
 obtain⟨a0,rfl⟩:∃ a0,ao=some a0:=by
  cases ao with
  | some a0=>exact⟨a0,rfl⟩
  | none =>
   rcases h1.2 with⟨_,h⟩ | ⟨g,cap,cur,h,_⟩
   . omega
   cases h
 obtain⟨e1,e2,hY⟩:=jR h1;obtain⟨b0,o0,s0⟩:=a0;simp only at e1 e2 hY;subst e1;subst e2;have h5:(i+1)*k<=l.length*k:=zwx _ hi;rw[zwB]at h5;refine⟨b0,0,_,rfl,hv b0 rfl,?_,?_,hs D D' w w hD (fun _ _ _=>rfl) x _ (h2 i x hx)⟩
 . grind
 intro j u hj;rw[ztT]at hj;split at hj
 .
  rw[zvc]at hj;have:=hY _ _ hj;rw[zwC]at this ⊢;exact this
 cases hj
theorem OwnR.form (h:OwnR e k R D w v l):∃ ao c,v=.slice ao l.length c/\l.length<=c/\c<=9223372036854775807:=by
 obtain⟨xs,h1,_⟩:=h;exact xv h1
end
section
variable {R:Rel α} {D:Nat->Prop} {ty:TypeId} {pos:String} {l l':List α}
theorem zsu {k by':Nat} {vy:Value} (hu:P.underlying t=some (.slice e)) (he:(P.info? e).map (fun i=>(i.zero,i.size,i.bytes))=some (some z,k,by')) (dg:z.cells.size=k) (hk:0<k)
  (hx:ev env x=some v) (hy:ev env y=some vy) (hs:ye R) (h1:∀ x cs,R D w x cs->∀ u ∈ cs,u.oneCell'=true) (hY:OwnR e k R D w v l) (dh:OwnR e k R D w vy l') (hD:∀ q,D q->q<w.heap.size->v.ownBlock ≠ some q) (da:l.length+l'.length<=9223372036854775807) (dl:(l.length+l'.length)*by'<=140737488355328) :
  yM P ⟨dst,.call ⟨.builtin .append,#[x,y],#[t,t]⟩,ty,pos,aft,g⟩ env w (fun u w'=>OwnR e k R D w' u (l++l')/\(u.ownBlock=v.ownBlock\/∃ g,u.ownBlock=some g/\w.heap.size<=g)/\Keep (fun k=>v.ownBlock=some k) w w'):=by
 obtain⟨ys,q1,q2⟩:=dh;obtain⟨xs,q3,q4⟩:=hY;obtain⟨u,w',hr,h5,h6,h7⟩:=zr0 (g:=g) (pos:=pos) (aft:=aft) (dst:=dst) (ty:=ty) hu he dg hk hx hy q3 q1 (zst h1 q1 rfl q2) da dl;refine⟨u,w',hr,?_,h6,h7⟩;refine⟨xs++ys,tD,?_⟩;have db:∀ x cs,R D w x cs->R D w' x cs:=fun x cs h=>hs D D w w' (fun _ h=>h) (fun b hb dc=>h7.block b dc (hD b hb dc)) x cs h;intro i x hx;have dm:=q3.1;by_cases hi:i<l.length
 .
  rw[ztN hi]at hx;have h5:(i+1)*k<=l.length*k:=zwx _ hi;rw[zwB]at h5;rw[zuM tO,zwb tD];exact db _ _ (q4 i x hx)
 rw[ztO tO]at hx;have h5:l.length*k<=i*k:=zwx _ tO;rw[List.drop_append,List.drop_eq_nil_of_le tO,zvO,dm,<- Nat.sub_mul];exact db _ _ (q2 _ x hx)
end
mutual
/-- The steps in preorder. -/
def St.pre:St->List St
 | .mk a c v n t f g b=>.mk a c v n t f g b::(preL f++preL g)
def preL:List St->List St
 | []=>[]
 | s::r=>s.pre++preL r
end
theorem St.pre_eq (s:St):s.pre=s::(preL s.thn++preL s.els):=by cases s;rw[St.pre];rfl
theorem zc4 (a b:List St):preL (a++b)=preL a++preL b:=by
 induction a with
 | nil=>rfl
 | cons x r ih=>rw[zuH,preL,ih,preL,zuE]
theorem ziM {l:List St} {x:St} (h:l[i]?=some x):preL (l.take (i+1))=preL (l.take i)++x.pre:=by rw[ze h,zc4];simp[preL]
theorem qk:∀ l:List St,(preL l).length=ssize l:=by
 intro l;induction l using zr3 with
 | h l ih =>
  have key:∀ r:List St,(∀ s ∈ r,(preL s.thn).length=ssize s.thn/\(preL s.els).length=ssize s.els)->(preL r).length=ssize r:=by
   intro r;induction r with
   | nil=>intro _;rfl
   | cons x r ih2 =>
    intro h;have h1:=h x (ztr ..);have h2:=ih2 (fun s hs=>h s (ztq _ hs));have h4:=x.size_eq;rw[preL,ztv,x.pre_eq,ztQ,ztv,h1.1,h1.2,h2,ssize];omega
  exact key l ih
open Go.RowKit Go.ChangeMaps
def lkm:List (Int × Value)->Int->Option (Nat × Value)
 | [],_=>none
 | (a,v)::r,k=>if k=a then some (0,v) else (lkm r k).map fun p=>(p.1+1,p.2)
def zmt (l:List (Int × Value)) (k:Int):Option Value:=(lkm l k).map (·.2)
def zii (l:List (Int × Value)) (k:Int) (v:Value):List (Int × Value):=match lkm l k with
 | some p=>l.set p.1 (k,v)
 | none=>l++[(k,v)]
theorem zbc {p:Nat × Value} (h:lkm l k=some p):l[p.1]?=some (k,p.2):=by
 induction l generalizing p with
 | nil=>simp[lkm]at h
 | cons x r ih =>
  obtain⟨a,v⟩:=x;rw[lkm]at h;split at h
  . grind
  obtain⟨q,h2,rfl⟩:=zwI.1 h
  grind
theorem zkU (h:lkm l k=none):∀ p ∈ l,p.1 ≠ k:=by
 induction l with
 | nil=>intro p hp;simp at hp
 | cons x r ih =>
  obtain⟨a,v⟩:=x;rw[lkm]at h;split at h
  . cases h
  rename_i h1;intro p hp;rcases ztD.1 hp with rfl | hp
  . omega
  exact ih (by simpa using h) p hp
theorem ziN (l:List (Int × Value)) (k:Int) (v:Value):(zii l k v).map (·.1)=match lkm l k with
 | some _=>l.map (·.1)
 | none=>l.map (·.1)++[k]:=by
 unfold zii;cases h:lkm l k with
 | none=>simp
 | some p =>
  have h1:=zbc h;simp only;rw[zvB];apply zuW;intro j;rw[zvi];split
  .
   rename_i hj;subst hj;rw[ztE,h1];split
   . rfl
   rename_i h2;rw[ztH]at h2;exact absurd (ztB.1 h1).1 h2
  rfl
theorem zau (hn:(l.map (·.1)).Nodup) (k:Int) (v:Value):((zii l k v).map (·.1)).Nodup:=by
 rw[ziN];cases h:lkm l k with
 | some p=>exact hn
 | none =>
  simp only;rw[zvP];refine⟨hn,tR,fun a ha b hb=>?_⟩;rw[ztF]at hb;subst hb;obtain⟨p,hp,rfl⟩:=zvI.1 ha;exact zkU h p hp
def MapI (w:World) (m:Nat) (l:List (Int × Value)):Prop :=
 ∃ (es:Array MapEntry) (clock:Nat),w.heap[m]?=some (.map es clock)/\es.toList.map (fun e=>(e.key,e.val))=l.map (fun p=>(Value.int .i64 p.1,p.2))/\(∀ e ∈ es.toList,e.born<clock)/\(es.toList.map (·.born)).Nodup/\(l.map (·.1)).Nodup
theorem MapI.keep {S:Nat->Prop} (h:MapI w m l) (hk:Keep S w w') (hS:¬ S m):MapI w' m l:=by
 obtain⟨es,c,h1,r⟩:=h;exact⟨es,c,by rw[hk.block m (ztZ.1 h1).1 hS];exact h1,r⟩
theorem MapI.lt (h:MapI w m l):m<w.heap.size:=by
 obtain⟨es,c,h1,r⟩:=h;exact(ztZ.1 h1).1
theorem jo (k:Int):∀ (es:List MapEntry) (l:List (Int × Value)) (i:Nat),es.map (fun e=>(e.key,e.val))=l.map (fun p=>(Value.int .i64 p.1,p.2))->Instr.findNow (.int .i64) (.int .i64 k) es i=some ((lkm l k).map fun p=>(i+p.1,p.2))
 | [],[],i,_=>rfl
 | [],_::_,i,h=>tD
 | _::_,[],i,h=>tD
 | e::es,(a,v)::l,i,h=>by
  simp only[zvx,List.cons.injEq,Prod.mk.injEq]at h;rw[Instr.findNow,h.1.1,lkm];by_cases hk:k=a
  . simp[Instr.sameNow,hk,h.1.2]
  have:(k == a)=false:=by simpa using hk
  simp only[Instr.sameNow,if_true,this,ztx hk];rw[jo k es l (i+1) h.2];cases lkm l k<;>simp<;>omega
section
variable {kt:TypeId}
theorem jJ (hk:P.underlying kt=some (.int .i64)) (k:Int) (b:Bool) (w:World):(Instr.checkKey b 10000 kt (.int .i64 k)).run P w=.ok () w:=MapKept.run_checkKey hk (by simp[MapKept.IsKey]) b 9999
theorem zfX (h:MapI w m l) (ht:P.underlying t=some (.map kt et)) (hk:P.underlying kt=some (.int .i64)) (hz:∀ w,(zeroValue et).run P w=.ok z w) (k:Int):(Instr.lookup t (.map (some m)) (.int .i64 k) false).run P w=.ok ((zmt l k).getD z) w:=by
 obtain⟨es,c,h1,h2,r⟩:=h;have h3:=jo k _ _ 0 h2;have h5:=MapKept.run_findKey (P:=P) (w:=w) hk h3;cases h6:lkm l k with
 | none=>rw[h6]at h5;simp[Instr.lookup,run_underlying ht,MapKept.run_getObj_map h1,jJ hk,h5,hz,Result.andThen,zmt,h6]
 | some p=>rw[h6]at h5;simp[Instr.lookup,run_underlying ht,MapKept.run_getObj_map h1,jJ hk,h5,Result.andThen,zmt,h6]
theorem ql {o o':Obj} (h:w.heap[m]?=some o):Keep (fun q=>q=m) w (setBlock w m o') :=
 ⟨rfl,rfl,rfl,ztM _,by simp[setBlock],fun k _ hn=>(MapKept.heap_set h).2 k hn⟩
theorem zcR {β:Type} (f:MapEntry->β) (g:MapEntry->MapEntry) (y:β):∀ (es:List MapEntry) (i:Nat),(∀ e,es[i]?=some e->f (g e)=y)->(es.modify i g).map f=(es.map f).set i y:=by
 intro es i h;apply zuW;intro j;rw[ztE,zve,zvi];by_cases hj:i=j
 .
  subst hj;cases h1:es[i]? with
  | none =>
   have:=List.getElem?_eq_none_iff.1 h1;rw[zty rfl,ztx tD];simp
  | some e =>
   have:=(ztB.1 h1).1;rw[zty rfl,zty tD];simp[h e h1]
 rw[ztx hj,ztE];cases es[j]?<;>simp[hj]
theorem zfY (h:MapI w m l) (ht:P.underlying t=some (.map kt et)) (hk:P.underlying kt=some (.int .i64)) (k:Int) (v:Value) :
  ∃ w',(Instr.mapUpdate t (.map (some m)) (.int .i64 k) v).run P w=.ok () w'/\MapI w' m (zii l k v)/\Keep (fun q=>q=m) w w'/\w'.heap.size=w.heap.size:=by
 obtain⟨es,c,h1,h2,h3,h4,h5⟩:=h;have h6:=jo k _ _ 0 h2;have h7:=MapKept.run_findKey (P:=P) (w:=w) hk h6;have db:es.toList.length=l.length:=by have:=congrArg List.length h2;simpa using this
 cases h8:lkm l k with
 | none =>
  rw[h8]at h7;refine⟨setBlock w m (.map (es.push ⟨.int .i64 k,v,c⟩) (c+1)),by simp[Instr.mapUpdate,run_underlying ht,MapKept.run_getObj_map h1,jJ hk,h7,MapKept.run_setObj_map _ h1,Result.andThen,setBlock],?_,ql h1,by simp[setBlock]⟩;refine⟨_,_,(MapKept.heap_set h1).1,?_,?_,?_,zau h5 k v⟩
  . rw[zii,h8];simp[h2]
  . grind
  rw[Array.toList_push,zvv,zvP];refine⟨h4,tR,fun a ha b hb=>?_⟩;obtain⟨e,he,rfl⟩:=zvI.1 ha;simp at hb;subst hb;have:=h3 e he;omega
 | some p =>
  rw[h8]at h7;have h9:=zbc h8;have hp:=(ztB.1 h9).1;obtain⟨e0,dc⟩:∃ e0,es.toList[p.1]?=some e0:=iA
  have hY:e0.key=.int .i64 k/\e0.val=p.2:=by
   have:=congrArg (fun L=>L[p.1]?) h2;simp only[ztE,dc,h9,zwJ,Option.some.injEq,Prod.mk.injEq]at this;exact this
  have da:es[p.1]?=some e0:=tD;refine⟨setBlock w m (.map (es.modify p.1 fun e=>{ e with key:=.int .i64 k,val:=v }) c),by simp[Instr.mapUpdate,run_underlying ht,MapKept.run_getObj_map h1,jJ hk,h7,da,hY.1,Instr.keyThatStays,Instr.sameBits,MapKept.run_setObj_map _ h1,Result.andThen,setBlock],?_,ql h1,by simp[setBlock]⟩;refine⟨_,_,(MapKept.heap_set h1).1,?_,?_,?_,zau h5 k v⟩
  . rw[zii,h8,zu5,zcR _ _ (.int .i64 k,v) _ _ j9,h2];simp only[zvB]
  .
   intro e he;rw[zu5]at he;obtain⟨j,hj⟩:=zvH.1 he;rw[zve]at hj;obtain⟨e1,dg,rfl⟩:=zwI.1 hj;have:=h3 e1 (zto dg);split<;>exact this
  have:(es.modify p.1 fun e=>{ e with key:=.int .i64 k,val:=v }).toList.map (·.born)=es.toList.map (·.born):=by
   rw[zu5];apply zuW;intro j;rw[ztE,ztE,zve];cases es.toList[j]?<;>simp;split<;>rfl
  rw[this];exact h4
end
section
variable {ty:TypeId} {pos:String} {kt:TypeId}
theorem M.makeMap:yM P ⟨dst,.makeMap t none,ty,pos,aft,g⟩ env w (fun u w'=>∃ b,u=.map (some b)/\b=w.heap.size/\w'.heap.size=w.heap.size+1/\MapI w' b []/\Ext w w'):=by
 refine⟨.map (some w.heap.size),w.alloc (.map #[] 0),?_,_,rfl,rfl,tR,⟨#[],0,(MapKept.heap_alloc w _).1,rfl,tR,tR,tR⟩,Keep.alloc w _⟩;intro n a ha;have h:(Instr.makeMap t none).run P w=.ok (.map (some w.heap.size)) (w.alloc (.map #[] 0)):=by simp[Instr.makeMap,Result.andThen]
 simp[execOp,h]
theorem zsv (h:MapI w m l) (ht:P.underlying t=some (.map kt et)) (hk:P.underlying kt=some (.int .i64)) (hz:∀ w,(zeroValue et).run P w=.ok z w) (hx:ev env x=some (.map (some m))) (hy:ev env y=some (.int .i64 k)) :
  yx P ⟨dst,.lookup t x y false,ty,pos,aft,g⟩ env w ((zmt l k).getD z) w:=by
 intro n a ha;simp[execOp,ha.eval hx,ha.eval hy,zfX h ht hk hz]
theorem M.insert (h:MapI w m l) (ht:P.underlying t=some (.map kt et)) (hk:P.underlying kt=some (.int .i64)) (hx:ev env x=some (.map (some m))) (hy:ev env y=some (.int .i64 k)) (hu:ev env u=some v) :
  xY P ⟨dst,.insert t x y u,ty,pos,aft,g⟩ env w (fun w'=>MapI w' m (zii l k v)/\Keep (fun q=>q=m) w w'/\w'.heap.size=w.heap.size):=by
 obtain⟨w',h1,h2⟩:=zfY (P:=P) h ht hk k v;refine⟨w',?_,h2⟩;intro n a ha;simp[execOp,ha.eval hx,ha.eval hy,ha.eval hu,h1]
end
def MapE (w:World) (m:Nat) (l:List (Int × Value)) (k:Int) (st:Nat):Prop :=
 ∃ (es:Array MapEntry) (clock i:Nat) (e:MapEntry) (v:Value),w.heap[m]?=some (.map es clock)/\es.toList.map (fun e=>(e.key,e.val))=l.map (fun p=>(Value.int .i64 p.1,p.2))/\(∀ e ∈ es.toList,e.born<clock)/\(es.toList.map (·.born)).Nodup/\(l.map (·.1)).Nodup /\
  es.toList[i]?=some e/\e.born=st/\lkm l k=some (i,v)
theorem MapE.keep {S:Nat->Prop} {st:Nat} (h:MapE w m l k st) (hk:Keep S w w') (hS:¬ S m):MapE w' m l k st:=by
 obtain⟨es,c,i,e,v,h1,r⟩:=h;exact⟨es,c,i,e,v,by rw[hk.block m (ztZ.1 h1).1 hS];exact h1,r⟩
theorem MapE.map {st:Nat} (h:MapE w m l k st):MapI w m l:=by
 obtain⟨es,c,i,e,v,h1,h2,h3,h4,h5,_⟩:=h;exact⟨es,c,h1,h2,h3,h4,h5⟩
section
variable {ty:TypeId} {pos:String} {kt:TypeId}
theorem M.mapEntry (h:MapI w m l) (hv:zmt l k=some v) (ht:P.underlying t=some (.map kt et)) (hk:P.underlying kt=some (.int .i64)) (hx:ev env x=some (.map (some m))) (hy:ev env y=some (.int .i64 k)) :
  yM P ⟨dst,.mapEntry t x y,ty,pos,aft,g⟩ env w (fun u w'=>∃ st:Nat,u=.tuple #[v,.int .i64 st]/\MapE w' m l k st/\Keep (fun q=>q=m) w w'/\w'.heap.size=w.heap.size):=by
 obtain⟨es,c,h1,h2,h3,h4,h5⟩:=h;have h6:=jo k _ _ 0 h2;have h7:=MapKept.run_findKey (P:=P) (w:=w) hk h6;have dh:es.toList.length=l.length:=by have:=congrArg List.length h2;simpa using this
 obtain⟨p,h8,rfl⟩:=zwI.1 hv;rw[h8]at h7;have h9:=zbc h8;have hp:=(ztB.1 h9).1;obtain⟨e0,db⟩:∃ e0,es.toList[p.1]?=some e0:=iA
 have da:e0.key=.int .i64 k/\e0.val=p.2:=by
  have:=congrArg (fun L=>L[p.1]?) h2;simp only[ztE,db,h9,zwJ,Option.some.injEq,Prod.mk.injEq]at this;exact this
 have dc:es[p.1]?=some e0:=tD
 have dg:(Instr.mapEntry t (.map (some m)) (.int .i64 k)).run P w=.ok (.tuple #[p.2,.int .i64 e0.born]) (setBlock w m (.map (es.modify p.1 fun e=>{ e with key:=.int .i64 k }) c)):=by
  simp[Instr.mapEntry,run_underlying ht,MapKept.run_getObj_map h1,jJ hk,h7,dc,da.1,Instr.keyThatStays,Instr.sameBits,MapKept.run_setObj_map _ h1,Result.andThen,setBlock,goInt]
 have hY:(es.modify p.1 fun e=>{ e with key:=.int .i64 k }).toList=es.toList:=by
  rw[zu5];apply zuW;intro j;rw[zve];by_cases hj:p.1=j
  . subst hj;rw[db];simp[<- da.1]
  grind
 refine⟨_,_,fun n a ha=>?_,e0.born,rfl,⟨_,c,p.1,e0,p.2,(MapKept.heap_set h1).1,by rw[hY];exact h2,by rw[hY];exact h3,by rw[hY];exact h4,h5,by rw[hY];exact db,rfl,h8⟩,ql h1,by simp[setBlock]⟩;simp[execOp,ha.eval hx,ha.eval hy,dg]
theorem M.entryStore {st:Nat} (h:MapE w m l k st) (hx:ev env x=some (.map (some m))) (hy:ev env y=some (.int .i64 st)) (hu:ev env u=some v) :
  xY P ⟨dst,.entryStore t x y u,ty,pos,aft,g⟩ env w (fun w'=>MapI w' m (zii l k v)/\Keep (fun q=>q=m) w w'/\w'.heap.size=w.heap.size):=by
 obtain⟨es,c,i,e,v0,h1,h2,h3,h4,h5,h6,rfl,h8⟩:=h;have hi:=(ztB.1 h6).1
 have hY:es.findIdx? (fun x=>(x.born:Int) == (e.born:Int))=some i:=by
  rw[show es=es.toList.toArray from tR,List.findIdx?_toArray,List.findIdx?_eq_some_iff_getElem];refine⟨hi,by rw[(ztB.1 h6).2];simp,fun j hj=>?_⟩;have:=List.nodup_iff_pairwise_ne.1 h4;rw[zvV]at this;have h9:=this j i tD tD hj;rw[List.getElem_map,List.getElem_map,(ztB.1 h6).2]at h9;intro dc;have dl:(es.toList[j].born:Int)=e.born:=eq_of_beq dc;exact h9 tO
 have da:(Instr.entryStore t (.map (some m)) (.int .i64 e.born) v).run P w=.ok () (setBlock w m (.map (es.modify i fun x=>{ x with val:=v }) c)):=by
  simp[Instr.entryStore,MapKept.run_getObj_map h1,asInt,asIntOf,hY,MapKept.run_setObj_map _ h1,Result.andThen,setBlock]
 have dg:e.key=.int .i64 k:=by
  have h9:=zbc h8;have:=congrArg (fun L=>L[i]?) h2;simp only[ztE,h6,h9,zwJ,Option.some.injEq,Prod.mk.injEq]at this;exact this.1
 refine⟨setBlock w m (.map (es.modify i fun x=>{ x with val:=v }) c),fun n a ha=>?_,⟨_,c,(MapKept.heap_set h1).1,?_,?_,?_,zau h5 k v⟩,ql h1,by simp[setBlock]⟩
 . simp[execOp,ha.eval hx,ha.eval hy,ha.eval hu,da]
 . rw[zii,h8,zu5,zcR _ _ (.int .i64 k,v) _ _ (fun x hx=>tD),h2];simp only[zvB]
 .
  intro x db;rw[zu5]at db;obtain⟨j,hj⟩:=zvH.1 db;rw[zve]at hj;obtain⟨e1,dh,rfl⟩:=zwI.1 hj;have:=h3 e1 (zto dh);split<;>exact this
 have:(es.modify i fun x=>{ x with val:=v }).toList.map (·.born)=es.toList.map (·.born):=by
  rw[zu5];apply zuW;intro j;rw[ztE,ztE,zve];cases es.toList[j]?<;>simp;split<;>rfl
 rw[this];exact h4
end
end Go.GL
namespace Go.Proofs.YtckdhgbepmpgiaaGreat
open Go.GL
def yQ (b:Bool):Int:=if b then 1 else 0
def lki (l:List Int) (i:Nat):Int:=l[i]?.getD 0
theorem zgI {l:List Int} {x:Int} (h:l[i]?=some x):lki l i=x:=by simp[lki,h]
theorem zgJ {l:List Int} (h:i<l.length):l[i]?=some (lki l i):=by simp[lki,ztn h]
def qm (op a b:Int):Int :=
 if op=8 then a+b else if op=9 then a - b else if op=10 then a*b else if op=11 then a.fdiv b
 else if op=12 then (if b=0 then 0 else a - b*a.fdiv b) else if op=13 then yQ (decide (a=b)) else if op=14 then yQ (decide (a ≠ b))
 else if op=15 then yQ (decide (a<b)) else if op=16 then yQ (decide (a<=b)) else if op=17 then yQ (decide (b<a)) else if op=18 then yQ (decide (b<=a))
 else if op=19 then yQ (decide (a ≠ 0)&&decide (b ≠ 0)) else if op=20 then yQ (decide (a ≠ 0) || decide (b ≠ 0)) else if op=21 then min a b else max a b
def qB (vals:List Int) (op n:Int) (ks:List Int):Int :=
 if op=0 then n else if op=24 then lki vals n.toNat else if op=6 then -(lki ks 0) else if op=7 then yQ (decide (lki ks 0=0))
 else if op=23 then (if lki ks 0 ≠ 0 then lki ks 1 else lki ks 2)
 else if op=25 then lki ks (1+yA (lki ks 0) 0 ((ks.length:Int) - 2)).toNat
 else qm op (lki ks 0) (lki ks 1)
mutual
def xK (vals:List Int):Tm->Int
 | .mk op n ks=>qB vals op n (valL vals ks)
def valL (vals:List Int):List Tm->List Int
 | []=>[]
 | k::r=>xK vals k::valL vals r
end
theorem zc5 (vals:List Int) (t:Tm):xK vals t=qB vals t.op t.n (valL vals t.kids):=by cases t;rw[xK];rfl
theorem zbd (vals:List Int) (l:List Tm):valL vals l=l.map (xK vals):=by
 induction l with
 | nil=>rfl
 | cons x r ih=>rw[valL,ih];rfl
theorem zdE (vals:List Int) (l:List Tm):(valL vals l).length=l.length:=by rw[zbd,ztH]
theorem zdF {l:List Tm} {k:Tm} (h:l[i]?=some k):lki (valL vals l) i=xK vals k:=by
 apply zgI;rw[zbd,ztE,h];rfl
structure InV (vs:List Vr) (vals:List Int):Prop where
 len:vals.length=vs.length
 at_:∀ (i:Nat) (v:Vr),vs[i]?=some v->v.low<=lki vals i/\lki vals i<=v.high
theorem zkV (a b:Int) (ha:-1048576<=a/\a<=1048576):(0<=a -> -a<=a.fdiv b/\a.fdiv b<=a)/\(a<=0->a<=a.fdiv b/\a.fdiv b <= -a)/\(0<=a->0<=b->0<=a.fdiv b):=by
 rcases Int.lt_trichotomy b 0 with hb | hb | hb
 .
  have h1:a.fdiv b=(-a).ediv (-b):=by
   rw[<- Int.neg_fdiv_neg,zum _ tO];rfl
  rw[h1];have h2:=Int.mul_ediv_add_emod (-a) (-b);have h3:=zuk (-a) (show -b ≠ 0 by omega);have h4:=zuj (-a) (show 0 < -b by omega);change -b*((-a).ediv (-b))+(-a).emod (-b)=-a at h2;change 0<=(-a).emod (-b) at h3;change (-a).emod (-b) < -b at h4;generalize (-a).ediv (-b)=q at *;generalize (-a).emod (-b)=r at *;obtain⟨c,rfl⟩:∃ c,b=-c:=⟨-b,tO⟩;simp only[Int.neg_neg]at *;have hc:0<c:=tO;refine⟨fun h=>⟨?_,?_⟩,fun h=>⟨?_,?_⟩,fun h h'=>tO⟩
  .
   rcases zup q (-a) with h5 | h5
   .
    have:c*q<=c*(-a - 1):=zur tO tO;have:c*(-a - 1)<=1*(-a - 1):=zuu tO tO;have e:c*(-a - 1)=c*(-a) - c:=tD;have:c*(-a)<=1*(-a):=zuu tO tO;omega
   exact h5
  .
   rcases zup 0 q with h5 | h5
   .
    have:c*1<=c*q:=zur tO tO;omega
   omega
  .
   rcases zup q 0 with h5 | h5
   .
    have:c*q<=c*(-1):=zur tO tO;omega
   omega
  rcases zup (-a) q with h5 | h5
  .
   have:c*(-a+1)<=c*q:=zur tO tO;have:1*(-a+1)<=c*(-a+1):=zus tO tO;omega
  exact h5
 . grind
 have h1:a.fdiv b=a.ediv b:=zum _ tO;rw[h1];have h2:=Int.mul_ediv_add_emod a b;have h3:=zuk a (show b ≠ 0 by omega);have h4:=zuj a hb;change b*(a.ediv b)+a.emod b=a at h2;change 0<=a.emod b at h3;change a.emod b<b at h4;generalize a.ediv b=q at *;generalize a.emod b=r at *
 have hq:0<=a->0<=q:=fun h=>by
  rcases zup q 0 with h5 | h5
  .
   have:b*q<=b*(-1):=zur tO tO;omega
  exact h5
 refine⟨fun h=>⟨tO,?_⟩,fun h=>⟨?_,?_⟩,fun h _=>hq h⟩
 .
  rcases zup a q with h5 | h5
  .
   have:b*(a+1)<=b*q:=zur tO tO;have:1*(a+1)<=b*(a+1):=zus tO tO;omega
  exact h5
 .
  rcases zup q a with h5 | h5
  .
   have:b*q<=b*(a - 1):=zur tO tO;have:b*(a - 1)<=1*(a - 1):=zuu tO tO;have e:b*(a - 1)=b*a - b:=tD;have:b*a<=1*a:=zuu tO tO;omega
  exact h5
 rcases zup 0 q with h5 | h5
 .
  have:b*1<=b*q:=zur tO tO;omega
 omega
theorem zcS (a b:Int):(b<0->b<a - b*a.fdiv b/\a - b*a.fdiv b<=0)/\(0<b->0<=a - b*a.fdiv b/\a - b*a.fdiv b<b):=by
 have h2:=Int.mul_fdiv_add_fmod a b;refine⟨fun hb=>?_,fun hb=>?_⟩
 .
  have h3:a.fmod b=-((-a).emod (-b)):=by
   have:=Int.neg_fmod_neg (-a) (-b);simp only[Int.neg_neg]at this;rw[this,zun _ tO];rfl
  have h4:=zuk (-a) (show -b ≠ 0 by omega);have h5:=zuj (-a) (show 0 < -b by omega);change 0<=(-a).emod (-b) at h4;change (-a).emod (-b) < -b at h5;omega
 have h3:a.fmod b=a.emod b:=zun _ tO;have h4:=zuk a (show b ≠ 0 by omega);have h5:=zuj a hb
 grind
theorem ziO {x y d:Int} (hx:a<=x/\x<=b) (hy:c<=y/\y<=d):min (min (a*c) (a*d)) (min (b*c) (b*d))<=x*y/\x*y<=max (max (a*c) (a*d)) (max (b*c) (b*d)):=by
 have key:∀ (u v p q:Int),p<=v->v<=q->min (u*p) (u*q)<=u*v/\u*v<=max (u*p) (u*q):=by
  intro u v p q h1 h2;rcases Int.le_total 0 u with hu | hu
  .
   have:=zur h1 hu;have:=zur h2 hu;omega
  have:=zut (a:=u) hu h1;have:=zut (a:=u) hu h2;omega
 have h1:=key y x a b hx.1 hx.2;have h2:=key a y c d hy.1 hy.2;have h3:=key b y c d hy.1 hy.2;rw[Int.mul_comm y a,Int.mul_comm y b,Int.mul_comm y x]at h1;omega
theorem zeP (x:Rg):∀ l:List Rg,((xl x l).1<=x.1/\x.2<=(xl x l).2)/\∀ r ∈ l,(xl x l).1<=r.1/\r.2<=(xl x l).2:=by
 intro l;induction l generalizing x with
 | nil=>simp[xl]
 | cons y r ih =>
  have h:=ih (min x.1 y.1,max x.2 y.2);rw[show xl x (y::r)=xl (min x.1 y.1,max x.2 y.2) r from rfl];refine⟨tO,fun z hz=>?_⟩;rcases ztD.1 hz with rfl | hz
  . omega
  grind
theorem ziP {op:Int} (h1:op ≠ 8) (h2:op ≠ 9) (h3:op ≠ 10) (h4:op ≠ 11) (h5:op ≠ 12) (h6:op ≠ 21) (h7:op<=20) (h8:8<=op):qm op a b=0\/qm op a b=1:=by
 have hf:∀ b,yQ b=0\/yQ b=1:=fun b=>by cases b<;>simp[yQ]
 unfold qm;rw[ztx h1,ztx h2,ztx h3,ztx h4,ztx h5]
 (repeat' split);all_goals first | exact hf _ | omega
theorem qJ (n:Int) {lo hi:Int} (h:lo<=hi):lo<=yA n lo hi/\yA n lo hi<=hi:=by
 unfold yA
 (repeat' split);all_goals omega
theorem zkW {op n:Int} {ks:List Int} {l:List Rg} (hV:InV vs vals) (hn:NodeOk vs op n l) (hY:ks.length=l.length) (da:op=23->l.length=3) (dc:op=0\/op=24\/op=6\/op=7\/8<=op/\op<=22\/op=23\/op=25)
  (hk:∀ i,i<l.length->(at2 l i).1<=lki ks i/\lki ks i<=(at2 l i).2):(zn vs op n l).1<=qB vals op n ks/\qB vals op n ks<=(zn vs op n l).2:=by
 have hg:∀ i,i<l.length->yT (at2 l i):=fun i hi=>hn.good _ (ziA hi);have hf:∀ b,0<=yQ b/\yQ b<=1:=fun b=>by cases b<;>simp[yQ]
 unfold yT at hg;unfold zn qB;by_cases c0:op=0
 . grind
 rw[ztx c0,ztx c0];by_cases c24:op=24
 .
  rw[zty c24,zty c24];have h1:=hn.var c24;obtain⟨v,hv⟩:∃ v,vs[n.toNat]?=some v:=iA;rw[ziy hv];exact hV.at_ _ _ hv
 rw[ztx c24,ztx c24];by_cases c6:op=6
 .
  have:=hn.k1 (.inl c6);have:=hk 0 tO
  grind
 rw[ztx c6,ztx c6];by_cases c7:op=7
 . grind
 rw[ztx c7];by_cases c23:op=23
 .
  have h3:=hn.k3 (.inl c23);rw[zty c23]
  repeat rw[ztx (show ¬ op=_ by omega)]
  rw[zty (.inl c23)];have hm:=zeP (at2 l 1) (l.drop 2);split
  . grind
  have h2:2<l.length:=by have:=da c23;omega
  have:=hk 2 tO
  have:=hm.2 (at2 l 2) (by
   unfold at2;rw[ztn h2]
   exact zvH.2 ⟨0,by rw[zvc];exact ztn h2⟩)
  omega
 rw[ztx c23];by_cases c25:op=25
 .
  have h3:=hn.k3 (.inr c25);rw[zty c25]
  repeat rw[ztx (show ¬ op=_ by omega)]
  rw[zty (.inr c25)];have hm:=zeP (at2 l 1) (l.drop 2);have db:=qJ (lki ks 0) (show (0:Int)<=(ks.length:Int) - 2 by omega);obtain⟨j,hj⟩:∃ j:Nat,yA (lki ks 0) 0 ((ks.length:Int) - 2)=j:=zul db.1;have dg:j+2<=l.length:=tO;rw[hj,show (1+(j:Int)).toNat=j+1 by omega];have:=hk (j+1) tO;by_cases h2:j=0
  . grind
  have:=hm.2 (at2 l (j+1)) (by
   unfold at2;rw[ztn (show j+1<l.length by omega)]
   exact zvH.2 ⟨j - 1,by rw[zvc,show 2+(j - 1)=j+1 by omega];exact ztn tO⟩)
  omega
 rw[ztx c25];have hb:8<=op/\op<=22:=tO;have dh:=hn.k2 hb;have h0:=hk 0 tO;have h1:=hk 1 tO;have g0:=hg 0 tO;have g1:=hg 1 tO;generalize lki ks 0=x at *;generalize lki ks 1=y at *;generalize at2 l 0=r0 at *;generalize at2 l 1=r1 at *;by_cases c8:op=8
 . rw[zty c8,qm,zty c8];dsimp only;omega
 rw[ztx c8];by_cases c9:op=9
 . rw[zty c9,qm,ztx c8,zty c9];dsimp only;omega
 rw[ztx c9];by_cases c10:op=10
 .
  rw[zty c10,qm,ztx c8,ztx c9,zty c10];have:=ziO h0 h1;unfold jV xl
  grind
 rw[ztx c10];by_cases c11:op=11
 .
  rw[zty c11,qm,ztx c8,ztx c9,ztx c10,zty c11];have:=zkV x y tO;omega
 rw[ztx c11];by_cases c12:op=12
 .
  rw[zty c12,qm,ztx c8,ztx c9,ztx c10,ztx c11,zty c12];have:=zcS x y;omega
 rw[ztx c12];by_cases c21:op=21
 .
  rw[zty c21]
  have e:qm op x y=min x y:=by
   unfold qm;omega
  omega
 rw[ztx c21];by_cases c22:op=22
 .
  rw[zty c22]
  have e:qm op x y=max x y:=by
   unfold qm;omega
  omega
 rw[ztx c22,ztx tO];have:=ziP (a:=x) (b:=y) c8 c9 c10 c11 c12 c21 tO tO;dsimp only;omega
theorem zmP (hv:∀ v ∈ vs,yT (v.low,v.high)) (hV:InV vs vals) (t:Tm):zA vs inp t=true->∀ r,rng vs t=some r->r.1<=xK vals t/\xK vals t<=r.2:=by
 induction t using zr1 with
 | h t ih =>
  intro hf r hr;rw[yW,zu8,zu8]at hf;rw[zbP,zwD]at hr;obtain⟨l,h1,h2⟩:=hr;have da:=qH _ _ h1
  have hn:NodeOk vs t.op t.n l:=jH da hf.1.1 hf.1.2 (fun x hx=>by
   obtain⟨k,hk,db⟩:=jW _ _ h1 x hx
   exact kV hv k (ya hf.2 hk) x db) hv
  have hY:=hf.1.1
  have hget:∀ (ks:List Tm) (m:List Rg),rngL vs ks=some m->∀ (i:Nat) k,ks[i]?=some k->rng vs k=some (at2 m i):=by
   intro ks;induction ks with
   | nil=>intro m _ i k h;simp at h
   | cons y ys ihy =>
    intro m hm i k hk;simp only[rngL,zwD,zwI]at hm;obtain⟨z,g1,u,g2,rfl⟩:=hm;cases i with
    | zero=>simp at hk;subst hk;simpa[at2] using g1
    | succ i=>simp at hk;have:=ihy u g2 i k hk;simpa[at2] using this
  have H:=zkW (n:=t.n) (op:=t.op) (ks:=valL vals t.kids) (l:=l) hV hn (by rw[zdE,da]) (fun h=>by
    unfold zZ at hY;rw[show zR t.op=3 by unfold zR;rw[h];rfl]at hY;simp at hY;omega) (by
    by_cases h:0<=zR t.op\/zR t.op=-2
    .
     unfold zR at h
     repeat' split at h
     all_goals omega
    .
     exfalso;have:=jU t.op;rw[zcN (.inl tO)]at hY
     grind) (fun i hi=>by
    obtain⟨k,hk⟩:∃ k,t.kids[i]?=some k:=iA;rw[zdF hk]
    exact ih k (zto hk) (ya hf.2 (zto hk)) _ (hget _ _ h1 i k hk))
  rw[zc5];split at h2
  . grind
  cases h2
end Go.Proofs.YtckdhgbepmpgiaaGreat
namespace Go.GL
section
variable {ty:TypeId} {pos:String} {m j:Int}
theorem R.quo (hx:ev env x=some (.int .i64 m)) (hy:ev env y=some (.int .i64 j)) (hj:j ≠ 0) (hr:-9223372036854775808<m/\m<=9223372036854775807):yx P ⟨dst,.binOp .quo t x y t',ty,pos,aft,g⟩ env w (.int .i64 (m.tdiv j)) w:=by
 intro n a ha;have h1:(m.tdiv j).natAbs<=m.natAbs:=zuv m j;have h2:IntKind.i64.wrap (m.tdiv j)=m.tdiv j:=qp tO;simp[execOp,ha.eval hx,ha.eval hy,eqGuard_quo,binOp_quo,Op.intDiv,hj,h2]
theorem R.rem (hx:ev env x=some (.int .i64 m)) (hy:ev env y=some (.int .i64 j)) (hj:j ≠ 0) (_:-9223372036854775808<m/\m<=9223372036854775807):yx P ⟨dst,.binOp .rem t x y t',ty,pos,aft,g⟩ env w (.int .i64 (m.tmod j)) w:=by
 intro n a ha;simp[execOp,ha.eval hx,ha.eval hy,eqGuard_rem,binOp_rem,Op.intDiv,hj]
end
theorem zeQ (a b:Int) (hb:b ≠ 0):a.fdiv b=if a.tmod b ≠ 0/\(decide (a<0) ≠ decide (b<0)) then a.tdiv b - 1 else a.tdiv b:=by
 rw[Int.fdiv_eq_tdiv];have hd:b ∣ a ↔ a.tmod b=0:=⟨Int.tmod_eq_zero_of_dvd,Int.dvd_of_tmod_eq_zero⟩;by_cases h:b ∣ a
 . rw[zty h,ztx (fun h2=>h2.1 (hd.1 h))];omega
 have hm:a.tmod b ≠ 0:=fun h2=>h (hd.2 h2);rw[ztx h];by_cases ha:0<=a
 .
  rw[zty ha];by_cases hY:0<=b
  . rw[zty hY,ztx (fun h2=>h2.2 (by rw[ztA tO,ztA tO]))];omega
  rw[ztx hY,zty ⟨hm,by rw[ztA tO,ztz tO];decide⟩]
 rw[ztx ha];by_cases hY:0<=b
 . rw[zty hY,zty ⟨hm,by rw[ztz tO,ztA tO];decide⟩,Int.sign_eq_one_of_pos tO]
 rw[ztx hY,ztx (fun h2=>h2.2 (by rw[ztz tO,ztz tO])),Int.sign_eq_neg_one_of_neg tO];omega
end Go.GL
namespace Go.Proofs.YtckdhgbepmpgiaaGreat
open Go.GL
abbrev zfE (a:Int):Prop := -1048576<=a/\a<=1048576
theorem za0 (a b:Int) (w:World) (ha:zfE a) (hb:zfE b):Calls prog 170 #[.int .i64 a,.int .i64 b] w (Ret fun r w'=>r=.int .i64 (a.fdiv b)/\Ext w w'):=by
 refine zqR func170 O ntmps170 O (V.inn (Vs 12 O (zp4 O (fun h0=>?_) (fun h0=>?_))))
 .
  subst h0;refine Vs 7 O (zrz 0 tr170 O O tD)
 have hd:=zeQ a b h0;have hq:(a.tdiv b).natAbs<=a.natAbs:=zuv a b;refine Vs 6 O (zqH O (fun w hI=>R.quo O O h0 tO) (Vs 8 O (zqH O (fun w hI=>R.rem O O h0 tO) (Vs 2 O (V.sp 15 O (fun h1=>?_) (fun h1=>?_))))))
 .
  refine Vs 8 O (zp4 O (fun h2=>?_) (fun h2=>?_))
  . refine Va 13 O tO (zrz 0 tr170 O O tD)
  refine Vs 9 O (zrz 0 tr170 O O tD)
 refine Vs 18 O (zrz 0 tr170 O O tD)
theorem zaU (a b:Int) (w:World) (ha:zfE a) (hb:zfE b):Calls prog 205 #[.int .i64 a,.int .i64 b] w (Ret fun r w'=>r=.int .i64 (a.fdiv b)/\Ext w w'):=by
 refine zqR func205 O ntmps205 O (V.inn (Vs 12 O (zp4 O (fun h0=>?_) (fun h0=>?_))))
 .
  subst h0;refine Vs 7 O (zrz 0 tr205 O O tD)
 have hd:=zeQ a b h0;have hq:(a.tdiv b).natAbs<=a.natAbs:=zuv a b;refine Vs 6 O (zqH O (fun w hI=>R.quo O O h0 tO) (Vs 8 O (zqH O (fun w hI=>R.rem O O h0 tO) (Vs 2 O (V.sp 15 O (fun h1=>?_) (fun h1=>?_))))))
 .
  refine Vs 8 O (zp4 O (fun h2=>?_) (fun h2=>?_))
  . refine Va 13 O tO (zrz 0 tr205 O O tD)
  refine Vs 9 O (zrz 0 tr205 O O tD)
 refine Vs 18 O (zrz 0 tr205 O O tD)
theorem zcT (a b:Int) (hb:b ≠ 0):-(a.natAbs:Int) - b.natAbs<=b*a.fdiv b/\b*a.fdiv b<=(a.natAbs:Int)+b.natAbs:=by
 have h:=zcS a b;omega
theorem zdG (a b:Int) (w:World) (ha:zfE a) (hb:zfE b):Calls prog 171 #[.int .i64 a,.int .i64 b] w (Ret fun r w'=>r=.int .i64 (if b=0 then 0 else a - b*a.fdiv b)/\Ext w w'):=by
 refine zqR func171 O ntmps171 O (V.inn (Vs 12 O (zp4 O (fun h0=>?_) (fun h0=>?_))))
 . refine Vs 7 O (zrz 0 results171 O O tD)
 have hm:=zcT a b h0;refine Vs 8 O (zrs call170 O (fun w hI=>za0 a b w ha hb) (Va 6 O tO (zrz 0 results171 O O tD)))
theorem zeR (a b:Int) (w:World) (ha:zfE a) (hb:zfE b):Calls prog 206 #[.int .i64 a,.int .i64 b] w (Ret fun r w'=>r=.int .i64 (if b=0 then 0 else a - b*a.fdiv b)/\Ext w w'):=by
 refine zqR func206 O ntmps206 O (V.inn (Vs 12 O (zp4 O (fun h0=>?_) (fun h0=>?_))))
 . refine Vs 7 O (zrz 0 results206 O O tD)
 have hm:=zcT a b h0;refine Vs 8 O (zrs call205 O (fun w hI=>zaU a b w ha hb) (Va 6 O tO (zrz 0 results206 O O tD)))
theorem zdH (op a b:Int) (w:World) (ha:zfE a) (hb:zfE b):Calls prog 133 #[.int .i64 op,.int .i64 a,.int .i64 b] w (Ret fun r w'=>r=.int .i64 (qm op a b)/\Ext w w'):=by
 have hY:=zbO ha hb;refine zqS func133 O ntmps133 O (V.inn (Vs 18 O (zp4 O (fun k1_=>?_) (fun k1_=>?_))))
 . refine Va 11 O tO (zrz 0 tr133 O O (by simp[qm,k1_]))
 refine Vs 6 O (zp4 O (fun k2_=>?_) (fun k2_=>?_))
 . refine Va 11 O tO (zrz 0 tr133 O O (by simp[qm,k2_]))
 refine Vs 6 O (zp4 O (fun k3_=>?_) (fun k3_=>?_))
 . refine Va 11 O tO (zrz 0 tr133 O O (by simp[qm,k3_]))
 refine Vs 6 O (zp4 O (fun k4_=>?_) (fun k4_=>?_))
 . refine Vs 4 O (zrs call170 O (fun w hI=>za0 a b w ha hb) (Vs 6 O (zrz 0 tr133 O O (by simp[qm,k4_]))))
 refine Vs 6 O (zp4 O (fun k5_=>?_) (fun k5_=>?_))
 . refine Vs 4 O (zrs call171 O (fun w hI=>zdG a b w ha hb) (Vs 6 O (zrz 0 tr133 O O (by simp[qm,k5_]))))
 refine Vs 6 O (zp4 O (fun k6_=>?_) (fun k6_=>?_))
 . refine Vs 5 O (zrs tc131 O i8 (Vs 6 O (zrz 0 tr133 O O (by simp[qm,yQ,k6_]))))
 refine Vs 6 O (zp4 O (fun k7_=>?_) (fun k7_=>?_))
 . refine Vs 5 O (zrs tc131 O i8 (Vs 6 O (zrz 0 tr133 O O (by simp[qm,yQ,k7_]))))
 refine Vs 6 O (zp4 O (fun k8_=>?_) (fun k8_=>?_))
 . refine Vs 5 O (zrs tc131 O i8 (Vs 6 O (zrz 0 tr133 O O (by simp[qm,yQ,k8_]))))
 refine Vs 6 O (zp4 O (fun k9_=>?_) (fun k9_=>?_))
 . refine Vs 5 O (zrs tc131 O i8 (Vs 6 O (zrz 0 tr133 O O (by simp[qm,yQ,k9_]))))
 refine Vs 6 O (zp4 O (fun k10_=>?_) (fun k10_=>?_))
 . refine Vs 5 O (zrs tc131 O i8 (Vs 6 O (zrz 0 tr133 O O (by simp[qm,yQ,k10_]))))
 refine Vs 6 O (zp4 O (fun k11_=>?_) (fun k11_=>?_))
 . refine Vs 5 O (zrs tc131 O i8 (Vs 6 O (zrz 0 tr133 O O (by simp[qm,yQ,k11_]))))
 refine Vs 6 O (zp4 O (fun k12_=>?_) (fun k12_=>?_))
 .
  refine Vs 5 O (V.sp 73 O (fun k13_=>?_) (fun k13_=>?_))
  . refine Vs 3 O (zrs tc131 O i8 (Vs 6 O (zrz 0 tr133 O O J0)))
  refine Vs 3 O (zrs tc131 O i8 (Vs 6 O (zrz 0 tr133 O O J0)))
 refine Vs 6 O (zp4 O (fun k13_=>?_) (fun k13_=>?_))
 .
  refine Vs 5 O (V.sp 82 O (fun k14_=>?_) (fun k14_=>?_))
  . refine Vs 3 O (zrs tc131 O i8 (Vs 6 O (zrz 0 tr133 O O J1)))
  refine Vs 3 O (zrs tc131 O i8 (Vs 6 O (zrz 0 tr133 O O J1)))
 refine Vs 6 O (zp4 O (fun k14_=>?_) (fun k14_=>?_))
 . refine Vs 11 O (zrz 0 tr133 O O (by simp[qm,k14_]))
 refine Vs 12 O (zrz 0 tr133 O O Jt)
theorem zeS (op a b:Int) (w:World) (ha:zfE a) (hb:zfE b):Calls prog 173 #[.int .i64 op,.int .i64 a,.int .i64 b] w (Ret fun r w'=>r=.int .i64 (qm op a b)/\Ext w w'):=by
 have hY:=zbO ha hb;refine zqS func173 O ntmps173 O (V.inn (Vs 18 O (zp4 O (fun k1_=>?_) (fun k1_=>?_))))
 . refine Va 11 O tO (zrz 0 tr173 O O (by simp[qm,k1_]))
 refine Vs 6 O (zp4 O (fun k2_=>?_) (fun k2_=>?_))
 . refine Va 11 O tO (zrz 0 tr173 O O (by simp[qm,k2_]))
 refine Vs 6 O (zp4 O (fun k3_=>?_) (fun k3_=>?_))
 . refine Va 11 O tO (zrz 0 tr173 O O (by simp[qm,k3_]))
 refine Vs 6 O (zp4 O (fun k4_=>?_) (fun k4_=>?_))
 . refine Vs 4 O (zrs call205 O (fun w hI=>zaU a b w ha hb) (Vs 6 O (zrz 0 tr173 O O (by simp[qm,k4_]))))
 refine Vs 6 O (zp4 O (fun k5_=>?_) (fun k5_=>?_))
 . refine Vs 4 O (zrs call206 O (fun w hI=>zeR a b w ha hb) (Vs 6 O (zrz 0 tr173 O O (by simp[qm,k5_]))))
 refine Vs 6 O (zp4 O (fun k6_=>?_) (fun k6_=>?_))
 . refine Vs 5 O (zrs tc172 O i7 (Vs 6 O (zrz 0 tr173 O O (by simp[qm,yQ,k6_]))))
 refine Vs 6 O (zp4 O (fun k7_=>?_) (fun k7_=>?_))
 . refine Vs 5 O (zrs tc172 O i7 (Vs 6 O (zrz 0 tr173 O O (by simp[qm,yQ,k7_]))))
 refine Vs 6 O (zp4 O (fun k8_=>?_) (fun k8_=>?_))
 . refine Vs 5 O (zrs tc172 O i7 (Vs 6 O (zrz 0 tr173 O O (by simp[qm,yQ,k8_]))))
 refine Vs 6 O (zp4 O (fun k9_=>?_) (fun k9_=>?_))
 . refine Vs 5 O (zrs tc172 O i7 (Vs 6 O (zrz 0 tr173 O O (by simp[qm,yQ,k9_]))))
 refine Vs 6 O (zp4 O (fun k10_=>?_) (fun k10_=>?_))
 . refine Vs 5 O (zrs tc172 O i7 (Vs 6 O (zrz 0 tr173 O O (by simp[qm,yQ,k10_]))))
 refine Vs 6 O (zp4 O (fun k11_=>?_) (fun k11_=>?_))
 . refine Vs 5 O (zrs tc172 O i7 (Vs 6 O (zrz 0 tr173 O O (by simp[qm,yQ,k11_]))))
 refine Vs 6 O (zp4 O (fun k12_=>?_) (fun k12_=>?_))
 .
  refine Vs 5 O (V.sp 73 O (fun k13_=>?_) (fun k13_=>?_))
  . refine Vs 3 O (zrs tc172 O i7 (Vs 6 O (zrz 0 tr173 O O J0)))
  refine Vs 3 O (zrs tc172 O i7 (Vs 6 O (zrz 0 tr173 O O J0)))
 refine Vs 6 O (zp4 O (fun k13_=>?_) (fun k13_=>?_))
 .
  refine Vs 5 O (V.sp 82 O (fun k14_=>?_) (fun k14_=>?_))
  . refine Vs 3 O (zrs tc172 O i7 (Vs 6 O (zrz 0 tr173 O O J1)))
  refine Vs 3 O (zrs tc172 O i7 (Vs 6 O (zrz 0 tr173 O O J1)))
 refine Vs 6 O (zp4 O (fun k14_=>?_) (fun k14_=>?_))
 . refine Vs 4 O (zrs tc114 O (fun w hI=>zX a b w) (Vs 6 O (zrz 0 tr173 O O (by simp[qm,k14_]))))
 refine Vs 7 O (zrs tc113 O (fun w hI=>zV a b w) (Vs 4 O (zrz 0 tr173 O O Jt)))
structure TmOk (vs:List Vr) (vals:List Int) (t:Tm):Prop where
 ops:t.op=0\/t.op=24\/t.op=6\/t.op=7\/8<=t.op/\t.op<=22\/t.op=23\/t.op=25
 k1:t.op=6\/t.op=7->t.kids.length=1
 k2:8<=t.op/\t.op<=22->t.kids.length=2
 k3:t.op=23->t.kids.length=3
 k25:t.op=25->2<=t.kids.length/\t.kids.length<=33
 var:t.op=24->0<=t.n/\t.n<vs.length
 self:zfE (xK vals t)
 kid:∀ k ∈ t.kids,zfE (xK vals k)
theorem zoU (hv:∀ v ∈ vs,yT (v.low,v.high)) (hV:InV vs vals) {t:Tm} (hf:zA vs inp t=true) (hr:(rng vs t).isSome=true):TmOk vs vals t/\∀ k ∈ t.kids,zA vs inp k=true/\(rng vs k).isSome=true:=by
 obtain⟨r,hr⟩:=zwG.1 hr
 have dc:∀ k,zA vs inp k=true->∀ r,rng vs k=some r->zfE (xK vals k):=fun k h1 r h2=>by
  have h3:=zmP hv hV k h1 r h2;have h4:=kV hv k h1 r h2;unfold yT at h4;omega
 have da:=dc t hf r hr;rw[yW,zu8,zu8]at hf;rw[zbP,zwD]at hr;obtain⟨l,h1,h2⟩:=hr;have hY:=qH _ _ h1
 have dg:∀ (ks:List Tm) (m:List Rg),rngL vs ks=some m->∀ k ∈ ks,(rng vs k).isSome=true:=by
  intro ks;induction ks with
  | nil=>intro m _ k h;simp at h
  | cons y ys ihy =>
   intro m hm k hk;simp only[rngL,zwD,zwI]at hm;obtain⟨z,g1,u,g2,rfl⟩:=hm;rcases ztD.1 hk with rfl | hk
   . grind
   grind
 have db:∀ k ∈ t.kids,zA vs inp k=true/\(rng vs k).isSome=true:=fun k hk=>⟨ya hf.2 hk,dg _ _ h1 k hk⟩
 have hn:NodeOk vs t.op t.n l:=jH hY hf.1.1 hf.1.2 (fun x hx=>by
  obtain⟨k,hk,dh⟩:=jW _ _ h1 x hx
  exact kV hv k (ya hf.2 hk) x dh) hv
 refine⟨⟨?_,fun h=>by rw[<- hY];exact hn.k1 h,fun h=>by rw[<- hY];exact hn.k2 h,fun h=>?_,fun h=>by rw[<- hY];exact hn.k3 (.inr h),hn.var,da,fun k hk=>?_⟩,db⟩
 .
  by_cases h:0<=zR t.op\/zR t.op=-2
  .
   unfold zR at h
   repeat' split at h
   all_goals omega
  exfalso;have:=jU t.op;have h3:=hf.1.1;rw[zcN (.inl tO)]at h3;cases h3
 .
  have h3:=hf.1.1;unfold zZ at h3;rw[show zR t.op=3 by unfold zR;rw[h];rfl]at h3
  grind
 obtain⟨h3,h4⟩:=db k hk;obtain⟨r',h5⟩:=zwG.1 h4;exact dc k h3 r' h5
def zmQ (vals:List Int) (k:Tm):Prop:=∀ (cs:List Value) (D Dv:Nat->Prop) (w:World) (vv:Value),SlR 1 zv Dv w vv vals->RTm D w k cs->Calls prog 90 #[vv,.agg cs.toArray] w (Ret fun r w'=>r=.int .i64 (xK vals k)/\Ext w w')
theorem za1 (vals:List Int) (t:Tm) (ii:Int) (i:Nat) (dt:ii=(i:Int)) (k:Tm) (hk:t.kids[i]?=some k) (b2 b3:Nat) (vv kv:Value) (D Dv:Nat->Prop) (w:World) (du:Blk w b2 [vv] 27) (dw:Blk w b3 [.int .i64 t.op,.int .i64 t.n,kv] 70) (dg:SlR 3 RTm D w kv t.kids) (dx:SlR 1 zv Dv w vv vals) (ih:zmQ vals k) :
  Calls prog 130 #[.int .i64 ii,.pointer (some ⟨b2,0,none⟩),.pointer (some ⟨b3,0,none⟩)] w (Ret fun r w'=>r=.int .i64 (xK vals k)/\Ext w w'):=by
 subst dt;have hi:=(ztB.1 hk).1;obtain⟨a3,c3,rfl⟩:=dg.form;refine zqS func130 O ntmps130 O (V.inn (V.fr 900 0 O O du.cells (V.fr 901 0 O O dw.cells (zre 1 900 0 O O (zre 2 901 0 O O (zrI 1000 0 i tO dg O O O (fun k2 dy dz dA da dh db dc=>?_)))))));obtain⟨dl,rfl,hY⟩:=dc.get;obtain⟨dm,dr,rfl⟩:=hY.form;obtain rfl:k=k2:=Option.some.inj (hk.symm.trans da);refine Vs 6 O (Vw [900,901,1000] [] O (Vd [0,1,2,3] 0 tK O O O ?_));refine zrh 4 1000 tR68 ts70 O tK O db tO _ rfl O (Vd [5] 0 tK O O O (zrt 6 0 call90 O tK O O (fun w hI=>ih _ D Dv w _ (Tr1 hI.k0 dx) U3) (Vd [7] 0 tK O O O (VD.done tK (Vs 2 O (zrz 0 results130 O O rfl))))))
theorem zkX (hv:∀ v ∈ vs,yT (v.low,v.high)) (hV:InV vs vals) (t:Tm):zA vs inp t=true->(rng vs t).isSome=true->zmQ vals t:=by
 induction t using zr1 with
 | h t ih =>
 intro hf hr cs D Dv w vv da ht;obtain⟨ok,du⟩:=zoU hv hV hf hr;have ihk:∀ k ∈ t.kids,zmQ vals k:=fun k hk=>ih k hk (du k hk).1 (du k hk).2;obtain⟨kv,rfl,db⟩:=ht.get;obtain⟨a3,c3,rfl⟩:=db.form;obtain⟨av,cv,rfl⟩:=da.form;have dg:=zc5 vals t;have dz:=ok.ops
 have hget:∀ i:Nat,i<t.kids.length->∃ k,t.kids[i]?=some k/\lki (valL vals t.kids) i=xK vals k/\zfE (xK vals k):=fun i hi=>by
  obtain⟨k,hk⟩:∃ k,t.kids[i]?=some k:=⟨_,ztn hi⟩;exact⟨k,hk,zdF hk,ok.kid k (zto hk)⟩
 refine zqR func90 O ntmps90 O (V.inn (Vs 2 O (V.box 2 O O (fun b2=>?_))));refine V.box 3 O O (fun b3=>(Vs 23 O (zp4 O (fun c0=>?_) (fun c0=>?_))))
 . refine Vs 10 O (zpl tr90 O (fun w hI=>⟨_,rfl,by rw[dg];simp[qB,c0],hI.k0⟩))
 refine Vs 6 O (zp4 O (fun c24=>?_) (fun c24=>?_))
 .
  have hn:=ok.var c24;have dD:=hV.len;refine zrJ 1000 0 t.n.toNat tO da O O (fun x dE dF dm dA dr=>(Vs 5 O (zrg 1000 tR27 ts3 O dr tO (t.n.toNat) tO O (Vs 7 O (zpl tr90 O (fun w hI=>⟨_,rfl,by rw[dg];simp[qB,c24,lki,dm],hI.k0⟩))))))
 refine Vs 6 O (zp4 O (fun c6=>?_) (fun c6=>?_))
 .
  have h1:=ok.k1 (.inl c6);obtain⟨k0,hY,dc,dh⟩:=hget 0 tO;refine Vs 3 O (zsb tc130 O (fun w hI=>za1 vals t 0 0 O k0 hY b2 b3 _ _ D Dv w (hI.at 2 O) (hI.at 3 O) iQ iT (ihk k0 (zto hY))) (Va 7 O tO (zpl tr90 O (fun w hI=>⟨_,rfl,by rw[dg];simp[qB,c6,dc],hI.k0⟩))))
 refine Vs 6 O (zp4 O (fun c7=>?_) (fun c7=>?_))
 .
  have h1:=ok.k1 (.inr c7);obtain⟨k0,hY,dc,dh⟩:=hget 0 tO;refine Vs 3 O (zsb tc130 O (fun w hI=>za1 vals t 0 0 O k0 hY b2 b3 _ _ D Dv w (hI.at 2 O) (hI.at 3 O) iQ iT (ihk k0 (zto hY))) (Vs 1 O (zrs tc131 O i8 (Vs 6 O (zpl tr90 O (fun w hI=>⟨_,rfl,by rw[dg,qB,ztx c0,ztx c24,ztx c6,zty c7,dc];rfl,hI.k0⟩))))))
 refine Vs 6 O (zp4 O (fun c23=>?_) (fun c23=>?_))
 .
  have h1:=ok.k3 c23;obtain⟨k0,hY,dc,dh⟩:=hget 0 tO;obtain⟨k1,dl,dt,dw⟩:=hget 1 tO;obtain⟨k2,dx,dB,dG⟩:=hget 2 tO;refine Vs 4 O (zsb tc130 O (fun w hI=>za1 vals t 0 0 O k0 hY b2 b3 _ _ D Dv w (hI.at 2 O) (hI.at 3 O) iQ iT (ihk k0 (zto hY))) (Vs 3 O (zp4 O (fun z=>?_) (fun z=>?_))))
  . refine Vs 3 O (zsb tc130 O (fun w hI=>za1 vals t 1 1 O k1 dl b2 b3 _ _ D Dv w (hI.at 2 O) (hI.at 3 O) iQ iT (ihk k1 (zto dl))) (Vs 7 O (zpl tr90 O (fun w hI=>⟨_,rfl,by rw[dg];simp[qB,c23,dc,z,dt],hI.k0⟩))))
  refine Vs 5 O (zsb tc130 O (fun w hI=>za1 vals t 2 2 O k2 dx b2 b3 _ _ D Dv w (hI.at 2 O) (hI.at 3 O) iQ iT (ihk k2 (zto dx))) (Vs 6 O (zpl tr90 O (fun w hI=>⟨_,rfl,by rw[dg];simp[qB,c23,dc,z,dB],hI.k0⟩))))
 refine Vs 6 O (zp4 O (fun c25=>?_) (fun c25=>?_))
 .
  have h1:=ok.k25 c25;obtain⟨k0,hY,dc,dh⟩:=hget 0 tO;have dH:=qJ (xK vals k0) (show (0:Int)<=(t.kids.length:Int) - 2 by omega);obtain⟨kj,dy,dC,dI⟩:=hget (1+yA (xK vals k0) 0 ((t.kids.length:Int) - 2)).toNat tO;refine Vs 1 O (Vw [2,3] [] O (Vb [0,1,3,4,5,6] 0 tK O O O tO (zsc 2 0 tc130 O tK O O (fun w hI=>za1 vals t 0 0 O k0 hY b2 b3 _ _ D Dv w (hI.at 2 O) (hI.at 3 O) iQ iT (ihk k0 (zto hY))) (zrt 7 0 call132 O tK O O (fun w hI=>zez _ _ _ w tO) (Vb [8] 0 tK O O O tO (zsc 9 0 tc130 O tK O O (fun w hI=>za1 vals t (1+yA (xK vals k0) 0 ((t.kids.length:Int) - 2)) _ tO kj dy b2 b3 _ _ D Dv w (hI.at 2 O) (hI.at 3 O) iQ iT (ihk kj (zto dy))) ?_))))));refine Vd [10] 0 tK O O O (VD.done tK (Vs 4 O (zpl tr90 O (fun w hI=>⟨_,rfl,by rw[dg,qB,ztx c0,ztx c24,ztx c6,ztx c7,ztx c23,zty c25,dc,zdE,dC],hI.k0⟩))))
 have h1:=ok.k2 tO;obtain⟨k0,hY,dc,dh⟩:=hget 0 tO;obtain⟨k1,dl,dt,dw⟩:=hget 1 tO;refine Vs 4 O (Vw [2,3] [] O (Vd [0,1,2,4] 0 tK O O O (zsc 3 0 tc130 O tK O O (fun w hI=>za1 vals t 0 0 O k0 hY b2 b3 _ _ D Dv w (hI.at 2 O) (hI.at 3 O) iQ iT (ihk k0 (zto hY))) (zsc 5 0 tc130 O tK O O (fun w hI=>za1 vals t 1 1 O k1 dl b2 b3 _ _ D Dv w (hI.at 2 O) (hI.at 3 O) iQ iT (ihk k1 (zto dl))) (zrt 6 0 call133 O tK O O (fun w hI=>zdH _ _ _ w dh dw) ?_)))));refine Vd [7] 0 tK O O O (VD.done tK (Vs 2 O (zpl tr90 O (fun w hI=>⟨_,rfl,by rw[dg,qB,ztx c0,ztx c24,ztx c6,ztx c7,ztx c23,ztx c25,dc,dt],hI.k0⟩))))
end Go.Proofs.YtckdhgbepmpgiaaGreat
