/-
  Contracts and the mathematics that the proof needs. Nothing here is a claim.
-/
import Derived.Test.YtckdhgbepmpgiaaGreatKF2
theorem j7 {p:Prop}(h:p:=by simp only[*]<;>rfl):p:=h
theorem iA {p:Prop}(h:p:=by exact fun _ _=>rfl):p:=h
theorem iJ {p:Prop}(h:p:=by exact fun _=>⟨trivial,fun _ h=>h⟩):p:=h
theorem iT {p:Prop}(h:p:=by exact zr9 0 tr163 O O (by rw[c2,c3,c4,c5,c6,c7,c8,c9,c10];first | (simp only[*]<;>rfl) | simp[*])):p:=h
theorem io {p:Prop}(h:p:=by exact Tr1 hI.k0 db):p:=h
theorem iz {p:Prop}(h:p:=by exact fun w hI=>yp _ w):p:=h
theorem i3 {p:Prop}(h:p:=by exact fun w hI=>zW _ w):p:=h
theorem y6 {p:Prop}(h:p:=by exact ⟨zt5 _,fun j h=>absurd h (zvW _)⟩):p:=h
theorem y8 {p:Prop}(h:p:=by unfold zm3;simp only[*]<;>rfl):p:=h
theorem y9 {p:Prop}(h:p:=by exact ⟨zt5 _,rfl,Keep.refl _ _⟩):p:=h
theorem JB {p:Prop}(h:p:=by exact RTm.put (Tr1 hI.k0 hY)):p:=h
theorem JH {p:Prop}(h:p:=by exact zr9 0 tr121 O O (by rw[b4' tO])):p:=h
theorem JM {p:Prop}(h:p:=by exact zr9 0 tr200 O O (by unfold utB;simp[*])):p:=h
theorem JO {p:Prop}(h:p:=by exact ⟨tO,hY (g4 tO)⟩):p:=h
theorem Jd {p:Prop}(h:p:=by simp[plainB, *]):p:=h
theorem Jh {p:Prop}(h:p:=by exact zr9 0 tr163 O O (by rw[c2,c3,c4,c5,c6,c7,c8,c9,c10];first | (simp only[*,zw1]<;>rfl) | simp[*])):p:=h
theorem Jr {p:Prop}(h:p:=by exact zr9 0 tr60 O O (by rw[b4' tO])):p:=h
theorem Ju {p:Prop}(h:p:=by exact fun q h=>by have:=(hI.inS 0 3 O O (q:=b3) O).1.elim False.elim id;have:=dr q h;omega):p:=h
theorem Jx {p:Prop}(h:p:=by simp[qg,k1_,k2_,k3_,k4_,k5_,k6_,k7_,k8_,k9_,k10_,k11_,k12_,k13_,k14_]):p:=h
theorem Jy {p:Prop}(h:p:=by exact zoZ results111 O O O (fun w hI=>⟨_,rfl,⟨a,c,by rw[dw,ho]<;>rfl,dA⟩,hI.k1⟩)):p:=h
theorem J4 {p:Prop}(h:p:=by simp[qg,yJ,k12_,k13_]):p:=h
theorem J5 {p:Prop}(h:p:=by simp[qg,yJ,k13_,k14_]):p:=h
theorem J6 {p:Prop}(h:p:=by exact ⟨_,rfl,⟨_,rfl,tD⟩,db⟩):p:=h
theorem UG {p:Prop}(h:p:=by unfold qL;simp only[*]<;>rfl):p:=h
theorem UW {p:Prop}(h:p:=by exact zr9 0 tr72 O O (by rw[ya,zt1 s0])):p:=h
theorem Uf {p:Prop}(h:p:=by exact zr9 0 tr112 O O j7):p:=h
theorem Uk {p:Prop}(h:p:=by exact Sub.cons j7 j2):p:=h
theorem Ur {p:Prop}(h:p:=by exact zrl 900 O (e':=.own m [.int .i64 (z+1),.bool ((d || yy dep (l.take i)) || decide (12<dep))] 189) (by rw[hd];rfl) (zoQ () j2 j3 trivial 0 O O)):p:=h
theorem Us {p:Prop}(h:p:=by exact zr9 0 tr163 O O j7):p:=h
theorem Uw {p:Prop}(h:p:=by exact zrl 900 O (e':=.own m [.int .i64 (n+1),.bool (d || decide (12<dep))] 189) (by rw[hd];rfl) (zoQ () j2 j3 trivial 0 O O)):p:=h
theorem U0 {p:Prop}(h:p:=by exact zqh O (fun w hI=>zpQ O j6) (Vs 1 O (zoQ () (Sub.cons (by rw[tt,ztD];rfl) j2) j3 trivial 0 O O))):p:=h
theorem U6 {p:Prop}(h:p:=by exact fun w hI=>kO f x _ v1 v2 v3 _ _ _ w (stable_fl hI.k0) (RSt.put io ij ic JF)):p:=h
theorem U7 {p:Prop}(h:p:=by exact fun w hI=>zaC f x _ v1 v2 v3 _ _ _ w (hf hI.k0) (RSt.put ij ic ip JF)):p:=h
open Go.Proofs.Tryz
variable {α:Type} {k K a c b:Int} {vs:List Go.GL.Vr} {i nh fuel d m:Nat} {f:Nat->Int} {p:α->Bool} {s:Go.GL.St} {w w':Go.World} {hx H:Go.GL.Hp} {Bs:Go.GL.zq} {hn:Nat->Go.GL.Hp} {P:Go.Program} {env:Go.GL.Env} {ops:Array Go.Oper} {listed:Array Bool} {aft:Array Go.Edge} {cs:List Go.Value} {e t' t et:Go.TypeId} {z v:Go.Value} {val:Nat->Go.Value} {dst:Option Go.Tmp} {g:Option (Nat × Bool)} {x y u:Go.Operand} {l:List (Int × Go.Value)} {vals:List Int} {inp:Bool}
namespace Go.Proofs.YtckdhgbepmpgiaaGreat
open Go.GL
theorem zfv (vs:List Vr) (inp:Bool) (vv:Value) (Dv:Nat->Prop) (dx:∀ v ∈ vs,xy (v.low,v.high)) (t:Tm):∀ (cs:List Value) (D:Nat->Prop) (w:World),SlR 5 RVr Dv w vv vs->RTm D w t cs->zx vs inp t=true->t.nodes<=1000000 ->
  Calls prog 111 #[vv,.agg cs.toArray] w (Ret fun r w'=>(∃ a b:Int,r=.tuple #[.int .i64 a,.int .i64 b,.bool (rng vs t).isSome]/\∀ x,rng vs t=some x->(a,b)=x)/\Ext w w'):=by
 induction t using zqB with
 | h t ih =>
 intro cs D w dh ht hf dK;rw[yN,ztz,ztz]at hf;have dB:=zbn t.kids;have dL:=t.nodes_eq;obtain⟨v,rfl,hk⟩:=ht.get;obtain⟨ao,cap,rfl⟩:=hk.form;obtain⟨av,nv,rfl⟩:=dh.form;refine zqr func111 O ntmps111 O (V.inn (Vs 2 O (V.box 3 O O (fun b3=>?_))));refine Vs 7 O (zrr 15 tR27 ts3 O (fun b15=>?_));refine Vs 5 O (zrr 16 tR27 ts3 O (fun b16=>?_));refine Vs 10 O (zrm (σ:=Nat × List Rg × Value × Value) [0,3] [3] [3] O (fun e ⟨i,l,vl,vh⟩=>(7,vl)::(8,vh)::(9,.int .i64 i)::e) (fun e ⟨i,l,vl,vh⟩=>(15,.row 3 1 vl l.length ((l.map Prod.fst).map (Value.int .i64)))::(16,.row 3 1 vh l.length ((l.map Prod.snd).map (Value.int .i64)))::e) (fun⟨i,l,vl,vh⟩=>i<=t.kids.length/\rngL vs (t.kids.take i)=some l) (fun⟨i,l,vl,vh⟩=>t.kids.length - i) (0,[],_,_) j2 j3 j1 j1 j1 ⟨zt5 _,by rw[zvF];rfl⟩ ?_);rintro⟨i,l,vl,vh⟩ ⟨hi,hl⟩;refine Vs 10 O (zoC O (fun dC=>?_) (fun dC=>?_))
 .
  refine Vs 10 O (zri 1000 0 i tO hk O O O (fun k dM dN dO da dc dl dm=>?_));obtain⟨dD,rfl,dg⟩:=dm.get;obtain⟨dE,dF,rfl⟩:=dg.form;refine zqQ 1000 tR68 ts70 O dl tO _ rfl O ?_;have dQ:=xV da;have dr:=qz _ _ hl;rw[ztk]at dr;refine Vs 1 O (zr4 call111 O (fun w hI=>(ih k dc _ D w ip (RTm.put ic) (zX hf.2 dc) tO)) ?_);rintro r w1 w2 dG dt ⟨ka,kb,rfl,db⟩ du;refine Vs 13 O (zqh O (fun w hI=>zpQ O j6) (Vs 2 O (V.bool O (fun hb=>?_) (fun hb=>?_))))
  .
   have dH:rng vs k=none:=by cases h:rng vs k<;>simp[h]at hb ⊢
   have hY:rng vs t=none:=by rw[zbA,zem da dH];rfl
   refine Vs 14 O (zoZ results111 O O O (fun w hI=>⟨_,rfl,⟨0,0,by rw[hY];rfl,fun x hx=>by rw[hY]at hx;cases hx⟩,hI.k1⟩))
  obtain⟨x,hx⟩:∃ x,rng vs k=some x:=by cases h:rng vs k with
   | none=>simp[h]at hb
   | some x=>exact⟨x,rfl⟩
  have dI:=db x hx;subst dI;refine Vs 6 O (V.bs 39 [(0,_)] tR27 ts3 tz3 tS O O tK (fun b39=>?_));refine zqV 15 39 tu27 Tryz.el3 O tS O O tO tO (fun u15=>(Vs 6 O (V.bs 43 [(0,_)] tR27 ts3 tz3 tS O O tK (fun b43=>?_))));refine zqV 16 43 tu27 Tryz.el3 O tS O O tO tO (fun u16=>(Vs 4 O (zrl 15 O (e':=.row 3 1 u15 (l++[(ka,kb)]).length (((l++[(ka,kb)]).map Prod.fst).map (Value.int .i64))) tZ (zrl 16 O (e':=.row 3 1 u16 (l++[(ka,kb)]).length (((l++[(ka,kb)]).map Prod.snd).map (Value.int .i64))) tZ (Va 5 O tO (V.back ⟨i+1,l++[(ka,kb)],u15,u16⟩ j2 j3 ⟨tO,zel da hl hx⟩ tR 1 O O))))))
 obtain rfl:i=t.kids.length:=tO;rw[zsV]at hl;have dr:=qz _ _ hl
 have hn:NodeOk vs t.op t.n l:=jA dr hf.1.1 hf.1.2 (fun x hx=>by
  obtain⟨k,hk,dJ⟩:=jN _ _ hl x hx
  exact kM dx k (zX hf.2 hk) x dJ) dx
 have dy:rng vs t=if okR (zk vs t.op t.n l) then some (zk vs t.op t.n l) else none:=by rw[zbA,hl];rfl
 refine Vs 11 O (zr4 call151 O (fun w hI=>(zh7 vs t l _ vl vh _ Dv D (fun _=>True) (fun _=>True) w ip JC (by have h:=zpI (R:=zw) (Value.int .i64) iA (hI.at 15 O) (fun _ _=>trivial);exact h) (by have h:=zpI (R:=zw) (Value.int .i64) iA (hI.at 16 O) (fun _ _=>trivial);exact h) hn)) ?_);rintro r w1 w2 dG dt ⟨a,c,rfl,dz,db⟩ du;have dw:(rng vs t).isSome=okR (a,c):=by rw[dy,dz];cases okR (zk vs t.op t.n l)<;>rfl
 have dA:∀ x,rng vs t=some x->(a,c)=x:=by
  intro x hx;have h1:okR (a,c)=true:=by rw[<- dw,hx];rfl
  rw[dy,<- dz,h1,zt1 rfl]at hx;rw[db h1];exact Option.some.inj hx
 refine Vs 14 O (zq9 57 O (fun g1=>?_) (fun g1=>?_))
 .
  have ho:okR (a,c)=decide (c<=1048576):=by unfold okR;congr 1;simp;omega
  refine Vs 9 O Jy
 have ho:okR (a,c)=false:=by unfold okR;exact zt3 (by dsimp only;omega)
 refine Vs 9 O Jy
def zB (vs:List Vr) (inp:Bool) (t:Tm):Int:=if zx vs inp t then (if (rng vs t).isSome then 0 else 3) else 1
theorem jB (vs:List Vr) (inp:Bool) (vv:Value) (cs:List Value) (Dv D:Nat->Prop) (w:World) (t:Tm) (dm:∀ v ∈ vs,xy (v.low,v.high)) (da:SlR 5 RVr Dv w vv vs) (ht:RTm D w t cs) (dr:t.nodes<=1000000):Calls prog 63 #[vv,.agg cs.toArray,.bool inp] w (Ret fun r w'=>r=.int .i64 (zB vs inp t)/\Ext w w'):=by
 obtain⟨v,rfl,hk⟩:=ht.get;have hE:=Keep.refl (fun _=>False) w;refine zqs func63 O ntmps63 O (Gs 2 O (G.mem O O (M.box O O) ?_));rintro _ dx ⟨b,rfl,dc,dt,hY,dg⟩;have dl:_<=b:=zsW hE.size (zvP dc.symm);obtain⟨hE,da,hk⟩:=Tr3 dg hE da hk;refine Gs 7 O (zqm O tg70 ts70 hY.cells O (Gs 1 O (G.call O call110 (zej vs inp vv Dv t _ D _ da (RTm.put hk)) ?_)));rintro _ wz1 ⟨rfl,du⟩;obtain⟨hE,da,hk,hY⟩:=Tr4 du hE da hk hY;refine zqg O O (zpQ O j6) (Gs 2 O (G.bool O (fun hf=>?_) (fun hf=>?_)))
 .
  have db:zx vs inp t=false:=by simpa using hf
  refine Gs 7 O (zoS results63 O ⟨_,rfl,by rw[zB,db];rfl,hE⟩)
 have db:zx vs inp t=true:=by simpa using hf
 refine Gs 5 O (zqm O tg70 ts70 hY.cells O (G.call O call111 (zfv vs inp vv Dv dm t _ D _ da (RTm.put hk) db dr) ?_));rintro _ wz2 ⟨⟨a,c,rfl,_⟩,dw⟩;obtain⟨hE,da,hk,hY⟩:=Tr4 dw hE da hk hY;refine Gs 13 O (zqg O O (zpQ O j6) (Gs 2 O (G.bool O (fun ho=>?_) (fun ho=>?_))))
 .
  have dh:(rng vs t).isSome=false:=by simpa using ho
  refine Gs 7 O (zoS results63 O ⟨_,rfl,by rw[zB,db,dh];rfl,hE⟩)
 have dh:(rng vs t).isSome=true:=by simpa using ho
 refine Gs 8 O (zoS results63 O ⟨_,rfl,by rw[zB,db,dh];rfl,hE⟩)
theorem zbC (vs:List Vr) (inp:Bool) (vv:Value) (cs:List Value) (Dv D:Nat->Prop) (w:World) (t:Tm) (dy:∀ v ∈ vs,xy (v.low,v.high)) (da:SlR 5 RVr Dv w vv vs) (ht:RTm D w t cs) (dz:t.nodes<=1000000):Calls prog 162 #[vv,.agg cs.toArray,.bool inp] w (Ret fun r w'=>r=.int .i64 (zB vs inp t)/\Ext w w'):=by
 obtain⟨v,rfl,hk⟩:=ht.get;have hE:=Keep.refl (fun _=>False) w;refine zqs func162 O ntmps162 O (Gs 2 O (G.mem O O (M.box O O) ?_));rintro _ dE ⟨b,rfl,dl,dA,hY,dm⟩;have dw:_<=b:=zsW hE.size (zvP dl.symm);obtain⟨hE,da,hk⟩:=Tr3 dm hE da hk;refine Gs 7 O (zqm O tg70 ts70 hY.cells O (Gs 1 O (G.call O call87 (kL vs inp vv Dv t _ D _ da (RTm.put hk)) ?_)));rintro _ wz1 ⟨rfl,dB⟩;obtain⟨hE,da,hk,hY⟩:=Tr4 dB hE da hk hY;refine zqg O O (zpQ O j6) (Gs 2 O (G.bool O (fun hf=>?_) (fun hf=>?_)))
 .
  have dc:zx vs inp t=false:=by simpa using hf
  refine Gs 7 O (zoS results162 O ⟨_,rfl,by rw[zB,dc];rfl,hE⟩)
 have dc:zx vs inp t=true:=by simpa using hf
 refine Gs 6 O (zqm O tg70 ts70 hY.cells O (G.call O call89 (zen vs inp vv Dv dy t _ D _ da (RTm.put hk) dc dz) ?_));rintro _ wz2 ⟨⟨a,c,rfl,_⟩,dC⟩;obtain⟨hE,da,hk,hY⟩:=Tr4 dC hE da hk hY;refine Gs 3 O (G.mem O O (M.alloc (cs:=_) tz159 O) ?_);rintro _ wa3 ⟨o,rfl,dr,dD,dg,db⟩;refine zpr O (zps ts159 O O O O tX dg tZ) ?_;rintro dF ⟨_,dg,dh⟩;replace db:=db.trans dh (fun q hq h=>tO);have dt:b ≠ o:=by have:=hY.lt;omega
 have dx:_<=o:=zsW hE.size (zvP dr.symm);obtain⟨hE,da,hk,hY⟩:=Tr4 db hE da hk hY;refine Gs 6 O (zqg O O (zpQ O j6) (Gs 2 O (G.bool O (fun ho=>?_) (fun ho=>?_))))
 .
  have du:(rng vs t).isSome=false:=by simpa using ho
  refine Gs 7 O (zoS results162 O ⟨_,rfl,by rw[zB,dc,du];rfl,hE⟩)
 have du:(rng vs t).isSome=true:=by simpa using ho
 refine Gs 8 O (zoS results162 O ⟨_,rfl,by rw[zB,dc,du];rfl,hE⟩)
def yT (k:Int):List Vr->Int->Option Int
 | [],n=>some n
 | v::r,n=>if v.kind=k then (if 4096<n*(v.high - v.low+1) then none else yT k r (n*(v.high - v.low+1))) else yT k r n
def zP (k:Int) (vs:List Vr):Option Int:=yT k vs 1
theorem yO (k:Int):∀ (a b:List Vr) (n:Int),yT k (a++b) n=(yT k a n).bind (yT k b)
 | [],b,n=>rfl
 | v::r,b,n=>by
  simp only[zu5,yT];split
  .
   split
   . rfl
   exact yO k r b _
  exact yO k r b _
theorem qK (k:Int):∀ (a:List Vr) (n m:Int),(∀ v ∈ a,xy (v.low,v.high))->1<=n->n<=4096->yT k a n=some m->1<=m/\m<=4096
 | [],n,m,_,h1,h2,h=>by simp[yT]at h;omega
 | v::r,n,m,hg,h1,h2,h=>by
  have hv:=hg v (zsU ..);have hr:=fun x hx=>hg x (zsT _ hx);unfold xy at hv;simp only[yT]at h;split at h
  .
   split at h
   . cases h
   rename_i h3;refine qK k r _ m hr ?_ tO h;have:(1:Int)*1<=n*(v.high - v.low+1):=ztS h1 tO tO tO;omega
  exact qK k r n m hr h1 h2 h
theorem zid {n s:Int} (h1:1<=n) (h2:n<=4096) (h3:1<=s) (h4:s<=2097153):1<=n*s/\n*s<=4096*2097153:=by
 have a:(1:Int)*1<=n*s:=ztS h1 h3 tO tO;have b:n*s<=4096*2097153:=ztS h2 h4 tO tO;omega
theorem jc (vs:List Vr) (k:Int) (vv:Value) (D:Nat->Prop) (w:World) (hg:∀ v ∈ vs,xy (v.low,v.high)) (da:SlR 5 RVr D w vv vs):Calls prog 109 #[vv,.int .i64 k] w (Ret fun r w'=>r=.int .i64 ((zP k vs).getD 4097)/\Ext w w'):=by
 have dC:=da.max;obtain⟨av,nv,rfl⟩:=da.form;refine zqr func109 O ntmps109 O (Gs 17 O (G.loop (σ:=Nat × Int) (fun⟨i,n⟩=>[(0,.slice av vs.length nv),(1,.int .i64 k),(5,.int .i64 n),(6,.int .i64 i)]) (fun⟨i,n⟩=>fun w'=>i<=vs.length/\yT k (vs.take i) 1=some n/\Ext w w') (fun⟨i,n⟩=>vs.length - i) (0,1) j2 y9 ?_));rintro⟨i,n⟩ w1 ⟨hi,hs,db⟩;replace da:=Tr1 db da;have hn:=qK k (vs.take i) 1 n (fun v hv=>hg v (zva hv)) tO tO hs;refine Gs 9 O (zoB O (fun dw=>?_) (fun dw=>?_))
 .
  obtain⟨x,dg,dm⟩:=gE_ vs (i) tO;obtain⟨dx,dD,dE,dc,_,hY,dh⟩:=da.at dg;have dy:=RVr.one dh;obtain rfl:=dh;have dr:dx<_:=zsS _ _ (hY 0 _ rfl);have dt:=hg x dm;unfold xy at dt;dsimp only at dt;have hp:=zid (n:=n) (s:=x.high - x.low+1) hn.1 hn.2 tO tO
  have du:yT k (vs.take (i+1)) 1=if x.kind=k then (if 4096<n*(x.high - x.low+1) then none else some (n*(x.high - x.low+1))) else some n:=by
   rw[ze dg,yO,hs];simp[yT]
  have dz:yT k (vs.take (i+1)) 1=none->zP k vs=none:=by
   intro h;unfold zP;rw[<- zvA (i+1) vs,yO,h];rfl
  refine Gs 9 O (zqg O O (zpf tR22 ts142 O O dc tO) (Gs 1 O (zqk O isAgg100 (hY 1 _ O) (Gs 4 O (zoB O (fun hk=>?_) (fun hk=>?_))))))
  . refine Ga 9 O tO (G.back (i+1,n) j2 ⟨tO,tD,db⟩ tD)
  have dA:x.kind=k:=zsZ.1 hk;rw[zt1 dA]at du;refine Gs 3 O (Qt tK (Gs 3 O (zqj O O (fun w1 dl=>zpf tR22 ts142 O O dc tO) (Gs 1 O (zql O tg3 (fun w1 dl=>((dl.cells hY (fun h=>h)) 3 _ O)) (Gs 2 O (zqj O O (fun w1 dl=>zpf tR22 ts142 O O dc tO) (Gs 1 O (zql O tg3 (fun w1 dl=>((dl.cells hY (fun h=>h)) 2 _ O)) (Ga 4 O tO (zqn (fun wz1 dB=>?_))))))))))));obtain⟨da,db,hY⟩:=Tr3 dB da db hY;refine Gs 7 O (zoB O (fun hb=>?_) (fun hb=>?_))
  .
   rw[zt1 hb]at du;refine Gs 11 O (zoS results109 O ⟨_,rfl,tD,db⟩)
  refine Ga 8 O tO (G.back (i+1,n*(x.high - x.low+1)) j2 ⟨tO,tD,db⟩ tD)
 have:i=vs.length:=tO;subst this;rw[zsV]at hs;refine Gs 12 O (zoS results109 O ⟨_,rfl,by rw[zP,hs];rfl,db⟩)
theorem zh8 (v:Vr) (w:World) (hg:xy (v.low,v.high)):Calls prog 214 #[.agg #[.string v.name,.int .i64 v.kind,.int .i64 v.low,.int .i64 v.high,.int .i64 v.init]] w (Ret fun r w'=>r=.int .i64 (v.high - v.low+1)/\Ext w w'):=by
 unfold xy at hg;dsimp only at hg;have hE:=Keep.refl (fun _=>False) w;refine zqq func214 O ntmps214 O (Gs 2 O (G.mem O O (M.box O O) ?_));rintro _ dh ⟨b,rfl,da,dg,hY,db⟩;have dc:_<=b:=zsW hE.size (zvP da.symm);replace hE:=Tr1 db hE;refine Gs 6 O (zqk O tg3 (hY.cells 3 _ O) (Gs 1 O (zqk O tg3 (hY.cells 2 _ O) (Ga 6 O tO (zoS results214 O ⟨_,rfl,rfl,hE⟩)))))
def zie (v:Vr):List Value:=[.string v.name,.int .i64 v.kind,.int .i64 v.low,.int .i64 v.high,.int .i64 v.init]
theorem zkl (v:Vr):(zie v).length=5:=rfl
theorem zkm (v:Vr):∀ u ∈ zie v,u.oneCell'=true:=by simp[zie,Value.oneCell']
def yd (k:Int) (vs:List Vr):List Vr:=vs.filter fun v=>decide (v.kind=k)
theorem zfw {x:Vr} (h:vs[i]?=some x):yd k (vs.take (i+1))=yd k (vs.take i)++(if x.kind=k then [x] else []):=by
 unfold yd;rw[ze h,zum]
 grind
theorem zcv (k:Int) (vs:List Vr):(yd k vs).length<=vs.length:=zuR _ _
theorem jd (k:Int):∀ (vs:List Vr) (n:Int),yT k (yd k vs) n=yT k vs n
 | [],n=>rfl
 | v::r,n=>by
  unfold yd;by_cases e:v.kind=k
  .
   rw[zuo tD];simp only[yT,e,if_true];split
   . rfl
   exact jd k r _
  rw[zun tD];simp only[yT,e,if_false];exact jd k r n
theorem zif (vs:List Vr) (k:Int) (vv:Value) (D:Nat->Prop) (w:World) (hk:0<=k/\k<=3) (hg:∀ v ∈ vs,xy (v.low,v.high)) (dc:SlR 5 RVr D w vv vs) (dX:vs.length<=1000000):Calls prog 196 #[vv,.int .i64 k] w (Ret fun r w'=>(∃ vl,r=.tuple #[vl,.int .i64 ((zP k vs).getD 0),.int .i64 (if (zP k vs).isSome then 0 else 4)]/\((zP k vs).isSome=true->SlR 5 RVr (fun b=>w.heap.size<=b) w' vl (yd k vs))/\((zP k vs).isSome=false->vl=.slice none 0 0))/\Ext w w'):=by
 obtain⟨av,nv,rfl⟩:=dc.form;have hE:=Keep.refl (fun _=>False) w;refine zqr func196 O ntmps196 O (Gs 13 O (zoN (σ:=Unit) (fun u=>[(0,.slice av vs.length nv),(1,.int .i64 k)]) (fun u=>fun w'=>w'=w) ?_ ?_))
 .
  refine Gs 8 O (zoB O (fun h0=>?_) (fun h0=>?_))
  . refine Gs 5 O (zoP () j2 rfl)
  refine Gs 6 O (zoB O (fun h1=>?_) (fun h1=>?_))
  . refine Gs 5 O (zoP () j2 rfl)
  refine Gs 6 O (zoB O (fun h2=>?_) (fun h2=>?_))
  . refine Gs 5 O (zoP () j2 rfl)
  refine Gs 5 O (zoB O (fun h3=>?_) (fun h3=>?_))
  . refine Gs 2 O (zoP () j2 rfl)
  omega
 rintro u w1 dY;subst dY;refine Gs 14 O (zoN (σ:=Value) (fun vl=>[(0,.slice av vs.length nv),(1,.int .i64 k),(7,vl)]) (fun vl=>fun w'=>w'.ownsRow 0 142 5 vl (yd k vs).length ((yd k vs).flatMap zie)/\(∀ q,vl.ownBlock=some q->w1.heap.size<=q)/\Ext w1 w') ?_ ?_)
 .
  refine Gs 1 O (G.loop (σ:=Nat × Value) (fun⟨i,vl⟩=>[(0,.slice av vs.length nv),(1,.int .i64 k),(7,vl),(19,.slice av vs.length nv),(20,.int .i64 vs.length),(21,.int .i64 i)]) (fun⟨i,vl⟩=>fun w'=>i<=vs.length/\w'.ownsRow 0 142 5 vl (yd k (vs.take i)).length ((yd k (vs.take i)).flatMap zie)/\(∀ q,vl.ownBlock=some q->w1.heap.size<=q)/\Ext w1 w') (fun⟨i,vl⟩=>vs.length - i) (0,.slice none 0 0) j2 ⟨zt5 _,qF _ _ _,fun q hq=>by simp[Value.ownBlock]at hq,Keep.refl _ _⟩ ?_);rintro⟨i,vl⟩ w2 ⟨hi,db,dG,dr⟩;obtain⟨hE,dc⟩:=Tr2 dr hE dc;refine Gs 6 O (zoB O (fun dH=>?_) (fun dH=>?_))
  .
   obtain⟨x,dh,dt⟩:=gE_ vs (i) tO;obtain⟨dI,dZ,d5,dw,_,da,dl⟩:=dc.at dh;have dx:=RVr.one dl;obtain rfl:=dl;have dA:dI<_:=zsS _ _ (da 0 _ rfl);have dB:=hg x dt;unfold xy at dB;dsimp only at dB;have dN:=zfw (k:=k) dh;have dO:=zcv k (vs.take i);rw[ztk]at dO;refine Gs 6 O (zqg O O (zpf tR22 ts142 O O dw tO) (zqm O tg142 ts142 da O (G.mem O O (M.alloc (cs:=_) tz142 O) ?_)));rintro _ wa1 ⟨c,rfl,dy,dJ,hY,dg⟩;refine zpr O (zps ts142 O O O O dx hY tZ) ?_;rintro d6 ⟨_,hY,dm⟩;replace dg:=dg.trans dm (fun q hq h=>tO);have dC:_<=c:=zsW hE.size (zvP dy.symm);obtain⟨hE,dc,dr,db,da⟩:=Tr5 dg hE dc dr db da;refine Gs 6 O (zqk O isAgg100 (hY.cells 1 _ O) (Gs 4 O (zoB O (fun dK=>?_) (fun dK=>?_))))
   .
    rw[zt0 dK,zu3]at dN;refine Ga 8 O tO (G.back (i+1,vl) j2 ⟨tO,tD,dG,dr⟩ tD)
   have dL:x.kind=k:=zsZ.1 dK;rw[zt1 dL]at dN;refine Gs 6 O (zqk O tg3 (hY.cells 2 _ O) (Gs 1 O (zqk O tg3 (hY.cells 3 _ O) (Gs 2 O (G.sp 34 O (fun b0=>?_) (fun b0=>?_))))))
   . omega
   refine Gs 1 O (zqk O tg3 (hY.cells 2 _ O) (Gs 3 O (G.sp 39 O (fun b1=>?_) (fun b1=>?_))))
   . omega
   refine Gs 1 O (zqk O tg3 (hY.cells 3 _ O) (Gs 4 O (zoB O (fun b2=>?_) (fun b2=>?_))))
   . omega
   refine Gs 4 O (zqm O tg142 ts142 hY.cells O (G.mem O O (M.buildSlice (cs:=zie x) [(0,_)] tR22 ts142 tz142 tS O tK) ?_));rintro _ w5 ⟨b5,rfl,dQ,dR,dD,dE⟩;obtain⟨hE,dc,dr,db,da,hY⟩:=Tr6 dE hE dc dr db da hY;refine G.mem O O (M.append underlying22 Tryz.el142 O tS O O db O (Cells.add dD.cells) (zkm _) tO tO) ?_;rintro vl' w6 ⟨dS,d7,d8,_⟩;have d9:=dr.size;refine Ga 8 O tO (G.back (i+1,vl') j2 ⟨tO,?_,?_,dr.trans d8 (fun q hq h=>tD)⟩ tD)
   . grind
   grind
  have:i=vs.length:=tO;subst this;rw[zsV]at db;refine Gs 4 O (zoP (vl) j2 ⟨db,dG,dr⟩)
 rintro vl w2 ⟨db,dG,hX⟩;obtain⟨hE,dc⟩:=Tr2 hX hE dc;have du:SlR 5 RVr (fun b=>w1.heap.size<=b) w2 vl (yd k vs):=zpJ tO zie zkl UR db dG;obtain⟨al,nl,rfl⟩:=du.form;have dO:=zcv k vs;have dT:∀ v ∈ yd k vs,xy (v.low,v.high):=fun v hv=>hg v (zv4.1 hv).1;have dU:yT k (yd k vs) 1=zP k vs:=jd k vs 1;have dM:∀ v ∈ yd k vs,v.kind=k:=fun v hv=>by simpa using (zv4.1 hv).2
 refine Gs 15 O (G.loop (σ:=Nat × Int) (fun⟨i,n⟩=>[(7,.slice al (yd k vs).length nl),(10,.int .i64 n),(49,.slice al (yd k vs).length nl),(50,.int .i64 (yd k vs).length),(51,.int .i64 i)]) (fun⟨i,n⟩=>fun w'=>i<=(yd k vs).length/\yT k ((yd k vs).take i) 1=some n/\Ext w2 w') (fun⟨i,n⟩=>(yd k vs).length - i) (0,1) j2 y9 ?_);rintro⟨i,n⟩ w3 ⟨hi,hs,dz⟩;obtain⟨hE,dc,du⟩:=Tr3 dz hE dc du;have hn:=qK k ((yd k vs).take i) 1 n (fun v hv=>dT v (zva hv)) tO tO hs;refine Gs 6 O (zoB O (fun dH=>?_) (fun dH=>?_))
 .
  obtain⟨x,dh,dt⟩:=gE_ (yd k vs) (i) tO;obtain⟨dI,dZ,d5,dw,_,da,dl⟩:=du.at dh;have dx:=RVr.one dl;obtain rfl:=dl;have dA:dI<_:=zsS _ _ (da 0 _ rfl);have dB:=dT x dt;have dF:=dB;unfold xy at dF;dsimp only at dF;have hp:=zid (n:=n) (s:=x.high - x.low+1) hn.1 hn.2 tO tO
  have dV:yT k ((yd k vs).take (i+1)) 1=if 4096<n*(x.high - x.low+1) then none else some (n*(x.high - x.low+1)):=by
   rw[ze dh,yO,hs];simp[yT,dM x dt]
  refine Gs 6 O (zqg O O (zpf tR22 ts142 O O dw tO) (zqm O tg142 ts142 da O (G.mem O O (M.alloc (cs:=_) tz142 O) ?_)));rintro _ wa2 ⟨c,rfl,dy,dJ,hY,dg⟩;refine zpr O (zps ts142 O O O O dx hY tZ) ?_;rintro d6 ⟨_,hY,dm⟩;replace dg:=dg.trans dm (fun q hq h=>tO);have dC:_<=c:=zsW hE.size (zvP dy.symm);obtain⟨hE,dc,du,dz,da⟩:=Tr5 dg hE dc du dz da;refine Gs 5 O (zqm O tg142 ts142 hY.cells O (G.call O call214 (zh8 x _ dB) ?_));rintro _ wz3 ⟨rfl,eb⟩;obtain⟨hE,dc,du,dz,da,hY⟩:=Tr6 eb hE dc du dz da hY;refine Ga 10 O tO (zoB O (fun hb=>?_) (fun hb=>?_))
  .
   rw[zt1 hb]at dV
   have dW:zP k vs=none:=by
    rw[<- dU,<- zvA (i+1) (yd k vs),yO,dV];rfl
   refine Gs 13 O (zoY results196 O O O ⟨_,rfl,⟨.slice none 0 0,tD,(fun (h:(zP k vs).isSome=true)=>tD),fun _=>rfl⟩,hE⟩)
  refine Ga 7 O tO (G.back (i+1,n*(x.high - x.low+1)) j2 ⟨tO,tD,dz⟩ tD)
 have:i=(yd k vs).length:=tO;subst this;rw[zsV,dU]at hs;refine Gs 15 O (zoY results196 O O O ⟨_,rfl,⟨_,tD,fun _=>du,(fun (h:(zP k vs).isSome=false)=>tD)⟩,hE⟩)
theorem zfx (vs:List Vr) (k:Int) (vv:Value) (D:Nat->Prop) (w:World) (hk:0<=k/\k<=3) (hg:∀ v ∈ vs,xy (v.low,v.high)) (da:SlR 5 RVr D w vv vs) (hY:vs.length<=1000000):Calls prog 159 #[vv,.int .i64 k] w (Ret fun r w'=>r=.tuple #[.int .i64 ((zP k vs).getD 0),.int .i64 (if (zP k vs).isSome then 0 else 4)]/\Ext w w'):=by
 have hE:=Keep.refl (fun _=>False) w;refine zqr func159 O ntmps159 O (Gs 10 O (G.call O call196 (zif vs k vv D w hk hg da hY) ?_));rintro _ wz1 ⟨⟨vl,rfl,_,_⟩,db⟩;replace hE:=Tr1 db hE;refine Gs 18 O (zoV results159 O O ⟨_,rfl,rfl,hE⟩)
def yP (f:Nat->Int):Nat->Nat->Int
 | _,0=>0
 | i,n+1=>if f i ≠ 0 then f i else yP f (i+1) n
theorem je (f:Nat->Int):∀ (k i m:Nat),(∀ j,i<=j->j<i+k->f j=0)->yP f i (k+m)=yP f (i+k) m
 | 0,i,m,_=>tZ
 | k+1,i,m,h=>by
  rw[show k+1+m=(k+m)+1 by omega,yP,zt0 tD,je f k (i+1) m (fun j h1 h2=>h j tO tO)]
  grind
theorem jf {n:Nat} (h:∀ j,j<i->f j=0) (hi:i<n) (hb:f i ≠ 0):yP f 0 n=f i:=by
 obtain⟨m,rfl⟩:∃ m,n=i+(m+1):=⟨n - i - 1,tO⟩;rw[je f i 0 (m+1) (fun j _ h2=>h j tO),zvZ,yP,zt1 hb]
theorem qd {n:Nat} (h:∀ j,j<n->f j=0):yP f 0 n=0:=by
 have:=je f n 0 0 (fun j _ h2=>h j tO);simpa[yP] using this
theorem qA {f:Nat->Int}:∀ (n i:Nat),yP f i n=0->∀ j,i<=j->j<i+n->f j=0
 | 0,i,_,j,h1,h2=>tO
 | n+1,i,h,j,h1,h2=>by
  rw[yP]at h;split at h
  . omega
  rename_i h3;by_cases e:j=i
  . grind
  exact qA n (i+1) h j tO tO
def zZ (a b:ByteArray):Bool:=decide (a.toList=b.toList)
def yb (prev:List Vr) (v:Vr):Int :=
 if zcg v.name=false then 7
 else if prev.any (fun u=>zZ u.name v.name)=true then 8
 else if ¬ (0<=v.kind/\v.kind<=3) then 1
 else if zaV v.low v.high=false then 3
 else if v.kind=0/\(v.init<v.low\/v.high<v.init)\/v.kind ≠ 0/\v.init ≠ 0 then 3
 else 0
def kN (vs:List Vr) (i:Nat):Int:=match vs[i]? with
 | some v=>yb (vs.take i) v
 | none=>0
theorem zdf {v:Vr} (h:vs[i]?=some v):kN vs i=yb (vs.take i) v:=by simp[kN,h]
def xr (vs:List Vr):Bool:=(zP 1 vs).isNone || (zP 2 vs).isNone || (match zP 3 vs with
 | some n=>decide (256<n)
 | none=>true)
def zv (vs:List Vr):Int:=if yP (kN vs) 0 vs.length ≠ 0 then yP (kN vs) 0 vs.length else if xr vs then 4 else 0
theorem zeo {prev:List Vr} {v:Vr} (h:yb prev v=0):xy (v.low,v.high)/\0<=v.kind/\v.kind<=3:=by
 unfold yb at h;split at h
 . cases h
 split at h
 . cases h
 split at h
 . cases h
 split at h
 . cases h
 rename_i h1 h2 h3 h4;have h5:zaV v.low v.high=true:=tD;unfold zaV at h5;have:=of_decide_eq_true h5;have h3:=zsZ.1 h3;exact⟨⟨this.2.1,this.1,this.2.2⟩,h3.1,h3.2⟩
theorem qB (h:∀ j,j<vs.length->kN vs j=0):∀ v ∈ vs,xy (v.low,v.high)/\0<=v.kind/\v.kind<=3:=by
 intro v hv;obtain⟨i,hi⟩:=zv7.1 hv;have:=h i (zt4.1 hi).1;rw[zdf hi]at this;exact zeo this
theorem zcw (h1:(zP 1 vs).isNone=false) (h2:(zP 2 vs).isNone=false):xr vs=decide ((256:Int)<(zP 3 vs).getD 4097):=by
 unfold xr;rw[h1,h2];cases zP 3 vs<;>simp
theorem zaB {l:List α} {k:Nat} {x:α} (hx:l[k]?=some x) (h:(l.take k).any p=false) (hp:p x=false):(l.take (k+1)).any p=false:=by rw[ze hx,zu0,h];simp[hp]
theorem zos {l:List α} {x:α} (hx:x ∈ l) (hp:p x=true):l.any p=true:=zu1.2 ⟨x,hx,hp⟩
theorem zig (vs:List Vr) (vv:Value) (D:Nat->Prop) (w:World) (da:SlR 5 RVr D w vv vs) (p:Vr->Bool) (g:FuncId) (cp:Value) (hf:∀ args w,(callFunc g args).run prog w=.ok (.enter g args) w)
  (hc:∀ x ∈ vs,∀ w',Ext w w'->Calls prog g #[.agg (zie x).toArray,cp] w' (Ret fun r w''=>r=.bool (p x)/\Ext w' w'')) :
  Calls prog 195 #[vv,.func (.func g) #[] #[cp]] w (Ret fun r w'=>(∃ i:Int,r=.int .i64 i/\(0<=i ↔ vs.any p=true))/\Ext w w'):=by
 have dy:=da.max;obtain⟨av,nv,rfl⟩:=da.form;refine zqr func195 O ntmps195 O (Gs 14 O (G.loop (σ:=Nat) (fun i=>[(0,.slice av vs.length nv),(1,.func (.func g) #[] #[cp]),(7,.int .i64 vs.length),(8,.int .i64 i)]) (fun i=>fun w'=>i<=vs.length/\(vs.take i).any p=false/\Ext w w') (fun i=>vs.length - i) 0 j2 y9 ?_));rintro i w1 ⟨hi,dm,db⟩;replace da:=Tr1 db da;refine Gs 6 O (zoB O (fun dt=>?_) (fun dt=>?_))
 .
  obtain⟨x,dc,dh⟩:=gE_ vs (i) tO;obtain⟨du,dz,dA,dl,_,hY,dg⟩:=da.at dc;have dw:=RVr.one dg;obtain rfl:=dg;have dr:du<_:=zsS _ _ (hY 0 _ rfl);refine Gs 15 O (zqg O O (zpf tR22 ts142 O O dl tO) (zqm O tg142 ts142 hY O (zpm O hf (hc x dh _ db) ?_)));rintro _ wz1 ⟨rfl,dx⟩;obtain⟨da,db,hY⟩:=Tr3 dx da db hY;refine Gs 2 O (G.bool O (fun hp=>?_) (fun hp=>?_))
  . refine Gs 12 O (zoS results195 O J6)
  refine Ga 7 O tO (G.back (i+1) j2 ⟨tO,zaB dc dm hp,db⟩ tO)
 have:i=vs.length:=tO;subst this;rw[zsV]at dm;refine Gs 11 O (zoS results195 O J6)
theorem zep (vs:List Vr) (vv:Value) (D:Nat->Prop) (w:World) (hY:SlR 5 RVr D w vv vs) (p:Vr->Bool) (g:FuncId) (cp:Value) (hf:∀ args w,(callFunc g args).run prog w=.ok (.enter g args) w)
  (hc:∀ x ∈ vs,∀ w',Ext w w'->Calls prog g #[.agg (zie x).toArray,cp] w' (Ret fun r w''=>r=.bool (p x)/\Ext w' w'')) :
  Calls prog 158 #[vv,.func (.func g) #[] #[cp]] w (Ret fun r w'=>r=.bool (vs.any p)/\Ext w w'):=by
 have hE:=Keep.refl (fun _=>False) w;refine zqr func158 O ntmps158 O (Gs 9 O (G.call O call195 (zig vs vv D w hY p g cp hf hc) ?_));rintro _ wz1 ⟨⟨i,rfl,hi⟩,da⟩;replace hE:=Tr1 da hE;refine Gs 5 O (zoS results158 O ⟨_,rfl,tD,hE⟩)
theorem zkn (v x:Vr) (c:Nat) (w:World) (hB:Blk w c (zie x) 142):Calls prog 156 #[.agg (zie v).toArray,.pointer (some ⟨c,0,none⟩)] w (Ret fun r w'=>r=.bool (zZ v.name x.name)/\Ext w w'):=by
 have hE:=Keep.refl (fun _=>False) w;refine zqr func156 O ntmps156 O (Gs 2 O (G.mem O O (M.box O O) ?_));rintro _ dh ⟨b,rfl,hY,dg,da,db⟩;have dc:_<=b:=zsW hE.size (zvP hY.symm);obtain⟨hE,hB⟩:=Tr2 db hE hB;refine Gs 6 O (zqk O tg9 (da.cells 0 _ O) (Gs 1 O (zqk O tg9 (hB.cells 0 _ O) (Gs 5 O (zoS results156 O ⟨_,rfl,rfl,hE⟩)))))
def plainB (t:Tm):Bool:=decide (t.op=0)&&decide (t.n=0)&&decide (t.kids.length=0)
theorem kn (t:Tm) (cs:List Value) (D:Nat->Prop) (w:World) (ht:RTm D w t cs):Calls prog 152 #[.agg cs.toArray] w (Ret fun r w'=>r=.bool (plainB t)/\Ext w w'):=by
 obtain⟨v,rfl,hk⟩:=ht.get;obtain⟨ao,cap,rfl⟩:=hk.form;refine zqq func152 O ntmps152 O (V.inn (Vs 2 O (V.box 1 O O (fun b1=>?_))));refine Vs 9 O (zqb 6 O (fun k1_=>?_) (fun k1_=>?_))
 .
  refine Vs 5 O (zqb 11 O (fun k2_=>?_) (fun k2_=>?_))
  . refine Vs 9 O (zr9 0 results152 O O Jd)
  refine Vs 9 O (zr9 0 results152 O O Jd)
 refine Vs 14 O (zr9 0 results152 O O Jd)
theorem zfy (t:Tm) (cs:List Value) (D:Nat->Prop) (w:World) (ht:RTm D w t cs):Calls prog 201 #[.agg cs.toArray] w (Ret fun r w'=>r=.bool (plainB t)/\Ext w w'):=by
 obtain⟨v,rfl,hk⟩:=ht.get;obtain⟨ao,cap,rfl⟩:=hk.form;refine zqq func201 O ntmps201 O (V.inn (Vs 2 O (V.box 1 O O (fun b1=>?_))));refine Vs 9 O (zqb 6 O (fun k1_=>?_) (fun k1_=>?_))
 .
  refine Vs 5 O (zqb 11 O (fun k2_=>?_) (fun k2_=>?_))
  . refine Vs 9 O (zr9 0 results201 O O Jd)
  refine Vs 9 O (zr9 0 results201 O O Jd)
 refine Vs 14 O (zr9 0 results201 O O Jd)
@[irreducible] def uvB (a:Int):Bool:=decide (a=0\/a=5)
@[irreducible] def unB (a:Int):Bool:=decide (a=4\/a=5)
@[irreducible] def utB (a:Int):Bool:=decide (a=0\/a=1\/a=3\/a=4)
theorem zcx (a:Int) (w:World):Calls prog 198 #[.int .i64 a] w (Ret fun r w'=>r=.bool (uvB a)/\Ext w w'):=by
 refine zqq func198 O ntmps198 O (V.inn (Vs 10 O (zqb 5 O (fun k1_=>?_) (fun k1_=>?_))))
 . refine Vs 7 O (zr9 0 results198 O O (by unfold uvB;simp[*]))
 refine Vs 7 O (zr9 0 results198 O O (by unfold uvB;simp[*]))
theorem zko (a:Int) (w:World):Calls prog 199 #[.int .i64 a] w (Ret fun r w'=>r=.bool (unB a)/\Ext w w'):=by
 refine zqq func199 O ntmps199 O (V.inn (Vs 10 O (zqb 5 O (fun k1_=>?_) (fun k1_=>?_))))
 . refine Vs 7 O (zr9 0 results199 O O (by unfold unB;simp[*]))
 refine Vs 7 O (zr9 0 results199 O O (by unfold unB;simp[*]))
theorem zfz (a:Int) (w:World):Calls prog 200 #[.int .i64 a] w (Ret fun r w'=>r=.bool (utB a)/\Ext w w'):=by
 refine zqq func200 O ntmps200 O (V.inn (Vs 10 O (zqb 5 O (fun k1_=>?_) (fun k1_=>?_))))
 . refine Vs 15 O JM
 refine Vs 4 O (zqb 9 O (fun k2_=>?_) (fun k2_=>?_))
 . refine Vs 11 O JM
 refine Vs 4 O (zqb 13 O (fun k3_=>?_) (fun k3_=>?_))
 . refine Vs 7 O JM
 refine Vs 7 O JM
def xt:List Int->Bool
 | x::y::r=>decide (x<y)&&xt (y::r)
 | _=>true
theorem xF:∀ l:List Int,xt l=true ↔ ∀ i x y,l[i]?=some x->l[i+1]?=some y->x<y
 | []=>by simp[xt]
 | [a]=>by simp[xt]
 | a::b::r=>by
  simp only[xt,ztz,decide_eq_true_eq,xF (b::r)];constructor
  .
   rintro⟨h1,h2⟩ i x y hx hy;cases i with
   | zero=>simp at hx hy;subst hx;subst hy;exact h1
   | succ i=>exact h2 i x y (by simpa using hx) (by simpa using hy)
  intro h;exact⟨h 0 a b O rfl,fun i x y hx hy=>h (i+1) x y (by simpa using hx) (by simpa using hy)⟩
theorem zdg (l:List Int) (v:Value) (D:Nat->Prop) (w:World) (hl:SlR 1 zw D w v l):Calls prog 202 #[v] w (Ret fun r w'=>r=.bool (xt l)/\Ext w w'):=by
 have dx:=hl.max;obtain⟨al,nl,rfl⟩:=hl.form;refine zqq func202 O ntmps202 O (V.inn (Vs 14 O (zrm (σ:=Nat) [0,5] [] [] O (fun e i=>(6,.int .i64 i)::e) (fun e i=>e) (fun i=>i<=l.length/\(∀ j x y,j+1<i->l[j]?=some x->l[j+1]?=some y->x<y)) (fun i=>l.length - i) 0 j2 j3 j1 j1 j1 ⟨zt5 _,fun j x y h=>absurd h (zvW _)⟩ ?_)));rintro i ⟨hi,hY⟩;refine Vs 6 O (zoC O (fun dr=>?_) (fun dr=>?_))
 .
  refine zqd (p:=i=0) (fun i0=>?_) (fun i0=>?_)
  .
   subst i0;refine Vs 11 O (Vq tK (Vs 3 O (zq9 11 O (fun h0=>?_) (fun h0=>?_))))
   . exact absurd h0 tO
   refine Va 21 O tO (V.back 1 j2 j3 ⟨tO,fun j x y h=>tO⟩ tR 0 O O)
  obtain⟨k,rfl⟩:∃ k,i=k+1:=⟨i - 1,tO⟩;refine zrj 1000 0 (k+1) tO hl O O (fun y dy dz da dt dc=>(zrj 2000 0 k tO hl O O (fun x dA dB db du dg=>?_)));refine Vs 11 O (Vq tK (Vs 3 O (zq9 11 O (fun h0=>?_) (fun h0=>?_))))
  .
   refine Vs 2 O ?_;refine zqT 1000 tR27 ts3 O dc tO _ rfl O (Va 4 O tO (zqT 2000 tR27 ts3 O dg tO (k) tO O (Vs 5 O (zoC O (fun hb=>?_) (fun hb=>?_)))))
   .
    have dw:xt l=false:=by rw[ztB];intro h;have:=(xF l).1 h k x y db da;omega
    refine Vs 11 O (zr9 0 results202 O O (by rw[dw]))
   have g:∀ j x y,j+1<k+1+1->l[j]?=some x->l[j+1]?=some y->x<y:=by
    intro j x' y' hj dh dl;by_cases e:j=k
    .
     subst e;rw[db]at dh;cases dh;rw[da]at dl;cases dl;omega
    exact hY j x' y' tO dh dl
   refine Va 7 O tO (V.back (k+1+1) j2 j3 ⟨tO,g⟩ tR 0 O O)
  exact absurd tO h0
 have dm:xt l=true:=(xF l).2 (fun j x y hx hy=>hY j x y (by have:=(zt4.1 hy).1;omega) hx hy);refine Vs 11 O (zr9 0 results202 O O (by rw[dm]))
def xG (l:List Int):Bool:=decide (1<=l.length)&&decide (l.length<=32)&&decide ((0:Int)<=l[0]?.getD 0)&&xt l
theorem zeq (l:List Int) (v:Value) (D:Nat->Prop) (w:World) (hl:SlR 1 zw D w v l):Calls prog 153 #[v] w (Ret fun r w'=>r=.bool (xG l)/\Ext w w'):=by
 have dC:=hl.max;obtain⟨al,nl,rfl⟩:=hl.form;refine zqq func153 O ntmps153 O (V.inn (Vs 12 O (zq9 7 O (fun h1=>?_) (fun h1=>?_))))
 . refine Vs 20 O (zr9 0 tr153 O O (by unfold xG;rw[zt3 (show ¬ 1<=l.length by omega)];rfl))
 refine Vs 5 O (zq9 12 O (fun h2=>?_) (fun h2=>?_))
 . refine Vs 15 O (zr9 0 tr153 O O (by unfold xG;rw[zt3 (show ¬ l.length<=32 by omega)];simp))
 refine Vs 1 O (zrj 1000 0 0 tO hl O O (fun x0 dw dx hY du da=>?_));refine zqQ 1000 tR27 ts3 O da tO _ rfl O (Vs 5 O (zoC O (fun h3=>?_) (fun h3=>?_)))
 . refine Vs 7 O (zr9 0 tr153 O O (by unfold xG;rw[hY,zt3 (show ¬ (0:Int)<=(some x0).getD 0 by simpa using h3)];simp))
 have hg:xG l=xt l:=by unfold xG;rw[hY,zt2 (show 1<=l.length by omega),zt2 (show l.length<=32 by omega),zt2 (show (0:Int)<=(some x0).getD 0 by simpa using h3)];rfl
 refine Vs 9 O (zrm (σ:=Nat) [0] [] [] O (fun e i=>(3,.int .i64 (i+1:Nat))::e) (fun e i=>e) (fun i=>i+1<=l.length/\(∀ (j:Nat) (x y:Int),j<i->l[j]?=some x->l[j+1]?=some y->x<y)) (fun i=>l.length - i) 0 j2 j3 j1 j1 j1 ⟨tO,fun j x y h=>absurd h (zvW _)⟩ ?_);rintro i ⟨hi,db⟩;refine Vs 9 O (zoC O (fun dy=>?_) (fun dy=>?_))
 .
  refine zrj 2000 0 (i+1) tO hl O O (fun y dD dE dc dz dh=>(zrj 3000 0 i tO hl O O (fun x dF dG dg dA dl=>?_)));refine Vs 5 O (Vq tK (Vs 2 O ?_));refine zqT 2000 tR27 ts3 O dh tO _ rfl O (Va 4 O tO (zqT 3000 tR27 ts3 O dl tO (i) tO O (Vs 4 O (zoC O (fun hb=>?_) (fun hb=>?_)))))
  .
   have dB:xt l=false:=by rw[ztB];intro h;have:=(xF l).1 h i x y dg dc;omega
   refine Vs 11 O (zr9 0 tr153 O O (by rw[hg,dB]))
  have g:∀ (j:Nat) (x y:Int),j<i+1->l[j]?=some x->l[j+1]?=some y->x<y:=by
   intro j x' y' hj dm dr;by_cases e:j=i
   .
    subst e;rw[dg]at dm;cases dm;rw[dc]at dr;cases dr;omega
   exact db j x' y' tO dm dr
  refine Va 8 O tO (V.back (i+1) j2 j3 ⟨tO,g⟩ tR 0 O O)
 have dt:xt l=true:=(xF l).2 (fun j x y hx hy=>db j x y (by have:=(zt4.1 hy).1;omega) hx hy);refine Vs 11 O (zr9 0 tr153 O O (by rw[hg,dt]))
def zbD (s:St):Bool:=decide ((s.thn.length:Int)=0)&&decide ((s.els.length:Int)=0)
def qL (vs:List Vr) (n:Int):Bool:=decide (0<=n)&&decide (n<(vs.length:Int))&&xq vs n
def zG (vs:List Vr) (nh:Nat) (s:St) (last:Bool):Bool :=
 if s.act=0 then zbD s&&qL vs s.var&&decide (s.n=0)&&decide ((s.bounds.length:Int)=0)
 else if s.act=1 then zbD s&&decide (s.var=0)&&decide (s.n=0)&&decide ((s.bounds.length:Int)=0)
 else if s.act=2 then zbD s&&decide (s.var=0)&&decide (s.n=0)&&decide ((s.bounds.length:Int)=0)&&plainB s.term
 else if s.act=3 then decide (s.var=0)&&decide (s.n=0)&&decide ((s.bounds.length:Int)=0)
 else if s.act=4 then decide (s.var=0)&&decide ((s.els.length:Int)=0)&&decide ((s.bounds.length:Int)=0)
 else if s.act=5 then zbD s&&qL vs s.var&&decide (0<=s.n)&&decide (s.n<(nh:Int))&&decide ((s.bounds.length:Int)=0)&&plainB s.term
 else if s.act=6 then zbD s&&last&&decide (s.var=0)&&decide (s.n=0)&&plainB s.term&&xG s.bounds
 else false
theorem zkp (vs:List Vr) (n:Int):(!qL vs n)=(decide (n<0) || decide ((vs.length:Int)<=n) || !xq vs n):=by
 unfold qL;rw[Bool.not_and,Bool.not_and,za,za];simp
theorem zh9 (l:List Int):xG l=(decide ((0:Int)<l.length)&&decide ((l.length:Int)<=32)&&decide ((0:Int)<=l[0]?.getD 0)&&xt l):=by
 unfold xG;congr 3<;>rw[zti]<;>omega
theorem zaC (f:Fl) (s:St) (last:Bool) (v1 v2 v3:Value) (cs:List Value) (D D':Nat->Prop) (w:World) (hf:RFl D w f v1 v2 v3) (hs:RSt D' w s cs):Calls prog 112 #[.agg #[v1,v2,v3],.agg cs.toArray,.bool last] w (Ret fun r w'=>r=.bool (zG f.vars f.hatches.length s last)/\Ext w w'):=by
 obtain⟨dc,dg,dl⟩:=hf;obtain⟨a1,n1,rfl⟩:=dc.form;obtain⟨a2,n2,rfl⟩:=dg.form;obtain⟨u1,u2,u3,u4,rfl,hk,ht,he,hb⟩:=hs.get;obtain⟨a4,n4,rfl⟩:=hk.form;obtain⟨a5,n5,rfl⟩:=ht.form;obtain⟨a6,n6,rfl⟩:=he.form;obtain⟨a7,n7,rfl⟩:=hb.form;unfold zG;refine zqs func112 O ntmps112 O (V.inn (Vs 2 O (V.box 3 O O (fun b3=>?_))));refine V.box 4 O O (fun b4=>(Vs 4 O (zrn (σ:=Unit) [2,3,4] [3,4] [3,4] O (fun e u=>(7,.bool (zbD s))::e) (fun e u=>e) (fun u=>True) j1 j1 ?_ ?_)))
 .
  refine Vs 6 O (zqb 13 O (fun k1_=>?_) (fun k1_=>?_))
  . refine Vs 7 O (zoQ () (Sub.cons (by unfold zbD;simp only[*]<;>rfl) j2) j3 trivial 0 O O)
  refine Vs 7 O (zoQ () (Sub.cons (by unfold zbD;simp only[*]<;>rfl) j2) j3 trivial 0 O O)
 rintro u _;refine Vs 2 O (zrn (σ:=Unit) [2,3,4,7] [3,4] [3,4] O (fun e u=>(8,.bool (qL f.vars s.var))::e) (fun e u=>e) (fun u=>True) j1 j1 ?_ ?_)
 .
  refine Vs 5 O (zqb 22 O (fun k1_=>?_) (fun k1_=>?_))
  .
   refine Vs 8 O (zqb 30 O (fun k2_=>?_) (fun k2_=>?_))
   .
    refine Vs 4 O ?_;have hv:=And.intro (of_decide_eq_true k1_) (of_decide_eq_true k2_);refine zri 1000 0 s.var.toNat tO dc O O O (fun x dm dr dt hY dh da db=>?_);obtain rfl:=db;refine zqQ 1000 tR22 ts142 O da tO (s.var.toNat) tO O ?_;have du:xq f.vars s.var=decide (x.kind=0):=by unfold xq;rw[hY]
    refine Vs 6 O (zoQ () (Sub.cons UG j2) j3 trivial 0 O O)
   refine Vs 11 O (zoQ () (Sub.cons UG j2) j3 trivial 0 O O)
  refine Vs 19 O (zoQ () (Sub.cons UG j2) j3 trivial 0 O O)
 rintro u _;refine Vs 15 O (zoC O (fun a0=>?_) (fun a0=>?_))
 .
  simp only[zt1 a0];refine Vs 4 O (zqb 45 O (fun k1_=>?_) (fun k1_=>?_))
  .
   refine Vs 3 O (zqb 48 O (fun k2_=>?_) (fun k2_=>?_))
   .
    refine Vs 5 O (zqb 53 O (fun k3_=>?_) (fun k3_=>?_))
    . refine Vs 11 O Uf
    refine Vs 11 O Uf
   refine Vs 16 O Uf
  refine Vs 19 O Uf
 simp only[zt0 a0];refine Vs 6 O (zoC O (fun a1=>?_) (fun a1=>?_))
 .
  simp only[zt1 a1];refine Vs 4 O (zqb 62 O (fun k1_=>?_) (fun k1_=>?_))
  .
   refine Vs 5 O (zqb 67 O (fun k2_=>?_) (fun k2_=>?_))
   .
    refine Vs 5 O (zqb 72 O (fun k3_=>?_) (fun k3_=>?_))
    . refine Vs 11 O Uf
    refine Vs 11 O Uf
   refine Vs 16 O Uf
  refine Vs 21 O Uf
 simp only[zt0 a1];refine Vs 6 O (zoC O (fun a2=>?_) (fun a2=>?_))
 .
  simp only[zt1 a2];refine Vs 4 O (zqb 81 O (fun k1_=>?_) (fun k1_=>?_))
  .
   refine Vs 5 O (zqb 86 O (fun k2_=>?_) (fun k2_=>?_))
   .
    refine Vs 5 O (zqb 91 O (fun k3_=>?_) (fun k3_=>?_))
    .
     refine Vs 6 O (zqb 97 O (fun k4_=>?_) (fun k4_=>?_))
     . refine Vs 2 O (zr2 call152 O (fun w hI=>kn s.term _ D' w JC) (Vs 7 O Uf))
     refine Vs 10 O Uf
    refine Vs 16 O Uf
   refine Vs 21 O Uf
  refine Vs 26 O Uf
 simp only[zt0 a2];refine Vs 6 O (zoC O (fun a3=>?_) (fun a3=>?_))
 .
  simp only[zt1 a3];refine Vs 6 O (zqb 107 O (fun k1_=>?_) (fun k1_=>?_))
  .
   refine Vs 5 O (zqb 112 O (fun k2_=>?_) (fun k2_=>?_))
   . refine Vs 11 O Uf
   refine Vs 11 O Uf
  refine Vs 16 O Uf
 simp only[zt0 a3];refine Vs 6 O (zoC O (fun a4=>?_) (fun a4=>?_))
 .
  simp only[zt1 a4];refine Vs 6 O (zqb 123 O (fun k1_=>?_) (fun k1_=>?_))
  .
   refine Vs 6 O (zqb 129 O (fun k2_=>?_) (fun k2_=>?_))
   . refine Vs 11 O Uf
   refine Vs 11 O Uf
  refine Vs 17 O Uf
 simp only[zt0 a4];refine Vs 6 O (zoC O (fun a5=>?_) (fun a5=>?_))
 .
  simp only[zt1 a5];refine Vs 4 O (zqb 138 O (fun k1_=>?_) (fun k1_=>?_))
  .
   refine Vs 3 O (zqb 141 O (fun k2_=>?_) (fun k2_=>?_))
   .
    refine Vs 5 O (zqb 146 O (fun k3_=>?_) (fun k3_=>?_))
    .
     refine Vs 8 O (zqb 154 O (fun k4_=>?_) (fun k4_=>?_))
     .
      refine Vs 6 O (zqb 160 O (fun k5_=>?_) (fun k5_=>?_))
      . refine Vs 2 O (zr2 call152 O (fun w hI=>kn s.term _ D' w JC) (Vs 7 O Uf))
      refine Vs 10 O Uf
     refine Vs 16 O Uf
    refine Vs 24 O Uf
   refine Vs 29 O Uf
  refine Vs 32 O Uf
 simp only[zt0 a5];refine Vs 6 O (zoC O (fun a6=>?_) (fun a6=>?_))
 .
  simp only[zt1 a6];refine Vs 4 O (zqb 168 O (fun k1_=>?_) (fun k1_=>?_))
  .
   refine Vs 3 O (zqb 171 O (fun k2_=>?_) (fun k2_=>?_))
   .
    refine Vs 5 O (zqb 176 O (fun k3_=>?_) (fun k3_=>?_))
    .
     refine Vs 5 O (zqb 181 O (fun k4_=>?_) (fun k4_=>?_))
     .
      refine Vs 2 O (zr2 call152 O (fun w hI=>kn s.term _ D' w JC) (Vs 2 O (zqb 186 O (fun k5_=>?_) (fun k5_=>?_))))
      . refine Vs 2 O (zr2 call153 O (fun w hI=>zeq s.bounds _ D' w (Tr1 hI.k0 hb)) (Vs 7 O Uf))
      refine Vs 10 O Uf
     refine Vs 15 O Uf
    refine Vs 20 O Uf
   refine Vs 25 O Uf
  refine Vs 28 O Uf
 simp only[zt0 a6];refine Vs 9 O (zr9 0 tr112 O O rfl)
theorem zbE (vs:List Vr) (nh:Nat) (s:St) (last:Bool):zG vs nh s last=(!(decide (s.act<0) || decide (6<s.act))&&!(!uvB s.act&&decide (s.var ≠ 0))&&!(!unB s.act&&decide (s.n ≠ 0))&&!(!utB s.act&&!plainB s.term)
  && !(decide (s.act ≠ 3)&&decide (s.act ≠ 4)&&decide (0<(s.thn.length:Int)))&&!(decide (s.act ≠ 3)&&decide (0<(s.els.length:Int)))&&!(decide (s.act ≠ 6)&&decide (0<(s.bounds.length:Int)))
  && !(uvB s.act&&!qL vs s.var)&&!(decide (s.act=5)&&(decide (s.n<0) || decide ((nh:Int)<=s.n)))
  && (decide (s.act ≠ 6) || (last&&xG s.bounds))):=by
 have c0:∀ n:Nat,decide ((n:Int)=0)=!decide (0<(n:Int)):=by intro n;rw[za];congr 1;simp
 have c1:decide (s.var=0)=!decide (s.var ≠ 0):=by rw[za];congr 1;simp
 have c2:decide (s.n=0)=!decide (s.n ≠ 0):=by rw[za];congr 1;simp
 have c3:decide (0<=s.n)=!decide (s.n<0):=by rw[za];congr 1;simp
 have c4:decide (s.n<(nh:Int))=!decide ((nh:Int)<=s.n):=by rw[za];congr 1;simp
 unfold zG zbD uvB unB utB;simp only[c0,c1,c2,c3,c4];generalize decide (0<(s.thn.length:Int))=p1;generalize decide (0<(s.els.length:Int))=p2;generalize decide (0<(s.bounds.length:Int))=p3;generalize decide (s.var ≠ 0)=p4;generalize decide (s.n ≠ 0)=p5;generalize decide (s.n<0)=p6;generalize decide ((nh:Int)<=s.n)=p7;generalize plainB s.term=p8;generalize qL vs s.var=p9;generalize xG s.bounds=p10;rcases (show s.act<0\/s.act=0\/s.act=1\/s.act=2\/s.act=3\/s.act=4\/s.act=5\/s.act=6\/6<s.act by omega) with h | h | h | h | h | h | h | h | h
 . rw[zt0 tO,zt0 tO,zt0 tO,zt0 tO,zt0 tO,zt0 tO,zt0 tO,zt2 h];rfl
 . rw[h];revert p1 p2 p3 p4 p5 p6 p7 p8 p9 p10 last;decide
 . rw[h];revert p1 p2 p3 p4 p5 p6 p7 p8 p9 p10 last;decide
 . rw[h];revert p1 p2 p3 p4 p5 p6 p7 p8 p9 p10 last;decide
 . rw[h];revert p1 p2 p3 p4 p5 p6 p7 p8 p9 p10 last;decide
 . rw[h];revert p1 p2 p3 p4 p5 p6 p7 p8 p9 p10 last;decide
 . rw[h];revert p1 p2 p3 p4 p5 p6 p7 p8 p9 p10 last;decide
 . rw[h];revert p1 p2 p3 p4 p5 p6 p7 p8 p9 p10 last;decide
 rw[zt0 tO,zt0 tO,zt0 tO,zt0 tO,zt0 tO,zt0 tO,zt0 tO,zt2 h];simp
theorem kO (f:Fl) (s:St) (last:Bool) (v1 v2 v3:Value) (cs:List Value) (D D':Nat->Prop) (w:World) (hf:RFl D w f v1 v2 v3) (hs:RSt D' w s cs):Calls prog 163 #[.agg #[v1,v2,v3],.agg cs.toArray,.bool last] w (Ret fun r w'=>r=.bool (zG f.vars f.hatches.length s last)/\Ext w w'):=by
 obtain⟨dh,dl,dt⟩:=hf;obtain⟨a1,n1,rfl⟩:=dh.form;obtain⟨a2,n2,rfl⟩:=dl.form;obtain⟨u1,u2,u3,u4,rfl,hk,ht,he,hb⟩:=hs.get;obtain⟨a4,n4,rfl⟩:=hk.form;obtain⟨a5,n5,rfl⟩:=ht.form;obtain⟨a6,n6,rfl⟩:=he.form;obtain⟨a7,n7,rfl⟩:=hb.form;rw[zbE,zkp,zh9];refine zqs func163 O ntmps163 O (V.inn (Vs 2 O (V.box 3 O O (fun b3=>?_))));refine V.box 4 O O (fun b4=>(Vs 14 O (zrn (σ:=Unit) [2,3,4,7] [3,4] [3,4] O (fun e u=>(10,.bool (decide (s.act<0) || decide (6<s.act)))::e) (fun e u=>e) (fun u=>True) j1 j1 ?_ ?_)))
 .
  refine Vs 4 O (zqb 13 O (fun k1_=>?_) (fun k1_=>?_))
  . refine Vs 5 O (zoQ () Uk j3 trivial 0 O O)
  refine Vs 5 O (zoQ () Uk j3 trivial 0 O O)
 rintro u _;refine Vs 1 O (V.bool O (fun c2=>?_) (fun c2=>?_))
 . refine Vs 11 O Us
 skip;refine Vs 1 O (zrn (σ:=Unit) [2,3,4,7] [3,4] [3,4] O (fun e u=>(10,.bool (!uvB s.act&&decide (s.var ≠ 0)))::e) (fun e u=>e) (fun u=>True) j1 j1 ?_ ?_)
 .
  refine Vs 2 O (zr2 call198 O (fun w hI=>zcx s.act w) (zqh O (fun w hI=>zpQ O j6) (Vs 1 O (zqb 20 O (fun k1_=>?_) (fun k1_=>?_)))))
  . refine Vs 6 O (zoQ () Uk j3 trivial 0 O O)
  refine Vs 6 O (zoQ () Uk j3 trivial 0 O O)
 rintro u _;refine Vs 1 O (V.bool O (fun c3=>?_) (fun c3=>?_))
 . refine Vs 11 O Us
 skip;refine Vs 1 O (zrn (σ:=Unit) [2,3,4,7] [3,4] [3,4] O (fun e u=>(10,.bool (!unB s.act&&decide (s.n ≠ 0)))::e) (fun e u=>e) (fun u=>True) j1 j1 ?_ ?_)
 .
  refine Vs 2 O (zr2 call199 O (fun w hI=>zko s.act w) (zqh O (fun w hI=>zpQ O j6) (Vs 1 O (zqb 28 O (fun k1_=>?_) (fun k1_=>?_)))))
  . refine Vs 6 O (zoQ () Uk j3 trivial 0 O O)
  refine Vs 6 O (zoQ () Uk j3 trivial 0 O O)
 rintro u _;refine Vs 1 O (V.bool O (fun c4=>?_) (fun c4=>?_))
 . refine Vs 11 O Us
 skip;refine Vs 1 O (zrn (σ:=Unit) [2,3,4,7] [3,4] [3,4] O (fun e u=>(10,.bool (!utB s.act&&!plainB s.term))::e) (fun e u=>e) (fun u=>True) j1 j1 ?_ ?_)
 .
  refine Vs 2 O (zr2 call200 O (fun w hI=>zfz s.act w) (zqh O (fun w hI=>zpQ O j6) (Vs 1 O (zqb 36 O (fun k1_=>?_) (fun k1_=>?_)))))
  . refine Vs 2 O (zr2 call201 O (fun w hI=>zfy s.term _ D' w JC) (zqh O (fun w hI=>zpQ O j6) (Vs 3 O (zoQ () Uk j3 trivial 0 O O))))
  refine Vs 7 O (zoQ () Uk j3 trivial 0 O O)
 rintro u _;refine Vs 1 O (V.bool O (fun c5=>?_) (fun c5=>?_))
 . refine Vs 11 O Us
 skip;refine Vs 1 O (zrn (σ:=Unit) [2,3,4,7] [3,4] [3,4] O (fun e u=>(10,.bool (decide (s.act ≠ 3)&&decide (s.act ≠ 4)&&decide (0<(s.thn.length:Int))))::e) (fun e u=>e) (fun u=>True) j1 j1 ?_ ?_)
 .
  refine Vs 4 O (zqb 44 O (fun k1_=>?_) (fun k1_=>?_))
  .
   refine Vs 4 O (zqb 48 O (fun k2_=>?_) (fun k2_=>?_))
   . refine Vs 7 O (zoQ () Uk j3 trivial 0 O O)
   refine Vs 7 O (zoQ () Uk j3 trivial 0 O O)
  refine Vs 11 O (zoQ () Uk j3 trivial 0 O O)
 rintro u _;refine Vs 1 O (V.bool O (fun c6=>?_) (fun c6=>?_))
 . refine Vs 11 O Us
 skip;refine Vs 1 O (zrn (σ:=Unit) [2,3,4,7] [3,4] [3,4] O (fun e u=>(10,.bool (decide (s.act ≠ 3)&&decide (0<(s.els.length:Int))))::e) (fun e u=>e) (fun u=>True) j1 j1 ?_ ?_)
 .
  refine Vs 4 O (zqb 56 O (fun k1_=>?_) (fun k1_=>?_))
  . refine Vs 7 O (zoQ () Uk j3 trivial 0 O O)
  refine Vs 7 O (zoQ () Uk j3 trivial 0 O O)
 rintro u _;refine Vs 1 O (V.bool O (fun c7=>?_) (fun c7=>?_))
 . refine Vs 11 O Us
 skip;refine Vs 1 O (zrn (σ:=Unit) [2,3,4,7] [3,4] [3,4] O (fun e u=>(10,.bool (decide (s.act ≠ 6)&&decide (0<(s.bounds.length:Int))))::e) (fun e u=>e) (fun u=>True) j1 j1 ?_ ?_)
 .
  refine Vs 4 O (zqb 64 O (fun k1_=>?_) (fun k1_=>?_))
  . refine Vs 7 O (zoQ () Uk j3 trivial 0 O O)
  refine Vs 7 O (zoQ () Uk j3 trivial 0 O O)
 rintro u _;refine Vs 1 O (V.bool O (fun c8=>?_) (fun c8=>?_))
 . refine Vs 11 O Us
 skip;refine Vs 1 O (zrn (σ:=Unit) [2,3,4,7] [3,4] [3,4] O (fun e u=>(10,.bool (uvB s.act&&(decide (s.var<0) || decide ((f.vars.length:Int)<=s.var) || !xq f.vars s.var)))::e) (fun e u=>e) (fun u=>True) j1 j1 ?_ ?_)
 .
  refine Vs 2 O (zr2 call198 O (fun w hI=>zcx s.act w) (Vs 1 O (zqb 72 O (fun k1_=>?_) (fun k1_=>?_))))
  .
   refine Vs 4 O (zqb 76 O (fun k2_=>?_) (fun k2_=>?_))
   . refine Vs 20 O (zoQ () Uk j3 trivial 0 O O)
   refine Vs 8 O (zqb 84 O (fun k3_=>?_) (fun k3_=>?_))
   . refine Vs 12 O (zoQ () Uk j3 trivial 0 O O)
   refine Vs 4 O ?_;have hv:=And.intro (of_decide_eq_false k2_) (of_decide_eq_false k3_);refine zri 1000 0 s.var.toNat tO dh O O O (fun x du dw dx hY dm da db=>?_);obtain rfl:=db;refine zqQ 1000 tR22 ts142 O da tO (s.var.toNat) tO O ?_;have dy:(!xq f.vars s.var)=decide (x.kind ≠ 0):=by unfold xq;rw[hY,za]
   refine Vs 7 O (zoQ () Uk j3 trivial 0 O O)
  refine Vs 24 O (zoQ () Uk j3 trivial 0 O O)
 rintro u _;refine Vs 1 O (V.bool O (fun c9=>?_) (fun c9=>?_))
 . refine Vs 11 O Us
 skip;refine zrn (σ:=Unit) [2,4,7] [4] [4] O (fun e u=>(10,.bool (decide (s.act=5)&&(decide (s.n<0) || decide ((f.hatches.length:Int)<=s.n))))::e) (fun e u=>e) (fun u=>True) j1 j1 ?_ ?_
 .
  refine Vs 4 O (zqb 97 O (fun k1_=>?_) (fun k1_=>?_))
  .
   refine Vs 4 O (zqb 101 O (fun k2_=>?_) (fun k2_=>?_))
   . refine Vs 10 O (zoQ () Uk j3 trivial 0 O O)
   refine Vs 10 O (zoQ () Uk j3 trivial 0 O O)
  refine Vs 14 O (zoQ () Uk j3 trivial 0 O O)
 rintro u _;refine Vs 1 O (V.bool O (fun c10=>?_) (fun c10=>?_))
 . refine Vs 8 O Us
 skip;refine Vs 8 O (zqb 112 O (fun k1_=>?_) (fun k1_=>?_))
 . refine Vs 30 O iT
 refine Vs 2 O (zqb 114 O (fun k2_=>?_) (fun k2_=>?_))
 .
  refine Vs 6 O (zqb 120 O (fun k3_=>?_) (fun k3_=>?_))
  .
   refine Vs 6 O (zqb 126 O (fun k4_=>?_) (fun k4_=>?_))
   .
    refine Vs 2 O ?_;have h0:=of_decide_eq_true k3_;refine zrj 2000 0 0 tO hb O O (fun y dz dA dc dr dg=>?_);refine zqQ 2000 tR27 ts3 O dg tO _ rfl O ?_;have h1:s.bounds[0]?.getD 0=y:=by rw[dc];rfl
    refine Vs 4 O (zqb 133 O (fun k5_=>?_) (fun k5_=>?_))
    . refine Vs 2 O (zr2 call202 O (fun w hI=>zdg s.bounds _ D' w (Tr1 hI.k0 hb)) (Vs 6 O Jh))
    refine Vs 9 O Jh
   refine Vs 16 O iT
  refine Vs 22 O iT
 refine Vs 28 O iT
def xu (a:Int):Int:=if a=2 then 67108864 else 10000
def yU (s:St):Bool:=!(decide (s.cost<0) || decide (xu s.act<s.cost) || (decide (s.act=4)&&(decide (s.n<0) || decide (4096<s.n))))&&(decide (s.act ≠ 6) || decide (s.bounds[s.bounds.length - 1]?.getD 0<=67108864))
theorem zih (vs:List Ht) (vv:Value) (D:Nat->Prop) (w:World) (da:SlR 6 RHt D w vv vs) (p:Ht->Bool) (g:FuncId) (cp:Value) (hf:∀ args w,(callFunc g args).run prog w=.ok (.enter g args) w)
  (hc:∀ x ∈ vs,∀ kv w',Ext w w'->Calls prog g #[.agg #[.string x.name,.int .i64 x.low,.int .i64 x.high,.int .i64 x.term.op,.int .i64 x.term.n,kv],cp] w' (Ret fun r w''=>r=.bool (p x)/\Ext w' w'')) :
  Calls prog 197 #[vv,.func (.func g) #[] #[cp]] w (Ret fun r w'=>(∃ i:Int,r=.int .i64 i/\(0<=i ↔ vs.any p=true))/\Ext w w'):=by
 have dC:=da.max;obtain⟨av,nv,rfl⟩:=da.form;refine zqr func197 O ntmps197 O (Gs 14 O (G.loop (σ:=Nat) (fun i=>[(0,.slice av vs.length nv),(1,.func (.func g) #[] #[cp]),(7,.int .i64 vs.length),(8,.int .i64 i)]) (fun i=>fun w'=>i<=vs.length/\(vs.take i).any p=false/\Ext w w') (fun i=>vs.length - i) 0 j2 y9 ?_));rintro i w1 ⟨hi,dr,db⟩;replace da:=Tr1 db da;refine Gs 6 O (zoB O (fun du=>?_) (fun du=>?_))
 .
  obtain⟨x,dg,dl⟩:=gE_ vs (i) tO;obtain⟨dw,dD,dE,dm,_,hY,dh⟩:=da.at dg;have dx:=RHt.one dh;obtain⟨dy,rfl,dc⟩:=dh;obtain⟨dz,dA,rfl⟩:=dc.form;have dt:dw<_:=zsS _ _ (hY 0 _ rfl);refine Gs 15 O (zqg O O (zpf tR23 ts109 O O dm tO) (zqm O isAgg109 ts109 hY O (zpm O hf (hc x dl _ _ db) ?_)));rintro _ wz1 ⟨rfl,dB⟩;obtain⟨da,db,hY,dc⟩:=Tr4 dB da db hY dc;refine Gs 2 O (G.bool O (fun hp=>?_) (fun hp=>?_))
  . refine Gs 12 O (zoS results197 O J6)
  refine Ga 7 O tO (G.back (i+1) j2 ⟨tO,zaB dg dr hp,db⟩ tO)
 have:i=vs.length:=tO;subst this;rw[zsV]at dr;refine Gs 11 O (zoS results197 O J6)
theorem zer (vs:List Ht) (vv:Value) (D:Nat->Prop) (w:World) (hY:SlR 6 RHt D w vv vs) (p:Ht->Bool) (g:FuncId) (cp:Value) (hf:∀ args w,(callFunc g args).run prog w=.ok (.enter g args) w)
  (hc:∀ x ∈ vs,∀ kv w',Ext w w'->Calls prog g #[.agg #[.string x.name,.int .i64 x.low,.int .i64 x.high,.int .i64 x.term.op,.int .i64 x.term.n,kv],cp] w' (Ret fun r w''=>r=.bool (p x)/\Ext w' w'')) :
  Calls prog 161 #[vv,.func (.func g) #[] #[cp]] w (Ret fun r w'=>r=.bool (vs.any p)/\Ext w w'):=by
 have hE:=Keep.refl (fun _=>False) w;refine zqr func161 O ntmps161 O (Gs 9 O (G.call O call197 (zih vs vv D w hY p g cp hf hc) ?_));rintro _ wz1 ⟨⟨i,rfl,hi⟩,da⟩;replace hE:=Tr1 da hE;refine Gs 5 O (zoS results161 O ⟨_,rfl,tD,hE⟩)
theorem zkq (h x:Ht) (kv kx:Value) (c:Nat) (w:World) (hB:Blk w c [.string x.name,.int .i64 x.low,.int .i64 x.high,.int .i64 x.term.op,.int .i64 x.term.n,kx] 109):Calls prog 160 #[.agg #[.string h.name,.int .i64 h.low,.int .i64 h.high,.int .i64 h.term.op,.int .i64 h.term.n,kv],.pointer (some ⟨c,0,none⟩)] w (Ret fun r w'=>r=.bool (zZ h.name x.name)/\Ext w w'):=by
 have hE:=Keep.refl (fun _=>False) w;refine zqr func160 O ntmps160 O (Gs 2 O (G.mem O O (M.box O O) ?_));rintro _ dh ⟨b,rfl,hY,dg,da,db⟩;have dc:_<=b:=zsW hE.size (zvP hY.symm);obtain⟨hE,hB⟩:=Tr2 db hE hB;refine Gs 6 O (zqk O tg9 (da.cells 0 _ O) (Gs 1 O (zqk O tg9 (hB.cells 0 _ O) (Gs 5 O (zoS results160 O ⟨_,rfl,rfl,hE⟩)))))
def zH (vs:List Vr) (prev:List Ht) (h:Ht):Int :=
 if zcg h.name=false then 7
 else if prev.any (fun u=>zZ u.name h.name)=true then 8
 else if zaV h.low h.high=false then 3
 else zB vs true h.term
def jg (vs:List Vr) (hs:List Ht) (i:Nat):Int:=match hs[i]? with
 | some h=>zH vs (hs.take i) h
 | none=>0
theorem zah {hs:List Ht} {h:Ht} (e:hs[i]?=some h):jg vs hs i=zH vs (hs.take i) h:=by simp[jg,e]
def zu (vs:List Vr) (hs:List Ht):Int:=yP (jg vs hs) 0 hs.length
mutual
def zI (vs:List Vr) (nh:Nat):St->Bool->Int
 | .mk a c v n t f g bs,last =>
  if zG vs nh (.mk a c v n t f g bs) last=false then 1
  else if yU (.mk a c v n t f g bs)=false then 3
  else if zB vs false t ≠ 0 then zB vs false t
  else if stepsCodeN vs nh f false ≠ 0 then stepsCodeN vs nh f false
  else stepsCodeN vs nh g false
def stepsCodeN (vs:List Vr) (nh:Nat):List St->Bool->Int
 | [],_=>0
 | s::r,top=>if zI vs nh s (top&&r.isEmpty) ≠ 0 then zI vs nh s (top&&r.isEmpty) else stepsCodeN vs nh r top
end
theorem zY (vs:List Vr) (nh:Nat) (s:St) (last:Bool):zI vs nh s last =
  if zG vs nh s last=false then 1 else if yU s=false then 3 else if zB vs false s.term ≠ 0 then zB vs false s.term
  else if stepsCodeN vs nh s.thn false ≠ 0 then stepsCodeN vs nh s.thn false else stepsCodeN vs nh s.els false:=by
 cases s;rw[zI];rfl
theorem jX (vs:List Vr) (nh:Nat) (top:Bool) (l:List St) (i:Nat) (x:St) (h:l[i]?=some x) :
  stepsCodeN vs nh (l.drop i) top=if zI vs nh x (top&&decide (i=l.length - 1)) ≠ 0 then zI vs nh x (top&&decide (i=l.length - 1)) else stepsCodeN vs nh (l.drop (i+1)) top:=by
 obtain⟨hi,hx⟩:=zt4.1 h;rw[zue hi,hx,stepsCodeN]
 have:(l.drop (i+1)).isEmpty=decide (i=l.length - 1):=by
  rw[ztC];simp;omega
 rw[this]
theorem kP {last:Bool} (h:zG vs nh s last=true):s.act=6->0<s.bounds.length:=by
 intro h6;rw[zbE]at h;simp[h6,xG]at h;omega
open Go.GL
def zm3 (s:St):Bool:=decide (s.cost<0) || decide (xu s.act<s.cost) || decide (s.n<0) || (decide (s.act=4)&&decide (4096<s.n))
def znt (s:St):Bool:=decide ((0:Int)<s.bounds.length)&&decide (67108864<s.bounds[s.bounds.length - 1]?.getD 0)
theorem zha {last:Bool} (h:zG vs nh s last=true):yU s=(!zm3 s&&!znt s):=by
 have h0:(s.n<0->s.act=4)/\(s.act ≠ 6->s.bounds.length=0):=by
  unfold zG at h
  repeat' split at h
  all_goals simp[zbD]at h
  all_goals (refine⟨fun hn=>?_,fun h6=>?_⟩<;>first | omega | simp_all)
 have h1:=kP h;unfold yU zm3 znt;rw[ztC];simp only[ztz,ztG,Bool.and_eq_false_iff,ztH,ztI,decide_eq_false_iff_not,decide_eq_true_eq];generalize s.bounds[s.bounds.length - 1]?.getD 0=e;omega
theorem zdh (f:Fl) (v1 v2 v3:Value) (hg:∀ v ∈ f.vars,xy (v.low,v.high)) (Df:Nat->Prop) (l:List St):∀ (v:Value) (D:Nat->Prop) (w:World) (top:Bool),RFl Df w f v1 v2 v3->SlR 10 RSt D w v l->sbulk l<=1000000->Calls prog 64 #[.agg #[v1,v2,v3],v,.bool top] w (Ret fun r w'=>r=.int .i64 (stepsCodeN f.vars f.hatches.length l top)/\Ext w w'):=by
 induction l using zqD with
 | h l ih =>
 intro v D w top hf hl hb;obtain⟨dG,dH,dI⟩:=hf;have d5:=hl.max;obtain⟨av,nv,rfl⟩:=hl.form;have hf:∀ {w':World},Ext w w'->RFl Df w' f v1 v2 v3:=fun h=>⟨dG.ext yG h,dH.ext yH h,dI.ext zf h⟩;refine zqs func64 O ntmps64 O (V.inn (Vs 2 O (V.box 3 O O (fun b3=>?_))));refine Vs 10 O (zrm (σ:=Nat) [1,2,3] [3] [3] O (fun e i=>(7,.int .i64 i)::e) (fun e i=>e) (fun i=>i<=l.length/\stepsCodeN f.vars f.hatches.length l top=stepsCodeN f.vars f.hatches.length (l.drop i) top) (fun i=>l.length - i) 0 j2 j3 j1 j1 j1 i5 ?_);rintro i ⟨hi,da⟩;refine Vs 9 O (zoC O (fun dJ=>?_) (fun dJ=>?_))
 .
  refine Vs 8 O (zri 1000 0 i tO hl O O O (fun x d6 d7 d8 dy dt dz dA=>?_));obtain⟨dK,dL,dM,dN,rfl,dc,dg,dh,dl⟩:=dA.get;obtain⟨dO,dQ,rfl⟩:=dc.form;obtain⟨dR,dS,rfl⟩:=dg.form;obtain⟨dT,dU,rfl⟩:=dh.form;obtain⟨dV,dW,rfl⟩:=dl.form;refine zqQ 1000 tR24 ts72 O dz tO _ rfl O ?_;have du:=jX f.vars f.hatches.length top l i x dy;have dX:=kF dt;rw[St.bulk_eq]at dX;have dY:decide ((i:Int)=(l.length:Int) - 1)=decide (i=l.length - 1):=by rw[zti];omega
  refine Vs 1 O (V.alloc 8 tz72 O O (fun b8=>?_));refine Vs 5 O (zrn (σ:=Unit) [1,2,3,7,8] [3,8] [3,8] O (fun e u=>(32,.bool (!(zG f.vars f.hatches.length x (top&&decide (i=l.length - 1)))))::e) (fun e u=>e) (fun u=>True) j1 j1 ?_ ?_)
  .
   refine Vs 5 O (zqb 24 O (fun tt=>?_) (fun tt=>?_))
   . refine Va 6 O tO (zr2 call112 O U7 (zqh O (fun w hI=>zpQ O j6) (Vs 1 O (zoQ () (Sub.cons (by rw[tt,ztK,<- dY];rfl) j2) j3 trivial 0 O O))))
   refine Vs 6 O (zr2 call112 O U7 U0)
  rintro u _;generalize hY:(top&&decide (i=l.length - 1))=last;refine Vs 1 O (V.bool O (fun dB=>?_) (fun dB=>?_))
  .
   have dm:zG f.vars f.hatches.length x last=false:=by simpa using dB
   refine Vs 12 O (zr9 0 tr64 O O (by rw[da,du,hY,zY,zt1 dm];rfl))
  have dm:zG f.vars f.hatches.length x last=true:=by simpa using dB
  have dr:¬ zG f.vars f.hatches.length x last=false:=by rw[dm];decide
  have dC:=zha dm;refine Vs 15 O (zrn (σ:=Unit) [1,2,3,7,8] [3,8] [3,8] O (fun e u=>(9,.int .i64 (xu x.act))::e) (fun e u=>e) (fun u=>True) j1 j1 ?_ ?_)
  .
   refine zoC O (fun a2=>?_) (fun a2=>?_)
   . refine Vs 3 O (zoQ () (Sub.cons (by rw[xu,zt1 a2];rfl) j2) j3 trivial 0 O O)
   refine Vs 1 O (zoQ () (Sub.cons (by rw[xu,zt0 a2];rfl) j2) j3 trivial 0 O O)
  rintro u _;refine Vs 3 O (zrn (σ:=Unit) [1,2,3,7,8] [3,8] [3,8] O (fun e u=>(59,.bool (zm3 x))::e) (fun e u=>e) (fun u=>True) j1 j1 ?_ ?_)
  .
   refine Vs 5 O (zqb 39 O (fun k1_=>?_) (fun k1_=>?_))
   . refine Vs 21 O (zoQ () (Sub.cons y8 j2) j3 trivial 0 O O)
   refine Vs 6 O (zqb 45 O (fun k2_=>?_) (fun k2_=>?_))
   . refine Vs 15 O (zoQ () (Sub.cons y8 j2) j3 trivial 0 O O)
   refine Vs 5 O (zqb 50 O (fun k3_=>?_) (fun k3_=>?_))
   . refine Vs 10 O (zoQ () (Sub.cons y8 j2) j3 trivial 0 O O)
   refine Vs 4 O (zqb 54 O (fun k4_=>?_) (fun k4_=>?_))
   . refine Vs 6 O (zoQ () (Sub.cons y8 j2) j3 trivial 0 O O)
   refine Vs 6 O (zoQ () (Sub.cons y8 j2) j3 trivial 0 O O)
  rintro u _;refine Vs 1 O (V.bool O (fun dx=>?_) (fun dx=>?_))
  . refine Vs 12 O (zr9 0 tr64 O O (by rw[da,du,hY,zY,zt0 dr,zt1 (show yU x=false by rw[dC,dx];rfl)];rfl))
  refine Vs 4 O (zrn (σ:=Unit) [1,2,3,7,8] [3,8] [3,8] O (fun e u=>(74,.bool (znt x))::e) (fun e u=>e) (fun u=>True) j1 j1 ?_ ?_)
  .
   refine Vs 6 O (zqb 64 O (fun k1_=>?_) (fun k1_=>?_))
   .
    refine Va 6 O tO ?_;have h0:=of_decide_eq_true k1_;refine zrj 2000 0 (x.bounds.length-1) tO dl O O (fun y d9 eb dD dZ dE=>(zqQ 2000 tR27 ts3 O dE tO (x.bounds.length-1) tO O ?_));have h1:x.bounds[x.bounds.length - 1]?.getD 0=y:=by rw[dD];rfl
    refine Vs 4 O (zoQ () (Sub.cons (by unfold znt;simp only[*,zw1]<;>rfl) j2) j3 trivial 0 O O)
   refine Vs 11 O (zoQ () (Sub.cons (by unfold znt;simp only[*]<;>rfl) j2) j3 trivial 0 O O)
  rintro u _;refine Vs 1 O (V.bool O (fun dF=>?_) (fun dF=>?_))
  . refine Vs 12 O (zr9 0 tr64 O O (by rw[da,du,hY,zY,zt0 dr,zt1 (show yU x=false by rw[dC,dx,dF];rfl)];rfl))
  have dw:¬ yU x=false:=by rw[dC,dx,dF];decide
  refine Vs 8 O (zr2 call63 O (fun w hI=>jB f.vars false v1 _ _ _ w x.term hg (Tr1 hI.k0 dG) (RTm.put ij) tO) (Vs 10 O (zoC O (fun tz=>?_) (fun tz=>?_))))
  . refine Vs 13 O (zr9 0 tr64 O O (by rw[da,du,hY,zY,zt0 dr,zt0 dw,zt1 tz,zt1 tz]))
  have db:zI f.vars f.hatches.length x last=if stepsCodeN f.vars f.hatches.length x.thn false ≠ 0 then stepsCodeN f.vars f.hatches.length x.thn false else stepsCodeN f.vars f.hatches.length x.els false:=by rw[zY,zt0 dr,zt0 dw,zt0 tz]
  refine Vs 7 O (zr2 call64 O (fun w hI=>(ih x dt).1 _ _ w false (hf hI.k0) ic tO) (Vs 10 O (zoC O (fun tz1=>?_) (fun tz1=>?_))))
  . refine Vs 13 O (zr9 0 tr64 O O (by rw[da,du,hY,db,zt1 tz1,zt1 tz1]))
  rw[zt0 tz1]at db;refine Vs 7 O (zr2 call64 O (fun w hI=>(ih x dt).2 _ _ w false (hf hI.k0) ip tO) (Vs 9 O (zoC O (fun tz2=>?_) (fun tz2=>?_))))
  . refine Vs 12 O (zr9 0 tr64 O O (by rw[da,du,hY,db,zt1 tz2]))
  refine Va 8 O tO (V.back (i+1) j2 j3 ⟨tO,by rw[da,du,hY,zt0 (by rw[db];exact tz2)]⟩ tR 0 O O)
 obtain rfl:i=l.length:=tO;refine Vs 11 O (zr9 0 tr64 O O (by rw[da,zuf];rfl))
mutual
def qH:St->Int × Int × Int
 | .mk a c _ n _ f g _=>if a=4 then (1+n*(1+(bds f).1),n*(bds f).2.1,n*(c+(bds f).2.2))
  else (1+max (bds f).1 (bds g).1,if a=1 then 1 else max (bds f).2.1 (bds g).2.1,c+max (bds f).2.2 (bds g).2.2)
def bds:List St->Int × Int × Int
 | []=>(0,0,0)
 | s::r=>((qH s).1+(bds r).1,(qH s).2.1+(bds r).2.1,(qH s).2.2+(bds r).2.2)
end
theorem yQ (s:St):qH s=if s.act=4 then (1+s.n*(1+(bds s.thn).1),s.n*(bds s.thn).2.1,s.n*(s.cost+(bds s.thn).2.2))
  else (1+max (bds s.thn).1 (bds s.els).1,if s.act=1 then 1 else max (bds s.thn).2.1 (bds s.els).2.1,s.cost+max (bds s.thn).2.2 (bds s.els).2.2):=by cases s;rw[qH];rfl
theorem zhb (a b:List St):bds (a++b)=((bds a).1+(bds b).1,(bds a).2.1+(bds b).2.1,(bds a).2.2+(bds b).2.2):=by
 induction a with
 | nil=>simp[bds]
 | cons s r ih=>rw[zu5,bds,ih,bds];simp only[Prod.mk.injEq];omega
theorem zgj {l:List St} {x:St} (h:l[i]?=some x):bds (l.take (i+1))=((bds (l.take i)).1+(qH x).1,(bds (l.take i)).2.1+(qH x).2.1,(bds (l.take i)).2.2+(qH x).2.2):=by
 rw[ze h,zhb];simp[bds]
structure OkS (s:St):Prop where
 cost:0<=s.cost/\s.cost<=67108864
 rep:s.act=4->0<=s.n/\s.n<=4096/\s.els=[]
 free:s.act ≠ 3->s.act ≠ 4->s.thn=[]/\s.els=[]
theorem ql {last:Bool} (h:zI vs nh s last=0):OkS s/\zB vs false s.term=0/\zG vs nh s last=true/\stepsCodeN vs nh s.thn false=0/\stepsCodeN vs nh s.els false=0:=by
 rw[zY]at h;split at h
 . cases h
 rename_i h1;split at h
 . cases h
 rename_i h2;split at h
 . rename_i h3;exact absurd h h3
 rename_i h3;split at h
 . rename_i h4;exact absurd h h4
 rename_i h4;have hY:zG vs nh s last=true:=by simpa using h1
 refine⟨?_,tO,hY,tO,h⟩;have da:yU s=true:=by simpa using h2
 unfold yU xu at da;simp at da;have hz:∀ l:List St,(l.length:Int)=0->l=[]:=fun l h=>zui tO;refine⟨by split at da<;>omega,fun h4=>?_,fun h3 h4=>?_⟩
 .
  have hh:=da.1.2.resolve_left (fun h=>h h4);refine⟨tO,tO,?_⟩;unfold zG at hY;rw[zt0 tO,zt0 tO,zt0 tO,zt0 tO,zt1 h4]at hY;simp at hY;exact hY.1.2
 unfold zG at hY
 repeat' split at hY
 all_goals simp[zbD]at hY
 all_goals first | exact⟨hY.1.1.1.1,hY.1.1.1.2⟩ | exact⟨hY.1.1.1.1.1,hY.1.1.1.1.2⟩ | exact⟨hY.1.1.1.1.1.1,hY.1.1.1.1.1.2⟩ | omega | simp_all
theorem xX {vs:List Vr} {nh:Nat}:∀ (l:List St) (top:Bool),stepsCodeN vs nh l top=0->∀ x ∈ l,∃ last,zI vs nh x last=0
 | [],_,_,x,hx=>by simp at hx
 | s::r,top,h,x,hx=>by
  rw[stepsCodeN]at h;split at h
  . rename_i h1;exact absurd h h1
  rename_i h1;rcases zt6.1 hx with rfl | hx
  . exact⟨_,by simpa using h1⟩
  exact xX r top h x hx
theorem znu (n c a K:Int) (hn:0<=n) (hc:0<=c) (ha:0<=a) (hK:0<=K):min (n*(c+min a K)) K=min (n*(c+a)) K:=by
 rcases Int.le_total a K with h | h
 . rw[Int.min_eq_left h]
 rw[Int.min_eq_right h];by_cases h0:n=0
 . subst h0;simp
 have h1:1*(c+K)<=n*(c+K):=ztU tO tO;have h2:1*(c+a)<=n*(c+a):=ztU tO tO;omega
def cap (K a:Int):Int:=min a K
theorem zC (ha:0<=a) (hK:0<=K):0<=cap K a/\cap K a<=K:=by unfold cap;omega
theorem zai {S x x':Int} (hS:0<=S) (hx:0<=x) (hY:0<=x') (h:cap K x'=cap K x):min (cap K S+x') K=cap K (S+x):=by unfold cap at *;omega
theorem zdi (hc:0<=c) (_:0<=a) (_:0<=b):cap K (c+max (cap K a) (cap K b))=cap K (c+max a b):=by unfold cap;omega
theorem zgk (_:0<=a) (_:0<=b):cap K (max (cap K a) (cap K b))=cap K (max a b):=by unfold cap;omega
theorem zbF {n:Int} (hn:0<=n) (hc:0<=c) (ha:0<=a) (hK:0<=K):cap K (n*(c+cap K a))=cap K (n*(c+a)):=by unfold cap;exact znu n c a K hn hc ha hK
theorem zgl {n:Int} (hn:0<=n) (ha:0<=a) (hK:0<=K):cap K (n*cap K a)=cap K (n*a):=by
 have:=zbF (c:=0) hn (ztQ 0) ha hK;rwa [Int.zero_add,Int.zero_add]at this
theorem zii (_:0<=a) (_:0<=b) (h:cap K a=cap K b):cap K (1+a)=cap K (1+b):=by unfold cap at *;omega
theorem qM (n a N A:Int) (hn:0<=n) (hN:n<=N) (ha:0<=a) (hA:a<=A):0<=n*a/\n*a<=N*A :=
 ⟨ztl hn ha,ztS hN hA ha tO⟩
theorem xl (l:List St):∀ top,stepsCodeN vs nh l top=0->0<=(bds l).1/\0<=(bds l).2.1/\0<=(bds l).2.2:=by
 induction l using zqD with
 | h l ih =>
 intro top h;have hm:=xX l top h
 have key:∀ r:List St,(∀ x ∈ r,x ∈ l)->0<=(bds r).1/\0<=(bds r).2.1/\0<=(bds r).2.2:=by
  intro r;induction r with
  | nil=>intro _;simp[bds]
  | cons x r ihr =>
   intro hx;have h1:=ihr (fun y hy=>hx y im);obtain⟨last,h2⟩:=hm x (hx x (zsU ..));obtain⟨h3,_,_,h4,h5⟩:=ql h2;have h6:=(ih x (hx x (zsU ..))).1 _ h4;have h7:=(ih x (hx x (zsU ..))).2 _ h5;have h8:=h3.cost;rw[bds,yQ];split
   .
    rename_i ha;have h9:=h3.rep ha;have p1:=ztl h9.1 (show 0<=1+(bds x.thn).1 by omega);have p2:=ztl h9.1 h6.2.1;have p3:=ztl h9.1 (show 0<=x.cost+(bds x.thn).2.2 by omega);simp only;omega
   simp only;refine⟨tO,?_,tO⟩;split<;>omega
 exact key l (fun x hx=>hx)
theorem zij {l:List St} {top:Bool} (h:stepsCodeN vs nh l top=0) (i:Nat):0<=(bds (l.take i)).1/\0<=(bds (l.take i)).2.1/\0<=(bds (l.take i)).2.2:=by
 have key:∀ r:List St,(∀ x ∈ r,x ∈ l)->0<=(bds r).1/\0<=(bds r).2.1/\0<=(bds r).2.2:=by
  intro r;induction r with
  | nil=>intro _;simp[bds]
  | cons x r ihr =>
   intro hx;have h1:=ihr (fun y hy=>hx y im);obtain⟨last,h2⟩:=xX l top h x (hx x (zsU ..))
   have h3:stepsCodeN vs nh [x] true=0\/stepsCodeN vs nh [x] false=0:=by
    cases last
    . right;simp[stepsCodeN,h2]
    left;simp[stepsCodeN,h2]
   have h4:0<=(bds [x]).1/\0<=(bds [x]).2.1/\0<=(bds [x]).2.2:=by rcases h3 with h3 | h3<;>exact xl _ _ h3
   simp only[bds]at h4 ⊢;omega
 exact key _ (fun x hx=>zva hx)
theorem zaD {x:St} {last:Bool} (h:zI vs nh x last=0):0<=(qH x).1/\0<=(qH x).2.1/\0<=(qH x).2.2:=by
 have h3:stepsCodeN vs nh [x] true=0\/stepsCodeN vs nh [x] false=0:=by
  cases last
  . right;simp[stepsCodeN,h]
  left;simp[stepsCodeN,h]
 have h4:0<=(bds [x]).1/\0<=(bds [x]).2.1/\0<=(bds [x]).2.2:=by rcases h3 with h3 | h3<;>exact xl _ _ h3
 simpa[bds] using h4
theorem zes (vs:List Vr) (nh:Nat) (l:List St):∀ (v:Value) (D:Nat->Prop) (w:World) (top:Bool),stepsCodeN vs nh l top=0->SlR 10 RSt D w v l->sbulk l<=1000000->Calls prog 65 #[v] w (Ret fun r w'=>r=.tuple #[.int .i64 (cap 4097 (bds l).1),.int .i64 (cap 9 (bds l).2.1),.int .i64 (cap 67108865 (bds l).2.2)]/\Ext w w'):=by
 induction l using zqD with
 | h l ih =>
 intro v D w top dw hl hb;have dO:=hl.max;obtain⟨av,nv,rfl⟩:=hl.form;refine zqq func65 O ntmps65 O (V.inn (Vs 21 O (zrm (σ:=Nat) [0] [] [] O (fun e i=>(5,.int .i64 (cap 4097 (bds (l.take i)).1))::(6,.int .i64 (cap 9 (bds (l.take i)).2.1))::(7,.int .i64 (cap 67108865 (bds (l.take i)).2.2))::(8,.int .i64 i)::e) (fun e i=>e) (fun i=>i<=l.length) (fun i=>l.length - i) 0 j2 j3 j1 j1 j1 (zt5 _) ?_)));rintro i hi;refine Vs 9 O (zoC O (fun dA=>?_) (fun dA=>?_))
 .
  refine Vs 8 O (zri 1000 0 i tO hl O O O (fun x dQ dR dS dh da dl dm=>?_));obtain⟨dB,dC,dD,dE,rfl,dr,dc,dg,dt⟩:=dm.get;obtain⟨dF,dG,rfl⟩:=dr.form;obtain⟨dH,dI,rfl⟩:=dc.form;obtain⟨dJ,dK,rfl⟩:=dg.form;obtain⟨dL,dM,rfl⟩:=dt.form;refine zqQ 1000 tR24 ts72 O dl tO _ rfl O ?_;have du:=zgj dh;have hY:0<=(bds (l.take i)).1/\0<=(bds (l.take i)).2.1/\0<=(bds (l.take i)).2.2:=zij dw i;obtain⟨last,dx⟩:=xX l top dw x da;obtain⟨hS,_,_,dy,dz⟩:=ql dx;have db:=hS.cost;have n1:=xl x.thn _ dy;have n2:=xl x.els _ dz;have r1:=zC n1.1 (show (0:Int)<=4097 by decide);have r2:=zC n1.2.1 (show (0:Int)<=9 by decide);have r3:=zC n1.2.2 (show (0:Int)<=67108865 by decide);have r4:=zC n2.1 (show (0:Int)<=4097 by decide);have r5:=zC n2.2.1 (show (0:Int)<=9 by decide);have r6:=zC n2.2.2 (show (0:Int)<=67108865 by decide);have t1:=zC hY.1 (show (0:Int)<=4097 by decide);have t2:=zC hY.2.1 (show (0:Int)<=9 by decide);have t3:=zC hY.2.2 (show (0:Int)<=67108865 by decide);have y:=zaD dx;have dN:=kF da;rw[St.bulk_eq]at dN;refine Vs 1 O (V.alloc 9 tz72 O O (fun b9=>?_));refine Vs 7 O (zr2 call65 O (fun w hI=>(ih x da).1 _ _ w _ dy ij tO) (Vs 13 O (zr2 call65 O (fun w hI=>(ih x da).2 _ _ w _ dz ic tO) (Vs 10 O (Vw [1000,9] [] O (Vd [0,1,4,5,7,8,9,10] 0 tK O O O (zr3 2 0 tc113 O tK O O iy (Vb [3] 0 tK O O O tO (zr3 6 0 tc113 O tK O O iy (zr3 11 0 tc113 O tK O O iy ?_))))))))));refine Vb [12,13,14,15] 0 tK O O O tO (VD.done tK (Vs 9 O (zrn (σ:=Int × Int × Int) [0,5,6,7,8,9] [9] [9] O (fun e ⟨a,b,c⟩=>(16,.int .i64 a)::(17,.int .i64 b)::(18,.int .i64 c)::e) (fun e ⟨a,b,c⟩=>e) (fun⟨a,b,c⟩=>(0<=a/\a<=16789506/\cap 4097 a=cap 4097 (qH x).1)/\(0<=b/\b<=36864/\(x.act ≠ 1->cap 9 b=cap 9 (qH x).2.1))/\0<=c/\c<=549755813888000/\cap 67108865 c=cap 67108865 (qH x).2.2) j1 j1 ?_ ?_)))
  .
   refine zoC O (fun a4=>?_) (fun a4=>?_)
   .
    have hr:=hS.rep a4;have p1:=qM x.n (1+cap 4097 (bds x.thn).1) 4096 4098 hr.1 hr.2.1 tO tO;have p2:=qM x.n (cap 9 (bds x.thn).2.1) 4096 9 hr.1 hr.2.1 tO tO;have p3:=qM x.n (x.cost+cap 67108865 (bds x.thn).2.2) 4096 134217729 hr.1 hr.2.1 tO tO;have q1:=ztl hr.1 (show 0<=1+(bds x.thn).1 by omega);rw[yQ,zt1 a4];refine Vq tK (Va 21 O tO (zoQ ⟨_,_,_⟩ j2 j3 ⟨⟨tO,tO,zii p1.1 q1 (zbF hr.1 tO n1.1 tO)⟩,⟨p2.1,tO,fun _=>zgl hr.1 n1.2.1 tO⟩,p3.1,tO,zbF hr.1 db.1 n1.2.2 tO⟩ 0 O O))
   rw[yQ,zt0 a4];refine Vs 1 O (zoQ ⟨_,_,_⟩ j2 j3 ⟨⟨tO,tO,zdi tO n1.1 n2.1⟩,⟨tO,tO,fun a1=>by simp only[a1,if_false];exact zgk n1.2.1 n2.2.1⟩,tO,tO,zdi db.1 n1.2.2 n2.2.2⟩ 0 O O)
  rintro⟨a,b,c⟩ ⟨⟨z1,u1,f1⟩,⟨z2,u2,f2⟩,z3,u3,f3⟩;refine Vs 9 O (zrn (σ:=Int) [0,5,6,7,8,16,18] [] [] O (fun e b=>(17,.int .i64 b)::e) (fun e b=>e) (fun b=>0<=b/\b<=36864/\cap 9 b=cap 9 (qH x).2.1) j1 j1 ?_ ?_)
  .
   refine zoC O (fun a1=>?_) (fun a1=>?_)
   . refine Vs 3 O (zoQ 1 j2 j3 ⟨tS,tS,by rw[yQ,zt0 tO];simp[a1]⟩ 0 O O)
   refine Vs 1 O ?_;refine zoQ _ j2 j3 ⟨z2,u2,f2 a1⟩ 0 O O
  rintro b ⟨z2,u2,f2⟩;refine Va 6 O tO (zr2 tc114 O i9 (Va 8 O tO (zr2 tc114 O i9 (Va 7 O tO (zr2 tc114 O i9 (Va 9 O tO (V.back (i+1) (Sub.cons (xB O (by rw[du];exact zai hY.1 y.1 z1 f1)) (Sub.cons (xB O (by rw[du];exact zai hY.2.1 y.2.1 z2 f2)) (Sub.cons (xB O (by rw[du];exact zai hY.2.2 y.2.2 z3 f3)) Um))) j3 tO tR 0 O O)))))))
 obtain rfl:i=l.length:=tO;refine Vs 16 O (zoZ results65 O O O (fun w hI=>⟨_,rfl,by rw[zsV],hI.k0⟩))
open Go.GL
abbrev MsP (m:Nat) (n:Int) (d:Bool):HE:=.own m [.int .i64 n,.bool d] 189
theorem jh (m:Nat) (n:Int) (d:Bool) (w:World) (hB:Blk w m [.int .i64 n,.bool d] 189):Calls prog 119 #[.pointer (some ⟨m,0,none⟩)] w (Ret fun r w'=>r=.bool (d || decide (1024<n))/\Ext w w'):=by
 refine zqq func119 O ntmps119 O (V.inn (V.fr 900 0 O O hB.cells (zqO 0 900 0 O O (Vs 12 O (zqb 7 O (fun k1_=>?_) (fun k1_=>?_))))))
 . refine Vs 10 O (zr9 0 results119 O O j7)
 refine Vs 10 O (zr9 0 results119 O O j7)
theorem zbG (t:Tm):∀ (cs:List Value) (D:Nat->Prop) (W0 W:World) (m:Nat) (n:Int) (d:Bool) (dep:Int),RTm D W0 t cs->EqD D W0 W->(∀ q,D q->q ≠ m)->Blk W m [.int .i64 n,.bool d] 189->0<=n->n+t.nodes<=1024->1<=dep->dep<=13->Calls prog 120 #[.pointer (some ⟨m,0,none⟩),.agg cs.toArray,.int .i64 dep] W (Ret fun r w'=>∃ n':Int,(r=.tuple #[]/\n<=n'/\n'<=n+t.nodes)/\(MsP m n' (d || decide (12<dep+t.depth - 1))).holds w'/\Keep (MsP m n d).S W w'/\∀ q,(MsP m n' (d || decide (12<dep+t.depth - 1))).S q->((MsP m n d).S q\/W.heap.size<=q)/\q<w'.heap.size):=by
 induction t using zqB with
 | h t ih =>
 intro cs D W0 W m n d dep ht db DM hB hn dF dG dH;obtain⟨v,rfl,dm⟩:=ht.get;have hk:=db.to yF dm;obtain⟨av,nv,rfl⟩:=hk.form;have dI:=t.nodes_eq;have dJ:=t.depth_eq;have dr:∀ q,(MsP m n d).S q->¬ D q:=fun q h hd=>DM q hd h;refine zqs func120 O ntmps120 O (zrz 900 (.own m [.int .i64 n,.bool d] 189) (hB) trivial (fun _ h=>h) (fun q hq=>by have hq:q=m:=hq;subst hq;exact hB.lt) (zqO 0 900 0 O O (Vs 2 O (V.box 4 O O (fun b4=>?_)))));refine Va 15 O tO (zrn (σ:=Unit) [0,2,4] [4] [0,4] O (fun e u=>e) (fun e u=>(900,.own m [.int .i64 (n+1),.bool (d || decide (12<dep))] 189)::e) (fun u=>True) j1 j1 ?_ ?_)
 .
  refine Vs 7 O (zqb 20 O (fun hd=>?_) (fun hd=>?_))
  . refine Vs 7 O Uw
  refine Vs 7 O Uw
 rintro u _;refine zqO 0 900 0 O O (Vs 5 O (zr2 call119 O (fun w hI=>jh m _ _ w (hI.at 900 O)) ?_));rw[show (decide (1024<n+1))=false from zt3 tO,ztJ];refine Vs 2 O (V.bool O (fun hov=>?_) (fun hov=>?_))
 .
  have e:(d || decide (12<dep+(t.depth:Int) - 1))=(d || decide (12<dep)):=by
   rw[hov];revert hov;cases d<;>simp;omega
  refine Vs 2 O (zp8 results120 (fun w hI=>⟨_,rfl,n+1,⟨rfl,tO,tO⟩,by rw[e];exact hI.at 900 rfl,hI.k0,fun q hq=>hI.inS 0 900 O O hq⟩))
 have dt:d=false/\¬ 12<dep:=by revert hov;cases d<;>simp
 have dc:(d || decide (12<dep+(t.depth:Int) - 1))=decide (12<dep+(tdepth t.kids:Int)):=by
  rw[dt.1,ztF,zti];omega
 have du:=zbn t.kids;refine Vs 11 O (zrl 900 O (e':=.own m [.int .i64 (n+1),.bool (decide (12<dep+(tdepth (t.kids.take 0):Int)))] 189) (by rw[hov,zt3 (by simp[tdepth];omega)]) (zrm (σ:=Nat × Int) [0,2,29,30] [] [0] O (fun e ⟨i,z⟩=>(31,.int .i64 i)::e) (fun e ⟨i,z⟩=>(900,.own m [.int .i64 z,.bool (decide (12<dep+(tdepth (t.kids.take i):Int)))] 189)::e) (fun⟨i,z⟩=>i<=t.kids.length/\n<=z/\z<=n+1+tnodes (t.kids.take i)) (fun⟨i,z⟩=>t.kids.length - i) (0,n+1) j2 j3 j1 j1 j1 ⟨zt5 _,tO,by simp[tnodes]⟩ ?_));rintro⟨i,z⟩ ⟨hi,dw,dx⟩;refine Vs 6 O (zoC O (fun dy=>?_) (fun dy=>?_))
 .
  refine Vs 6 O (zrh 1000 0 i tO hk O O O (fun b_ d_ h_=>by have dz:=dr _ h_;first | omega | exact dz d_) (fun x dK dL dM hY dg dh dA dl=>?_));obtain⟨dB,rfl,da⟩:=dl.get;obtain⟨dC,dD,rfl⟩:=da.form;refine zqQ 1000 tR68 ts70 O dh tO _ rfl O ?_;have dN:=xV hY;have dO:=kf hY
  have dE:(decide (12<dep+(tdepth (t.kids.take i):Int)) || decide (12<dep+1+(x.depth:Int) - 1))=decide (12<dep+(tdepth (t.kids.take (i+1)):Int)):=by
   rw[zbj hY,<- Bool.decide_or,zti];omega
  refine Vs 1 O (V.alloc 7 tz70 O O (fun b7=>?_));refine Va 8 O tO (zrM [900] (Hn:=fun v_:Int=>[(900,.own m [.int .i64 v_,.bool (decide (12<dep+(tdepth (t.kids.take i):Int)) || decide (12<dep+1+(x.depth:Int) - 1))] 189)]) [(0,some (900,0)),(7,some (7,0)),(33,some (1000,0)),(35,some (900,0))] call120 O iA j1 (fun w hI=>zbi (k:=900) O iJ (ih x dg _ D W0 w m z _ (dep+1) (RTm.put (db.back yF da)) (db.keep hI.k0 (fun b hb=>db.lt hb) (fun b hb hs=>DM b hb hs)) DM (hI.at 900 O) tO tO tO tO)) ?_);rintro _ z2 ⟨rfl,h1,h2⟩;refine Va 7 O tO (zrl 900 O (e':=.own m [.int .i64 z2,.bool (decide (12<dep+(tdepth (t.kids.take (i+1)):Int)))] 189) (by rw[dE]) (V.back ⟨i+1,z2⟩ j2 j3 ⟨tO,tO,tO⟩ tR 0 O O))
 obtain rfl:i=t.kids.length:=tO;rw[zsV]at dx;refine zrl 900 O (e':=.own m [.int .i64 z,.bool (decide (12<dep+(tdepth t.kids:Int)))] 189) Jk (Vs 4 O (zp8 results120 (fun w hI=>⟨_,rfl,z,⟨rfl,dw,tO⟩,by rw[dc];exact hI.at 900 rfl,hI.k0,fun q hq=>hI.inS 0 900 O O hq⟩)))
def yy (dep:Int) (l:List St):Bool:=decide (12<dep+sdepth l - 1) || stdeep l
theorem zhc {l:List St} {x:St} (h:x ∈ l):1<=sdepth l:=by
 obtain⟨i,hi⟩:=zv7.1 h
 conv=>rhs;rw[yI hi]
 rw[qY,sdepth,St.depth_eq];omega
theorem zhd {dep:Int} {l:List St} (h:yy dep (l.take i)=true):yy dep l=true:=by
 unfold yy at *
 have h1:sdepth (l.take i)<=sdepth l:=by
  conv=>rhs;rw[<- zvA i l]
  rw[qY];omega
 have h2:stdeep (l.take i)=true->stdeep l=true:=by
  intro h;rw[<- zvA i l,qZ,h];rfl
 rw[ztI,decide_eq_true_eq]at *;rcases h with h | h
 . left;omega
 exact .inr (h2 h)
theorem zet (l:List St):∀ (v:Value) (D:Nat->Prop) (W0 W:World) (m:Nat) (n:Int) (d:Bool) (dep:Int),SlR 10 RSt D W0 v l->EqD D W0 W->(∀ q,D q->q ≠ m)->Blk W m [.int .i64 n,.bool d] 189->0<=n->n+snodes l<=1024->1<=dep->dep<=13->Calls prog 118 #[.pointer (some ⟨m,0,none⟩),v,.int .i64 dep] W (Ret fun r w'=>∃ n':Int,(r=.tuple #[]/\n<=n'/\n'<=n+snodes l)/\(MsP m n' (d || yy dep l)).holds w'/\Keep (MsP m n d).S W w'/\∀ q,(MsP m n' (d || yy dep l)).S q->((MsP m n d).S q\/W.heap.size<=q)/\q<w'.heap.size):=by
 induction l using zqD with
 | h l ih =>
 intro v D W0 W m n d dep du db DM hB hn dQ dR dS;have hl:=db.to zf du;have dT:=hl.max;obtain⟨av,nv,rfl⟩:=hl.form;have dw:∀ q,(MsP m n d).S q->¬ D q:=fun q h hd=>DM q hd h;have dx:=zd6 l
 have dy:(d || yy dep (l.take 0))=d:=by
  have:yy dep (l.take 0)=false:=by unfold yy;simp[sdepth,stdeep];omega
  rw[this,ztJ]
 refine zqs func118 O ntmps118 O (zrz 900 (.own m [.int .i64 n,.bool d] 189) (hB) trivial (fun _ h=>h) (fun q hq=>by have hq:q=m:=hq;subst hq;exact hB.lt) (zqO 0 900 0 O O (Vs 8 O (zrl 900 O (e':=.own m [.int .i64 n,.bool (d || yy dep (l.take 0))] 189) (by rw[show (d || yy dep (l.take 0))=d from dy]) (zrm (σ:=Nat × Int) [0,2,8,9] [] [0] O (fun e ⟨i,z⟩=>(10,.int .i64 i)::e) (fun e ⟨i,z⟩=>(900,.own m [.int .i64 z,.bool (d || yy dep (l.take i))] 189)::e) (fun⟨i,z⟩=>i<=l.length/\n<=z/\z<=n+snodes (l.take i)) (fun⟨i,z⟩=>l.length - i) (0,n) j2 j3 j1 j1 j1 ⟨zt5 _,tO,by simp[snodes]⟩ ?_)))));rintro⟨i,z⟩ ⟨hi,dz,dt⟩;refine zqO 0 900 0 O O (Vs 6 O (zoC O (fun dA=>?_) (fun dA=>?_)))
 .
  refine Vs 6 O (zrh 1000 0 i tO hl O O O (fun b_ d_ h_=>by have dB:=dw _ h_;first | omega | exact dB d_) (fun x dU dV dW hY da dl dC dm=>?_));obtain⟨dD,dE,dF,dG,rfl,dc,dg,dh,dr⟩:=dm.get;obtain⟨dH,dI,rfl⟩:=dc.form;obtain⟨dJ,dK,rfl⟩:=dg.form;obtain⟨dL,dM,rfl⟩:=dh.form;obtain⟨dN,dO,rfl⟩:=dr.form;refine zqQ 1000 tR24 ts72 O dl tO _ rfl O ?_;have dX:=qx hY;have dY:=zbk hY;have dZ:=x.nodes_eq;refine Vs 1 O (V.alloc 7 tz72 O O (fun b7=>?_));refine Va 16 O tO (zrn (σ:=Unit) [0,2,7,8,9,10] [7] [0,7] O (fun e u=>e) (fun e u=>(900,.own m [.int .i64 (z+1),.bool ((d || yy dep (l.take i)) || decide (12<dep))] 189)::e) (fun u=>True) j1 j1 ?_ ?_)
  .
   refine Vs 7 O (zqb 26 O (fun hd=>?_) (fun hd=>?_))
   . refine Vs 7 O Ur
   refine Vs 7 O Ur
  rintro u _;refine zqO 0 900 0 O O (Vs 5 O (zr2 call119 O (fun w hI=>jh m _ _ w (hI.at 900 O)) ?_));rw[show (decide (1024<z+1))=false from zt3 tO,ztJ];refine Vs 2 O (V.bool O (fun hov=>?_) (fun hov=>?_))
  .
   have e:(d || yy dep l)=((d || yy dep (l.take i)) || decide (12<dep)):=by
    rw[hov];simp only[ztI,decide_eq_true_eq]at hov ⊢;rcases hov with (h | h) | h
    . exact .inl h
    . exact .inr (zhd h)
    right;unfold yy;rw[zt2 (by have:=zhc da;omega)];rfl
   refine Vs 6 O (zp8 results118 (fun w hI=>⟨_,rfl,z+1,⟨rfl,tO,tO⟩,by rw[e];exact hI.at 900 rfl,hI.k0,fun q hq=>hI.inS 0 900 O O hq⟩))
  rw[hov];simp only[ztH,decide_eq_false_iff_not]at hov;have hK:∀ {w:World},Keep (MsP m n d).S W w->EqD D W0 w:=fun h=>db.keep h (fun b hb=>db.lt hb) (fun b hb hs=>DM b hb hs);refine Vs 7 O (zrM [900] (Hn:=fun v_:Int=>[(900,.own m [.int .i64 v_,.bool (false || decide (12<1+(x.term.depth:Int) - 1))] 189)]) [(0,some (900,0)),(7,some (7,0)),(32,some (900,0)),(34,some (900,0)),(35,some (7,4))] call120 O iA j1 (fun w hI=>zbi (k:=900) O iJ (zbG x.term _ D W0 w m _ _ 1 (RTm.put (db.back yF dc)) (hK hI.k0) DM (hI.at 900 O) tO tO tO tO)) ?_);rintro _ z2 ⟨rfl,h1,h2⟩;refine Va 9 O tO (zrM [900] (Hn:=fun v_:Int=>[(900,.own m [.int .i64 v_,.bool ((false || decide (12<1+(x.term.depth:Int) - 1)) || yy (dep+1) x.thn)] 189)]) [(0,some (900,0)),(7,some (7,0)),(32,some (900,0)),(34,some (900,0)),(35,some (7,4)),(38,some (900,0)),(39,some (7,7))] call118 O iA j1 (fun w hI=>zbi (k:=900) O iJ ((ih x da).1 _ D W0 w m _ _ (dep+1) (db.back zf dg) (hK hI.k0) DM (hI.at 900 O) tO tO tO tO)) ?_);rintro _ z3 ⟨rfl,h3,h4⟩;refine Va 8 O tO (zrM [900] (Hn:=fun v_:Int=>[(900,.own m [.int .i64 v_,.bool (((false || decide (12<1+(x.term.depth:Int) - 1)) || yy (dep+1) x.thn) || yy (dep+1) x.els)] 189)]) [(0,some (900,0)),(7,some (7,0)),(32,some (900,0)),(34,some (900,0)),(35,some (7,4)),(38,some (900,0)),(39,some (7,7)),(44,some (900,0)),(45,some (7,8))] call118 O iA j1 (fun w hI=>zbi (k:=900) O iJ ((ih x da).2 _ D W0 w m _ _ (dep+1) (db.back zf dh) (hK hI.k0) DM (hI.at 900 O) tO tO tO tO)) ?_);rintro _ z4 ⟨rfl,h5,h6⟩
  have hb:(((false || decide (12<1+(x.term.depth:Int) - 1)) || yy (dep+1) x.thn) || yy (dep+1) x.els)=(d || yy dep (l.take (i+1))):=by
   have h9:=hov.1.2;unfold yy at h9 ⊢;rw[ztH,decide_eq_false_iff_not]at h9;rw[hov.1.1,zbl hY,zbm hY,h9.2,St.tdeep_eq,St.depth_eq,ztC];simp only[ztI,decide_eq_true_eq,ztF];generalize stdeep x.thn=q1;generalize stdeep x.els=q2;cases q1<;>cases q2<;>simp<;>omega
  refine Va 7 O tO (zrl 900 O (e':=.own m [.int .i64 z4,.bool (d || yy dep (l.take (i+1)))] 189) (by rw[hb]) (V.back ⟨i+1,z4⟩ j2 j3 ⟨tO,tO,tO⟩ tR 0 O O))
 obtain rfl:i=l.length:=tO;rw[zsV]at dt;refine zrl 900 O (e':=.own m [.int .i64 z,.bool (d || yy dep l)] 189) Jk (Vs 4 O (zp8 results118 (fun w hI=>⟨_,rfl,z,⟨rfl,dz,dt⟩,hI.at 900 rfl,hI.k0,fun q hq=>hI.inS 0 900 O O hq⟩)))
end Go.Proofs.YtckdhgbepmpgiaaGreat
namespace Go.GL
structure MI where
 i:Nat
 o:Oper
 d:Nat
 dp:List Nat
 q:Bool
 Φ:(Nat->Value)->Value->Hp->Prop
abbrev MK:=Nat × Nat × List Nat × Bool
def MI.key (x:MI):MK:=(x.i,x.d,x.dp,x.q)
def zik (x:MK) (J:List MK):Bool:=x.2.2.1.all fun m=>J.all fun y=>!Nat.beq y.2.1 m
def zkr (i:Nat) (J:List MK):List MK:=J.filter fun y=>!Nat.beq y.1 i
def zm4 (ops:Array Oper) (l:Array Bool) (x:MK):Bool:=x.2.2.2&&(Region.noSelect ops&&Region.free .any ops l x.1&&(Region.ready .any ops l).contains x.1)
def zks (i:Nat):List MK->Option MK
 | []=>none
 | y::r=>cond (Nat.beq y.1 i) (some y) (zks i r)
def zaE (ops:Array Oper) (L3:Array Bool):Nat->List MK->Array Bool->Bool
 | 0,J,l=>J.isEmpty&&(l == L3)
 | k+1,J,l=>match J.find? (zm4 ops l) with
  | some x=>zik x J&&zaE ops L3 k (zkr x.1 J) (l.setIfInBounds x.1 true)
  | none=>!(Region.ready .any ops l).isEmpty&&(Region.ready .any ops l).all fun j=>match zks j J with
   | some x=>!x.2.2.2&&zik x J&&zaE ops L3 k (zkr x.1 J) (l.setIfInBounds x.1 true)
   | none=>false
theorem zeu {i:Nat}:∀ {J:List MK} {x:MK},zks i J=some x->x ∈ J/\x.1=i
 | [],_,h=>by cases h
 | y::r,x,h=>by
  simp only[zks]at h;cases hb:Nat.beq y.1 i with
  | true=>rw[hb]at h;cases h;exact⟨zsU ..,zsX hb⟩
  | false=>rw[hb]at h;obtain⟨h1,h2⟩:=zeu h;exact⟨zsT _ h1,h2⟩
structure Dn (w w':World) (hx:Hp) (lo hi:Nat):Prop where
 p0:w.heap.size<=lo
 le:lo<=hi
 p1:hi<=w'.heap.size
 ok:∀ z ∈ hx,z.2.holds w'/\z.2.loc/\(∀ b,¬ z.2.fz b)/\∀ q,z.2.S q->lo<=q/\q<hi
 apart:hx.Pairwise (fun x y=>∀ q,x.2.S q->¬ y.2.S q)
theorem Dn.ext {w2:World} {lo hi:Nat} (h:Dn w w' hx lo hi) (hk:Ext w' w2):Dn w w2 hx lo hi :=
 ⟨h.p0,h.le,zsW h.p1 hk.size,fun z hz=>by
  obtain⟨h1,h2,h3,h4⟩:=h.ok z hz
  exact⟨HE.keep h1 h2 hk (fun _ _ h=>h) (fun _ _ h=>h),h2,h3,h4⟩,h.apart⟩
theorem zbH (h:Hands [] [] hx w w'):Ext w w':=h.keep.mono fun q _ ⟨x,hx,_⟩=>tD
theorem Dn.of {a a':World} (hk:Ext w a) (h:Hands [] [] hx a a'):Dn w a' hx a.heap.size a'.heap.size :=
 ⟨hk.size,(zbH h).size,ztf _,fun z hz=>by
  obtain⟨h1,h2,h3,h4⟩:=h.ok z hz;refine⟨h1,h2,h3,fun q hq=>⟨?_,(h4 q hq).2⟩⟩;rcases (h4 q hq).1 with⟨x,hx,_⟩ | h5
  . cases hx
  .
   exact h5,h.apart⟩
theorem zev:∀ H:Hp,yY [] H=H
 | []=>rfl
 | x::r=>by show x::yY [] r=x::r;rw[zev r]
theorem zil {lo hi:Nat->Nat} (hI:VI Bs H w) (hk:Ext w w') (K:List Nat) (hY:K.Nodup) (hd:∀ m ∈ K,Dn w w' (hn m) (lo m) (hi m)) (db:∀ m ∈ K,∀ m' ∈ K,m ≠ m'->hi m<=lo m'\/hi m'<=lo m):VI Bs (K.flatMap hn++H) w':=by
 have hh:Hands H [] (K.flatMap hn) w w':=by
  refine⟨hk.mono fun q _ h=>h.elim,fun z hz=>?_,?_⟩
  .
   obtain⟨m,hm,hz⟩:=zv5.1 hz;obtain⟨h1,h2,h3,h4⟩:=(hd m hm).ok z hz;exact⟨h1,h2,h3,fun q hq=>⟨.inr (zsW (hd m hm).p0 (h4 q hq).1),zvQ (h4 q hq).2 (hd m hm).p1⟩⟩
  clear hI;induction K with
  | nil=>exact List.Pairwise.nil
  | cons m r ih =>
   rw[zvf]at hY;rw[zut];refine zvi.2 ⟨(hd m (zsU ..)).apart,ih hY.2 (fun x hx=>hd x (zsT _ hx)) (fun x hx y hy=>db x (zsT _ hx) y im),fun x hx y hy q hq dc=>?_⟩;obtain⟨m',da,hy⟩:=zv5.1 hy;have g1:=((hd m (zsU ..)).ok x hx).2.2.2 q hq;have g2:=((hd m' (zsT _ da)).ok y hy).2.2.2 q dc;rcases db m (zsU ..) m' (zsT _ da) (fun e=>hY.1 (e ▸ da)) with h | h<;>omega
 have:=hI.hands hh;rw[zev]at this;exact this
theorem zim {env:Env} {val:Nat->Value}:∀ (D:List Nat) (m:Nat) (v:Value),get (D.map (fun d=>(d,val d))++env) m=some v->(m ∈ D/\v=val m)\/get env m=some v
 | [],_,_,h=>.inr h
 | d::r,m,v,h=>by
  rw[zuX,zu5]at h;simp only[GL.get]at h;cases hb:Nat.beq d m with
  | true =>
   rw[hb]at h;have e:=zsX hb;subst e;exact .inl ⟨zsU ..,(Option.some.inj h).symm⟩
  | false =>
   rw[hb]at h;rcases zim r m v h with⟨h1,h2⟩ | h1
   . grind
   grind
section
variable {n:Fm} {Q:Exit->Act->World->Prop} {ks:List Fr} {A:Tgs} {Hs:Hp} {B0:zq} {L:List Nat}
abbrev MI.Ds (I:List MI) (x:MI) (val:Nat->Value) (hn:Nat->Hp):Prop:=∀ y ∈ I,y.d ∈ x.dp->y.Φ val (val y.d) (hn y.d)
theorem zmo {I:List MI} {x:MI} {J:List MI} (_:(I.map (·.d)).Nodup) (_:∀ y ∈ J,y ∈ I) (h:zik x.key (J.map MI.key)=true) {y:MI} (_:y ∈ I) (hd:y.d ∈ x.dp):y ∉ J:=by
 intro hY;unfold zik at h;rw[ztZ]at h;have:=h y.d hd;rw[ztZ]at this;have:=this y.key (zv8.2 ⟨y,hY,rfl⟩);simp[MI.key,]at this
theorem zrW (j:Nat) (I:List MI) (L3:Array Bool) (hI:∀ x ∈ I,ops[x.i]?=some x.o/\x.o.guard=none/\x.o.dst=some x.d/\Nat.blt x.d n=true/\get env x.d=none/\∀ m ∈ x.dp,m ∈ I.map (·.d))
  (dr:(I.map (·.d)).Nodup) (dI:(I.map (·.i)).Nodup) (dJ:∀ x ∈ I,x.dp.Nodup) (hr:zaE ops L3 I.length (I.map MI.key) listed=true) (hB:Bs.drop j=B0) (hu:qa (Hs.map (·.1))=true)
  (hΦ:∀ x ∈ I,∀ val val' v hx,(∀ m ∈ x.dp,val m=val' m)->x.Φ val v hx->x.Φ val' v hx)
  (hc:∀ x ∈ I,x.q=false->∀ val hn,x.Ds I val hn->∀ w,VI Bs (x.dp.flatMap hn++H) w->Does P x.o (x.dp.map (fun m=>(m,val m))++env) w (fun v w'=>∃ hx,x.Φ val v hx/\Hands [] [] hx w w'))
  (hq:∀ x ∈ I,x.q=true->∀ val hn,x.Ds I val hn->∃ v,x.Φ val v []/\∀ w,yk P x.o (x.dp.map (fun m=>(m,val m))++env) w v w)
  (h:∀ val hn,(∀ x ∈ I,x.Φ val (val x.d) (hn x.d))->Hs.map (fun y=>hget ((I.map (·.d)).flatMap hn++H) y.1)=Hs.map (fun y=>some y.2)/\VD P n Q ks ops Hs B0 L fuel L3 (I.map (fun x=>(x.d,val x.d))++env) [] ((I.map (·.d)).flatMap hn++H) Bs) :
  VD P n Q ks ops Hs B0 L (fuel+I.length) listed env A H Bs:=by
 subst hB;intro hH _ w hw
 have key:∀ (k:Nat) (J:List MI) (listed:Array Bool) (env':Env) (w':World) (val:Nat->Value) (hn:Nat->Hp) (lo hi:Nat->Nat),(∀ x ∈ J,x ∈ I)->zaE ops L3 k (J.map MI.key) listed=true->Ext w w'->Sub env env' ->
   (∀ x ∈ I,x ∉ J->get env' x.d=some (val x.d)/\x.Φ val (val x.d) (hn x.d)/\Dn w w' (hn x.d) (lo x.d) (hi x.d)/\∀ m ∈ x.dp,∀ y ∈ I,y.d=m->y ∉ J)->(∀ x ∈ I,x ∉ J->∀ y ∈ I,y ∉ J->x.d ≠ y.d->hi x.d<=lo y.d\/hi y.d<=lo x.d) ->
   WD P n ops (QK P Q ks) (VI (Bs.drop j) Hs) L (fuel+k) listed env' w':=by
  intro k;induction k with
  | zero =>
   intro J listed env' w' val hn lo hi hJ ho hE db hY dC;rw[zaE,ztz,zuO,List.map_eq_nil_iff]at ho;obtain⟨rfl,ho⟩:=ho;have e:listed=L3:=tD;rw[e];have dt:∀ x ∈ I,x ∉ ([]:List MI):=fun x _=>tZ;obtain⟨g1,g2⟩:=h val hn fun x hx=>(hY x hx (dt x hx)).2.1
   have dK:VI Bs ((I.map (·.d)).flatMap hn++H) w':=zil hw hE _ dr (fun m hm=>by
    obtain⟨x,hx,rfl⟩:=zv8.1 hm;exact(hY x hx (dt x hx)).2.2.1) (fun m hm m' dL dh=>by
    grind)
   refine(g2 (Has.of g1) TgOk.nil w' dK).sub ?_;intro m v hv;have dD:get (I.map (fun x=>(x.d,val x.d))++env) m=some v:=hv;rw[show (I.map fun x=>(x.d,val x.d))=(I.map (·.d)).map (fun d=>(d,val d)) by rw[zuY];rfl]at dD;rcases zim _ m v dD with⟨h1,h2⟩ | h1
   . grind
   exact db m v h1
  | succ k ih =>
   intro J listed env' w' val hn lo hi hJ ho hE db hY dC
   have one:∀ x ∈ J,zik x.key (J.map MI.key)=true->zaE ops L3 k (zkr x.i (J.map MI.key)) (listed.setIfInBounds x.i true)=true ->
     (Sub (x.dp.map (fun m=>(m,val m))++env) env'/\x.Ds I val hn/\VI Bs (x.dp.flatMap hn++H) w') /\
     ∀ v w2 hx,x.Φ val v hx->Hands [] [] hx w' w2->WD P n ops (QK P Q ks) (VI (Bs.drop j) Hs) L (fuel+k) (listed.setIfInBounds x.i true) ((x.d,v)::env') w2:=by
    intro x hx dy dM;have dl:=hJ x hx
    have dQ:∀ m ∈ x.dp,∃ y ∈ I,y.d=m/\y ∉ J:=fun m hm=>by
     obtain⟨y,hy,e⟩:=zv8.1 ((hI x dl).2.2.2.2.2 m hm);exact⟨y,hy,e,zmo dr hJ dy hy tD⟩
    refine⟨⟨?_,fun y hy hd=>(hY y hy (zmo dr hJ dy hy hd)).2.1,zil (lo:=lo) (hi:=hi) hw hE _ (dJ x dl) (fun m hm=>?_) (fun m hm m' dL dh=>?_)⟩,?_⟩
    .
     intro m v hv;rcases zim _ m v hv with⟨h1,h2⟩ | h1
     . grind
     exact db m v h1
    . grind
    . grind
    intro v w2 dz hv hh;have k2:=zbH hh;have dh:∀ y ∈ I,y ∉ J->y.d ≠ x.d:=fun y hy dc e=>dc (by rw[zbs dr hy dl e];exact hx)
    have dm:∀ z ∈ I,z ∉ J.filter (fun y=>!Nat.beq y.i x.i)->z=x\/z ∉ J:=by
     intro z hz du;by_cases da:z ∈ J
     .
      left;cases e:Nat.beq z.i x.i with
      | true=>exact zbs dI hz dl (zsX e)
      | false=>exact absurd (zv4.2 ⟨da,tD⟩) du
     grind
    have dw:∀ z ∈ I,(z=x\/z ∉ J)->∀ m ∈ z.dp,val m=(if m=x.d then v else val m):=by
     grind
    refine ih (J.filter (fun y=>!Nat.beq y.i x.i)) (listed.setIfInBounds x.i true) ((x.d,v)::env') w2 (fun m=>if m=x.d then v else val m) (fun m=>if m=x.d then dz else hn m) (fun m=>if m=x.d then w'.heap.size else lo m) (fun m=>if m=x.d then w2.heap.size else hi m) (fun z hz=>hJ z (zv4.1 hz).1) ?_ (hE.ext k2) ?_ ?_ ?_
    .
     have:=dM;unfold zkr at this;rw[List.filter_map]at this;exact this
    .
     intro m u dA;simp only[GL.get];cases hb:Nat.beq x.d m with
     | true =>
      have e:=zsX hb;rw[<- e,(hI x dl).2.2.2.2.1]at dA;cases dA
     | false=>exact db m u dA
    .
     intro z hz du;have dE:=dm z hz du
     have dF:∀ m ∈ z.dp,∀ y ∈ I,y.d=m->y ∉ J.filter (fun y=>!Nat.beq y.i x.i):=by
      intro m hm y hy e dN;have dc:=(zv4.1 dN).1;rcases dE with rfl | da
      . exact zmo dr hJ dy hy tD dc
      grind
     rcases dE with rfl | da
     .
      refine⟨by simp[GL.get,],?_,?_,dF⟩
      .
       simp only[if_true];exact hΦ _ dl _ _ _ _ (dw _ dl (.inl O)) hv
      simp only[if_true];exact Dn.of hE hh
     have dG:=dh z hz da;simp only[dG,if_false];obtain⟨g1,g2,g3,g4⟩:=hY z hz da;refine⟨?_,hΦ z hz _ _ _ _ (dw z hz (.inr da)) g2,g3.ext k2,dF⟩;simp only[GL.get];cases hb:Nat.beq x.d z.d with
     | true=>exact absurd (zsX hb).symm dG
     | false=>exact g1
    intro z hz du y hy dO dH;rcases dm z hz du with rfl | da<;>rcases dm y hy dO with rfl | dc
    . exact absurd O dH
    .
     simp only[dh y hy dc,if_false,if_true];exact .inr (hY y hy dc).2.2.1.p1
    .
     simp only[dh z hz da,if_false,if_true];exact .inl (hY z hz da).2.2.1.p1
    simp only[dh z hz da,dh y hy dc,if_false];exact dC z hz da y hy dc dH
   have dg:∀ y ∈ J.map MI.key,∃ x ∈ J,x.key=y:=fun y hy=>by
    obtain⟨x,hx,e⟩:=zv8.1 hy;exact⟨x,hx,e⟩
   rw[zaE]at ho;split at ho
   .
    rename_i y hy;obtain⟨x,hx,rfl⟩:=dg y (zv9 hy);have dx:=List.find?_some hy;unfold zm4 at dx;rw[ztz]at dx;rw[ztz]at ho;obtain⟨⟨g1,g2,_⟩,g3⟩:=one x hx ho.1 ho.2;obtain⟨q1,q2,q3,q4,_⟩:=hI x (hJ x hx);obtain⟨v,hv,dB⟩:=hq x (hJ x hx) dx.1 val hn g2;exact zqu x.i q1 dx.2 q3 q4 (.inl ⟨fun a _=>by simp[Region.wanted,q2],fun w3 m a ha=>dB w3 m a (ha.sub g1)⟩) (g3 v w' [] hv ⟨Keep.refl _ _,fun z hz=>(by cases hz),List.Pairwise.nil⟩)
   intro a ha;rw[ztz,ztZ]at ho;refine⟨fun h0=>(by rw[h0]at ho;simp at ho),fun i hi=>?_⟩;have h1:=ho.2 i hi;split at h1
   .
    rename_i y hy;obtain⟨h2,h3⟩:=zeu hy;obtain⟨x,hx,rfl⟩:=dg y h2;have h3:x.i=i:=h3;subst h3;rw[ztz,ztz,ztG]at h1;obtain⟨⟨g1,g2,g4⟩,g3⟩:=one x hx h1.1.2 h1.2;obtain⟨q1,q2,q3,q4,_⟩:=hI x (hJ x hx);refine zml q1 q2 q3 ha ((hc x (hJ x hx) h1.1.1 val hn g2 w' g4).sub g1) ?_;rintro v w2 ⟨dz,hv,hh⟩;have k2:=zbH hh;exact⟨fun _ _=>((hw.ext (hE.ext k2)).drop j).pick hH hu,g3 v w2 dz hv hh _ (ha.put q4)⟩
   cases h1
 exact key I.length I listed env w (fun _=>undef) (fun _=>[]) (fun _=>0) (fun _=>0) (fun x hx=>hx) hr iv (Sub.refl _) (fun x hx h=>absurd hx h) (fun x hx h=>absurd hx h)
theorem zrX (A1:Tgs) (hY:A1.map (fun p=>zdT env p.1)=A1.map (fun p=>jw H p.2)) (da:A1.all (fun p=>(jw H p.2).isSome)=true) (h:VD P n Q ks ops Hs B0 L fuel listed env A1 H Bs):VD P n Q ks ops Hs B0 L fuel listed env A H Bs:=fun hH _ w hI=>h hH (TgOk.of hY da) w hI
end
abbrev Ph:=(Nat->Value)->Value->Hp->Prop
abbrev Psi:=Nat->Ph
def psi:List (Nat × Ph)->Psi
 | [],_=>fun _ _ _=>False
 | (k,f)::r,m=>match Nat.beq k m with
  | true=>f
  | false=>psi r m
def zdj (Ψ:Psi) (val:Nat->Value) (hn:Nat->Hp):List Nat->Prop
 | []=>True
 | m::r=>Ψ m val (val m) (hn m)/\zdj Ψ val hn r
def zm5 (val:Nat->Value):List Nat->Env->Env
 | [],env=>env
 | m::r,env=>(m,val m)::zm5 val r env
def hpD (hn:Nat->Hp):List Nat->Hp->Hp
 | [],H=>H
 | m::r,H=>hn m++hpD hn r H
theorem zbI (val:Nat->Value) (env:Env):∀ D:List Nat,zm5 val D env=D.map (fun m=>(m,val m))++env
 | []=>rfl
 | m::r=>by rw[zm5,zbI val env r];rfl
theorem zgm (hn:Nat->Hp) (H:Hp):∀ D:List Nat,hpD hn D H=D.flatMap hn++H
 | []=>rfl
 | m::r=>by rw[hpD,zgm hn H r,zut,zu2]
theorem dpAll_iff {Ψ:Psi} {val:Nat->Value} {hn:Nat->Hp}:∀ {D:List Nat},zdj Ψ val hn D ↔ ∀ m ∈ D,Ψ m val (val m) (hn m)
 | []=>by simp[zdj]
 | m::r=>by simp only[zdj,List.forall_mem_cons];rw[dpAll_iff]
def zcy:List Nat->Bool
 | []=>true
 | x::r=>r.all (fun y=>!Nat.beq x y)&&zcy r
theorem kQ:∀ {l:List Nat},zcy l=true->l.Nodup
 | [],_=>List.Pairwise.nil
 | x::r,h=>by
  rw[zcy,ztz,ztZ]at h;refine zvf.2 ⟨fun hx=>?_,kQ h.2⟩;have:=h.1 x hx;simp[]at this
def znv (I:List MK) (env:Env):Bool:=zcy (I.map (·.2.1))&&zcy (I.map (·.1))&&I.all fun x=>(get env x.2.1).isNone&&zcy x.2.2.1&&x.2.2.1.all fun m=>(I.map (·.2.1)).any fun y=>Nat.beq y m
section
variable {n:Fm} {Q:Exit->Act->World->Prop} {ks:List Fr} {A:Tgs} {Hs:Hp} {B0:zq} {L:List Nat} {Ψ:Psi}
def MP (P:Program) (n:Fm) (ops:Array Oper) (env:Env) (H:Hp) (Bs:zq) (Ψ:Psi) (x:MK):Prop:=∃ o,(ops[x.1]?=some o/\o.guard=none/\o.dst=some x.2.1/\Nat.blt x.2.1 n=true)/\(∀ val val' v hx,(∀ m ∈ x.2.2.1,val m=val' m)->Ψ x.2.1 val v hx->Ψ x.2.1 val' v hx) /\
 (x.2.2.2=false->∀ val hn,zdj Ψ val hn x.2.2.1->∀ w,VI Bs (hpD hn x.2.2.1 H) w->Does P o (zm5 val x.2.2.1 env) w (fun v w'=>∃ hx,Ψ x.2.1 val v hx/\Hands [] [] hx w w')) /\
 (x.2.2.2=true->∀ val hn,zdj Ψ val hn x.2.2.1->∃ v,Ψ x.2.1 val v []/\∀ w,yk P o (zm5 val x.2.2.1 env) w v w)
def MPs (P:Program) (n:Fm) (ops:Array Oper) (env:Env) (H:Hp) (Bs:zq) (Ψ:Psi):List MK->Prop
 | []=>True
 | x::r=>MP P n ops env H Bs Ψ x/\MPs P n ops env H Bs Ψ r
theorem MPs.all:∀ {I:List MK},MPs P n ops env H Bs Ψ I->∀ x ∈ I,MP P n ops env H Bs Ψ x
 | y::r,h,x,hx=>by
  rcases zt6.1 hx with rfl | hx
  . exact h.1
  exact MPs.all h.2 x hx
theorem zrY {dp:List Nat} {op:Op} {ty:TypeId} {ps:String} (hi:ops[i]?=some ⟨some d,op,ty,ps,aft,none⟩) (hb:Nat.blt d n=true) (hΦ:∀ val val' v hx,(∀ m ∈ dp,val m=val' m)->Ψ d val v hx->Ψ d val' v hx)
  (hc:∀ val hn,zdj Ψ val hn dp->∀ w,VI Bs (hpD hn dp H) w->Does P ⟨some d,op,ty,ps,aft,none⟩ (zm5 val dp env) w (fun v w'=>∃ hx,Ψ d val v hx/\Hands [] [] hx w w')):MP P n ops env H Bs Ψ (i,d,dp,false) :=
 ⟨_,⟨hi,rfl,rfl,hb⟩,hΦ,fun _=>hc,fun h=>tD⟩
theorem Does.new {o:Oper} {f:Nat->Value} (K:Nat) (h:xg P o env w (fun u w'=>∃ b,u=f b/\New w cs e b w')):Does P o env w (fun v w'=>∃ hx,(∃ b,v=f b/\hx=[(K,HE.own b cs e)])/\Hands [] [] hx w w'):=by
 obtain⟨v,w',hr,b,rfl,h1,h2,h3,h4⟩:=h;refine .inl ⟨_,w',hr,_,⟨b,rfl,rfl⟩,h4.mono fun q _ h=>h.elim,fun z hz=>?_,zvm _ _⟩;rw[zt8]at hz;subst hz;exact⟨h3,trivial,fun _ h=>h,fun q hq=>by have hq:q=b:=hq;exact⟨.inr tO,tO⟩⟩
theorem zin {f:FuncId} {args:Array Value} {Φ:Value->α->Prop} {Hn:α->Hp} (hc:Calls P f args w (Ret fun r w'=>∃ y,Φ r y/\Hands H [] (Hn y) w w')):Calls P f args w (Ret fun r w'=>∃ hx,(∃ y,Φ r y/\hx=Hn y)/\Hands [] [] hx w w'):=by
 refine hc.mono ?_;rintro _ w' ⟨r,rfl,y,h1,h2⟩;refine⟨r,rfl,_,⟨y,h1,rfl⟩,h2.keep.mono fun q _ ⟨x,_,h,_⟩=>by simp[zh2]at h,fun z hz=>?_,h2.apart⟩;obtain⟨g1,g2,g3,g4⟩:=h2.ok z hz;refine⟨g1,g2,g3,fun q hq=>⟨.inr ?_,(g4 q hq).2⟩⟩;rcases (g4 q hq).1 with⟨x,_,h,_⟩ | h
 . simp[zh2]at h
 exact h
theorem zrZ (fuel j:Nat) (I:List MK) (Ψ:Psi) (hr:zaE ops (ze1 (I.map (·.1)) listed) I.length I listed=true) (hs:znv I env=true) (hB:Bs.drop j=B0) (hu:qa (Hs.map (·.1))=true) (hM:MPs P n ops env H Bs Ψ I)
  (h:∀ val hn,zdj Ψ val hn (I.map (·.2.1))->Hs.map (fun y=>hget (hpD hn (I.map (·.2.1)) H) y.1)=Hs.map (fun y=>some y.2)/\VD P n Q ks ops Hs B0 L fuel (ze1 (I.map (·.1)) listed) (zm5 val (I.map (·.2.1)) env) [] (hpD hn (I.map (·.2.1)) H) Bs) :
  VD P n Q ks ops Hs B0 L (fuel+I.length) listed env A H Bs:=by
 unfold znv at hs;simp only[ztz,ztZ,zu1,zw2]at hs;obtain⟨⟨s1,s2⟩,s3⟩:=hs
 let mk:MK->MI:=fun x=>⟨x.1,(ops[x.1]?).getD ⟨none,.nilCheck (.tmp 0),0, "",#[],none⟩,x.2.1,x.2.2.1,x.2.2.2,Ψ x.2.1⟩
 have e1:(I.map mk).map (·.d)=I.map (·.2.1):=by rw[zuY];rfl
 have e2:(I.map mk).map (·.i)=I.map (·.1):=by rw[zuY];rfl
 have e3:(I.map mk).map MI.key=I:=by rw[zuY];exact List.map_id'' (fun x=>rfl) I
 have e4:(I.map mk).length=I.length:=zta ..
 have da:∀ x ∈ I,∀ val hn,MI.Ds (I.map mk) (mk x) val hn->zdj Ψ val hn x.2.2.1:=fun x hx val hn hD=>dpAll_iff.2 fun m hm=>by
  obtain⟨y,hy,he⟩:=(s3 x hx).2 m hm;obtain⟨z,hz,rfl⟩:=zv8.1 hy;have he:=zsX he;have:=hD (mk z) (zv8.2 ⟨z,hz,rfl⟩) tD
  grind
 rw[<- e4];refine zrW j (I.map mk) (ze1 (I.map (·.1)) listed) ?_ (by rw[e1];exact kQ s1) (by rw[e2];exact kQ s2) ?_ tD hB hu ?_ ?_ ?_ ?_
 .
  intro y hy;obtain⟨x,hx,rfl⟩:=zv8.1 hy;obtain⟨o,⟨h1,h2,h3,h4⟩,_⟩:=hM.all x hx;have ho:(mk x).o=o:=tD;refine⟨tD,tD,tD,h4,(s3 x hx).1.1,fun m hm=>?_⟩;rw[e1];obtain⟨z,hz,he⟩:=(s3 x hx).2 m hm;rw[<- zsX he];exact hz
 .
  intro y hy;obtain⟨x,hx,rfl⟩:=zv8.1 hy;exact kQ (s3 x hx).1.2
 .
  intro y hy;obtain⟨x,hx,rfl⟩:=zv8.1 hy;obtain⟨o,_,h2,_⟩:=hM.all x hx;exact h2
 .
  intro y hy hq val hn hD w hw;obtain⟨x,hx,rfl⟩:=zv8.1 hy;obtain⟨o,⟨h1,_⟩,_,h3,_⟩:=hM.all x hx;have ho:(mk x).o=o:=by show (ops[x.1]?).getD _=o;rw[h1];rfl
  have:=h3 hq val hn (da x hx val hn hD) w (by rw[zgm];exact hw);rw[zbI]at this;rw[ho];exact this
 .
  intro y hy hq val hn hD;obtain⟨x,hx,rfl⟩:=zv8.1 hy;obtain⟨o,⟨h1,_⟩,_,_,h4⟩:=hM.all x hx;have ho:(mk x).o=o:=by show (ops[x.1]?).getD _=o;rw[h1];rfl
  have:=h4 hq val hn (da x hx val hn hD);rw[zbI]at this;rw[ho];exact this
 intro val hn hY
 have:=h val hn (dpAll_iff.2 fun m hm=>by
  obtain⟨x,hx,rfl⟩:=zv8.1 hm
  exact hY (mk x) (zv8.2 ⟨x,hx,rfl⟩))
 rw[zgm,zbI]at this;rw[e1];refine⟨this.1,?_⟩;rw[show (I.map mk).map (fun x=>(x.d,val x.d))=(I.map (·.2.1)).map (fun m=>(m,val m)) by rw[zuY,zuY];rfl];exact this.2
def phA (K:Nat) (cs:List Value) (t:TypeId):Ph:=fun _ v hx=>∃ b,v=.pointer (some ⟨b,0,none⟩)/\hx=[(K,.own b cs t)]
theorem MP.alloc (K:Nat) {ty:TypeId} {ps:String} (hi:ops[i]?=some ⟨some d,.alloc e,ty,ps,aft,none⟩) (hb:Nat.blt d n=true) (hz:∀ w,(zeroValue e).run P w=.ok z w) (hc:z.cells=cs.toArray) (hΨ:Ψ d=phA K cs e):MP P n ops env H Bs Ψ (i,d,[],false) :=
 zrY hi hb (fun val val' v hx _ h=>by rw[hΨ]at h ⊢;exact h) fun val hn _ w _=>by rw[hΨ];exact Does.new K (M.alloc hz hc)
theorem zhe {v':Value} {l l':List (Nat × Value)} (h:v=v') (h2:l=l'):(m,v)::l=(m,v')::l':=tD
theorem znl {a b c d:Hp} (h:a=b) (h2:c=d):a++c=b++d:=tD
theorem VD.cast {D:List Nat} (A1:Tgs) (vals:List (Nat × Value)) (Hn:Hp) (he:D.map (fun m=>(m,val m))=vals) (hh:D.flatMap hn=Hn) (h1:Hs.map (fun y=>hget (Hn++H) y.1)=Hs.map (fun y=>some y.2)) (hY:A1.map (fun p=>zdT (vals++env) p.1)=A1.map (fun p=>jw (Hn++H) p.2)) (da:A1.all (fun p=>(jw (Hn++H) p.2).isSome)=true)
  (h:VD P n Q ks ops Hs B0 L fuel listed (vals++env) A1 (Hn++H) Bs) :
  Hs.map (fun y=>hget (hpD hn D H) y.1)=Hs.map (fun y=>some y.2)/\VD P n Q ks ops Hs B0 L fuel listed (zm5 val D env) [] (hpD hn D H) Bs:=by
 rw[zbI,zgm];subst he hh;exact⟨h1,zrX A1 hY da h⟩
end
end Go.GL
namespace Go.Proofs.YtckdhgbepmpgiaaGreat
open Go.GL
theorem zkt (vs:List Vr) (nh:Nat) (l:List St):∀ (v:Value) (D:Nat->Prop) (w:World) (top:Bool),stepsCodeN vs nh l top=0->SlR 10 RSt D w v l->sbulk l<=1000000->Calls prog 124 #[v] w (Ret fun r w'=>r=.agg #[.int .i64 (cap 1099511627776 (bds l).1),.int .i64 (cap 1099511627776 (bds l).2.1),.int .i64 (cap 1099511627776 (bds l).2.2)]/\Ext w w'):=by
 induction l using zqD with
 | h l ih =>
 intro v D w top du hl hb;have dO:=hl.max;obtain⟨av,nv,rfl⟩:=hl.form;refine zqq func124 O ntmps124 O (V.inn (Vs 2 O (V.alloc 2 tz193 O O (fun b2=>?_))));refine Vs 4 O (V.alloc 3 tz193 O O (fun b3=>?_));refine Vs 11 O (zrm (σ:=Nat) [2,3,9,10] [2] [2,3] O (fun e i=>(11,.int .i64 i)::e) (fun e i=>(3,.own b3 [.int .i64 (cap 1099511627776 (bds (l.take i)).1),.int .i64 (cap 1099511627776 (bds (l.take i)).2.1),.int .i64 (cap 1099511627776 (bds (l.take i)).2.2)] 193)::e) (fun i=>i<=l.length) (fun i=>l.length - i) 0 j2 j3 j1 j1 j1 (zt5 _) ?_);rintro i hi;refine Vs 6 O (zoC O (fun dz=>?_) (fun dz=>?_))
 .
  refine Vs 6 O (zri 1000 0 i tO hl O O O (fun x dQ dR dS dh db dl dm=>?_));obtain⟨dA,dB,dC,dD,rfl,dr,dc,dg,dt⟩:=dm.get;obtain⟨dE,dF,rfl⟩:=dr.form;obtain⟨dG,dH,rfl⟩:=dc.form;obtain⟨dI,dJ,rfl⟩:=dg.form;obtain⟨dK,dL,rfl⟩:=dt.form;refine zqQ 1000 tR24 ts72 O dl tO _ rfl O ?_;have dM:=zgj dh;have da:0<=(bds (l.take i)).1/\0<=(bds (l.take i)).2.1/\0<=(bds (l.take i)).2.2:=zij du i;obtain⟨last,dw⟩:=xX l top du x db;obtain⟨hS,_,_,dx,dy⟩:=ql dw;have hY:=hS.cost;have n1:=xl x.thn _ dx;have n2:=xl x.els _ dy;have y:=zaD dw;have dN:=kF db;rw[St.bulk_eq]at dN;have z0:(0:Int)<=1099511627776:=tS;have r1:=zC n1.1 z0;have r2:=zC n1.2.1 z0;have r3:=zC n1.2.2 z0;have r4:=zC n2.1 z0;have r5:=zC n2.2.1 z0;have r6:=zC n2.2.2 z0;have t1:=zC da.1 z0;have t2:=zC da.2.1 z0;have t3:=zC da.2.2 z0
  have fin:∀ a b c:Int,0<=a->0<=b->0<=c->cap 1099511627776 a=cap 1099511627776 (qH x).1->cap 1099511627776 b=cap 1099511627776 (qH x).2.1->cap 1099511627776 c=cap 1099511627776 (qH x).2.2 ->
    HE.own b3 [.int .i64 (min (cap 1099511627776 (bds (l.take i)).1+a) 1099511627776),.int .i64 (min (cap 1099511627776 (bds (l.take i)).2.1+b) 1099511627776),.int .i64 (min (cap 1099511627776 (bds (l.take i)).2.2+c) 1099511627776)] 193=HE.own b3 [.int .i64 (cap 1099511627776 (bds (l.take (i+1))).1),.int .i64 (cap 1099511627776 (bds (l.take (i+1))).2.1),.int .i64 (cap 1099511627776 (bds (l.take (i+1))).2.2)] 193:=by
   intro a b c ha hb hc e1 e2 e3;rw[dM,zai da.1 y.1 ha e1,zai da.2.1 y.2.1 hb e2,zai da.2.2 y.2.2 hc e3]
  refine Vs 1 O (V.alloc 5 tz72 O O (fun b5=>?_));refine Vs 7 O (zrt [Value.int IntKind.i64 0,Value.int IntKind.i64 0,Value.int IntKind.i64 0] [(0,1),(1,1),(2,1)] [(0,_),(2,_)] O O (fun _=>tK) (V.alloc 6 tz193 O O (fun b6=>?_)));refine Vs 4 O (Vw [2,3,1000,5,6] [] O (Vd [0,1,3,4] 0 tK O O O (zrZ 2 0 [(2,20,[],false),(5,23,[],false),(6,7,[],false),(7,8,[],false)] (psi [(20,fun _ v hx=>∃ y:Unit,v=.agg #[.int .i64 (cap 1099511627776 (bds (x.thn)).1),.int .i64 (cap 1099511627776 (bds (x.thn)).2.1),.int .i64 (cap 1099511627776 (bds (x.thn)).2.2)]/\hx=[]),(23,fun _ v hx=>∃ y:Unit,v=.agg #[.int .i64 (cap 1099511627776 (bds (x.els)).1),.int .i64 (cap 1099511627776 (bds (x.els)).2.1),.int .i64 (cap 1099511627776 (bds (x.els)).2.2)]/\hx=[]),(7,phA 7 [Value.int IntKind.i64 0,Value.int IntKind.i64 0,Value.int IntKind.i64 0] 193),(8,phA 8 [Value.int IntKind.i64 0,Value.int IntKind.i64 0,Value.int IntKind.i64 0] 193)]) tK tK O O ⟨?_,?_,?_,?_,True.intro⟩ ?_)))
  . exact zrY O O (fun _ _ _ _ _ h=>h) (fun val hn _ w hI=>Does.call (F.call call124 (yu O)) (zin (H:=[]) (zeg ((ih x db).1 _ _ _ _ dx ij tO))))
  . exact zrY O O (fun _ _ _ _ _ h=>h) (fun val hn _ w hI=>Does.call (F.call call124 (yu O)) (zin (H:=[]) (zeg ((ih x db).2 _ _ _ _ dy ic tO))))
  . exact MP.alloc 7 O O tz193 O O
  . exact MP.alloc 8 O O tz193 O O
  rintro val hn ⟨⟨u1,e20,n20⟩,⟨u2,e23,n23⟩,⟨b7,e7,n7⟩,⟨b8,e8,n8⟩,_⟩;refine VD.cast [(2,some (2,0)),(3,some (3,0)),(5,some (5,0)),(6,some (6,0)),(13,some (1000,0)),(15,some (5,1)),(18,some (5,7)),(21,some (5,8)),(7,some (7,0)),(8,some (8,0))] _ _ (zhe e20 (zhe e23 (zhe e7 (zhe e8 rfl)))) (znl n20 (znl n23 (znl n7 (znl n8 rfl)))) O O O ?_;clear n20 n23 n7 n8;refine Ve 8 0 O tK O O O (Ve 9 0 O tK O O O (VD.done tK (Vs 15 O (zoC O (fun a1=>?_) (fun a1=>?_)))))
  .
   obtain⟨g1,g2⟩:=hS.free tO tO;have eB:qH x=(1,1,x.cost):=by rw[yQ,g1,g2,zt0 tO];simp[bds,a1]
   refine Va 42 O tO (zrl 3 O (e':=.own b3 [.int .i64 (cap 1099511627776 (bds (l.take (i+1))).1),.int .i64 (cap 1099511627776 (bds (l.take (i+1))).2.1),.int .i64 (cap 1099511627776 (bds (l.take (i+1))).2.2)] 193) (fin 1 1 x.cost tS tS hY.1 (by rw[eB]) (by rw[eB]) (by rw[eB])) (Va 4 O tO (V.back (i+1) j2 j3 tO tR 0 O O)))
  refine Vs 6 O (zoC O (fun a3=>?_) (fun a3=>?_))
  .
   have n4:¬ x.act=4:=tO;refine Va 75 O tO (zrl 3 O (e':=.own b3 [.int .i64 (cap 1099511627776 (bds (l.take (i+1))).1),.int .i64 (cap 1099511627776 (bds (l.take (i+1))).2.1),.int .i64 (cap 1099511627776 (bds (l.take (i+1))).2.2)] 193) (fin _ _ _ tO tO tO (by rw[yQ,zt0 n4];exact zdi tO n1.1 n2.1) (by rw[yQ,zt0 n4];simp only[a1,if_false];exact zgk n1.2.1 n2.2.1) (by rw[yQ,zt0 n4];exact zdi hY.1 n1.2.2 n2.2.2)) (Va 4 O tO (V.back (i+1) j2 j3 tO tR 0 O O)))
  refine Vs 6 O (zoC O (fun a4=>?_) (fun a4=>?_))
  .
   have hr:=hS.rep a4;have p1:=qM x.n (1+cap 1099511627776 (bds x.thn).1) 4096 1099511627777 hr.1 hr.2.1 tO tO;have p2:=qM x.n (cap 1099511627776 (bds x.thn).2.1) 4096 1099511627776 hr.1 hr.2.1 tO tO;have p3:=qM x.n (x.cost+cap 1099511627776 (bds x.thn).2.2) 4096 1099578736640 hr.1 hr.2.1 tO tO;have q1:=ztl hr.1 (show 0<=1+(bds x.thn).1 by omega);refine Va 76 O tO (zrl 3 O (e':=.own b3 [.int .i64 (cap 1099511627776 (bds (l.take (i+1))).1),.int .i64 (cap 1099511627776 (bds (l.take (i+1))).2.1),.int .i64 (cap 1099511627776 (bds (l.take (i+1))).2.2)] 193) (fin _ _ _ tO p2.1 p3.1 (by rw[yQ,zt1 a4];exact zii p1.1 q1 (zbF hr.1 tO n1.1 tO)) (by rw[yQ,zt1 a4];exact zgl hr.1 n1.2.1 tO) (by rw[yQ,zt1 a4];exact zbF hr.1 hY.1 n1.2.2 tO)) (Va 4 O tO (V.back (i+1) j2 j3 tO tR 0 O O)))
  obtain⟨g1,g2⟩:=hS.free a3 a4;have eB:qH x=(1,0,x.cost):=by rw[yQ,g1,g2,zt0 a4];simp[bds,a1]
  refine Va 39 O tO (zrl 3 O (e':=.own b3 [.int .i64 (cap 1099511627776 (bds (l.take (i+1))).1),.int .i64 (cap 1099511627776 (bds (l.take (i+1))).2.1),.int .i64 (cap 1099511627776 (bds (l.take (i+1))).2.2)] 193) (fin 1 0 x.cost tS tS hY.1 (by rw[eB]) (by rw[eB]) (by rw[eB])) (Va 4 O tO (V.back (i+1) j2 j3 tO tR 0 O O)))
 obtain rfl:i=l.length:=tO;refine zrl 3 O (e':=.own b3 [.int .i64 (cap 1099511627776 (bds (l)).1),.int .i64 (cap 1099511627776 (bds (l)).2.1),.int .i64 (cap 1099511627776 (bds (l)).2.2)] 193) Jk (Vs 12 O (zp2 results124 isAgg193 sizeOf193 O O O (fun w hI=>⟨_,rfl,rfl,hI.k0⟩)))
def qc (f:Fl):Bool:=decide (f.vars.length<=64)&&decide (f.hatches.length<=8)&&f.hatches.all (fun h=>decide (h.term.depth<=12))&&(decide (sdepth f.body<=12)&&!stdeep f.body)
theorem zfA (f:Fl) (v1 v2 v3:Value) (D:Nat->Prop) (w:World) (hf:RFl D w f v1 v2 v3) (dB:snodes f.body+zp f.hatches<=1024):Calls prog 59 #[.agg #[v1,v2,v3]] w (Ret fun r w'=>r=.bool (qc f)/\Ext w w'):=by
 obtain⟨dt,dh,dl⟩:=hf;have dC:=dt.max;have dD:=dh.max;obtain⟨a1,n1,rfl⟩:=dt.form;obtain⟨a2,n2,rfl⟩:=dh.form;refine zqq func59 O ntmps59 O (V.inn (Vs 2 O (V.box 1 O O (fun b1=>?_))));refine Vs 11 O (zq9 9 O (fun g1=>?_) (fun g1=>?_))
 . refine Vs 15 O (zr9 0 tr59 O O (by unfold qc;rw[zt3 (show ¬ f.vars.length<=64 by omega)];rfl))
 refine Vs 7 O (zoC O (fun g2=>?_) (fun g2=>?_))
 . refine Vs 7 O (zr9 0 tr59 O O (by unfold qc;rw[zt3 (show ¬ f.hatches.length<=8 by omega),ztA];rfl))
 have hY:qc f=(f.hatches.all (fun h=>decide (h.term.depth<=12))&&(decide (sdepth f.body<=12)&&!stdeep f.body)):=by
  unfold qc;rw[zt2 (show f.vars.length<=64 by omega),zt2 (show f.hatches.length<=8 by omega)];rfl
 refine Vs 6 O (zr2 call104 O (fun w hI=>zfs f.body _ D w JF tO) (Vs 10 O (zrm (σ:=Nat) [1] [1] [1] O (fun e i=>(3,.int .i64 (snodes f.body+zp (f.hatches.take i):Nat))::(4,.int .i64 i)::e) (fun e i=>e) (fun i=>i<=f.hatches.length/\(f.hatches.take i).all (fun h=>decide (h.term.depth<=12))=true) (fun i=>f.hatches.length - i) 0 j2 j3 j1 j1 j1 i5 ?_)));rintro i ⟨hi,da⟩;refine Vs 10 O (zoC O (fun du=>?_) (fun du=>?_))
 .
  refine zri 1000 0 i tO dh O O O (fun x dE dF dG db dm dg dr=>?_);obtain⟨dw,rfl,dc⟩:=dr;obtain⟨dx,dy,rfl⟩:=dc.form;have dH:=xW db;have dz:=kg db;have dI:x.term.depth<=x.term.nodes:=by have:=zay [x.term];simp[tdepth,tnodes]at this;exact this
  refine Vs 10 O ?_;refine zqQ 1000 tR23 ts109 O dg tO _ rfl O (Vs 2 O (zr2 call105 O (fun w hI=>jy x.term _ D w (RTm.put ij) tO) (Va 9 O tO ?_)));refine zqQ 1000 tR23 ts109 O dg tO _ rfl O (Vs 2 O (zr2 call106 O (fun w hI=>jz x.term _ D w (RTm.put ij) tO) (Vs 3 O (zoC O (fun dd=>?_) (fun dd=>?_)))))
  .
   have dA:f.hatches.all (fun h=>decide (h.term.depth<=12))=false:=by
    rw[ztB];intro h;have:=ztZ.1 h x dm;simp at this;omega
   refine Vs 11 O (zr9 0 tr59 O O (by rw[hY,dA,ztD]))
  refine Va 8 O tO (V.back (i+1) (Sub.cons (xB O (by rw[dz];omega)) Um) j3 ⟨tO,by rw[ze db,ztY,da];simp;omega⟩ tR 0 O O)
 obtain rfl:i=f.hatches.length:=tO;rw[zsV]at da;rw[da,ztK]at hY;have dJ:=jx f.body;refine Vs 10 O (zq9 44 O (fun gn=>?_) (fun gn=>?_))
 .
  refine Vs 2 O (zr2 call107 O (fun w hI=>zbu f.body _ D w JF tO) (Vs 3 O (zq9 50 O (fun gd=>?_) (fun gd=>?_))))
  . refine Vs 2 O (zr2 call108 O (fun w hI=>zbv f.body _ D w JF tO) (zqh O (fun w hI=>zpQ O j6) (Vs 5 O (zr9 0 tr59 O O (by rw[hY,zt2 (show sdepth f.body<=12 by omega)];rfl)))))
  refine Vs 9 O (zr9 0 tr59 O O (by rw[hY,zt3 (show ¬ sdepth f.body<=12 by omega)];rfl))
 exact absurd (by rw[zsV];omega) gn
theorem zbJ (vs:List Vr) (vv:Value) (D:Nat->Prop) (w:World) (dc:SlR 5 RVr D w vv vs):Calls prog 60 #[vv] w (Ret fun r w'=>r=.int .i64 (zv vs)/\Ext w w'):=by
 have dD:=dc.max;obtain⟨av,nv,rfl⟩:=dc.form;refine zqq func60 O ntmps60 O (V.inn (Vs 12 O (zrm (σ:=Nat) [0] [] [] O (fun e i=>(3,.int .i64 i)::e) (fun e i=>e) (fun i=>i<=vs.length/\(∀ j,j<i->kN vs j=0)) (fun i=>vs.length - i) 0 j2 j3 j1 j1 j1 y6 ?_)));rintro i ⟨hi,db⟩;refine Vs 9 O (zoC O (fun dz=>?_) (fun dz=>?_))
 .
  refine Vs 8 O (zri 1000 0 i tO dc O O O (fun x dE dF dG dl dA dm dr=>?_));obtain rfl:=dr;refine zqQ 1000 tR22 ts142 O dm tO _ rfl O ?_;have dt:=zdf dl
  have da:∀ c:Int,yb (vs.take i) x=c->c ≠ 0->zv vs=c:=by
   intro c h1 h2;have h3:kN vs i ≠ 0:=by rw[dt,h1];exact h2
   rw[zv,jf db tO h3,zt1 h3,dt,h1]
  have hY:yb (vs.take i) x=0->∀ j,j<i+1->kN vs j=0:=by
   intro h j hj;by_cases e:j=i
   . subst e;rw[dt,h]
   exact db j tO
  refine Vs 1 O (V.alloc 4 tz142 O O (fun b4=>?_));refine Vs 8 O (zr2 call61 O (fun w hI=>zaz x.name w) (zqh O (fun w hI=>zpQ O j6) (Vs 2 O (V.bool O (fun n0=>?_) (fun n0=>?_)))))
  .
   have n0':zcg x.name=false:=by simpa using n0
   refine Vs 12 O (zr9 0 tr60 O O (by rw[da 7 (by rw[yb,zt1 n0']) tS]))
  have n0':¬ zcg x.name=false:=by simpa using n0
  refine Vs 9 O (zrm (σ:=Nat) [0,3,4] [4] [4] O (fun e j=>(5,.int .i64 j)::e) (fun e j=>e) (fun j=>j<=i/\(vs.take j).any (fun u=>zZ u.name x.name)=false) (fun j=>i - j) 0 j2 j3 j1 j1 j1 i5 ?_);rintro j ⟨hj,dy⟩;refine Vs 8 O (zoC O (fun dB=>?_) (fun dB=>?_))
  .
   refine zri 2000 0 j tO dc O O O (fun y dH dI dJ dg dC du dw=>?_);obtain rfl:=dw;refine Vs 5 O (Vq tK (Vs 2 O (zqT 2000 tR22 ts142 O du tO (j) tO O (Vs 7 O (zoC O (fun hd=>?_) (fun hd=>?_))))))
   .
    have dx:(vs.take i).any (fun u=>zZ u.name x.name)=true:=by
     rw[zu1];refine⟨y,zsR (i:=j) (by rw[ztm,zt1 tO];exact dg),?_⟩;unfold zZ;exact zt2 hd
    refine Vs 16 O (zr9 0 tr60 O O (by rw[da 8 (by rw[yb,zt0 n0',zt1 dx]) tS]))
   refine Va 8 O tO (V.back (j+1) j2 j3 ⟨tO,by rw[ze dg,zu0,dy];simp[zZ,hd]⟩ tR 0 O O)
  obtain rfl:j=i:=tO;have n1:¬ (vs.take j).any (fun u=>zZ u.name x.name)=true:=by rw[dy];decide
  refine Vs 7 O (zrn (σ:=Unit) [0,3,4] [4] [4] O (fun e u=>(50,.bool (decide (¬ (0<=x.kind/\x.kind<=3))))::e) (fun e u=>e) (fun u=>True) j1 j1 ?_ ?_)
  .
   refine Vs 5 O (zq9 36 O (fun k1_=>?_) (fun k1_=>?_))
   .
    refine Vs 5 O (zq9 41 O (fun k2_=>?_) (fun k2_=>?_))
    .
     refine Vs 5 O (zq9 46 O (fun k3_=>?_) (fun k3_=>?_))
     . refine Vs 5 O (zoQ () Ug j3 trivial 0 O O)
     refine Vs 5 O (zoQ () Ug j3 trivial 0 O O)
    refine Vs 10 O (zoQ () Ug j3 trivial 0 O O)
   refine Vs 15 O (zoQ () Ug j3 trivial 0 O O)
  rintro u _;refine Vs 1 O (zoC O (fun n2=>?_) (fun n2=>?_))
  . refine Vs 12 O (zr9 0 tr60 O O (by rw[da 1 (by rw[yb,zt0 n0',zt0 n1,zt1 n2]) tS]))
  refine Vs 9 O (zr2 call62 O (fun w hI=>kK x.low x.high w) (zqh O (fun w hI=>zpQ O j6) (Vs 2 O (V.bool O (fun n3=>?_) (fun n3=>?_)))))
  .
   have n3':zaV x.low x.high=false:=by simpa using n3
   refine Vs 12 O (zr9 0 tr60 O O (by rw[da 3 (by rw[yb,zt0 n0',zt0 n1,zt0 n2,zt1 n3']) tS]))
  have n3':¬ zaV x.low x.high=false:=by simpa using n3
  have b4':x.kind=0/\(x.init<x.low\/x.high<x.init)\/x.kind ≠ 0/\x.init ≠ 0->zv vs=3:=fun h=>da 3 (by rw[yb,zt0 n0',zt0 n1,zt0 n2,zt0 n3',zt1 h]) tS;have g4:¬ (x.kind=0/\(x.init<x.low\/x.high<x.init)\/x.kind ≠ 0/\x.init ≠ 0)->yb (vs.take j) x=0:=fun h=>by rw[yb,zt0 n0',zt0 n1,zt0 n2,zt0 n3',zt0 h]
  refine Vs 8 O (zq9 60 O (fun k1_=>?_) (fun k1_=>?_))
  .
   refine Vs 6 O (zq9 66 O (fun k2_=>?_) (fun k2_=>?_))
   . refine Vs 31 O Jr
   refine Vs 8 O (zq9 74 O (fun k3_=>?_) (fun k3_=>?_))
   . refine Vs 23 O Jr
   refine Vs 4 O (zq9 78 O (fun k4_=>?_) (fun k4_=>?_))
   .
    refine Vs 7 O (zoC O (fun k5_=>?_) (fun k5_=>?_))
    . refine Vs 11 O Jr
    refine Va 8 O tO (V.back (j+1) j2 j3 JO tR 0 O O)
   refine Va 16 O tO (V.back (j+1) j2 j3 JO tR 0 O O)
  refine Vs 18 O (zq9 78 O (fun k2_=>?_) (fun k2_=>?_))
  .
   refine Vs 7 O (zoC O (fun k3_=>?_) (fun k3_=>?_))
   . refine Vs 11 O Jr
   refine Va 8 O tO (V.back (j+1) j2 j3 JO tR 0 O O)
  refine Va 16 O tO (V.back (j+1) j2 j3 JO tR 0 O O)
 obtain rfl:i=vs.length:=tO;have hg:=qB db;have hz:=qd db;have dh:∀ v ∈ vs,xy (v.low,v.high):=fun v hv=>(hg v hv).1;have hv:zv vs=if xr vs then 4 else 0:=by rw[zv,zt0 (by simp[hz])]
 have sp:∀ k n,zP k vs=some n->1<=n/\n<=4096:=fun k n h=>qK k vs 1 n dh tO tO h
 have isN:∀ k,(4096:Int)<(zP k vs).getD 4097 ↔ (zP k vs).isNone=true:=by
  intro k;cases h:zP k vs with
  | none=>simp
  | some n=>have:=sp k n h;simp;omega
 refine Vs 9 O (zr2 call109 O (fun w hI=>jc vs 1 _ D w dh ij) (Vs 2 O (zq9 87 O (fun s1=>?_) (fun s1=>?_))))
 . refine Vs 19 O (zr9 0 tr60 O O (by rw[hv,xr,(isN 1).1 s1];rfl))
 have s1':(zP 1 vs).isNone=false:=by rw[ztB];exact fun h=>s1 ((isN 1).2 h)
 refine Vs 1 O (zr2 call109 O (fun w hI=>jc vs 2 _ D w dh ij) (Vs 3 O (zq9 92 O (fun s2=>?_) (fun s2=>?_))))
 . refine Vs 14 O (zr9 0 tr60 O O (by rw[hv,xr,s1',(isN 2).1 s2];rfl))
 have s2':(zP 2 vs).isNone=false:=by rw[ztB];exact fun h=>s2 ((isN 2).2 h)
 refine Vs 1 O (zr2 call109 O (fun w hI=>jc vs 3 _ D w dh ij) (Vs 4 O (zoC O (fun s3=>?_) (fun s3=>?_))))
 . refine Vs 7 O (zr9 0 tr60 O O (by rw[hv,zcw s1' s2',zt2 s3];rfl))
 refine Vs 8 O (zr9 0 tr60 O O (by rw[hv,zcw s1' s2',zt3 s3];rfl))
def zdk (f:Fl):Bool:=decide (4096<(bds f.body).1) || decide (8<(bds f.body).2.1) || decide (67108864<(bds f.body).2.2)
def ya (f:Fl):Int :=
 if qc f=false then 4
 else if zv f.vars ≠ 0 then zv f.vars
 else if zu f.vars f.hatches ≠ 0 then zu f.vars f.hatches
 else if stepsCodeN f.vars f.hatches.length f.body true ≠ 0 then stepsCodeN f.vars f.hatches.length f.body true
 else if zdk f then 4 else 0
theorem zbK (h:zv vs=0):∀ v ∈ vs,xy (v.low,v.high):=by
 have h1:∀ j,j<vs.length->kN vs j=0:=by
  unfold zv at h;split at h
  . rename_i h2;exact absurd h h2
  rename_i h2;intro j hj;exact qA vs.length 0 (by simpa using h2) j (zt5 _) tO
 exact fun v hv=>(qB h1 v hv).1
theorem zbL (f:Fl) (v1 v2 v3:Value) (D:Nat->Prop) (w:World) (hf:RFl D w f v1 v2 v3) (dF:snodes f.body+zp f.hatches<=1024) (dC:sbulk f.body<=1000000):Calls prog 29 #[.agg #[v1,v2,v3]] w (Ret fun r w'=>r=.int .i64 (ya f)/\Ext w w'):=by
 obtain⟨dc,dg,dt⟩:=hf;have dS:=dc.max;have dT:=dg.max;obtain⟨a1,n1,rfl⟩:=dc.form;obtain⟨a2,n2,rfl⟩:=dg.form;have hf:∀ {w':World},Ext w w'->RFl D w' f (.slice a1 f.vars.length n1) (.slice a2 f.hatches.length n2) v3:=fun h=>⟨dc.ext yG h,dg.ext yH h,dt.ext zf h⟩;refine zqq func29 O ntmps29 O (V.inn (Vs 2 O (V.box 1 O O (fun b1=>?_))));refine Vs 7 O (zr2 call59 O (fun w hI=>zfA f _ _ _ D w (hf hI.k0) dF) (zqh O (fun w hI=>zpQ O j6) (Vs 2 O (V.bool O (fun s0=>?_) (fun s0=>?_)))))
 .
  have s0':qc f=false:=by simpa using s0
  refine Vs 7 O (zr9 0 tr29 O O (by rw[ya,zt1 s0']))
 have s0':¬ qc f=false:=by simpa using s0
 refine Vs 6 O (zr2 call60 O (fun w hI=>zbJ f.vars _ D w ij) (Vs 10 O (zoC O (fun vz=>?_) (fun vz=>?_))))
 . refine Vs 8 O (zr9 0 tr29 O O (by rw[ya,zt0 s0',zt1 vz]))
 have hg:=zbK (show zv f.vars=0 by omega);have hY:ya f=if zu f.vars f.hatches ≠ 0 then zu f.vars f.hatches else if stepsCodeN f.vars f.hatches.length f.body true ≠ 0 then stepsCodeN f.vars f.hatches.length f.body true else if zdk f then 4 else 0:=by rw[ya,zt0 s0',zt0 vz]
 refine Vs 9 O (zrm (σ:=Nat) [1] [1] [1] O (fun e i=>(4,.int .i64 i)::e) (fun e i=>e) (fun i=>i<=f.hatches.length/\(∀ j,j<i->jg f.vars f.hatches j=0)) (fun i=>f.hatches.length - i) 0 j2 j3 j1 j1 j1 y6 ?_);rintro i ⟨hi,db⟩;refine Vs 10 O (zoC O (fun dG=>?_) (fun dG=>?_))
 .
  refine Vs 9 O (zri 1000 0 i tO dg O O O (fun x dU dV dW dh dH du dw=>?_));obtain⟨dI,rfl,dl⟩:=dw;obtain⟨dJ,dK,rfl⟩:=dl.form;refine zqQ 1000 tR23 ts109 O du tO _ rfl O ?_;have dx:=zah (vs:=f.vars) dh
  have da:∀ c:Int,zH f.vars (f.hatches.take i) x=c->c ≠ 0->ya f=c:=by
   intro c h1 h2;have h3:jg f.vars f.hatches i ≠ 0:=by rw[dx,h1];exact h2
   have h4:zu f.vars f.hatches=c:=by rw[zu,jf db tO h3,dx,h1]
   rw[hY,h4,zt1 h2]
  have dm:zH f.vars (f.hatches.take i) x=0->∀ j,j<i+1->jg f.vars f.hatches j=0:=by
   intro h j hj;by_cases e:j=i
   . subst e;rw[dx,h]
   exact db j tO
  have dX:=xW dh;refine Vs 1 O (V.alloc 5 tz109 O O (fun b5=>?_));refine Vs 8 O (zr2 call61 O (fun w hI=>zaz x.name w) (zqh O (fun w hI=>zpQ O j6) (Vs 2 O (V.bool O (fun n0=>?_) (fun n0=>?_)))))
  .
   have n0':zcg x.name=false:=by simpa using n0
   refine Vs 12 O (zr9 0 tr29 O O (by rw[da 7 (by rw[zH,zt1 n0']) tS]))
  have n0':¬ zcg x.name=false:=by simpa using n0
  refine Vs 9 O (zrm (σ:=Nat) [1,4,5] [1,5] [1,5] O (fun e j=>(6,.int .i64 j)::e) (fun e j=>e) (fun j=>j<=i/\(f.hatches.take j).any (fun u=>zZ u.name x.name)=false) (fun j=>i - j) 0 j2 j3 j1 j1 j1 i5 ?_);rintro j ⟨hj,dD⟩;refine Vs 8 O (zoC O (fun dL=>?_) (fun dL=>?_))
  .
   refine zri 2000 0 j tO dg O O O (fun y dY dZ d5 dr dM dy dz=>?_);obtain⟨dN,rfl,dA⟩:=dz;obtain⟨dO,dQ,rfl⟩:=dA.form;refine Vs 5 O (Vq tK (Vs 3 O ?_));refine zqT 2000 tR23 ts109 O dy tO _ rfl O (Vs 7 O (zoC O (fun hd=>?_) (fun hd=>?_)))
   .
    have dB:(f.hatches.take i).any (fun u=>zZ u.name x.name)=true:=by
     rw[zu1];refine⟨y,zsR (i:=j) (by rw[ztm,zt1 tO];exact dr),?_⟩;unfold zZ;exact zt2 hd
    refine Vs 16 O (zr9 0 tr29 O O (by rw[da 8 (by rw[zH,zt0 n0',zt1 dB]) tS]))
   refine Va 8 O tO (V.back (j+1) j2 j3 ⟨tO,by rw[ze dr,zu0,dD];simp[zZ,hd]⟩ tR 0 O O)
  obtain rfl:j=i:=tO;have n1:¬ (f.hatches.take j).any (fun u=>zZ u.name x.name)=true:=by rw[dD];decide
  refine Vs 12 O (zr2 call62 O (fun w hI=>kK x.low x.high w) (zqh O (fun w hI=>zpQ O j6) (Vs 2 O (V.bool O (fun n3=>?_) (fun n3=>?_)))))
  .
   have n3':zaV x.low x.high=false:=by simpa using n3
   refine Vs 12 O (zr9 0 tr29 O O (by rw[da 3 (by rw[zH,zt0 n0',zt0 n1,zt1 n3']) tS]))
  have n3':¬ zaV x.low x.high=false:=by simpa using n3
  have dE:zH f.vars (f.hatches.take j) x=zB f.vars true x.term:=by rw[zH,zt0 n0',zt0 n1,zt0 n3']
  refine Vs 8 O (zr2 call63 O (fun w hI=>jB f.vars true _ _ D D w x.term hg ij (RTm.put JF) tO) (Vs 9 O (zoC O (fun tz=>?_) (fun tz=>?_))))
  . refine Vs 12 O (zr9 0 tr29 O O (by rw[da _ dE tz]))
  refine Va 8 O tO (V.back (j+1) j2 j3 ⟨tO,dm (by rw[dE];omega)⟩ tR 0 O O)
 obtain rfl:i=f.hatches.length:=tO;have dR:zu f.vars f.hatches=0:=qd db;rw[dR,zt0 tS]at hY;refine Vs 10 O (zr2 call64 O (fun w hI=>zdh f _ _ _ hg D f.body _ D w true (hf hI.k0) (Tr1 hI.k0 dt) dC) (Vs 10 O (zoC O (fun sz=>?_) (fun sz=>?_))))
 . refine Vs 8 O (zr9 0 tr29 O O (by rw[hY,zt1 sz]))
 rw[zt0 sz]at hY;refine Vs 6 O (zr2 call65 O (fun w hI=>zes f.vars f.hatches.length f.body _ D w true tO (Tr1 hI.k0 dt) dC) ?_)
 have ho:zdk f=(decide (4096<cap 4097 (bds f.body).1) || decide (8<cap 9 (bds f.body).2.1) || decide (67108864<cap 67108865 (bds f.body).2.2)):=by
  unfold zdk cap;congr 1;congr 1;all_goals (rw[zti];omega)
 rw[ho]at hY;refine Vs 15 O (zqb 79 O (fun k1_=>?_) (fun k1_=>?_))
 . refine Vs 17 O (zr9 0 tr29 O O (by rw[hY];simp only[k1_]<;>rfl))
 refine Vs 4 O (zqb 83 O (fun k2_=>?_) (fun k2_=>?_))
 . refine Vs 13 O (zr9 0 tr29 O O (by rw[hY];simp only[k1_,k2_]<;>rfl))
 refine Vs 5 O (V.bool O (fun k3_=>?_) (fun k3_=>?_))
 . refine Vs 7 O (zr9 0 tr29 O O (by rw[hY];simp only[k1_,k2_,k3_]<;>rfl))
 refine Vs 8 O (zr9 0 tr29 O O (by rw[hY];simp only[k1_,k2_,k3_]<;>rfl))
theorem zfB (vs:List Vr) (vv:Value) (D:Nat->Prop) (w:World) (dl:SlR 5 RVr D w vv vs) (dm:vs.length<=1000000):Calls prog 121 #[vv] w (Ret fun r w'=>r=.int .i64 (zv vs)/\Ext w w'):=by
 obtain⟨av,nv,rfl⟩:=dl.form;have dC:=dl.len_cap.2;refine zqq func121 O ntmps121 O (V.inn (Vs 13 O (zrn (σ:=Unit) [0] [] [] O (fun e u=>e) (fun e u=>e) (fun u=>∀ j,j<vs.length->kN vs j=0) j1 j1 ?_ ?_)))
 .
  refine Vs 1 O (zrm (σ:=Nat) [0,10,11] [] [] O (fun e i=>(12,.int .i64 i)::e) (fun e i=>e) (fun i=>i<=vs.length/\(∀ j,j<i->kN vs j=0)) (fun i=>vs.length - i) 0 j2 j3 j1 j1 j1 y6 ?_);rintro i ⟨hi,db⟩;refine Vs 6 O (zoC O (fun dr=>?_) (fun dr=>?_))
  .
   refine Vs 7 O (zri 1000 0 i tO dl O O O (fun x dD dE dF dt dy du dw=>?_));obtain rfl:=dw;refine zqQ 1000 tR22 ts142 O du tO _ rfl O ?_;have dx:=zdf dt
   have dc:∀ c:Int,yb (vs.take i) x=c->c ≠ 0->zv vs=c:=by
    intro c h1 h2;have h3:kN vs i ≠ 0:=by rw[dx,h1];exact h2
    rw[zv,jf db tO h3,zt1 h3,dx,h1]
   have hY:yb (vs.take i) x=0->∀ j,j<i+1->kN vs j=0:=by
    intro h j hj;by_cases e:j=i
    . subst e;rw[dx,h]
    exact db j tO
   refine Vs 1 O (V.alloc 4 tz142 O O (fun b4=>?_));refine Vs 15 O (zr2 call157 O (fun w hI=>kJ x.name w) (zqh O (fun w hI=>zpQ O j6) (Vs 3 O (V.bool O (fun n0=>?_) (fun n0=>?_)))))
   .
    have n0':zcg x.name=false:=by simpa using n0
    refine Vs 13 O (zr9 0 tr121 O O (by rw[dc 7 (by rw[yb,zt1 n0']) tS]))
   have n0':¬ zcg x.name=false:=by simpa using n0
   refine Vs 4 O (zqh O (fun w hI=>zpK tR22 ts142 O O tO) (Vs 1 O (zr2 call158 O (fun w hI=>zep (vs.take i) _ D w ((Tr1 hI.k0 dl).take i tO) (fun u=>zZ u.name x.name) 156 (.pointer (some ⟨b4,0,none⟩)) call156 (fun y _ w' dz=>zkn y x b4 w' (dz.blk (hI.at 4 O) (fun h=>h)))) (Vs 3 O (V.bool O (fun d0=>?_) (fun d0=>?_))))))
   . refine Vs 13 O (zr9 0 tr121 O O (by rw[dc 8 (by rw[yb,zt0 n0',zt1 d0]) tS]))
   have n1:¬ (vs.take i).any (fun u=>zZ u.name x.name)=true:=by rw[d0];decide
   refine Vs 1 O (zrn (σ:=Unit) [0,4,10,11,12] [4] [4] O (fun e u=>(29,.bool (decide (¬ (0<=x.kind/\x.kind<=3))))::e) (fun e u=>e) (fun u=>True) j1 j1 ?_ ?_)
   .
    refine Vs 5 O (zq9 33 O (fun k1_=>?_) (fun k1_=>?_))
    . refine Vs 6 O (zoQ () Ug j3 trivial 0 O O)
    refine Vs 6 O (zoQ () Ug j3 trivial 0 O O)
   rintro u _;refine Vs 1 O (zoC O (fun n2=>?_) (fun n2=>?_))
   . refine Vs 13 O (zr9 0 tr121 O O (by rw[dc 1 (by rw[yb,zt0 n0',zt0 n1,zt1 n2]) tS]))
   refine Vs 7 O (zr2 call88 O (fun w hI=>qG x.low x.high w) (zqh O (fun w hI=>zpQ O j6) (Vs 3 O (V.bool O (fun n3=>?_) (fun n3=>?_)))))
   .
    have n3':zaV x.low x.high=false:=by simpa using n3
    refine Vs 16 O (zr9 0 tr121 O O (by rw[dc 3 (by rw[yb,zt0 n0',zt0 n1,zt0 n2,zt1 n3']) tS]))
   have n3':¬ zaV x.low x.high=false:=by simpa using n3
   have b4':x.kind=0/\(x.init<x.low\/x.high<x.init)\/x.kind ≠ 0/\x.init ≠ 0->zv vs=3:=fun h=>dc 3 (by rw[yb,zt0 n0',zt0 n1,zt0 n2,zt0 n3',zt1 h]) tS;have g4:¬ (x.kind=0/\(x.init<x.low\/x.high<x.init)\/x.kind ≠ 0/\x.init ≠ 0)->yb (vs.take i) x=0:=fun h=>by rw[yb,zt0 n0',zt0 n1,zt0 n2,zt0 n3',zt0 h]
   refine Vs 6 O (zq9 48 O (fun k1_=>?_) (fun k1_=>?_))
   .
    refine Vs 7 O (zoC O (fun k2_=>?_) (fun k2_=>?_))
    . refine Vs 16 O JH
    refine Vs 5 O (zq9 56 O (fun k3_=>?_) (fun k3_=>?_))
    .
     refine Vs 6 O (zq9 62 O (fun k4_=>?_) (fun k4_=>?_))
     . refine Vs 24 O JH
     refine Vs 10 O (zoC O (fun k5_=>?_) (fun k5_=>?_))
     . refine Vs 13 O JH
     refine Va 8 O tO (V.back (i+1) j2 j3 JO tR 0 O O)
    refine Va 25 O tO (V.back (i+1) j2 j3 JO tR 0 O O)
   refine Vs 13 O (zq9 56 O (fun k2_=>?_) (fun k2_=>?_))
   .
    refine Vs 6 O (zq9 62 O (fun k3_=>?_) (fun k3_=>?_))
    . refine Vs 24 O JH
    refine Vs 10 O (zoC O (fun k4_=>?_) (fun k4_=>?_))
    . refine Vs 13 O JH
    refine Va 8 O tO (V.back (i+1) j2 j3 JO tR 0 O O)
   refine Va 25 O tO (V.back (i+1) j2 j3 JO tR 0 O O)
  obtain rfl:i=vs.length:=tO;refine Vs 4 O (zoQ () j2 j3 (db) 0 O O)
 rintro u db;have hg:=qB db;have hz:=qd db;have dA:∀ v ∈ vs,xy (v.low,v.high):=fun v hv=>(hg v hv).1;have hv:zv vs=if xr vs then 4 else 0:=by rw[zv,zt0 (by simp[hz])]
 refine Vs 4 O (V.bs 71 [(0,_),(1,_),(2,_)] tR226 ts100 zeroValue100 tS O O tK (fun b71=>?_));refine Vs 5 O (zrm (σ:=Nat) [0,71,72] [71] [] O (fun e k=>(73,.int .i64 k)::e) (fun e k=>e) (fun k=>k<=3/\(∀ j,j<k->∃ n,zP ((j:Int)+1) vs=some n/\(j=2->n<=256))) (fun k=>3 - k) 0 j2 j3 j1 j1 j1 y6 ?_);rintro k ⟨hk,da⟩;refine Vs 6 O (zoC O (fun dr=>?_) (fun dr=>?_))
 .
  have dg:(zP ((k:Int)+1) vs=none\/∃ n,zP ((k:Int)+1) vs=some n/\k=2/\256<n)->zv vs=4:=by
   intro h;rw[hv]
   have:xr vs=true:=by
    unfold xr;rcases (show k=0\/k=1\/k=2 by omega) with rfl | rfl | rfl
    .
     rcases h with h | ⟨n,h,h2,_⟩
     . simp at h;simp[h]
     omega
    .
     rcases h with h | ⟨n,h,h2,_⟩
     . simp at h;simp[h]
     omega
    rcases h with h | ⟨n,h,_,h3⟩
    . simp at h;simp[h]
    simp at h;simp[h,h3]
   rw[this];rfl
  refine Vs 6 O (zqh O (fun w hI=>zpf tR226 ts100 O O O tO) (zqh O (fun w hI=>R.load isAgg100 O (v:=.int .i64 ((k:Int)+1)) ((show Blk w b71 [.int .i64 1,.int .i64 2,.int .i64 3] _ from hI.at 71 O).cells.el1 k O (by rcases (show k=0\/k=1\/k=2 by omega) with rfl | rfl | rfl<;>rfl))) (Vs 7 O (zr2 call159 O (fun w hI=>zfx vs ((k:Int)+1) _ D w tO dA JF dm) ?_))))
  have dh:(∃ n,zP ((k:Int)+1) vs=some n/\(k=2->n<=256))->∀ j,j<k+1->∃ n,zP ((j:Int)+1) vs=some n/\(j=2->n<=256):=by
   intro h j hj;by_cases e:j=k
   . subst e;exact h
   exact da j tO
  rcases hs:zP ((k:Int)+1) vs with _ | n
  .
   refine Vs 12 O (zq9 85 O (fun c0=>?_) (fun c0=>?_))
   . refine Vs 21 O (zr9 0 tr121 O O (by rw[dg (.inl hs)]))
   exact absurd tS c0
  refine Vs 12 O (zq9 85 O (fun c0=>?_) (fun c0=>?_))
  . exact absurd c0 tZ
  refine Vs 3 O (zq9 88 O (fun k3=>?_) (fun k3=>?_))
  .
   refine Vs 6 O (zoC O (fun n3=>?_) (fun n3=>?_))
   . refine Vs 11 O (zr9 0 tr121 O O (by rw[dg (.inr ⟨n,hs,tO,n3⟩)]))
   refine Va 7 O tO (V.back (k+1) j2 j3 ⟨tO,dh ⟨n,hs,fun _=>(show ¬ (256:Int)<n from n3) |> fun h=>tO⟩⟩ tR 0 O O)
  refine Va 14 O tO (V.back (k+1) j2 j3 ⟨tO,dh ⟨n,hs,fun h=>absurd tO k3⟩⟩ tR 0 O O)
 obtain rfl:k=3:=tO;obtain⟨n1,h1,_⟩:=da 0 tO;obtain⟨n2,h2,_⟩:=da 1 tO;obtain⟨n3,h3,h4⟩:=da 2 tO
 have dB:xr vs=false:=by
  simp at h1 h2 h3;unfold xr;simp[h1,h2,h3];exact h4 O
 rw[dB]at hv;refine Vs 11 O (zr9 0 tr121 O O (by rw[hv];rfl))
theorem zfC (s:St) (cs:List Value) (D:Nat->Prop) (w:World) (hs:RSt D w s cs) (hb:s.act=6->0<s.bounds.length):Calls prog 164 #[.agg cs.toArray] w (Ret fun r w'=>r=.bool (yU s)/\Ext w w'):=by
 obtain⟨v1,v2,v3,v4,rfl,hk,ht,he,hY⟩:=hs.get;have dh:=hY.max;obtain⟨av4,nv4,rfl⟩:=hY.form;have dl:=hY.len_cap.2
 have da:yU s=decide (¬ (s.cost<0\/xu s.act<s.cost\/s.act=4/\(s.n<0\/4096<s.n))/\(s.act ≠ 6\/s.bounds[s.bounds.length - 1]?.getD 0<=67108864)):=by
  rw[ztC,decide_eq_true_iff];unfold yU;simp;omega
 refine zqq func164 O ntmps164 O (V.inn (Vs 2 O (V.box 1 O O (fun b1=>?_))));refine Vs 16 O (zrn (σ:=Unit) [1] [1] [1] O (fun e u=>(3,.int .i64 (xu s.act))::e) (fun e u=>e) (fun u=>True) j1 j1 ?_ ?_)
 .
  refine zoC O (fun a2=>?_) (fun a2=>?_)
  . refine Vs 3 O (zoQ () (Sub.cons (by rw[xu,zt1 a2];rfl) j2) j3 trivial 0 O O)
  refine Vs 1 O (zoQ () (Sub.cons (by rw[xu,zt0 a2];rfl) j2) j3 trivial 0 O O)
 rintro u _;have dm:xu s.act=67108864\/xu s.act=10000:=by unfold xu;split<;>simp
 refine Vs 3 O (zrn (σ:=Unit) [1] [1] [1] O (fun e u=>(30,.bool (decide (s.cost<0\/xu s.act<s.cost\/s.act=4/\(s.n<0\/4096<s.n))))::e) (fun e u=>e) (fun u=>True) j1 j1 ?_ ?_)
 .
  refine Vs 5 O (zq9 10 O (fun k1_=>?_) (fun k1_=>?_))
  . refine Vs 21 O (zoQ () Ug j3 trivial 0 O O)
  refine Vs 6 O (zq9 16 O (fun k2_=>?_) (fun k2_=>?_))
  . refine Vs 15 O (zoQ () Ug j3 trivial 0 O O)
  refine Vs 4 O (zq9 20 O (fun k3_=>?_) (fun k3_=>?_))
  .
   refine Vs 4 O (zq9 24 O (fun k4_=>?_) (fun k4_=>?_))
   . refine Vs 7 O (zoQ () Ug j3 trivial 0 O O)
   refine Vs 7 O (zoQ () Ug j3 trivial 0 O O)
  refine Vs 11 O (zoQ () Ug j3 trivial 0 O O)
 rintro u _;refine Vs 1 O (zoC O (fun h1=>?_) (fun h1=>?_))
 . refine Vs 7 O (zoT results164 O (fun w hI=>⟨_,rfl,by rw[da,zt3 (fun h=>h.1 h1)],hI.k0⟩))
 refine Vs 8 O (zq9 34 O (fun a6=>?_) (fun a6=>?_))
 . refine Vs 14 O (zoT results164 O (fun w hI=>⟨_,rfl,by rw[da,zt2 ⟨h1,.inl a6⟩],hI.k0⟩))
 have dr:=hb tO;refine zrj 1000 0 (s.bounds.length-1) tO hY O O (fun x dt du db dg dc=>(Va 6 O tO (zqQ 1000 tR27 ts3 O dc tO (s.bounds.length-1) tO O (Vs 7 O (zoT results164 O (fun w hI=>⟨_,rfl,by rw[da,db];congr 1;rw[zti];simp[h1];omega,hI.k0⟩))))))
theorem zch (f:Fl) (v1 v2 v3:Value) (D:Nat->Prop) (w:World) (hf:RFl D w f v1 v2 v3) (hg:∀ v ∈ f.vars,xy (v.low,v.high)) (dw:∀ h ∈ f.hatches,h.term.nodes<=1000000) (dx:f.hatches.length<=1000000):Calls prog 122 #[.agg #[v1,v2,v3]] w (Ret fun r w'=>r=.int .i64 (zu f.vars f.hatches)/\Ext w w'):=by
 have dy:=hf.vars;have dg:=hf.hatches;obtain⟨av,nv,rfl⟩:=dg.form;have dE:=dg.len_cap.2;refine zqq func122 O ntmps122 O (V.inn (Vs 2 O (V.box 1 O O (fun b1=>?_))));refine Vs 13 O (zrm (σ:=Nat) [1,8,9] [1] [1] O (fun e i=>(10,.int .i64 i)::e) (fun e i=>e) (fun i=>i<=f.hatches.length/\(∀ j,j<i->jg f.vars f.hatches j=0)) (fun i=>f.hatches.length - i) 0 j2 j3 j1 j1 j1 y6 ?_);rintro i ⟨hi,da⟩;refine Vs 6 O (zoC O (fun dz=>?_) (fun dz=>?_))
 .
  refine Vs 7 O (zri 1000 0 i tO dg O O O (fun x dF dG dH dh dl dm dr=>?_));obtain⟨dA,rfl,db⟩:=dr;obtain⟨dB,dC,rfl⟩:=db.form;refine zqQ 1000 tR23 ts109 O dm tO _ rfl O ?_;have dt:=zah (vs:=f.vars) dh
  have hY:∀ c:Int,zH f.vars (f.hatches.take i) x=c->c ≠ 0->zu f.vars f.hatches=c:=by
   intro c h1 h2;have h3:jg f.vars f.hatches i ≠ 0:=by rw[dt,h1];exact h2
   rw[zu,jf da tO h3,dt,h1]
  have dc:zH f.vars (f.hatches.take i) x=0->∀ j,j<i+1->jg f.vars f.hatches j=0:=by
   intro h j hj;by_cases e:j=i
   . subst e;rw[dt,h]
   exact da j tO
  refine Vs 1 O (V.alloc 4 tz109 O O (fun b4=>?_));refine Vs 16 O (zr2 call157 O (fun w hI=>kJ x.name w) (zqh O (fun w hI=>zpQ O j6) (Vs 3 O (V.bool O (fun n0=>?_) (fun n0=>?_)))))
  .
   have n0':zcg x.name=false:=by simpa using n0
   refine Vs 13 O (zr9 0 tr122 O O (by rw[hY 7 (by rw[zH,zt1 n0']) tS]))
  have n0':¬ zcg x.name=false:=by simpa using n0
  refine Vs 5 O (zqh O (fun w hI=>zpK tR23 ts109 O O tO) (Vs 1 O (zr2 call161 O (fun w hI=>zer (f.hatches.take i) _ D w ((Tr1 hI.k0 dg).take i tO) (fun u=>zZ u.name x.name) 160 (.pointer (some ⟨b4,0,none⟩)) call160 (fun y _ kv w' dD=>zkq y x kv _ b4 w' (dD.blk (hI.at 4 O) (fun h=>h)))) (Vs 3 O (V.bool O (fun d0=>?_) (fun d0=>?_))))))
  . refine Vs 13 O (zr9 0 tr122 O O (by rw[hY 8 (by rw[zH,zt0 n0',zt1 d0]) tS]))
  have n1:¬ (f.hatches.take i).any (fun u=>zZ u.name x.name)=true:=by rw[d0];decide
  refine Vs 6 O (zr2 call88 O (fun w hI=>qG x.low x.high w) (zqh O (fun w hI=>zpQ O j6) (Vs 3 O (V.bool O (fun n3=>?_) (fun n3=>?_)))))
  .
   have n3':zaV x.low x.high=false:=by simpa using n3
   refine Vs 13 O (zr9 0 tr122 O O (by rw[hY 3 (by rw[zH,zt0 n0',zt0 n1,zt1 n3']) tS]))
  have n3':¬ zaV x.low x.high=false:=by simpa using n3
  have du:zH f.vars (f.hatches.take i) x=zB f.vars true x.term:=by rw[zH,zt0 n0',zt0 n1,zt0 n3']
  refine Vs 9 O (zr2 call162 O (fun w hI=>zbC f.vars true v1 _ D D w x.term hg (Tr1 hI.k0 dy) (RTm.put io) (dw x dl)) (Vs 9 O (zoC O (fun tz=>?_) (fun tz=>?_))))
  . refine Vs 12 O (zr9 0 tr122 O O (by rw[hY _ du tz]))
  refine Va 7 O tO (V.back (i+1) j2 j3 ⟨tO,dc (by rw[du];omega)⟩ tR 0 O O)
 obtain rfl:i=f.hatches.length:=tO;refine Vs 11 O (zr9 0 tr122 O O (by rw[zu,qd da]))
theorem zew (f:Fl) (v1 v2 v3:Value) (hg:∀ v ∈ f.vars,xy (v.low,v.high)) (Df:Nat->Prop) (l:List St):∀ (v:Value) (D:Nat->Prop) (w:World) (top:Bool),RFl Df w f v1 v2 v3->SlR 10 RSt D w v l->sbulk l<=1000000->Calls prog 123 #[.agg #[v1,v2,v3],v,.bool top] w (Ret fun r w'=>r=.int .i64 (stepsCodeN f.vars f.hatches.length l top)/\Ext w w'):=by
 induction l using zqD with
 | h l ih =>
 intro v D w top hf hl hb;obtain⟨dz,dF,dG⟩:=hf;have d5:=hl.max;obtain⟨av,nv,rfl⟩:=hl.form;have d6:RFl Df w f v1 v2 v3:=⟨dz,dF,dG⟩;have stable_fl:∀ {w':World},Ext w w'->RFl Df w' f v1 v2 v3:=fun h=>⟨dz.ext yG h,dF.ext yH h,dG.ext zf h⟩;refine zqs func123 O ntmps123 O (V.inn (Vs 2 O (V.box 3 O O (fun b3=>?_))));refine Vs 12 O (zrm (σ:=Nat) [1,2,3,13,14] [3] [3] O (fun e i=>(15,.int .i64 i)::e) (fun e i=>e) (fun i=>i<=l.length/\stepsCodeN f.vars f.hatches.length l top=stepsCodeN f.vars f.hatches.length (l.drop i) top) (fun i=>l.length - i) 0 j2 j3 j1 j1 j1 i5 ?_);rintro i ⟨hi,da⟩;refine Vs 6 O (zoC O (fun dI=>?_) (fun dI=>?_))
 .
  refine Vs 7 O (zri 1000 0 i tO hl O O O (fun x d7 d8 d9 dA dt dB dC=>?_));obtain⟨dJ,dK,dL,dM,rfl,db,dc,dg,dl⟩:=dC.get;obtain⟨dN,dO,rfl⟩:=db.form;obtain⟨dQ,dR,rfl⟩:=dc.form;obtain⟨dS,dT,rfl⟩:=dg.form;obtain⟨dU,dV,rfl⟩:=dl.form;refine zqQ 1000 tR24 ts72 O dB tO _ rfl O ?_;have dx:=jX f.vars f.hatches.length top l i x dA;have dW:=kF dt;rw[St.bulk_eq]at dW;have dX:decide ((i:Int)=(l.length:Int) - 1)=decide (i=l.length - 1):=by rw[zti];omega
  refine Vs 1 O (V.alloc 8 tz72 O O (fun b8=>?_));refine Vs 6 O (zrn (σ:=Unit) [1,2,3,8,13,14,15] [3,8] [3,8] O (fun e u=>(31,.bool (!(zG f.vars f.hatches.length x (top&&decide (i=l.length - 1)))))::e) (fun e u=>e) (fun u=>True) j1 j1 ?_ ?_)
  .
   refine Vs 5 O (zqb 23 O (fun tt=>?_) (fun tt=>?_))
   . refine Va 6 O tO (zr2 call163 O U6 (zqh O (fun w hI=>zpQ O j6) (Vs 1 O (zoQ () (Sub.cons (by rw[tt,ztK,<- dX];rfl) j2) j3 trivial 0 O O))))
   refine Vs 6 O (zr2 call163 O U6 U0)
  rintro u _;generalize hY:(top&&decide (i=l.length - 1))=last;refine Vs 1 O (V.bool O (fun dD=>?_) (fun dD=>?_))
  .
   have dm:zG f.vars f.hatches.length x last=false:=by simpa using dD
   refine Vs 12 O (zr9 0 tr123 O O (by rw[da,dx,hY,zY,zt1 dm];rfl))
  have dm:zG f.vars f.hatches.length x last=true:=by simpa using dD
  have du:¬ zG f.vars f.hatches.length x last=false:=by rw[dm];decide
  refine Vs 6 O (zr2 call164 O (fun w hI=>zfC x _ D w (RSt.put io ij ic JF) (kP dm)) (zqh O (fun w hI=>zpQ O j6) (Vs 2 O (V.bool O (fun dE=>?_) (fun dE=>?_)))))
  .
   have dr:yU x=false:=by simpa using dE
   refine Vs 12 O (zr9 0 tr123 O O (by rw[da,dx,hY,zY,zt0 du,zt1 dr];rfl))
  have dr:¬ yU x=false:=by simpa using dE
  refine Vs 9 O (zr2 call162 O (fun w hI=>zbC f.vars false v1 _ _ _ w x.term hg (Tr1 hI.k0 dz) (RTm.put io) tO) (Vs 9 O (zoC O (fun tz=>?_) (fun tz=>?_))))
  . refine Vs 13 O (zr9 0 tr123 O O (by rw[da,dx,hY,zY,zt0 du,zt0 dr,zt1 tz,zt1 tz]))
  have dh:zI f.vars f.hatches.length x last=if stepsCodeN f.vars f.hatches.length x.thn false ≠ 0 then stepsCodeN f.vars f.hatches.length x.thn false else stepsCodeN f.vars f.hatches.length x.els false:=by rw[zY,zt0 du,zt0 dr,zt0 tz]
  refine Vs 8 O (V.bs 47 [(0,_),(1,_)] tR230 ts24 zeroValue24 tS O O tK (fun b47=>?_));refine Vs 5 O (zrm (σ:=Nat) [1,2,3,13,14,15,47,48] [3,47] [3] O (fun e k=>(49,.int .i64 k)::e) (fun e k=>e) (fun k=>k<=2/\(1<=k->stepsCodeN f.vars f.hatches.length x.thn false=0)/\(2<=k->stepsCodeN f.vars f.hatches.length x.els false=0)) (fun k=>2 - k) 0 j2 j3 j1 j1 j1 ⟨tO,fun h=>absurd h tS,fun h=>absurd h tS⟩ ?_);rintro k ⟨eb,dH,dY⟩;refine Vs 6 O (zoC O (fun klt=>?_) (fun klt=>?_))
  .
   rcases (show k=0\/k=1 by omega) with rfl | rfl
   .
    refine Vs 6 O (zqh O (fun w hI=>zpf tR230 ts24 O O O tO) (zqh O (fun w hI=>R.load tg24 O ((show Blk w b47 _ _ from hI.at 47 O).cells 0 _ O)) (Vs 7 O (zr2 call123 O (fun w hI=>(ih x dt).1 _ _ w false (stable_fl hI.k0) ij tO) (Vs 9 O (zoC O (fun tz1=>?_) (fun tz1=>?_)))))))
    . refine Vs 16 O (zr9 0 tr123 O O (by rw[da,dx,hY,dh,zt1 tz1,zt1 tz1]))
    refine Va 7 O tO (V.back 1 j2 j3 ⟨tO,fun _=>tO,fun h=>absurd h tS⟩ tR 0 O O)
   refine Vs 6 O (zqh O (fun w hI=>zpf tR230 ts24 O O O tO) (zqh O (fun w hI=>R.load tg24 O ((show Blk w b47 _ _ from hI.at 47 O).cells 1 _ O)) (Vs 7 O (zr2 call123 O (fun w hI=>(ih x dt).2 _ _ w false (stable_fl hI.k0) ic tO) ?_))));have dy:=dH (ztf _);have dw:zI f.vars f.hatches.length x last=stepsCodeN f.vars f.hatches.length x.els false:=by rw[dh,zt0 (by simp[dy])]
   refine Vs 9 O (zoC O (fun tz1=>?_) (fun tz1=>?_))
   . refine Vs 16 O (zr9 0 tr123 O O (by rw[da,dx,hY,dw,zt1 tz1]))
   refine Va 7 O tO (V.back 2 j2 j3 ⟨tO,fun _=>dy,fun _=>tO⟩ tR 0 O O)
  have dZ:zI f.vars f.hatches.length x last=0:=by rw[dh,zt0 (by simp[dH tO]),dY tO]
  refine Va 10 O tO (V.back (i+1) j2 j3 ⟨tO,by rw[da,dx,hY,dZ,zt0 tS]⟩ tR 0 O O)
 obtain rfl:i=l.length:=tO;refine Vs 11 O (zr9 0 tr123 O O (by rw[da,zuf];rfl))
theorem zex (f:Fl) (v1 v2 v3:Value) (D:Nat->Prop) (w:World) (hf:RFl D w f v1 v2 v3) (dG:snodes f.body+zp f.hatches<=1024) (dy:sbulk f.body<=1000000):Calls prog 72 #[.agg #[v1,v2,v3]] w (Ret fun r w'=>r=.int .i64 (ya f)/\Ext w w'):=by
 replace hf:=hf.narrow;generalize dA:(fun b=>D b/\b<w.heap.size)=E at hf;have dr:∀ q,E q->q<w.heap.size:=fun q h=>by rw[<- dA]at h;exact h.2
 obtain⟨dh,dl,dm⟩:=hf;have dH:=dh.max;have dI:=dl.max;obtain⟨a1,n1,rfl⟩:=dh.form;obtain⟨a2,n2,rfl⟩:=dl.form;have hf:∀ {w':World},Ext w w'->RFl E w' f (.slice a1 f.vars.length n1) (.slice a2 f.hatches.length n2) v3:=fun h=>⟨dh.ext yG h,dl.ext yH h,dm.ext zf h⟩;have dz:∀ {w':World},Ext w w'->EqD E w' w':=fun h=>EqD.refl fun b hb=>zvQ (dr b hb) h.size;refine zqq func72 O ntmps72 O (V.inn (Vs 2 O (V.box 1 O O (fun b1=>?_))));refine Vs 5 O (V.alloc 3 zeroValue189 O O (fun b3=>?_));refine Vs 6 O (zrM [3] (Hn:=fun v_:Int=>[(3,.own b3 [.int .i64 v_,.bool (yy 1 f.body)] 189)]) [(1,some (1,0)),(3,some (3,0)),(10,some (1,2))] call118 O iA j1 (fun w hI=>zbi (k:=3) O iJ (zet f.body _ E w w b3 0 false 1 (Tr1 hI.k0 dm) (dz hI.k0) Ju (hI.at 3 O) tO tO tO tO)) ?_);rintro _ z ⟨rfl,h1,h2⟩;refine Vs 12 O (zrl 3 O (e':=.own b3 [.int .i64 z,.bool (yy 1 f.body || (f.hatches.take 0).any (fun h=>decide (12<h.term.depth)))] 189) tZ (zrm (σ:=Nat × Int) [1,3,14,15] [1] [1,3] O (fun e ⟨i,z⟩=>(16,.int .i64 i)::e) (fun e ⟨i,z⟩=>(3,.own b3 [.int .i64 z,.bool (yy 1 f.body || (f.hatches.take i).any (fun h=>decide (12<h.term.depth)))] 189)::e) (fun⟨i,z⟩=>i<=f.hatches.length/\0<=z/\z<=snodes f.body+zp (f.hatches.take i)) (fun⟨i,z⟩=>f.hatches.length - i) (0,z) j2 j3 j1 j1 j1 ⟨zt5 _,h1,by simp[zp];omega⟩ ?_));rintro⟨i,z⟩ ⟨hi,dJ,dB⟩;refine zqO 3 3 0 O O (Vs 6 O (zoC O (fun dt=>?_) (fun dt=>?_)))
 .
  refine Vs 6 O (zri 1000 0 i tO dl O O O (fun x dK dL dM db dC du dw=>?_));obtain⟨dD,rfl,dg⟩:=dw;obtain⟨dE,dF,rfl⟩:=dg.form;refine zqQ 1000 tR23 ts109 O du tO _ rfl O ?_;have dN:=xW db;have dO:=kg db;refine Vs 1 O (V.alloc 5 tz109 O O (fun b5=>?_));refine Vs 5 O (zr2 call119 O (fun w hI=>jh b3 _ _ w (hI.at 3 O)) ?_);rw[show decide (1024<z)=false from zt3 tO,ztJ];refine zqh O (fun w hI=>zpQ O j6) (Vs 2 O (V.bool O (fun hov=>?_) (fun hov=>?_)))
  .
   have hY:(yy 1 f.body || (f.hatches.take i).any (fun h=>decide (12<h.term.depth)))=false:=by simpa using hov
   refine zrl 3 O (e':=.own b3 [.int .i64 z,.bool false] 189) (by rw[hY]) (Vs 3 O (zrM [3] (Hn:=fun v_:Int=>[(3,.own b3 [.int .i64 v_,.bool (false || decide (12<1+(x.term.depth:Int) - 1))] 189)]) [(1,some (1,0)),(3,some (3,0)),(5,some (5,0)),(18,some (1000,0)),(22,some (5,3))] call120 O iA j1 (fun w hI=>zbi (k:=3) O iJ (zbG x.term _ E w w b3 _ _ 1 (RTm.put ic) (dz hI.k0) Ju (hI.at 3 O) tO tO tO tO)) ?_));rintro _ z2 ⟨rfl,g1,g2⟩
   have hb:(false || decide (12<1+(x.term.depth:Int) - 1))=(yy 1 f.body || (f.hatches.take (i+1)).any (fun h=>decide (12<h.term.depth))):=by
    rw[ze db,zu0,<- Bool.or_assoc,hY,ztF,ztF];simp;omega
   refine Va 7 O tO (zrl 3 O (e':=.own b3 [.int .i64 z2,.bool (yy 1 f.body || (f.hatches.take (i+1)).any (fun h=>decide (12<h.term.depth)))] 189) (by rw[hb]) (V.back ⟨i+1,z2⟩ j2 j3 ⟨tO,tO,tO⟩ tR 0 O O))
  have hY:(yy 1 f.body || (f.hatches.take i).any (fun h=>decide (12<h.term.depth)))=true:=by rw[<- Bool.not_eq_false];intro h;rw[h]at hov;cases hov
  refine Va 7 O tO (zrl 3 O (e':=.own b3 [.int .i64 z,.bool (yy 1 f.body || (f.hatches.take (i+1)).any (fun h=>decide (12<h.term.depth)))] 189) (by rw[hY,ze db,zu0,<- Bool.or_assoc,hY,Bool.true_or]) (V.back ⟨i+1,z⟩ j2 j3 ⟨tO,tO,tO⟩ tR 0 O O))
 obtain rfl:i=f.hatches.length:=tO;rw[zsV]at dB;refine Vs 13 O (zrl 3 O (e':=.own b3 [.int .i64 z,.bool (yy 1 f.body || f.hatches.any (fun h=>decide (12<h.term.depth)))] 189) Jk ?_)
 have da:qc f=(decide (f.vars.length<=64)&&decide (f.hatches.length<=8)&&!(yy 1 f.body || f.hatches.any (fun h=>decide (12<h.term.depth)))):=by
  unfold qc yy
  have e1:(f.hatches.all fun h=>decide (h.term.depth<=12))=!(f.hatches.any fun h=>decide (12<h.term.depth)):=by
   rw[List.not_any_eq_all_not];congr 1;funext h;rw[<- decide_not,zti];omega
  have e2:decide (12<1+(sdepth f.body:Int) - 1)=!decide (sdepth f.body<=12):=by rw[<- decide_not,zti];omega
  rw[e1,e2];generalize decide (f.vars.length<=64)=p1;generalize decide (f.hatches.length<=8)=p2;generalize (f.hatches.any fun h=>decide (12<h.term.depth))=p3;generalize decide (sdepth f.body<=12)=p4;generalize stdeep f.body=p5;revert p1 p2 p3 p4 p5;decide
 refine zq9 30 O (fun g1=>?_) (fun g1=>?_)
 .
  have s0:qc f=false:=by rw[da,zt3 (show ¬ f.vars.length<=64 by omega)];rfl
  refine Vs 18 O UW
 refine Vs 6 O (zq9 36 O (fun g2=>?_) (fun g2=>?_))
 .
  have s0:qc f=false:=by rw[da,zt3 (show ¬ f.hatches.length<=8 by omega),ztA];rfl
  refine Vs 12 O UW
 rw[zt2 (show f.vars.length<=64 by omega),zt2 (show f.hatches.length<=8 by omega),ztK,ztK]at da;refine zqO 3 3 0 O O (zr2 call119 O (fun w hI=>jh b3 _ _ w (hI.at 3 O)) ?_);rw[show decide (1024<z)=false from zt3 tO,ztJ];refine Vs 3 O (V.bool O (fun s1=>?_) (fun s1=>?_))
 .
  have s0:qc f=false:=by rw[da,s1];rfl
  refine Vs 7 O UW
 have s0:¬ qc f=false:=by rw[da,s1];decide
 refine Vs 7 O (zr2 call121 O (fun w hI=>zfB f.vars _ E w ip tO) (Vs 9 O (zoC O (fun vz=>?_) (fun vz=>?_))))
 . refine Vs 8 O (zr9 0 tr72 O O (by rw[ya,zt0 s0,zt1 vz]))
 have hg:=zbK (show zv f.vars=0 by omega);have dc:ya f=if zu f.vars f.hatches ≠ 0 then zu f.vars f.hatches else if stepsCodeN f.vars f.hatches.length f.body true ≠ 0 then stepsCodeN f.vars f.hatches.length f.body true else if zdk f then 4 else 0:=by rw[ya,zt0 s0,zt0 vz]
 refine Vs 6 O (zr2 call122 O (fun w hI=>zch f _ _ _ E w (hf hI.k0) hg (fun h hh=>by obtain⟨i,hi⟩:=zv7.1 hh;have:=xW hi;omega) tO) (Vs 9 O (zoC O (fun dx=>?_) (fun dx=>?_))))
 . refine Vs 8 O (zr9 0 tr72 O O (by rw[dc,zt1 dx]))
 rw[zt0 dx]at dc;refine Vs 8 O (zr2 call123 O (fun w hI=>zew f _ _ _ hg E f.body _ E w true (hf hI.k0) (Tr1 hI.k0 dm) dy) (Vs 9 O (zoC O (fun sz=>?_) (fun sz=>?_))))
 . refine Vs 8 O (zr9 0 tr72 O O (by rw[dc,zt1 sz]))
 rw[zt0 sz]at dc;refine Vs 7 O (zr2 call124 O (fun w hI=>zkt f.vars f.hatches.length f.body _ E w true tO (Tr1 hI.k0 dm) dy) ?_)
 have ho:zdk f=(decide (4096<cap 1099511627776 (bds f.body).1) || decide (8<cap 1099511627776 (bds f.body).2.1) || decide (67108864<cap 1099511627776 (bds f.body).2.2)):=by
  unfold zdk cap;congr 1;congr 1;all_goals (rw[zti];omega)
 rw[ho]at dc;refine V.alloc 9 tz193 O O (fun b9=>(Vs 9 O (zqb 63 O (fun k1_=>?_) (fun k1_=>?_))))
 . refine Vs 19 O (zr9 0 tr72 O O (by rw[dc];simp only[k1_]<;>rfl))
 refine Vs 5 O (zqb 68 O (fun k2_=>?_) (fun k2_=>?_))
 . refine Vs 14 O (zr9 0 tr72 O O (by rw[dc];simp only[k1_,k2_]<;>rfl))
 refine Vs 6 O (V.bool O (fun k3_=>?_) (fun k3_=>?_))
 . refine Vs 7 O (zr9 0 tr72 O O (by rw[dc];simp only[k1_,k2_,k3_]<;>rfl))
 refine Vs 8 O (zr9 0 tr72 O O (by rw[dc];simp only[k1_,k2_,k3_]<;>rfl))
end Go.Proofs.YtckdhgbepmpgiaaGreat
namespace Go.GL
instance decNd:DecidableEq Nd:=fun a b =>
 if h:a.kind=b.kind/\a.at_=b.at_/\a.next=b.next/\a.other=b.other then isTrue (zrR h.1 h.2.1 h.2.2.1 h.2.2.2) else isFalse (fun e=>h tD)
end Go.GL
namespace Go.Proofs.YtckdhgbepmpgiaaGreat
open Go.GL
theorem zdl (l:List St):∀ top,stepsCodeN vs nh l top=0->plainL l=true:=by
 induction l using zqD with
 | h l ih =>
 intro top h;refine zbr (fun s hs=>?_);obtain⟨last,h2⟩:=xX l top h s hs;obtain⟨h3,_,_,h4,h5⟩:=ql h2;rw[s.plainB_eq,(ih s hs).1 _ h4,(ih s hs).2 _ h5,Bool.and_true,Bool.and_true];split
 . rfl
 split
 . rename_i a4;rw[(h3.rep a4).2.2];rfl
 rename_i a3 a4;rw[(h3.free a3 a4).1,(h3.free a3 a4).2];rfl
theorem yz {f:Fl} (h:ya f=0):qc f=true/\zv f.vars=0/\zu f.vars f.hatches=0/\stepsCodeN f.vars f.hatches.length f.body true=0/\zdk f=false:=by
 unfold ya at h;split at h
 . cases h
 split at h
 . rename_i h1;exact absurd h h1
 split at h
 . rename_i h1;exact absurd h h1
 split at h
 . rename_i h1;exact absurd h h1
 split at h
 . cases h
 rename_i h1 h2 h3 h4 h5;refine⟨by simpa using h1,tO,tO,tO,by simpa using h5⟩
theorem zbM {f:Fl} (h:ya f=0):plainL f.body=true:=zdl _ _ (yz h).2.2.2.1
theorem zku (w:World) (dd:Nat) (a b:Nd):(Op.equalIn (dd+2) 65 (.agg (xE a).toArray) (.agg (xE b).toArray)).run prog w=.ok (decide (a=b)) w:=by
 have hf:Tryz.prog.fieldsOf 65=#[{ name := "Kind",type:=63,offset:=0,embedded:=false,tag := "",pkgPath := "",byteOffset:=0 },{ name := "At",type:=3,offset:=1,embedded:=false,tag := "",pkgPath := "",byteOffset:=8 },{ name := "Next",type:=3,offset:=2,embedded:=false,tag := "",pkgPath := "",byteOffset:=16 },{ name := "Other",type:=3,offset:=3,embedded:=false,tag := "",pkgPath := "",byteOffset:=24 }]:=tK;rw[run_equalIn_struct w _ _ _ _ (by rw[hf];exact underlying65) tK,hf];simp[Op.eqFields,part,xE,isAgg63,run_equalIn_int w _ _ _ _ _ _ underlying63,run_equalIn_int w _ _ _ _ _ _ tu3]
 have e:decide (a=b)=(decide (a.kind=b.kind)&&decide (a.at_=b.at_)&&decide (a.next=b.next)&&decide (a.other=b.other)):=by
  rw[ztC];simp only[ztz,decide_eq_true_eq];exact⟨fun h=>tD,fun h=>zrR h.1.1.1 h.1.1.2 h.1.2 h.2⟩
 rw[e];by_cases h1:a.kind=b.kind
 . grind
 grind
theorem zot {ty:TypeId} {pos:String} {a b:Nd} (hx:ev env x=some (.agg (xE a).toArray)) (hy:ev env y=some (.agg (xE b).toArray)) :
  yk prog ⟨dst,.binOp .neq 65 x y t',ty,pos,aft,g⟩ env w (.bool (decide (a ≠ b))) w:=by
 intro n c hc;have hm:Tryz.prog.eqGuardType Tryz.prog.depth 65=false:=tK;simp[execOp,hc.eval hx,hc.eval hy,run_eqGuard_agg,hm,run_neq_struct,zku]
theorem zhf (a b:List Nd) (va vb:Value) (D D':Nat->Prop) (w:World) (ha:SlR 4 RNd D w va a) (hb:SlR 4 RNd D' w vb b):Calls prog 73 #[va,vb] w (Ret fun r w'=>r=.bool (decide (a=b))/\Ext w w'):=by
 have dy:=ha.max;have dz:=hb.max;obtain⟨aa,ca,rfl⟩:=ha.form;obtain⟨ab,cb,rfl⟩:=hb.form;refine zqr func73 O ntmps73 O (Gs 15 O (zoB O (fun dm=>?_) (fun dA=>?_)))
 . refine Gs 7 O (zoS results73 O ⟨_,rfl,by rw[zt3 (fun h=>dm tD)],Keep.refl _ _⟩)
 have hl:a.length=b.length:=tO;refine Gs 11 O (G.loop (σ:=Nat) (fun i=>[(0,.slice aa a.length ca),(1,.slice ab b.length cb),(12,.int .i64 a.length),(13,.int .i64 i)]) (fun i=>fun w'=>i<=a.length/\a.take i=b.take i/\Ext w w') (fun i=>a.length - i) 0 j2 y9 ?_);rintro i w1 ⟨hi,db,hY⟩;obtain⟨ha,hb⟩:=Tr2 hY ha hb;refine Gs 6 O (zoB O (fun dB=>?_) (fun dC=>?_))
 .
  obtain⟨x,dc⟩:∃ x,a[i]?=some x:=iC;obtain⟨y,dg⟩:∃ x,b[i]?=some x:=iC;obtain⟨bx,ox,cx,dr,_,dt,rfl⟩:=ha.at dc;obtain⟨by',oy,cy,du,_,dw,rfl⟩:=hb.at dg;refine Gs 11 O (Qt tK (Gs 2 O (zqj O O (fun w1 da=>zpf tR34 ts65 O O dr tO) (zqj O O (fun w1 da=>zph isAgg65 ts65 O (by rfl) (da.cells dt (fun h=>h))) (Gs 2 O (zqj O O (fun w1 da=>zpf tR34 ts65 O O du tO) (zqj O O (fun w1 da=>zph isAgg65 ts65 O (by rfl) (da.cells dw (fun h=>h))) (zqj O O (fun w1 da=>zot (a:=x) (b:=y) O O) (zqn (fun wz1 dx=>?_))))))))));obtain⟨ha,hb,hY⟩:=Tr3 dx ha hb hY;refine Gs 1 O (zoB O (fun dh=>?_) (fun dh=>?_))
  . refine Gs 11 O (zoS results73 O ⟨_,rfl,by rw[zt3 (fun h=>dh tD)],hY⟩)
  have dl:x=y:=zsZ.1 dh;refine Ga 7 O tO (G.back (i+1) j2 ⟨tO,by rw[ze dc,ze dg,db,dl],hY⟩ tO)
 have:i=a.length:=tO;subst this;rw[zsV,hl,zsV]at db;refine Gs 11 O (zoS results73 O ⟨_,rfl,tD,hY⟩)
theorem zkv (f:Fl) (v1 v2 v3:Value) (D:Nat->Prop) (w:World) (hf:RFl D w f v1 v2 v3) (hp:plainL f.body=true) (eF:ssize f.body<=10000) :
  Calls prog 74 #[.agg #[v1,v2,v3]] w (Ret fun r w'=>(∃ nv,r=.agg #[nv]/\SlR 4 RNd (fun b=>w.heap.size<=b) w' nv (zd f))/\Ext w w'):=by
 have eG:=xi f.body;have dW:=hf.narrow.body;refine zqq func74 O ntmps74 O (Gs 2 O (G.mem O O (M.box O O) ?_));rintro _ w1 ⟨c,rfl,hc,eH,db,dX⟩;refine G.mem O O (M.alloc (cs:=[.slice none 0 0]) tz36 O) ?_;rintro _ w2 ⟨r,rfl,hr,eI,dl,dT⟩;replace db:=dT.blk db (fun h=>h);refine Gs 4 O (zqg O O (R.build (v:=.agg #[.int .i64 0,.int .i64 (-1),.int .i64 (-1),.int .i64 (-1)]) [(0,_),(1,_),(2,_),(3,_)] O (fun _=>tK)) (G.mem O O (M.buildSlice (cs:=xE ⟨0,-1,-1,-1⟩) [(0,_)] tR34 ts65 tz65 tS O tK) ?_));rintro _ w3 ⟨g3,rfl,eJ,eK,dE,dF⟩;replace db:=dF.blk db (fun h=>h);replace dl:=dF.blk dl (fun h=>h);refine zqg O O (R.build (v:=.agg #[.slice (some ⟨g3,0,none⟩) 1 1,.int .i64 0]) [(0,_)] O (fun _=>tK)) (G.mem O O (M.box O O) ?_);rintro _ w4 ⟨B,rfl,hB,eL,dY,dA⟩;replace db:=dA.blk db (fun h=>h);replace dl:=dA.blk dl (fun h=>h);replace dE:=dA.blk dE (fun h=>h);have dZ:Ext w w4:=((dX.ext dT).ext dF).ext dA
 have d5:BdS w.heap.size B w4 { nodes:=[⟨0,-1,-1,-1⟩],step:=0 } (.slice (some ⟨g3,0,none⟩) 1 1) :=
  ⟨dY,zK (k:=4) (n:=1) (cap:=1) dE (ztf _) tS rfl,tO,fun g hg=>by obtain rfl:g3=g:=Option.some.inj hg;omega⟩
 have eM:c ≠ r:=tO;refine Gs 5 O (Dw (fun q=>Blk q c [v1,v2,v3] 26) [] (fun w5 dB _=>?_));have dm:=dB.blk db (fun h=>h);have dG:=dB.blk dl (fun h=>h);have d6:=d5.ext dB;have d7:=dZ.ext dB;refine Ds [0,1] tK O (WD.take 2 O tK O O O dm (fun w1 d8=>R.load tg24 O (d8.cells 2 _ O)) (Ds [3,8] tK O (WD.call 4 O tK O O O (F.call (vs:=[_,_]) call126 O) (zd8 B 0 w5) ?_)));rintro x w6 ⟨hx,dC⟩;have dr:=dC.blk dm (fun h=>h);have dH:=dC.blk dG (fun h=>h);have d9:=d6.ext dC;have eb:=d7.ext dC;refine⟨fun _=>dr,?_⟩;have ec:=hx;obtain⟨bb,ab,rfl,_,_⟩:=hx;refine WD.mem 5 O tK O O O (M.buildSlice (cs:=[.func (.func 166) #[] #[.pointer (some ⟨bb,0,none⟩),.pointer (some ⟨ab,0,none⟩)]]) [(0,_)] tR198 ts120 tz120 tS O tK) ?_;rintro _ w7 ⟨g7,rfl,eN,eO,ed,dt⟩;have du:=dt.blk dr (fun h=>h);have dI:=dt.blk dH (fun h=>h);have ee:=d9.ext dt;have dJ:=eb.ext dt;refine⟨fun _=>du,?_⟩;have ef:=Hung.lit ed (ec.ext dt);have eh:=dJ.size;refine WD.call 6 O tK O O O (F.call (vs:=[_,_,_]) call125 O) (zmm f.body w.heap.size B _ _ _ w7 _ _ _ (dW.ext zf dJ) (fun q h=>h.2) ee ef tZ tO hp tD tD) ?_;rintro r9 w9 ⟨⟨nv9,dK⟩,dD,_,dL⟩;have dM:=dL.blk du tS;have dN:=dL.blk dI tS;have ei:Ext w w9:=zrV (KT.trans (zrT dJ) dL) (ztf _);refine⟨fun _=>dM,?_⟩;have dO:=xD f.body hp { nodes:=[⟨0,-1,-1,-1⟩],step:=0 } [(0,false)] tZ;have dc:zge f=zd f:=zkg f hp;unfold zge at dc;generalize hX:listB f.body { nodes:=[⟨0,-1,-1,-1⟩],step:=0 } [(0,false)]=X at dK dD dO dc;obtain⟨a9,c9,rfl,_⟩:=dD.form;have dw:=dO.len;have dQ:=dO.lt;have ej:=dD.len;simp only[ztb]at dw;obtain⟨an,cn,rfl,eP,_⟩:=xU dK.row;refine Ds [7] tK O (G.done tK ?_ _);refine Gs 2 O (G.loop (σ:=Nat) (fun j=>[(2,.pointer (some ⟨r,0,none⟩)),(3,.pointer (some ⟨B,0,none⟩)),(16,.slice a9 X.2.length c9),(17,.int .i64 X.2.length),(18,.int .i64 j)]) (fun j=>fun w'=>j<=X.2.length/\BdS w.heap.size B w' { X.1 with nodes:=zr X.1.nodes X.1.nodes.length (X.2.take j) } (.slice an X.1.nodes.length cn)/\Hung B w' (.slice a9 X.2.length c9) X.2/\Blk w' r [.slice none 0 0] 36/\Ext w w') (fun j=>X.2.length - j) 0 j2 ⟨zt5 _,dK,dD,dN,ei⟩ ?_);rintro j y1 ⟨hj,dh,dU,da,dR⟩;refine Gs 6 O (zoB O (fun eQ=>?_) (fun eR=>?_))
 .
  obtain⟨e,he⟩:∃ e,X.2[j]?=some e:=iC;obtain⟨ge,x,rfl,ek,em⟩:=dU.at he;obtain⟨ie,pe⟩:=e;obtain⟨ff,fcs,rfl,er,dx⟩:=zfr w.heap.size B ie pe (X.1.nodes.length:Nat) _ _ x y1 dh em (by dsimp only;rw[zS];exact dQ _ (zsR he));refine Ga 7 O tO (zqk O isAgg120 (ek 0 _ O) (Gs 8 O (zqk O tg34 (dh.blk.cells 0 _ O) (Gs 1 O (zpm O er dx ?_)))));rintro _ y2 ⟨dy,dS⟩;refine Ga 7 O tO (G.back (j+1) j2 ⟨tO,by rw[ki he];exact dy,dU.kt dS,dS.blk da tS,zrV (KT.trans (zrT dR) dS) (ztf _)⟩ tO)
 have ew:j=X.2.length:=tO;subst ew;rw[zsV]at dh;have hY:=dh.row;dsimp only at hY;rw[zS]at hY;refine Gs 10 O (zqk O tg34 (dh.blk.cells 0 _ O) (zqg O O (R.build (v:=.agg #[.int .i64 1,.int .i64 (-1),.int .i64 (-1),.int .i64 (-1)]) [(0,_),(1,_),(2,_),(3,_)] O (fun _=>tK)) (G.mem O O (M.buildSlice (cs:=xE ⟨1,-1,-1,-1⟩) [(0,_)] tR34 ts65 tz65 tS O tK) ?_)));rintro _ y2 ⟨g2,rfl,yg2,ys2,yB2,yk2⟩;replace hY:=zi hY yk2 (fun _ _ h=>h);replace da:=yk2.blk da (fun h=>h);refine G.mem O O (M.append tu34 Tryz.el65 O tS O O hY O (Cells.add yB2.cells) (jb _) tO tO) ?_;rintro nv y3 ⟨dg,ez,yk3,_⟩
 have eA:∀ g,Value.ownBlock (.slice an X.1.nodes.length cn)=some g->g ≠ r:=fun g hg=>by
  obtain⟨cs',dy⟩:=yZ hY hg;exact dy.ne da tS
 have eC:∀ g,Value.ownBlock (.slice an X.1.nodes.length cn)=some g->w.heap.size<=g:=dh.far;replace da:=yk3.blk da (fun h=>eA r h rfl);have eD:Ext w y3:=Keep.trans (dR.ext yk2) yk3 (fun k hk h=>tD);obtain⟨av,cv,rfl⟩:=zD dg
 have hnv:∀ g,Value.ownBlock (.slice av (X.1.nodes.length+1) cv)=some g->w.heap.size<=g/\g ≠ r:=by
  intro g hg;refine⟨?_,?_⟩
  .
   rcases ez with h | ⟨g',h1,h2⟩
   . grind
   rw[h1]at hg;cases hg;have:=(dR.ext yk2).size;omega
  obtain⟨cs',dy⟩:=yZ dg hg;exact dy.ne da tS
 refine zqg O O (R.build (v:=.agg #[.slice av (X.1.nodes.length+1) cv]) [(0,_)] O (fun _=>tK)) (zpr O (zps ts36 O O O O tX da tZ) ?_);rintro yf ⟨_,eE,dV⟩;have dz:=zi dg dV (fun g hg h=>(hnv g hg).2 h);refine Gs 3 O (zp1 results74 O (kr tg36 ts36 O eE.cells) ?_);refine⟨_,rfl,⟨_,rfl,?_⟩,eD.trans dV (fun q hq h=>tO)⟩;rw[<- dc];refine zpJ tS xE zJ iA (n:=X.1.nodes.length+1) (e:=65) ?_ (fun g hg=>(hnv g hg).1);rw[zus];simpa using dz
def zN (f:Fl) (g:List Nd):Int:=if ya f ≠ 0 then ya f else if zd f=g then 0 else 2
theorem zbN {f:Fl} (hY:snodes f.body+zp f.hatches<=1024):ssize f.body<=1024:=by have:=zax f.body;omega
theorem zbO (f:Fl) (g:List Nd) (v1 v2 v3 gv:Value) (D Dg:Nat->Prop) (w:World) (hf:RFl D w f v1 v2 v3) (hg:SlR 4 RNd Dg w gv g) (dt:snodes f.body+zp f.hatches<=1024) (dx:sbulk f.body<=1000000) :
  Calls prog 36 #[.agg #[v1,v2,v3],.agg #[gv]] w (Ret fun r w'=>r=.int .i64 (zN f g)/\Ext w w'):=by
 have dE:=zbN dt;have hE:=Keep.refl (fun _=>False) w;obtain⟨ag,cg,rfl⟩:=hg.form;refine zqr func36 O ntmps36 O (Gs 2 O (G.mem O O (M.box O O) ?_));rintro _ dF ⟨b,rfl,dh,dy,hY,dl⟩;have du:_<=b:=zsW hE.size (zvP dh.symm);obtain⟨hE,hf,hg⟩:=Tr3 dl hE hf hg;refine G.mem O O (M.box O O) ?_;rintro _ dz ⟨b2,rfl,db,dw,da,dc⟩;have dg:b ≠ b2:=tO;have dm:_<=b2:=zsW hE.size (zvP db.symm);obtain⟨hE,hf,hg,hY⟩:=Tr4 dc hE hf hg hY;refine Gs 6 O (zqm O tg26 ts26 hY.cells O (G.call O call72 (zex f _ _ _ D _ hf dt dx) ?_));rintro _ wz1 ⟨rfl,dA⟩;obtain⟨hE,hf,hg,hY,da⟩:=Tr5 dA hE hf hg hY da;refine Gs 9 O (zoB O (fun h0=>?_) (fun h0=>?_))
 . refine Gs 8 O (zoS results36 O ⟨_,rfl,by rw[zN,zt1 h0],hE⟩)
 have dB:ya f=0:=tO;refine Gs 4 O (Dw (fun q=>Ext wz1 q) [] (fun wd2 hD _=>?_));refine WD.take 0 O tK O O O hD (fun w1 dr=>zph tg26 ts26 O (by rfl) (dr.blk hY (fun h=>h)).cells) (Ds [3] tK O (WD.take 4 O tK O O O hD (fun w1 dr=>R.load tg34 O ((dr.blk da (fun h=>h)).cells 0 _ O)) (WD.call 1 O tK O O O (F.call (vs:=[_]) call74 O) (zkv f _ _ _ D _ (hf.ext hD) (zbM dB) tO) ?_)));rintro _ wz3 ⟨⟨nv,rfl,hnv⟩,dC⟩;replace hD:=hD.ext dC;refine⟨fun _=>hD,?_⟩;refine zpE 2 O tK O O O (fun w1=>R.field runUnderlying36 O tg34 O O) (WD.call 5 O tK O O O (F.call (vs:=[_,_]) call73 O) (zhf (zd f) g _ _ _ Dg _ hnv (hg.ext zo hD)) ?_);rintro _ wz4 ⟨rfl,dD⟩;replace hD:=hD.ext dD;refine⟨fun _=>hD,?_⟩;refine zpE 6 O tK O O O (fun w1=>zpQ O j6) (G.done tK ?_ _);obtain⟨hE,hf,hg,hY,da⟩:=Tr5 hD hE hf hg hY da;refine Gs 1 O (zoB O (fun h1=>?_) (fun h1=>?_))
 . refine Gs 7 O (zoS results36 O ⟨_,rfl,by rw[zN,zt0 tO,zt0 h1],hE⟩)
 refine Gs 8 O (zoS results36 O ⟨_,rfl,by rw[zN,zt0 tO,zt1 (zsZ.1 h1)],hE⟩)
end Go.Proofs.YtckdhgbepmpgiaaGreat
namespace Go.GL
open Go.RowKit
def OwnR {α:Type} (e:TypeId) (k:Nat) (R:Rel α) (D:Nat->Prop) (w:World) (v:Value) (l:List α):Prop :=
 ∃ xs:List Value,w.ownsRow 0 e k v l.length xs/\∀ (i:Nat) x,l[i]?=some x->R D w x ((xs.drop (i*k)).take k)
section
variable {k:Nat} {R:Rel α} {D:Nat->Prop} {l:List α}
theorem OwnR.sl {D':Nat->Prop} (h:OwnR e k R D w v l) (hk:0<k) (hs:yl R) (hD:∀ q,D q->D' q) (hv:∀ g,v.ownBlock=some g->D' g):SlR k R D' w v l:=by
 obtain⟨xs,h1,h2⟩:=h;obtain⟨ao,cap,rfl,hc,hm⟩:=xU h1;refine⟨ao,cap,rfl,hc,hm,fun i x hx=>?_⟩;have hi:=(zt4.1 hx).1;have da:=h1.1
 obtain⟨a0,rfl⟩:∃ a0,ao=some a0:=by
  cases ao with
  | some a0=>exact⟨a0,rfl⟩
  | none =>
   rcases h1.2 with⟨_,h⟩ | ⟨g,cap,cur,h,_⟩
   . omega
   cases h
 obtain⟨e1,e2,hY⟩:=jI h1;obtain⟨b0,o0,s0⟩:=a0;simp only at e1 e2 hY;subst e1;subst e2;have h5:(i+1)*k<=l.length*k:=zvU _ hi;rw[zvY]at h5;refine⟨b0,0,_,rfl,hv b0 rfl,?_,?_,hs D D' w w hD (fun _ _ _=>rfl) x _ (h2 i x hx)⟩
 . grind
 intro j u hj;rw[ztm]at hj;split at hj
 .
  rw[zuB]at hj;have:=hY _ _ hj;rw[zvZ]at this ⊢;exact this
 cases hj
end
mutual
/-- The steps in preorder. -/
def St.pre:St->List St
 | .mk a c v n t f g b=>.mk a c v n t f g b::(preL f++preL g)
def preL:List St->List St
 | []=>[]
 | s::r=>s.pre++preL r
end
theorem St.pre_eq (s:St):s.pre=s::(preL s.thn++preL s.els):=by cases s;rw[St.pre];rfl
theorem zbP (a b:List St):preL (a++b)=preL a++preL b:=by
 induction a with
 | nil=>rfl
 | cons x r ih=>rw[zu5,preL,ih,preL,zu2]
theorem zio {l:List St} {x:St} (h:l[i]?=some x):preL (l.take (i+1))=preL (l.take i)++x.pre:=by rw[ze h,zbP];simp[preL]
theorem qe:∀ l:List St,(preL l).length=ssize l:=by
 intro l;induction l using zqD with
 | h l ih =>
  have key:∀ r:List St,(∀ s ∈ r,(preL s.thn).length=ssize s.thn/\(preL s.els).length=ssize s.els)->(preL r).length=ssize r:=by
   intro r;induction r with
   | nil=>intro _;rfl
   | cons x r ih2 =>
    intro h;have h1:=h x (zsU ..);have h2:=ih2 (fun s hs=>h s (zsT _ hs));have h4:=x.size_eq;rw[preL,zsY,x.pre_eq,ztj,zsY,h1.1,h1.2,h2,ssize];omega
  exact key l ih
open Go.RowKit Go.ChangeMaps
def lkm:List (Int × Value)->Int->Option (Nat × Value)
 | [],_=>none
 | (a,v)::r,k=>if k=a then some (0,v) else (lkm r k).map fun p=>(p.1+1,p.2)
def zm6 (l:List (Int × Value)) (k:Int):Option Value:=(lkm l k).map (·.2)
def zhT (l:List (Int × Value)) (k:Int) (v:Value):List (Int × Value):=match lkm l k with
 | some p=>l.set p.1 (k,v)
 | none=>l++[(k,v)]
theorem zaX {p:Nat × Value} (h:lkm l k=some p):l[p.1]?=some (k,p.2):=by
 induction l generalizing p with
 | nil=>simp[lkm]at h
 | cons x r ih =>
  obtain⟨a,v⟩:=x;rw[lkm]at h;split at h
  . grind
  obtain⟨q,h2,rfl⟩:=zw4.1 h
  grind
theorem zkw (h:lkm l k=none):∀ p ∈ l,p.1 ≠ k:=by
 induction l with
 | nil=>intro p hp;simp at hp
 | cons x r ih =>
  obtain⟨a,v⟩:=x;rw[lkm]at h;split at h
  . cases h
  rename_i h1;intro p hp;rcases zt6.1 hp with rfl | hp
  . omega
  exact ih (by simpa using h) p hp
theorem ziq (l:List (Int × Value)) (k:Int) (v:Value):(zhT l k v).map (·.1)=match lkm l k with
 | some _=>l.map (·.1)
 | none=>l.map (·.1)++[k]:=by
 unfold zhT;cases h:lkm l k with
 | none=>simp
 | some p =>
  have h1:=zaX h;simp only;rw[zv1];apply zul;intro j;rw[zuH];split
  .
   rename_i hj;subst hj;rw[zt7,h1];split
   . rfl
   rename_i h2;rw[zta]at h2;exact absurd (zt4.1 h1).1 h2
  rfl
theorem zaj (hn:(l.map (·.1)).Nodup) (k:Int) (v:Value):((zhT l k v).map (·.1)).Nodup:=by
 rw[ziq];cases h:lkm l k with
 | some p=>exact hn
 | none =>
  simp only;rw[zve];refine⟨hn,tZ,fun a ha b hb=>?_⟩;rw[zt8]at hb;subst hb;obtain⟨p,hp,rfl⟩:=zv8.1 ha;exact zkw h p hp
def MapI (w:World) (m:Nat) (l:List (Int × Value)):Prop :=
 ∃ (es:Array MapEntry) (clock:Nat),w.heap[m]?=some (.map es clock)/\es.toList.map (fun e=>(e.key,e.val))=l.map (fun p=>(Value.int .i64 p.1,p.2))/\(∀ e ∈ es.toList,e.born<clock)/\(es.toList.map (·.born)).Nodup/\(l.map (·.1)).Nodup
theorem MapI.keep {S:Nat->Prop} (h:MapI w m l) (hk:Keep S w w') (hS:¬ S m):MapI w' m l:=by
 obtain⟨es,c,h1,r⟩:=h;exact⟨es,c,by rw[hk.block m (zts.1 h1).1 hS];exact h1,r⟩
theorem MapI.lt (h:MapI w m l):m<w.heap.size:=by
 obtain⟨es,c,h1,r⟩:=h;exact(zts.1 h1).1
theorem ji (k:Int):∀ (es:List MapEntry) (l:List (Int × Value)) (i:Nat),es.map (fun e=>(e.key,e.val))=l.map (fun p=>(Value.int .i64 p.1,p.2))->Instr.findNow (.int .i64) (.int .i64 k) es i=some ((lkm l k).map fun p=>(i+p.1,p.2))
 | [],[],i,_=>rfl
 | [],_::_,i,h=>tD
 | _::_,[],i,h=>tD
 | e::es,(a,v)::l,i,h=>by
  simp only[zuX,List.cons.injEq,Prod.mk.injEq]at h;rw[Instr.findNow,h.1.1,lkm];by_cases hk:k=a
  . simp[Instr.sameNow,hk,h.1.2]
  have:(k == a)=false:=by simpa using hk
  simp only[Instr.sameNow,if_true,this,zt0 hk];rw[ji k es l (i+1) h.2];cases lkm l k<;>simp<;>omega
section
variable {kt:TypeId}
theorem jC (hk:P.underlying kt=some (.int .i64)) (k:Int) (b:Bool) (w:World):(Instr.checkKey b 10000 kt (.int .i64 k)).run P w=.ok () w:=MapKept.run_checkKey hk (by simp[MapKept.IsKey]) b 9999
theorem zfD (h:MapI w m l) (ht:P.underlying t=some (.map kt et)) (hk:P.underlying kt=some (.int .i64)) (hz:∀ w,(zeroValue et).run P w=.ok z w) (k:Int):(Instr.lookup t (.map (some m)) (.int .i64 k) false).run P w=.ok ((zm6 l k).getD z) w:=by
 obtain⟨es,c,h1,h2,r⟩:=h;have h3:=ji k _ _ 0 h2;have h5:=MapKept.run_findKey (P:=P) (w:=w) hk h3;cases h6:lkm l k with
 | none=>rw[h6]at h5;simp[Instr.lookup,run_underlying ht,MapKept.run_getObj_map h1,jC hk,h5,hz,Result.andThen,zm6,h6]
 | some p=>rw[h6]at h5;simp[Instr.lookup,run_underlying ht,MapKept.run_getObj_map h1,jC hk,h5,Result.andThen,zm6,h6]
theorem qf {o o':Obj} (h:w.heap[m]?=some o):Keep (fun q=>q=m) w (setBlock w m o') :=
 ⟨rfl,rfl,rfl,ztf _,by simp[setBlock],fun k _ hn=>(MapKept.heap_set h).2 k hn⟩
theorem zcz {β:Type} (f:MapEntry->β) (g:MapEntry->MapEntry) (y:β):∀ (es:List MapEntry) (i:Nat),(∀ e,es[i]?=some e->f (g e)=y)->(es.modify i g).map f=(es.map f).set i y:=by
 intro es i h;apply zul;intro j;rw[zt7,zuD,zuH];by_cases hj:i=j
 .
  subst hj;cases h1:es[i]? with
  | none =>
   have:=List.getElem?_eq_none_iff.1 h1;rw[zt1 rfl,zt0 tD];simp
  | some e =>
   have:=(zt4.1 h1).1;rw[zt1 rfl,zt1 tD];simp[h e h1]
 rw[zt0 hj,zt7];cases es[j]?<;>simp[hj]
theorem zfE (h:MapI w m l) (ht:P.underlying t=some (.map kt et)) (hk:P.underlying kt=some (.int .i64)) (k:Int) (v:Value) :
  ∃ w',(Instr.mapUpdate t (.map (some m)) (.int .i64 k) v).run P w=.ok () w'/\MapI w' m (zhT l k v)/\Keep (fun q=>q=m) w w'/\w'.heap.size=w.heap.size:=by
 obtain⟨es,c,h1,h2,h3,h4,h5⟩:=h;have h6:=ji k _ _ 0 h2;have h7:=MapKept.run_findKey (P:=P) (w:=w) hk h6;have db:es.toList.length=l.length:=by have:=congrArg List.length h2;simpa using this
 cases h8:lkm l k with
 | none =>
  rw[h8]at h7;refine⟨setBlock w m (.map (es.push ⟨.int .i64 k,v,c⟩) (c+1)),by simp[Instr.mapUpdate,run_underlying ht,MapKept.run_getObj_map h1,jC hk,h7,MapKept.run_setObj_map _ h1,Result.andThen,setBlock],?_,qf h1,by simp[setBlock]⟩;refine⟨_,_,(MapKept.heap_set h1).1,?_,?_,?_,zaj h5 k v⟩
  . rw[zhT,h8];simp[h2]
  . grind
  rw[Array.toList_push,zuV,zve];refine⟨h4,tZ,fun a ha b hb=>?_⟩;obtain⟨e,he,rfl⟩:=zv8.1 ha;simp at hb;subst hb;have:=h3 e he;omega
 | some p =>
  rw[h8]at h7;have h9:=zaX h8;have hp:=(zt4.1 h9).1;obtain⟨e0,dc⟩:∃ e0,es.toList[p.1]?=some e0:=iC
  have hY:e0.key=.int .i64 k/\e0.val=p.2:=by
   have:=congrArg (fun L=>L[p.1]?) h2;simp only[zt7,dc,h9,zw5,Option.some.injEq,Prod.mk.injEq]at this;exact this
  have da:es[p.1]?=some e0:=tD;refine⟨setBlock w m (.map (es.modify p.1 fun e=>{ e with key:=.int .i64 k,val:=v }) c),by simp[Instr.mapUpdate,run_underlying ht,MapKept.run_getObj_map h1,jC hk,h7,da,hY.1,Instr.keyThatStays,Instr.sameBits,MapKept.run_setObj_map _ h1,Result.andThen,setBlock],?_,qf h1,by simp[setBlock]⟩;refine⟨_,_,(MapKept.heap_set h1).1,?_,?_,?_,zaj h5 k v⟩
  . rw[zhT,h8,zty,zcz _ _ (.int .i64 k,v) _ _ iA,h2];simp only[zv1]
  .
   intro e he;rw[zty]at he;obtain⟨j,hj⟩:=zv7.1 he;rw[zuD]at hj;obtain⟨e1,dg,rfl⟩:=zw4.1 hj;have:=h3 e1 (zsR dg);split<;>exact this
  have:(es.modify p.1 fun e=>{ e with key:=.int .i64 k,val:=v }).toList.map (·.born)=es.toList.map (·.born):=by
   rw[zty];apply zul;intro j;rw[zt7,zt7,zuD];cases es.toList[j]?<;>simp;split<;>rfl
  rw[this];exact h4
end
section
variable {ty:TypeId} {pos:String} {kt:TypeId}
theorem M.makeMap:xg P ⟨dst,.makeMap t none,ty,pos,aft,g⟩ env w (fun u w'=>∃ b,u=.map (some b)/\b=w.heap.size/\w'.heap.size=w.heap.size+1/\MapI w' b []/\Ext w w'):=by
 refine⟨.map (some w.heap.size),w.alloc (.map #[] 0),?_,_,rfl,rfl,tZ,⟨#[],0,(MapKept.heap_alloc w _).1,rfl,tZ,tZ,tZ⟩,Keep.alloc w _⟩;intro n a ha;have h:(Instr.makeMap t none).run P w=.ok (.map (some w.heap.size)) (w.alloc (.map #[] 0)):=by simp[Instr.makeMap,Result.andThen]
 simp[execOp,h]
theorem zs0 (h:MapI w m l) (ht:P.underlying t=some (.map kt et)) (hk:P.underlying kt=some (.int .i64)) (hz:∀ w,(zeroValue et).run P w=.ok z w) (hx:ev env x=some (.map (some m))) (hy:ev env y=some (.int .i64 k)) :
  yk P ⟨dst,.lookup t x y false,ty,pos,aft,g⟩ env w ((zm6 l k).getD z) w:=by
 intro n a ha;simp[execOp,ha.eval hx,ha.eval hy,zfD h ht hk hz]
theorem M.insert (h:MapI w m l) (ht:P.underlying t=some (.map kt et)) (hk:P.underlying kt=some (.int .i64)) (hx:ev env x=some (.map (some m))) (hy:ev env y=some (.int .i64 k)) (hu:ev env u=some v) :
  xT P ⟨dst,.insert t x y u,ty,pos,aft,g⟩ env w (fun w'=>MapI w' m (zhT l k v)/\Keep (fun q=>q=m) w w'/\w'.heap.size=w.heap.size):=by
 obtain⟨w',h1,h2⟩:=zfE (P:=P) h ht hk k v;refine⟨w',?_,h2⟩;intro n a ha;simp[execOp,ha.eval hx,ha.eval hy,ha.eval hu,h1]
end
def MapE (w:World) (m:Nat) (l:List (Int × Value)) (k:Int) (st:Nat):Prop :=
 ∃ (es:Array MapEntry) (clock i:Nat) (e:MapEntry) (v:Value),w.heap[m]?=some (.map es clock)/\es.toList.map (fun e=>(e.key,e.val))=l.map (fun p=>(Value.int .i64 p.1,p.2))/\(∀ e ∈ es.toList,e.born<clock)/\(es.toList.map (·.born)).Nodup/\(l.map (·.1)).Nodup /\
  es.toList[i]?=some e/\e.born=st/\lkm l k=some (i,v)
theorem MapE.keep {S:Nat->Prop} {st:Nat} (h:MapE w m l k st) (hk:Keep S w w') (hS:¬ S m):MapE w' m l k st:=by
 obtain⟨es,c,i,e,v,h1,r⟩:=h;exact⟨es,c,i,e,v,by rw[hk.block m (zts.1 h1).1 hS];exact h1,r⟩
theorem MapE.map {st:Nat} (h:MapE w m l k st):MapI w m l:=by
 obtain⟨es,c,i,e,v,h1,h2,h3,h4,h5,_⟩:=h;exact⟨es,c,h1,h2,h3,h4,h5⟩
section
variable {ty:TypeId} {pos:String} {kt:TypeId}
theorem M.mapEntry (h:MapI w m l) (hv:zm6 l k=some v) (ht:P.underlying t=some (.map kt et)) (hk:P.underlying kt=some (.int .i64)) (hx:ev env x=some (.map (some m))) (hy:ev env y=some (.int .i64 k)) :
  xg P ⟨dst,.mapEntry t x y,ty,pos,aft,g⟩ env w (fun u w'=>∃ st:Nat,u=.tuple #[v,.int .i64 st]/\MapE w' m l k st/\Keep (fun q=>q=m) w w'/\w'.heap.size=w.heap.size):=by
 obtain⟨es,c,h1,h2,h3,h4,h5⟩:=h;have h6:=ji k _ _ 0 h2;have h7:=MapKept.run_findKey (P:=P) (w:=w) hk h6;have dh:es.toList.length=l.length:=by have:=congrArg List.length h2;simpa using this
 obtain⟨p,h8,rfl⟩:=zw4.1 hv;rw[h8]at h7;have h9:=zaX h8;have hp:=(zt4.1 h9).1;obtain⟨e0,db⟩:∃ e0,es.toList[p.1]?=some e0:=iC
 have da:e0.key=.int .i64 k/\e0.val=p.2:=by
  have:=congrArg (fun L=>L[p.1]?) h2;simp only[zt7,db,h9,zw5,Option.some.injEq,Prod.mk.injEq]at this;exact this
 have dc:es[p.1]?=some e0:=tD
 have dg:(Instr.mapEntry t (.map (some m)) (.int .i64 k)).run P w=.ok (.tuple #[p.2,.int .i64 e0.born]) (setBlock w m (.map (es.modify p.1 fun e=>{ e with key:=.int .i64 k }) c)):=by
  simp[Instr.mapEntry,run_underlying ht,MapKept.run_getObj_map h1,jC hk,h7,dc,da.1,Instr.keyThatStays,Instr.sameBits,MapKept.run_setObj_map _ h1,Result.andThen,setBlock,goInt]
 have hY:(es.modify p.1 fun e=>{ e with key:=.int .i64 k }).toList=es.toList:=by
  rw[zty];apply zul;intro j;rw[zuD];by_cases hj:p.1=j
  . subst hj;rw[db];simp[<- da.1]
  grind
 refine⟨_,_,fun n a ha=>?_,e0.born,rfl,⟨_,c,p.1,e0,p.2,(MapKept.heap_set h1).1,by rw[hY];exact h2,by rw[hY];exact h3,by rw[hY];exact h4,h5,by rw[hY];exact db,rfl,h8⟩,qf h1,by simp[setBlock]⟩;simp[execOp,ha.eval hx,ha.eval hy,dg]
theorem M.entryStore {st:Nat} (h:MapE w m l k st) (hx:ev env x=some (.map (some m))) (hy:ev env y=some (.int .i64 st)) (hu:ev env u=some v) :
  xT P ⟨dst,.entryStore t x y u,ty,pos,aft,g⟩ env w (fun w'=>MapI w' m (zhT l k v)/\Keep (fun q=>q=m) w w'/\w'.heap.size=w.heap.size):=by
 obtain⟨es,c,i,e,v0,h1,h2,h3,h4,h5,h6,rfl,h8⟩:=h;have hi:=(zt4.1 h6).1
 have hY:es.findIdx? (fun x=>(x.born:Int) == (e.born:Int))=some i:=by
  rw[show es=es.toList.toArray from tZ,List.findIdx?_toArray,List.findIdx?_eq_some_iff_getElem];refine⟨hi,by rw[(zt4.1 h6).2];simp,fun j hj=>?_⟩;have:=List.nodup_iff_pairwise_ne.1 h4;rw[zvk]at this;have h9:=this j i tD tD hj;rw[List.getElem_map,List.getElem_map,(zt4.1 h6).2]at h9;intro dc;have dl:(es.toList[j].born:Int)=e.born:=eq_of_beq dc;exact h9 tO
 have da:(Instr.entryStore t (.map (some m)) (.int .i64 e.born) v).run P w=.ok () (setBlock w m (.map (es.modify i fun x=>{ x with val:=v }) c)):=by
  simp[Instr.entryStore,MapKept.run_getObj_map h1,asInt,asIntOf,hY,MapKept.run_setObj_map _ h1,Result.andThen,setBlock]
 have dg:e.key=.int .i64 k:=by
  have h9:=zaX h8;have:=congrArg (fun L=>L[i]?) h2;simp only[zt7,h6,h9,zw5,Option.some.injEq,Prod.mk.injEq]at this;exact this.1
 refine⟨setBlock w m (.map (es.modify i fun x=>{ x with val:=v }) c),fun n a ha=>?_,⟨_,c,(MapKept.heap_set h1).1,?_,?_,?_,zaj h5 k v⟩,qf h1,by simp[setBlock]⟩
 . simp[execOp,ha.eval hx,ha.eval hy,ha.eval hu,da]
 . rw[zhT,h8,zty,zcz _ _ (.int .i64 k,v) _ _ (fun x hx=>tD),h2];simp only[zv1]
 .
  intro x db;rw[zty]at db;obtain⟨j,hj⟩:=zv7.1 db;rw[zuD]at hj;obtain⟨e1,dh,rfl⟩:=zw4.1 hj;have:=h3 e1 (zsR dh);split<;>exact this
 have:(es.modify i fun x=>{ x with val:=v }).toList.map (·.born)=es.toList.map (·.born):=by
  rw[zty];apply zul;intro j;rw[zt7,zt7,zuD];cases es.toList[j]?<;>simp;split<;>rfl
 rw[this];exact h4
end
end Go.GL
namespace Go.Proofs.YtckdhgbepmpgiaaGreat
open Go.GL
def yJ (b:Bool):Int:=if b then 1 else 0
def lki (l:List Int) (i:Nat):Int:=l[i]?.getD 0
theorem zgn {l:List Int} {x:Int} (h:l[i]?=some x):lki l i=x:=by simp[lki,h]
theorem zgo {l:List Int} (h:i<l.length):l[i]?=some (lki l i):=by simp[lki,zsQ h]
def qg (op a b:Int):Int :=
 if op=8 then a+b else if op=9 then a - b else if op=10 then a*b else if op=11 then a.fdiv b
 else if op=12 then (if b=0 then 0 else a - b*a.fdiv b) else if op=13 then yJ (decide (a=b)) else if op=14 then yJ (decide (a ≠ b))
 else if op=15 then yJ (decide (a<b)) else if op=16 then yJ (decide (a<=b)) else if op=17 then yJ (decide (b<a)) else if op=18 then yJ (decide (b<=a))
 else if op=19 then yJ (decide (a ≠ 0)&&decide (b ≠ 0)) else if op=20 then yJ (decide (a ≠ 0) || decide (b ≠ 0)) else if op=21 then min a b else max a b
def qs (vals:List Int) (op n:Int) (ks:List Int):Int :=
 if op=0 then n else if op=24 then lki vals n.toNat else if op=6 then -(lki ks 0) else if op=7 then yJ (decide (lki ks 0=0))
 else if op=23 then (if lki ks 0 ≠ 0 then lki ks 1 else lki ks 2)
 else if op=25 then lki ks (1+yt (lki ks 0) 0 ((ks.length:Int) - 2)).toNat
 else qg op (lki ks 0) (lki ks 1)
mutual
def xH (vals:List Int):Tm->Int
 | .mk op n ks=>qs vals op n (valL vals ks)
def valL (vals:List Int):List Tm->List Int
 | []=>[]
 | k::r=>xH vals k::valL vals r
end
theorem zbQ (vals:List Int) (t:Tm):xH vals t=qs vals t.op t.n (valL vals t.kids):=by cases t;rw[xH];rfl
theorem zaY (vals:List Int) (l:List Tm):valL vals l=l.map (xH vals):=by
 induction l with
 | nil=>rfl
 | cons x r ih=>rw[valL,ih];rfl
theorem zdm (vals:List Int) (l:List Tm):(valL vals l).length=l.length:=by rw[zaY,zta]
theorem zdn {l:List Tm} {k:Tm} (h:l[i]?=some k):lki (valL vals l) i=xH vals k:=by
 apply zgn;rw[zaY,zt7,h];rfl
structure InV (vs:List Vr) (vals:List Int):Prop where
 len:vals.length=vs.length
 at_:∀ (i:Nat) (v:Vr),vs[i]?=some v->v.low<=lki vals i/\lki vals i<=v.high
theorem zkx (a b:Int) (ha:-1048576<=a/\a<=1048576):(0<=a -> -a<=a.fdiv b/\a.fdiv b<=a)/\(a<=0->a<=a.fdiv b/\a.fdiv b <= -a)/\(0<=a->0<=b->0<=a.fdiv b):=by
 rcases Int.lt_trichotomy b 0 with hb | hb | hb
 .
  have h1:a.fdiv b=(-a).ediv (-b):=by
   rw[<- Int.neg_fdiv_neg,ztO _ tO];rfl
  rw[h1];have h2:=Int.mul_ediv_add_emod (-a) (-b);have h3:=ztM (-a) (show -b ≠ 0 by omega);have h4:=ztL (-a) (show 0 < -b by omega);change -b*((-a).ediv (-b))+(-a).emod (-b)=-a at h2;change 0<=(-a).emod (-b) at h3;change (-a).emod (-b) < -b at h4;generalize (-a).ediv (-b)=q at *;generalize (-a).emod (-b)=r at *;obtain⟨c,rfl⟩:∃ c,b=-c:=⟨-b,tO⟩;simp only[Int.neg_neg]at *;have hc:0<c:=tO;refine⟨fun h=>⟨?_,?_⟩,fun h=>⟨?_,?_⟩,fun h h'=>tO⟩
  .
   rcases ztR q (-a) with h5 | h5
   .
    have:c*q<=c*(-a - 1):=ztT tO tO;have:c*(-a - 1)<=1*(-a - 1):=ztW tO tO;have e:c*(-a - 1)=c*(-a) - c:=tD;have:c*(-a)<=1*(-a):=ztW tO tO;omega
   exact h5
  .
   rcases ztR 0 q with h5 | h5
   .
    have:c*1<=c*q:=ztT tO tO;omega
   omega
  .
   rcases ztR q 0 with h5 | h5
   .
    have:c*q<=c*(-1):=ztT tO tO;omega
   omega
  rcases ztR (-a) q with h5 | h5
  .
   have:c*(-a+1)<=c*q:=ztT tO tO;have:1*(-a+1)<=c*(-a+1):=ztU tO tO;omega
  exact h5
 . grind
 have h1:a.fdiv b=a.ediv b:=ztO _ tO;rw[h1];have h2:=Int.mul_ediv_add_emod a b;have h3:=ztM a (show b ≠ 0 by omega);have h4:=ztL a hb;change b*(a.ediv b)+a.emod b=a at h2;change 0<=a.emod b at h3;change a.emod b<b at h4;generalize a.ediv b=q at *;generalize a.emod b=r at *
 have hq:0<=a->0<=q:=fun h=>by
  rcases ztR q 0 with h5 | h5
  .
   have:b*q<=b*(-1):=ztT tO tO;omega
  exact h5
 refine⟨fun h=>⟨tO,?_⟩,fun h=>⟨?_,?_⟩,fun h _=>hq h⟩
 .
  rcases ztR a q with h5 | h5
  .
   have:b*(a+1)<=b*q:=ztT tO tO;have:1*(a+1)<=b*(a+1):=ztU tO tO;omega
  exact h5
 .
  rcases ztR q a with h5 | h5
  .
   have:b*q<=b*(a - 1):=ztT tO tO;have:b*(a - 1)<=1*(a - 1):=ztW tO tO;have e:b*(a - 1)=b*a - b:=tD;have:b*a<=1*a:=ztW tO tO;omega
  exact h5
 rcases ztR 0 q with h5 | h5
 .
  have:b*1<=b*q:=ztT tO tO;omega
 omega
theorem zcA (a b:Int):(b<0->b<a - b*a.fdiv b/\a - b*a.fdiv b<=0)/\(0<b->0<=a - b*a.fdiv b/\a - b*a.fdiv b<b):=by
 have h2:=Int.mul_fdiv_add_fmod a b;refine⟨fun hb=>?_,fun hb=>?_⟩
 .
  have h3:a.fmod b=-((-a).emod (-b)):=by
   have:=Int.neg_fmod_neg (-a) (-b);simp only[Int.neg_neg]at this;rw[this,ztP _ tO];rfl
  have h4:=ztM (-a) (show -b ≠ 0 by omega);have h5:=ztL (-a) (show 0 < -b by omega);change 0<=(-a).emod (-b) at h4;change (-a).emod (-b) < -b at h5;omega
 have h3:a.fmod b=a.emod b:=ztP _ tO;have h4:=ztM a (show b ≠ 0 by omega);have h5:=ztL a hb
 grind
theorem zir {x y d:Int} (hx:a<=x/\x<=b) (hy:c<=y/\y<=d):min (min (a*c) (a*d)) (min (b*c) (b*d))<=x*y/\x*y<=max (max (a*c) (a*d)) (max (b*c) (b*d)):=by
 have key:∀ (u v p q:Int),p<=v->v<=q->min (u*p) (u*q)<=u*v/\u*v<=max (u*p) (u*q):=by
  intro u v p q h1 h2;rcases Int.le_total 0 u with hu | hu
  .
   have:=ztT h1 hu;have:=ztT h2 hu;omega
  have:=ztV (a:=u) hu h1;have:=ztV (a:=u) hu h2;omega
 have h1:=key y x a b hx.1 hx.2;have h2:=key a y c d hy.1 hy.2;have h3:=key b y c d hy.1 hy.2;rw[Int.mul_comm y a,Int.mul_comm y b,Int.mul_comm y x]at h1;omega
theorem zey (x:Rg):∀ l:List Rg,((xj x l).1<=x.1/\x.2<=(xj x l).2)/\∀ r ∈ l,(xj x l).1<=r.1/\r.2<=(xj x l).2:=by
 intro l;induction l generalizing x with
 | nil=>simp[xj]
 | cons y r ih =>
  have h:=ih (min x.1 y.1,max x.2 y.2);rw[show xj x (y::r)=xj (min x.1 y.1,max x.2 y.2) r from rfl];refine⟨tO,fun z hz=>?_⟩;rcases zt6.1 hz with rfl | hz
  . omega
  grind
theorem zis {op:Int} (h1:op ≠ 8) (h2:op ≠ 9) (h3:op ≠ 10) (h4:op ≠ 11) (h5:op ≠ 12) (h6:op ≠ 21) (h7:op<=20) (h8:8<=op):qg op a b=0\/qg op a b=1:=by
 have hf:∀ b,yJ b=0\/yJ b=1:=fun b=>by cases b<;>simp[yJ]
 unfold qg;rw[zt0 h1,zt0 h2,zt0 h3,zt0 h4,zt0 h5]
 (repeat' split);all_goals first | exact hf _ | omega
theorem qC (n:Int) {lo hi:Int} (h:lo<=hi):lo<=yt n lo hi/\yt n lo hi<=hi:=by
 unfold yt
 (repeat' split);all_goals omega
theorem zky {op n:Int} {ks:List Int} {l:List Rg} (hV:InV vs vals) (hn:NodeOk vs op n l) (hY:ks.length=l.length) (da:op=23->l.length=3) (dc:op=0\/op=24\/op=6\/op=7\/8<=op/\op<=22\/op=23\/op=25)
  (hk:∀ i,i<l.length->(at2 l i).1<=lki ks i/\lki ks i<=(at2 l i).2):(zk vs op n l).1<=qs vals op n ks/\qs vals op n ks<=(zk vs op n l).2:=by
 have hg:∀ i,i<l.length->xy (at2 l i):=fun i hi=>hn.good _ (zia hi);have hf:∀ b,0<=yJ b/\yJ b<=1:=fun b=>by cases b<;>simp[yJ]
 unfold xy at hg;unfold zk qs;by_cases c0:op=0
 . grind
 rw[zt0 c0,zt0 c0];by_cases c24:op=24
 .
  rw[zt1 c24,zt1 c24];have h1:=hn.var c24;obtain⟨v,hv⟩:∃ v,vs[n.toNat]?=some v:=iC;rw[zi8 hv];exact hV.at_ _ _ hv
 rw[zt0 c24,zt0 c24];by_cases c6:op=6
 .
  have:=hn.k1 (.inl c6);have:=hk 0 tO
  grind
 rw[zt0 c6,zt0 c6];by_cases c7:op=7
 . grind
 rw[zt0 c7];by_cases c23:op=23
 .
  have h3:=hn.k3 (.inl c23);rw[zt1 c23]
  repeat rw[zt0 (show ¬ op=_ by omega)]
  rw[zt1 (.inl c23)];have hm:=zey (at2 l 1) (l.drop 2);split
  . grind
  have h2:2<l.length:=by have:=da c23;omega
  have:=hk 2 tO
  have:=hm.2 (at2 l 2) (by
   unfold at2;rw[zsQ h2]
   exact zv7.2 ⟨0,by rw[zuB];exact zsQ h2⟩)
  omega
 rw[zt0 c23];by_cases c25:op=25
 .
  have h3:=hn.k3 (.inr c25);rw[zt1 c25]
  repeat rw[zt0 (show ¬ op=_ by omega)]
  rw[zt1 (.inr c25)];have hm:=zey (at2 l 1) (l.drop 2);have db:=qC (lki ks 0) (show (0:Int)<=(ks.length:Int) - 2 by omega);obtain⟨j,hj⟩:∃ j:Nat,yt (lki ks 0) 0 ((ks.length:Int) - 2)=j:=ztN db.1;have dg:j+2<=l.length:=tO;rw[hj,show (1+(j:Int)).toNat=j+1 by omega];have:=hk (j+1) tO;by_cases h2:j=0
  . grind
  have:=hm.2 (at2 l (j+1)) (by
   unfold at2;rw[zsQ (show j+1<l.length by omega)]
   exact zv7.2 ⟨j - 1,by rw[zuB,show 2+(j - 1)=j+1 by omega];exact zsQ tO⟩)
  omega
 rw[zt0 c25];have hb:8<=op/\op<=22:=tO;have dh:=hn.k2 hb;have h0:=hk 0 tO;have h1:=hk 1 tO;have g0:=hg 0 tO;have g1:=hg 1 tO;generalize lki ks 0=x at *;generalize lki ks 1=y at *;generalize at2 l 0=r0 at *;generalize at2 l 1=r1 at *;by_cases c8:op=8
 . rw[zt1 c8,qg,zt1 c8];dsimp only;omega
 rw[zt0 c8];by_cases c9:op=9
 . rw[zt1 c9,qg,zt0 c8,zt1 c9];dsimp only;omega
 rw[zt0 c9];by_cases c10:op=10
 .
  rw[zt1 c10,qg,zt0 c8,zt0 c9,zt1 c10];have:=zir h0 h1;unfold jM xj
  grind
 rw[zt0 c10];by_cases c11:op=11
 .
  rw[zt1 c11,qg,zt0 c8,zt0 c9,zt0 c10,zt1 c11];have:=zkx x y tO;omega
 rw[zt0 c11];by_cases c12:op=12
 .
  rw[zt1 c12,qg,zt0 c8,zt0 c9,zt0 c10,zt0 c11,zt1 c12];have:=zcA x y;omega
 rw[zt0 c12];by_cases c21:op=21
 .
  rw[zt1 c21]
  have e:qg op x y=min x y:=by
   unfold qg;omega
  omega
 rw[zt0 c21];by_cases c22:op=22
 .
  rw[zt1 c22]
  have e:qg op x y=max x y:=by
   unfold qg;omega
  omega
 rw[zt0 c22,zt0 tO];have:=zis (a:=x) (b:=y) c8 c9 c10 c11 c12 c21 tO tO;dsimp only;omega
theorem zmp (hv:∀ v ∈ vs,xy (v.low,v.high)) (hV:InV vs vals) (t:Tm):zx vs inp t=true->∀ r,rng vs t=some r->r.1<=xH vals t/\xH vals t<=r.2:=by
 induction t using zqB with
 | h t ih =>
  intro hf r hr;rw[yN,ztz,ztz]at hf;rw[zbA,zw0]at hr;obtain⟨l,h1,h2⟩:=hr;have da:=qz _ _ h1
  have hn:NodeOk vs t.op t.n l:=jA da hf.1.1 hf.1.2 (fun x hx=>by
   obtain⟨k,hk,db⟩:=jN _ _ h1 x hx
   exact kM hv k (zX hf.2 hk) x db) hv
  have hY:=hf.1.1
  have hget:∀ (ks:List Tm) (m:List Rg),rngL vs ks=some m->∀ (i:Nat) k,ks[i]?=some k->rng vs k=some (at2 m i):=by
   intro ks;induction ks with
   | nil=>intro m _ i k h;simp at h
   | cons y ys ihy =>
    intro m hm i k hk;simp only[rngL,zw0,zw4]at hm;obtain⟨z,g1,u,g2,rfl⟩:=hm;cases i with
    | zero=>simp at hk;subst hk;simpa[at2] using g1
    | succ i=>simp at hk;have:=ihy u g2 i k hk;simpa[at2] using this
  have H:=zky (n:=t.n) (op:=t.op) (ks:=valL vals t.kids) (l:=l) hV hn (by rw[zdm,da]) (fun h=>by
    unfold zM at hY;rw[show zL t.op=3 by unfold zL;rw[h];rfl]at hY;simp at hY;omega) (by
    by_cases h:0<=zL t.op\/zL t.op=-2
    .
     unfold zL at h
     repeat' split at h
     all_goals omega
    .
     exfalso;have:=jL t.op;rw[zcu (.inl tO)]at hY
     grind) (fun i hi=>by
    obtain⟨k,hk⟩:∃ k,t.kids[i]?=some k:=iC;rw[zdn hk]
    exact ih k (zsR hk) (zX hf.2 (zsR hk)) _ (hget _ _ h1 i k hk))
  rw[zbQ];split at h2
  . grind
  cases h2
end Go.Proofs.YtckdhgbepmpgiaaGreat
namespace Go.GL
section
variable {ty:TypeId} {pos:String} {m j:Int}
theorem R.quo (hx:ev env x=some (.int .i64 m)) (hy:ev env y=some (.int .i64 j)) (hj:j ≠ 0) (hr:-9223372036854775808<m/\m<=9223372036854775807):yk P ⟨dst,.binOp .quo t x y t',ty,pos,aft,g⟩ env w (.int .i64 (m.tdiv j)) w:=by
 intro n a ha;have h1:(m.tdiv j).natAbs<=m.natAbs:=ztX m j;have h2:IntKind.i64.wrap (m.tdiv j)=m.tdiv j:=qi tO;simp[execOp,ha.eval hx,ha.eval hy,eqGuard_quo,binOp_quo,Op.intDiv,hj,h2]
theorem R.rem (hx:ev env x=some (.int .i64 m)) (hy:ev env y=some (.int .i64 j)) (hj:j ≠ 0) (_:-9223372036854775808<m/\m<=9223372036854775807):yk P ⟨dst,.binOp .rem t x y t',ty,pos,aft,g⟩ env w (.int .i64 (m.tmod j)) w:=by
 intro n a ha;simp[execOp,ha.eval hx,ha.eval hy,eqGuard_rem,binOp_rem,Op.intDiv,hj]
end
theorem zez (a b:Int) (hb:b ≠ 0):a.fdiv b=if a.tmod b ≠ 0/\(decide (a<0) ≠ decide (b<0)) then a.tdiv b - 1 else a.tdiv b:=by
 rw[Int.fdiv_eq_tdiv];have hd:b ∣ a ↔ a.tmod b=0:=⟨Int.tmod_eq_zero_of_dvd,Int.dvd_of_tmod_eq_zero⟩;by_cases h:b ∣ a
 . rw[zt1 h,zt0 (fun h2=>h2.1 (hd.1 h))];omega
 have hm:a.tmod b ≠ 0:=fun h2=>h (hd.2 h2);rw[zt0 h];by_cases ha:0<=a
 .
  rw[zt1 ha];by_cases hY:0<=b
  . rw[zt1 hY,zt0 (fun h2=>h2.2 (by rw[zt3 tO,zt3 tO]))];omega
  rw[zt0 hY,zt1 ⟨hm,by rw[zt3 tO,zt2 tO];decide⟩]
 rw[zt0 ha];by_cases hY:0<=b
 . rw[zt1 hY,zt1 ⟨hm,by rw[zt2 tO,zt3 tO];decide⟩,Int.sign_eq_one_of_pos tO]
 rw[zt0 hY,zt0 (fun h2=>h2.2 (by rw[zt2 tO,zt2 tO])),Int.sign_eq_neg_one_of_neg tO];omega
end Go.GL
namespace Go.Proofs.YtckdhgbepmpgiaaGreat
open Go.GL
abbrev zfl (a:Int):Prop := -1048576<=a/\a<=1048576
theorem kR (a b:Int) (w:World) (ha:zfl a) (hb:zfl b):Calls prog 170 #[.int .i64 a,.int .i64 b] w (Ret fun r w'=>r=.int .i64 (a.fdiv b)/\Ext w w'):=by
 refine zqr func170 O ntmps170 O (V.inn (Vs 12 O (zoC O (fun h0=>?_) (fun h0=>?_))))
 .
  subst h0;refine Vs 7 O (zr9 0 tr170 O O (by rw[Int.fdiv_zero]))
 have hd:=zez a b h0;have hq:(a.tdiv b).natAbs<=a.natAbs:=ztX a b;refine Vs 6 O (zqh O (fun w hI=>R.quo O O h0 tO) (Vs 8 O (zqh O (fun w hI=>R.rem O O h0 tO) (Vs 2 O (zq9 15 O (fun h1=>?_) (fun h1=>?_))))))
 .
  refine Vs 8 O (zoC O (fun h2=>?_) (fun h2=>?_))
  . refine Va 13 O tO (zr9 0 tr170 O O (by rw[hd,zt1 ⟨h1,h2⟩]))
  refine Vs 9 O (zr9 0 tr170 O O (by rw[hd,zt0 (fun h=>h2 h.2)]))
 refine Vs 18 O (zr9 0 tr170 O O (by rw[hd,zt0 (fun h=>h1 h.1)]))
theorem zaF (a b:Int) (w:World) (ha:zfl a) (hb:zfl b):Calls prog 205 #[.int .i64 a,.int .i64 b] w (Ret fun r w'=>r=.int .i64 (a.fdiv b)/\Ext w w'):=by
 refine zqr func205 O ntmps205 O (V.inn (Vs 12 O (zoC O (fun h0=>?_) (fun h0=>?_))))
 .
  subst h0;refine Vs 7 O (zr9 0 tr205 O O (by rw[Int.fdiv_zero]))
 have hd:=zez a b h0;have hq:(a.tdiv b).natAbs<=a.natAbs:=ztX a b;refine Vs 6 O (zqh O (fun w hI=>R.quo O O h0 tO) (Vs 8 O (zqh O (fun w hI=>R.rem O O h0 tO) (Vs 2 O (zq9 15 O (fun h1=>?_) (fun h1=>?_))))))
 .
  refine Vs 8 O (zoC O (fun h2=>?_) (fun h2=>?_))
  . refine Va 13 O tO (zr9 0 tr205 O O (by rw[hd,zt1 ⟨h1,h2⟩]))
  refine Vs 9 O (zr9 0 tr205 O O (by rw[hd,zt0 (fun h=>h2 h.2)]))
 refine Vs 18 O (zr9 0 tr205 O O (by rw[hd,zt0 (fun h=>h1 h.1)]))
theorem zcB (a b:Int) (hb:b ≠ 0):-(a.natAbs:Int) - b.natAbs<=b*a.fdiv b/\b*a.fdiv b<=(a.natAbs:Int)+b.natAbs:=by
 have h:=zcA a b;generalize b*a.fdiv b=q at *;omega
theorem zdo (a b:Int) (w:World) (ha:zfl a) (hb:zfl b):Calls prog 171 #[.int .i64 a,.int .i64 b] w (Ret fun r w'=>r=.int .i64 (if b=0 then 0 else a - b*a.fdiv b)/\Ext w w'):=by
 refine zqr func171 O ntmps171 O (V.inn (Vs 12 O (zoC O (fun h0=>?_) (fun h0=>?_))))
 . refine Vs 7 O (zr9 0 results171 O O (by rw[zt1 h0]))
 have hm:=zcB a b h0;refine Vs 8 O (zr2 call170 O (fun w hI=>kR a b w ha hb) (Va 6 O tO (zr9 0 results171 O O (by rw[zt0 h0]))))
theorem zeA (a b:Int) (w:World) (ha:zfl a) (hb:zfl b):Calls prog 206 #[.int .i64 a,.int .i64 b] w (Ret fun r w'=>r=.int .i64 (if b=0 then 0 else a - b*a.fdiv b)/\Ext w w'):=by
 refine zqr func206 O ntmps206 O (V.inn (Vs 12 O (zoC O (fun h0=>?_) (fun h0=>?_))))
 . refine Vs 7 O (zr9 0 results206 O O (by rw[zt1 h0]))
 have hm:=zcB a b h0;refine Vs 8 O (zr2 call205 O (fun w hI=>zaF a b w ha hb) (Va 6 O tO (zr9 0 results206 O O (by rw[zt0 h0]))))
theorem zdp (op a b:Int) (w:World) (ha:zfl a) (hb:zfl b):Calls prog 133 #[.int .i64 op,.int .i64 a,.int .i64 b] w (Ret fun r w'=>r=.int .i64 (qg op a b)/\Ext w w'):=by
 have hY:=zbz ha hb;refine zqs func133 O ntmps133 O (V.inn (Vs 18 O (zoC O (fun k1_=>?_) (fun k1_=>?_))))
 . refine Va 11 O tO (zr9 0 tr133 O O (by simp[qg,k1_]))
 refine Vs 6 O (zoC O (fun k2_=>?_) (fun k2_=>?_))
 . refine Va 11 O tO (zr9 0 tr133 O O (by simp[qg,k2_]))
 refine Vs 6 O (zoC O (fun k3_=>?_) (fun k3_=>?_))
 . refine Va 11 O tO (zr9 0 tr133 O O (by simp[qg,k3_]))
 refine Vs 6 O (zoC O (fun k4_=>?_) (fun k4_=>?_))
 . refine Vs 4 O (zr2 call170 O (fun w hI=>kR a b w ha hb) (Vs 6 O (zr9 0 tr133 O O (by simp[qg,k4_]))))
 refine Vs 6 O (zoC O (fun k5_=>?_) (fun k5_=>?_))
 . refine Vs 4 O (zr2 call171 O (fun w hI=>zdo a b w ha hb) (Vs 6 O (zr9 0 tr133 O O (by simp[qg,k5_]))))
 refine Vs 6 O (zoC O (fun k6_=>?_) (fun k6_=>?_))
 . refine Vs 5 O (zr2 tc131 O i3 (Vs 6 O (zr9 0 tr133 O O (by simp[qg,yJ,k6_]))))
 refine Vs 6 O (zoC O (fun k7_=>?_) (fun k7_=>?_))
 . refine Vs 5 O (zr2 tc131 O i3 (Vs 6 O (zr9 0 tr133 O O (by simp[qg,yJ,k7_]))))
 refine Vs 6 O (zoC O (fun k8_=>?_) (fun k8_=>?_))
 . refine Vs 5 O (zr2 tc131 O i3 (Vs 6 O (zr9 0 tr133 O O (by simp[qg,yJ,k8_]))))
 refine Vs 6 O (zoC O (fun k9_=>?_) (fun k9_=>?_))
 . refine Vs 5 O (zr2 tc131 O i3 (Vs 6 O (zr9 0 tr133 O O (by simp[qg,yJ,k9_]))))
 refine Vs 6 O (zoC O (fun k10_=>?_) (fun k10_=>?_))
 . refine Vs 5 O (zr2 tc131 O i3 (Vs 6 O (zr9 0 tr133 O O (by simp[qg,yJ,k10_]))))
 refine Vs 6 O (zoC O (fun k11_=>?_) (fun k11_=>?_))
 . refine Vs 5 O (zr2 tc131 O i3 (Vs 6 O (zr9 0 tr133 O O (by simp[qg,yJ,k11_]))))
 refine Vs 6 O (zoC O (fun k12_=>?_) (fun k12_=>?_))
 .
  refine Vs 5 O (zq9 73 O (fun k13_=>?_) (fun k13_=>?_))
  . refine Vs 3 O (zr2 tc131 O i3 (Vs 6 O (zr9 0 tr133 O O J4)))
  refine Vs 3 O (zr2 tc131 O i3 (Vs 6 O (zr9 0 tr133 O O J4)))
 refine Vs 6 O (zoC O (fun k13_=>?_) (fun k13_=>?_))
 .
  refine Vs 5 O (zq9 82 O (fun k14_=>?_) (fun k14_=>?_))
  . refine Vs 3 O (zr2 tc131 O i3 (Vs 6 O (zr9 0 tr133 O O J5)))
  refine Vs 3 O (zr2 tc131 O i3 (Vs 6 O (zr9 0 tr133 O O J5)))
 refine Vs 6 O (zoC O (fun k14_=>?_) (fun k14_=>?_))
 . refine Vs 11 O (zr9 0 tr133 O O (by simp[qg,k14_]))
 refine Vs 12 O (zr9 0 tr133 O O Jx)
theorem zeB (op a b:Int) (w:World) (ha:zfl a) (hb:zfl b):Calls prog 173 #[.int .i64 op,.int .i64 a,.int .i64 b] w (Ret fun r w'=>r=.int .i64 (qg op a b)/\Ext w w'):=by
 have hY:=zbz ha hb;refine zqs func173 O ntmps173 O (V.inn (Vs 18 O (zoC O (fun k1_=>?_) (fun k1_=>?_))))
 . refine Va 11 O tO (zr9 0 tr173 O O (by simp[qg,k1_]))
 refine Vs 6 O (zoC O (fun k2_=>?_) (fun k2_=>?_))
 . refine Va 11 O tO (zr9 0 tr173 O O (by simp[qg,k2_]))
 refine Vs 6 O (zoC O (fun k3_=>?_) (fun k3_=>?_))
 . refine Va 11 O tO (zr9 0 tr173 O O (by simp[qg,k3_]))
 refine Vs 6 O (zoC O (fun k4_=>?_) (fun k4_=>?_))
 . refine Vs 4 O (zr2 call205 O (fun w hI=>zaF a b w ha hb) (Vs 6 O (zr9 0 tr173 O O (by simp[qg,k4_]))))
 refine Vs 6 O (zoC O (fun k5_=>?_) (fun k5_=>?_))
 . refine Vs 4 O (zr2 call206 O (fun w hI=>zeA a b w ha hb) (Vs 6 O (zr9 0 tr173 O O (by simp[qg,k5_]))))
 refine Vs 6 O (zoC O (fun k6_=>?_) (fun k6_=>?_))
 . refine Vs 5 O (zr2 tc172 O iz (Vs 6 O (zr9 0 tr173 O O (by simp[qg,yJ,k6_]))))
 refine Vs 6 O (zoC O (fun k7_=>?_) (fun k7_=>?_))
 . refine Vs 5 O (zr2 tc172 O iz (Vs 6 O (zr9 0 tr173 O O (by simp[qg,yJ,k7_]))))
 refine Vs 6 O (zoC O (fun k8_=>?_) (fun k8_=>?_))
 . refine Vs 5 O (zr2 tc172 O iz (Vs 6 O (zr9 0 tr173 O O (by simp[qg,yJ,k8_]))))
 refine Vs 6 O (zoC O (fun k9_=>?_) (fun k9_=>?_))
 . refine Vs 5 O (zr2 tc172 O iz (Vs 6 O (zr9 0 tr173 O O (by simp[qg,yJ,k9_]))))
 refine Vs 6 O (zoC O (fun k10_=>?_) (fun k10_=>?_))
 . refine Vs 5 O (zr2 tc172 O iz (Vs 6 O (zr9 0 tr173 O O (by simp[qg,yJ,k10_]))))
 refine Vs 6 O (zoC O (fun k11_=>?_) (fun k11_=>?_))
 . refine Vs 5 O (zr2 tc172 O iz (Vs 6 O (zr9 0 tr173 O O (by simp[qg,yJ,k11_]))))
 refine Vs 6 O (zoC O (fun k12_=>?_) (fun k12_=>?_))
 .
  refine Vs 5 O (zq9 73 O (fun k13_=>?_) (fun k13_=>?_))
  . refine Vs 3 O (zr2 tc172 O iz (Vs 6 O (zr9 0 tr173 O O J4)))
  refine Vs 3 O (zr2 tc172 O iz (Vs 6 O (zr9 0 tr173 O O J4)))
 refine Vs 6 O (zoC O (fun k13_=>?_) (fun k13_=>?_))
 .
  refine Vs 5 O (zq9 82 O (fun k14_=>?_) (fun k14_=>?_))
  . refine Vs 3 O (zr2 tc172 O iz (Vs 6 O (zr9 0 tr173 O O J5)))
  refine Vs 3 O (zr2 tc172 O iz (Vs 6 O (zr9 0 tr173 O O J5)))
 refine Vs 6 O (zoC O (fun k14_=>?_) (fun k14_=>?_))
 . refine Vs 4 O (zr2 tc114 O (fun w hI=>zV a b w) (Vs 6 O (zr9 0 tr173 O O (by simp[qg,k14_]))))
 refine Vs 7 O (zr2 tc113 O (fun w hI=>zT a b w) (Vs 4 O (zr9 0 tr173 O O Jx)))
structure TmOk (vs:List Vr) (vals:List Int) (t:Tm):Prop where
 ops:t.op=0\/t.op=24\/t.op=6\/t.op=7\/8<=t.op/\t.op<=22\/t.op=23\/t.op=25
 k1:t.op=6\/t.op=7->t.kids.length=1
 k2:8<=t.op/\t.op<=22->t.kids.length=2
 k3:t.op=23->t.kids.length=3
 k25:t.op=25->2<=t.kids.length/\t.kids.length<=33
 var:t.op=24->0<=t.n/\t.n<vs.length
 self:zfl (xH vals t)
 kid:∀ k ∈ t.kids,zfl (xH vals k)
theorem zou (hv:∀ v ∈ vs,xy (v.low,v.high)) (hV:InV vs vals) {t:Tm} (hf:zx vs inp t=true) (hr:(rng vs t).isSome=true):TmOk vs vals t/\∀ k ∈ t.kids,zx vs inp k=true/\(rng vs k).isSome=true:=by
 obtain⟨r,hr⟩:=zw3.1 hr
 have dc:∀ k,zx vs inp k=true->∀ r,rng vs k=some r->zfl (xH vals k):=fun k h1 r h2=>by
  have h3:=zmp hv hV k h1 r h2;have h4:=kM hv k h1 r h2;unfold xy at h4;exact UZ
 have da:=dc t hf r hr;rw[yN,ztz,ztz]at hf;rw[zbA,zw0]at hr;obtain⟨l,h1,h2⟩:=hr;have hY:=qz _ _ h1
 have dg:∀ (ks:List Tm) (m:List Rg),rngL vs ks=some m->∀ k ∈ ks,(rng vs k).isSome=true:=by
  intro ks;induction ks with
  | nil=>intro m _ k h;simp at h
  | cons y ys ihy =>
   intro m hm k hk;simp only[rngL,zw0,zw4]at hm;obtain⟨z,g1,u,g2,rfl⟩:=hm;rcases zt6.1 hk with rfl | hk
   . rw[g1];rfl
   exact ihy u g2 k hk
 have db:∀ k ∈ t.kids,zx vs inp k=true/\(rng vs k).isSome=true:=fun k hk=>⟨zX hf.2 hk,dg _ _ h1 k hk⟩
 have hn:NodeOk vs t.op t.n l:=jA hY hf.1.1 hf.1.2 (fun x hx=>by
  obtain⟨k,hk,dh⟩:=jN _ _ h1 x hx
  exact kM hv k (zX hf.2 hk) x dh) hv
 refine⟨⟨?_,fun h=>by rw[<- hY];exact hn.k1 h,fun h=>by rw[<- hY];exact hn.k2 h,fun h=>?_,fun h=>by rw[<- hY];exact hn.k3 (.inr h),hn.var,da,fun k hk=>?_⟩,db⟩
 .
  by_cases h:0<=zL t.op\/zL t.op=-2
  .
   unfold zL at h
   repeat' split at h
   all_goals omega
  exfalso;have:=jL t.op;have h3:=hf.1.1;rw[zcu (.inl tO)]at h3;cases h3
 .
  have h3:=hf.1.1;unfold zM at h3;rw[show zL t.op=3 by unfold zL;rw[h];rfl]at h3;simp at h3;omega
 obtain⟨h3,h4⟩:=db k hk;obtain⟨r',h5⟩:=zw3.1 h4;exact dc k h3 r' h5
def zmq (vals:List Int) (k:Tm):Prop:=∀ (cs:List Value) (D Dv:Nat->Prop) (w:World) (vv:Value),SlR 1 zw Dv w vv vals->RTm D w k cs->Calls prog 90 #[vv,.agg cs.toArray] w (Ret fun r w'=>r=.int .i64 (xH vals k)/\Ext w w')
theorem kS (vals:List Int) (t:Tm) (ii:Int) (i:Nat) (dt:ii=(i:Int)) (k:Tm) (hk:t.kids[i]?=some k) (b2 b3:Nat) (vv kv:Value) (D Dv:Nat->Prop) (w:World) (du:Blk w b2 [vv] 27) (dw:Blk w b3 [.int .i64 t.op,.int .i64 t.n,kv] 70) (dg:SlR 3 RTm D w kv t.kids) (dx:SlR 1 zw Dv w vv vals) (ih:zmq vals k) :
  Calls prog 130 #[.int .i64 ii,.pointer (some ⟨b2,0,none⟩),.pointer (some ⟨b3,0,none⟩)] w (Ret fun r w'=>r=.int .i64 (xH vals k)/\Ext w w'):=by
 subst dt;have hi:=(zt4.1 hk).1;obtain⟨a3,c3,rfl⟩:=dg.form;refine zqs func130 O ntmps130 O (V.inn (V.fr 900 0 O O du.cells (V.fr 901 0 O O dw.cells (zqO 1 900 0 O O (zqO 2 901 0 O O (zri 1000 0 i tO dg O O O (fun k2 dy dz dA da dh db dc=>?_)))))));obtain⟨dl,rfl,hY⟩:=dc.get;obtain⟨dm,dr,rfl⟩:=hY.form;obtain rfl:k=k2:=Option.some.inj (hk.symm.trans da);refine Vs 6 O (Vw [900,901,1000] [] O (Vd [0,1,2,3] 0 tK O O O ?_));refine zqR 4 1000 tR68 ts70 O tK O db tO _ rfl O (Vd [5] 0 tK O O O (zr3 6 0 call90 O tK O O (fun w hI=>ih _ D Dv w _ (Tr1 hI.k0 dx) JB) (Vd [7] 0 tK O O O (VD.done tK (Vs 2 O (zr9 0 results130 O O rfl))))))
theorem zkz (hv:∀ v ∈ vs,xy (v.low,v.high)) (hV:InV vs vals) (t:Tm):zx vs inp t=true->(rng vs t).isSome=true->zmq vals t:=by
 induction t using zqB with
 | h t ih =>
 intro hf hr cs D Dv w vv da ht;obtain⟨ok,du⟩:=zou hv hV hf hr;have ihk:∀ k ∈ t.kids,zmq vals k:=fun k hk=>ih k hk (du k hk).1 (du k hk).2;obtain⟨kv,rfl,db⟩:=ht.get;obtain⟨a3,c3,rfl⟩:=db.form;obtain⟨av,cv,rfl⟩:=da.form;have dg:=zbQ vals t;have dz:=ok.ops
 have hget:∀ i:Nat,i<t.kids.length->∃ k,t.kids[i]?=some k/\lki (valL vals t.kids) i=xH vals k/\zfl (xH vals k):=fun i hi=>by
  obtain⟨k,hk⟩:∃ k,t.kids[i]?=some k:=⟨_,zsQ hi⟩;exact⟨k,hk,zdn hk,ok.kid k (zsR hk)⟩
 refine zqr func90 O ntmps90 O (V.inn (Vs 2 O (V.box 2 O O (fun b2=>?_))));refine V.box 3 O O (fun b3=>(Vs 23 O (zoC O (fun c0=>?_) (fun c0=>?_))))
 . refine Vs 10 O (zoT tr90 O (fun w hI=>⟨_,rfl,by rw[dg];simp[qs,c0],hI.k0⟩))
 refine Vs 6 O (zoC O (fun c24=>?_) (fun c24=>?_))
 .
  have hn:=ok.var c24;have dD:=hV.len;refine zrj 1000 0 t.n.toNat tO da O O (fun x dE dF dm dA dr=>(Vs 5 O (zqQ 1000 tR27 ts3 O dr tO (t.n.toNat) tO O (Vs 7 O (zoT tr90 O (fun w hI=>⟨_,rfl,by rw[dg];simp[qs,c24,lki,dm],hI.k0⟩))))))
 refine Vs 6 O (zoC O (fun c6=>?_) (fun c6=>?_))
 .
  have h1:=ok.k1 (.inl c6);obtain⟨k0,hY,dc,dh⟩:=hget 0 tO;refine Vs 3 O (zrI tc130 O (fun w hI=>kS vals t 0 0 O k0 hY b2 b3 _ _ D Dv w (hI.at 2 O) (hI.at 3 O) io iV (ihk k0 (zsR hY))) (Va 7 O tO (zoT tr90 O (fun w hI=>⟨_,rfl,by rw[dg];simp[qs,c6,dc],hI.k0⟩))))
 refine Vs 6 O (zoC O (fun c7=>?_) (fun c7=>?_))
 .
  have h1:=ok.k1 (.inr c7);obtain⟨k0,hY,dc,dh⟩:=hget 0 tO;refine Vs 3 O (zrI tc130 O (fun w hI=>kS vals t 0 0 O k0 hY b2 b3 _ _ D Dv w (hI.at 2 O) (hI.at 3 O) io iV (ihk k0 (zsR hY))) (Vs 1 O (zr2 tc131 O i3 (Vs 6 O (zoT tr90 O (fun w hI=>⟨_,rfl,by rw[dg,qs,zt0 c0,zt0 c24,zt0 c6,zt1 c7,dc];rfl,hI.k0⟩))))))
 refine Vs 6 O (zoC O (fun c23=>?_) (fun c23=>?_))
 .
  have h1:=ok.k3 c23;obtain⟨k0,hY,dc,dh⟩:=hget 0 tO;obtain⟨k1,dl,dt,dw⟩:=hget 1 tO;obtain⟨k2,dx,dB,dG⟩:=hget 2 tO;refine Vs 4 O (zrI tc130 O (fun w hI=>kS vals t 0 0 O k0 hY b2 b3 _ _ D Dv w (hI.at 2 O) (hI.at 3 O) io iV (ihk k0 (zsR hY))) (Vs 3 O (zoC O (fun z=>?_) (fun z=>?_))))
  . refine Vs 3 O (zrI tc130 O (fun w hI=>kS vals t 1 1 O k1 dl b2 b3 _ _ D Dv w (hI.at 2 O) (hI.at 3 O) io iV (ihk k1 (zsR dl))) (Vs 7 O (zoT tr90 O (fun w hI=>⟨_,rfl,by rw[dg];simp[qs,c23,dc,z,dt],hI.k0⟩))))
  refine Vs 5 O (zrI tc130 O (fun w hI=>kS vals t 2 2 O k2 dx b2 b3 _ _ D Dv w (hI.at 2 O) (hI.at 3 O) io iV (ihk k2 (zsR dx))) (Vs 6 O (zoT tr90 O (fun w hI=>⟨_,rfl,by rw[dg];simp[qs,c23,dc,z,dB],hI.k0⟩))))
 refine Vs 6 O (zoC O (fun c25=>?_) (fun c25=>?_))
 .
  have h1:=ok.k25 c25;obtain⟨k0,hY,dc,dh⟩:=hget 0 tO;have dH:=qC (xH vals k0) (show (0:Int)<=(t.kids.length:Int) - 2 by omega);obtain⟨kj,dy,dC,dI⟩:=hget (1+yt (xH vals k0) 0 ((t.kids.length:Int) - 2)).toNat tO;refine Vs 1 O (Vw [2,3] [] O (Vb [0,1,3,4,5,6] 0 tK O O O tO (zrJ 2 0 tc130 O tK O O (fun w hI=>kS vals t 0 0 O k0 hY b2 b3 _ _ D Dv w (hI.at 2 O) (hI.at 3 O) io iV (ihk k0 (zsR hY))) (zr3 7 0 call132 O tK O O (fun w hI=>zeh _ _ _ w tO) (Vb [8] 0 tK O O O tO (zrJ 9 0 tc130 O tK O O (fun w hI=>kS vals t (1+yt (xH vals k0) 0 ((t.kids.length:Int) - 2)) _ tO kj dy b2 b3 _ _ D Dv w (hI.at 2 O) (hI.at 3 O) io iV (ihk kj (zsR dy))) ?_))))));refine Vd [10] 0 tK O O O (VD.done tK (Vs 4 O (zoT tr90 O (fun w hI=>⟨_,rfl,by rw[dg,qs,zt0 c0,zt0 c24,zt0 c6,zt0 c7,zt0 c23,zt1 c25,dc,zdm,dC],hI.k0⟩))))
 have h1:=ok.k2 tO;obtain⟨k0,hY,dc,dh⟩:=hget 0 tO;obtain⟨k1,dl,dt,dw⟩:=hget 1 tO;refine Vs 4 O (Vw [2,3] [] O (Vd [0,1,2,4] 0 tK O O O (zrJ 3 0 tc130 O tK O O (fun w hI=>kS vals t 0 0 O k0 hY b2 b3 _ _ D Dv w (hI.at 2 O) (hI.at 3 O) io iV (ihk k0 (zsR hY))) (zrJ 5 0 tc130 O tK O O (fun w hI=>kS vals t 1 1 O k1 dl b2 b3 _ _ D Dv w (hI.at 2 O) (hI.at 3 O) io iV (ihk k1 (zsR dl))) (zr3 6 0 call133 O tK O O (fun w hI=>zdp _ _ _ w dh dw) ?_)))));refine Vd [7] 0 tK O O O (VD.done tK (Vs 2 O (zoT tr90 O (fun w hI=>⟨_,rfl,by rw[dg,qs,zt0 c0,zt0 c24,zt0 c6,zt0 c7,zt0 c23,zt0 c25,dc,dt],hI.k0⟩))))
end Go.Proofs.YtckdhgbepmpgiaaGreat
