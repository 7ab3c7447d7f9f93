/-
  Contracts and the mathematics that the proof needs. Nothing here is a claim.
-/
import Derived.Test.YtckdhgbepmpgiaaGreatKV3
theorem iD {p:Prop}(h:p:=by exact congrArg some tK):p:=h
theorem ik {p:Prop}(h:p:=by exact zpo tr94 O O (fun w hI=>⟨_,rfl,⟨_,rfl,fun _=>rfl,fun h=>tO⟩,hI.k0⟩)):p:=h
theorem iu {p:Prop}(h:p:=by exact show k=1\/k=2\/k=3 by omega):p:=h
theorem iw {p:Prop}(h:p:=by exact VD.skip 35 0 O tK O O (Vd [36,37,38,39,40,41,42,43,44,45,46] 0 tK O O O (VD.done tK (Vs 14 O (zpl tr78 O (fun w hI=>⟨_,rfl,⟨_,rfl,dl p hY fun h=>c3 h.ver⟩,hI.k0⟩)))))):p:=h
theorem i4 {p:Prop}(h:p:=by exact Tr1 hI.k0 hf.vars):p:=h
theorem i5 {p:Prop}(h:p:=by exact Tr1 hI.k0 hf):p:=h
theorem y7 {p:Prop}(h:p:=by exact fun b hb _ hs=>by have:=hY b hs;omega):p:=h
theorem JM {p:Prop}(h:p:=by exact VD.done tK (Vs 14 O (zpl tr78 O (fun w hI=>⟨_,rfl,⟨_,rfl,dl p hY fun h=>c4 (by rw[dC];exact h.frm)⟩,hI.k0⟩)))):p:=h
theorem JQ {p:Prop}(h:p:=by exact Tr1 hI.k0 du):p:=h
theorem JY {p:Prop}(h:p:=by exact xj _ _ O):p:=h
theorem Jc {p:Prop}(h:p:=by exact fun w hI=>zcd f g s p.ver p.var b gb _ _ _ _ D D' w (Tr1 hI.k0 hc) (Tr1 hI.k0 dz) (Tr1 hI.k0 hG)):p:=h
theorem Jg {p:Prop}(h:p:=by exact zpl tr78 O (fun w hI=>⟨_,rfl,⟨_,rfl,dl p hY fun h=>c5 (by have:=h.len;omega)⟩,hI.k0⟩)):p:=h
theorem Jh {p:Prop}(h:p:=by exact ⟨dw,by rw[dm,hx],by rw[<- hx];exact da,dx,dx⟩):p:=h
theorem Jk {p:Prop}(h:p:=by exact fun q _ h=>by rw[h];rfl):p:=h
theorem Js {p:Prop}(h:p:=by exact zpl tr78 O (fun w hI=>⟨_,rfl,⟨_,rfl,dl p hY fun h=>c6 (h.args a dw)⟩,hI.k0⟩)):p:=h
theorem Jy {p:Prop}(h:p:=by exact ⟨_,rfl,by rw[dr];exact zj hY db (fun _ _ h=>h),rfl,db.mono (fun _ _ h=>h.elim)⟩):p:=h
theorem J8 {p:Prop}(h:p:=by exact ⟨dI,rfl,ztM _,tO,tO,tO,dK.symm,rfl,(db.ext du).mono (fun _ _ h=>h.elim)⟩):p:=h
theorem UB {p:Prop}(h:p:=by exact fun w hI=>zgS f s a p.var b gb _ _ _ _ D w (Tr1 hI.k0 hc) (Tr1 hI.k0 dz)):p:=h
theorem UC {p:Prop}(h:p:=by exact ⟨c3,tD,tO,fun a ha=>by obtain⟨q,hq⟩:=zvH.1 ha;exact zaa db q a hq⟩):p:=h
theorem Ue {p:Prop}(h:p:=by exact V.del 900 O (V.dat 900 0 O O O (dg) (db) (V.del 901 O (V.dat 901 0 O O O (dt) (db) (V.back ⟨i+1,_,p1',q1',p2',q2',_,_⟩ j2 j3 Jh tZ 1 O O))))):p:=h
open Go.Proofs.Tryz
variable {α β:Type} {vs:List Go.GL.Vr} {vals hs vl:List Int} {l:List α} {i nh m a b j nv d kk fuel q N d2:Nat} {r:Go.GL.Ins} {k v y:Int} {f:Go.GL.Fl} {g:List Go.GL.Nd} {x:Go.GL.Nd} {r1 r2:Int->Int} {B C:Nat->Int->Int} {w w':Go.World} {e ty2:Go.TypeId} {P:Go.Program} {Q:Go.Exit->Go.Act->Go.World->Prop} {ks:List Go.GL.Fr} {env:Go.GL.Env} {A:Go.GL.Tgs} {H Hs:Go.GL.Hp} {Bs B0:Go.GL.zq} {ops:Array Go.Oper} {rest:List Go.Oper} {aft aft2:Array Go.Edge} {e' e2:Go.GL.HE} {R:Go.GL.Rel α} {F D' D:Nat->Prop} {cs rv:List Go.Value} {z u1 u2 u:Go.Value} {L:List Nat} {listed:Array Bool} {ps2:String} {rows:List (List Int)} {enc:α->Go.Value}
namespace Go.Proofs.YtckdhgbepmpgiaaGreat
open Go.GL
theorem zc6 (hg:∀ v ∈ vs,yT (v.low,v.high)) (hV:InV vs vals) (t:Tm) (hf:zA vs false t=true) (hr:(rng vs t).isSome=true) (dw:t.nodes<=1000000) (cs:List Value) (D Dv Dl:Nat->Prop) (w:World) (vv lv:Value) (hY:SlR 5 RVr Dv w vv vs) (dg:SlR 1 zv Dl w lv vals) (ht:RTm D w t cs) :
  Calls prog 45 #[vv,lv,.agg cs.toArray] w (Ret fun r w'=>r=.tuple #[.int .i64 (xK vals t),.int .i64 0]/\Ext w w'):=by
 have dC:=hV.len;have dD:=ht.one;obtain⟨kv,rfl,db⟩:=ht.get;obtain⟨a3,c3,rfl⟩:=db.form;obtain⟨av,cv,rfl⟩:=hY.form;obtain⟨al,cl,rfl⟩:=dg.form;have dE:=hY.max;refine zqS func45 O ntmps45 O (V.inn (Vs 2 O (V.box 5 O O (fun b5=>?_))));refine Vs 13 O (V.sp 17 O (fun dx=>?_) (fun dx=>?_))
 . omega
 refine Vs 2 O (zrs call87 O (fun w hI=>kU vs false _ Dv t _ D w iy U2) ?_);rw[hf];refine zqH O (fun w hI=>zqi O j6) (Vs 3 O (V.bool O (fun hx=>?_) (fun hx=>?_)))
 . cases hx
 refine Vs 11 O (zrM (σ:=Nat) [0,1,5,23,24] [5] [5] O (fun e i=>(25,.int .i64 i)::e) (fun e i=>e) (fun i=>i<=vs.length) (fun i=>vs.length - i) 0 j2 j3 j1 j1 j1 (ztC _) ?_);rintro i hi;refine Vs 6 O (zp4 O (fun dF=>?_) (fun dG=>?_))
 .
  refine Vs 7 O (zrI 1000 0 i tO hY O O O (fun x dH dI dJ dh dl dm dr=>?_));obtain rfl:=dr;refine zrg 1000 tR22 ts142 O dm tO _ rfl O ?_;have dc:=hg x dl;have dy:zb9 x.low x.high=true:=by unfold yT at dc;unfold zb9;exact ztz ⟨dc.2.1,dc.1,dc.2.2⟩
  have dK:=hV.at_ i x dh;refine zrJ 2000 0 i tO dg O O (fun y dL dM dt dz da=>?_);have hy:lki vals i=y:=by unfold lki;rw[dt];rfl
  refine Vs 1 O (V.alloc 9 tz142 O O (fun b9=>?_));refine Vs 5 O (Vw [5,1000,2000,9] [] O (Vd [0,1,2,3] 0 tK O O O (zrt 4 0 call88 O tK O O (fun w hI=>qN x.low x.high w) ?_)));rw[dy];refine zqI 5 0 O tK O O (fun w hI=>R.not O) (Vd [6] 0 tK O O O (VD.sb 36 O (fun n3=>?_) (fun n3=>?_)))
  . cases n3
  refine Vd [7,8,11,12] 0 tK O O O ?_;refine zrh 9 2000 tR27 ts3 O tK O da tO _ rfl O (Vd [10,13,14,15] 0 tK O O O (VD.sp 45 O (fun n4=>?_) (fun n4=>?_)))
  . exact absurd n4 tO
  refine Vd [16,17,20,21] 0 tK O O O ?_;refine zrh 18 2000 tR27 ts3 O tK O da tO _ rfl O (Vd [19,22,23] 0 tK O O O (VD.done tK (Vs 1 O (zp4 O (fun n5=>?_) (fun n5=>?_)))))
  . exact absurd n5 tO
  refine Va 7 O tO (V.back (i+1) j2 j3 tO tO 0 O O)
 refine Vs 10 O (zru call89 O (fun w hI=>zeF vs false _ Dv hg t _ D w iy U2 hf dw) ?_);rintro r w1 w2 dN dA ⟨a,b',rfl,dO⟩ dB;rw[hr];refine Vs 3 O (V.alloc 10 tz159 O O (fun b10=>?_));refine Vs 7 O (zqH O (fun w hI=>zqi O j6) (Vs 2 O (V.bool O (fun du=>?_) (fun du=>?_))))
 . cases du
 refine Vs 6 O (zrs call90 O (fun w hI=>zkX hg hV t hf hr _ D Dl w _ (Tr1 hI.k1 dg) (RTm.put (Tr1 hI.k1 db))) (Vs 5 O (zpo results45 O O (fun w hI=>⟨_,rfl,rfl,hI.k1⟩))))
def yh (time:Int) (s:Int × Bool) (b:Int):Int × Bool:=if time<=b/\(s.2=false\/b<s.1) then (b,true) else s
def qv (bounds:List Int) (time:Int):Int:=(bounds.foldl (yh time) (time,false)).1
theorem zcU (f:β->α->β) (b:β) {x:α} (h:l[i]?=some x):(l.take (i+1)).foldl f b=f ((l.take i).foldl f b) x:=by rw[ze h,zv8];rfl
theorem zcA (l:List Int) (time:Int) (v:Value) (D:Nat->Prop) (w:World) (hl:SlR 1 zv D w v l):Calls prog 134 #[v,.int .i64 time] w (Ret fun r w'=>r=.int .i64 (qv l time)/\Ext w w'):=by
 have dg:=hl.max;obtain⟨al,cl,rfl⟩:=hl.form;refine zqR func134 O ntmps134 O (V.inn (Vs 21 O (zrM (σ:=Nat × Int × Bool) [1,10,11] [] [] O (fun e ⟨i,b,fd⟩=>(5,.int .i64 b)::(6,.bool fd)::(12,.int .i64 i)::e) (fun e ⟨i,b,fd⟩=>e) (fun⟨i,b,fd⟩=>i<=l.length/\(b,fd)=(l.take i).foldl (yh time) (time,false)) (fun⟨i,b,fd⟩=>l.length - i) (0,time,false) j2 j3 j1 j1 j1 y8 ?_)));rintro⟨i,b,fd⟩ ⟨hi,hs⟩;refine Vs 6 O (zp4 O (fun dh=>?_) (fun dl=>?_))
 .
  refine Vs 6 O (zrJ 1000 0 i tO hl O O (fun x dm dr hY dc da=>?_));refine zrg 1000 tR27 ts3 O da tO _ rfl O ?_;have db:=zcU (yh time) (time,false) hY;rw[<- hs,show yh time (b,fd) x=if time<=x/\(fd=false\/x<b) then (x,true) else (b,fd) from rfl]at db;refine Vs 10 O (V.sp 19 O (fun h1=>?_) (fun h1=>?_))
  .
   refine Vs 1 O (zqH O (fun w hI=>zqi O j6) (Vs 1 O (zqB 22 O (fun h2=>?_) (fun h2=>?_))))
   . refine Va 19 O tO (V.back ⟨i+1,x,true⟩ j2 j3 ⟨tO,by rw[db,zty ⟨h1,.inl (by simpa using h2)⟩]⟩ tD 0 O O)
   have dt:fd=true:=by simpa using h2
   refine Vs 7 O (zp4 O (fun h3=>?_) (fun h3=>?_))
   . refine Va 11 O tO (V.back ⟨i+1,x,true⟩ j2 j3 Jn tD 0 O O)
   refine Va 7 O tO (V.back ⟨i+1,b,fd⟩ j2 j3 Jn tD 0 O O)
  refine Va 18 O tO (V.back ⟨i+1,b,fd⟩ j2 j3 Jn tD 0 O O)
 obtain rfl:i=l.length:=tO;rw[zts]at hs;refine Vs 12 O (zrz 0 results134 O O (by rw[qv,<- hs]))
theorem zdI (l:List Int) (time:Int) (v:Value) (D:Nat->Prop) (w:World) (hl:SlR 1 zv D w v l):Calls prog 139 #[v,.int .i64 time] w (Ret fun r w'=>r=.int .i64 (qv l time)/\Ext w w'):=by
 have dg:=hl.max;obtain⟨al,cl,rfl⟩:=hl.form;refine zqR func139 O ntmps139 O (V.inn (Vs 19 O (zrM (σ:=Nat × Int × Bool) [0,1] [] [] O (fun e ⟨i,b,fd⟩=>(5,.int .i64 b)::(6,.bool fd)::(7,.int .i64 i)::e) (fun e ⟨i,b,fd⟩=>e) (fun⟨i,b,fd⟩=>i<=l.length/\(b,fd)=(l.take i).foldl (yh time) (time,false)) (fun⟨i,b,fd⟩=>l.length - i) (0,time,false) j2 j3 j1 j1 j1 y8 ?_)));rintro⟨i,b,fd⟩ ⟨hi,hs⟩;refine Vs 9 O (zp4 O (fun dh=>?_) (fun dl=>?_))
 .
  refine Vs 8 O (zrJ 1000 0 i tO hl O O (fun x dm dr da dc hY=>?_));refine zrg 1000 tR27 ts3 O hY tO _ rfl O ?_;have db:=zcU (yh time) (time,false) da;rw[<- hs,show yh time (b,fd) x=if time<=x/\(fd=false\/x<b) then (x,true) else (b,fd) from rfl]at db;refine Vs 4 O (V.sp 21 O (fun h1=>?_) (fun h1=>?_))
  .
   refine Vs 1 O (zqH O (fun w hI=>zqi O j6) (Vs 1 O (zqB 24 O (fun h2=>?_) (fun h2=>?_))))
   .
    refine Vs 14 O ?_;refine zrg 1000 tR27 ts3 O hY tO _ rfl O (Va 11 O tO (V.back ⟨i+1,x,true⟩ j2 j3 ⟨tO,by rw[db,zty ⟨h1,.inl (by simpa using h2)⟩]⟩ tD 0 O O))
   have dt:fd=true:=by simpa using h2
   refine Vs 2 O ?_;refine zrg 1000 tR27 ts3 O hY tO _ rfl O (Vs 7 O (zp4 O (fun h3=>?_) (fun h3=>?_)))
   .
    refine Vs 3 O ?_;refine zrg 1000 tR27 ts3 O hY tO _ rfl O (Va 11 O tO (V.back ⟨i+1,x,true⟩ j2 j3 Jn tD 0 O O))
   refine Va 8 O tO (V.back ⟨i+1,b,fd⟩ j2 j3 Jn tD 0 O O)
  refine Va 22 O tO (V.back ⟨i+1,b,fd⟩ j2 j3 Jn tD 0 O O)
 obtain rfl:i=l.length:=tO;rw[zts]at hs;refine Vs 12 O (zrz 0 results139 O O (by rw[qv,<- hs]))
def zmu (vals:List Int) (k:Tm):Prop:=∀ (cs:List Value) (D Dv:Nat->Prop) (w:World) (vv:Value),SlR 1 zv Dv w vv vals->RTm D w k cs->Calls prog 138 #[vv,.agg cs.toArray] w (Ret fun r w'=>r=.int .i64 (xK vals k)/\Ext w w')
theorem qw {inp:Bool} (hv:∀ v ∈ vs,yT (v.low,v.high)) (hV:InV vs vals) (t:Tm):zA vs inp t=true->(rng vs t).isSome=true->zmu vals t:=by
 induction t using zr1 with
 | h t ih =>
 intro hf hr cs D Dv w vv du ht;obtain⟨ok,dZ⟩:=zoU hv hV hf hr;have ihk:∀ k ∈ t.kids,zmu vals k:=fun k hk=>ih k hk (dZ k hk).1 (dZ k hk).2;obtain⟨kv,rfl,dz⟩:=ht.get;obtain⟨a3,c3,rfl⟩:=dz.form;obtain⟨av,cv,rfl⟩:=du.form;have dE:=zc5 vals t;have ed:=ok.ops;have hget:∀ {i:Nat} {k:Tm},t.kids[i]?=some k->lki (valL vals t.kids) i=xK vals k:=fun h=>zdF h;refine zqR func138 O ntmps138 O (V.inn (Vs 2 O (V.box 3 O O (fun b3=>?_))));refine Vs 17 O (zp4 O (fun c0=>?_) (fun c0=>?_))
 . refine Vs 10 O (zpl tr138 O (fun w hI=>⟨_,rfl,by rw[dE];simp[qB,c0],hI.k0⟩))
 refine Vs 6 O (zp4 O (fun c24=>?_) (fun c24=>?_))
 .
  have hn:=ok.var c24;have eA:=hV.len;refine zrJ 1000 0 t.n.toNat tO du O O (fun x eC eD dT ee dU=>(Vs 5 O (zrg 1000 tR27 ts3 O dU tO (t.n.toNat) tO O (Vs 7 O (zpl tr138 O (fun w hI=>⟨_,rfl,by rw[dE];simp[qB,c24,lki,dT],hI.k0⟩))))))
 refine Vs 6 O (zp4 O (fun c6=>?_) (fun c6=>?_))
 .
  have h1:=ok.k1 (.inl c6);refine zrI 2000 0 0 tO dz O O O (fun k0 dB dC dD db da dc dg=>?_);obtain⟨dl,rfl,hY⟩:=dg.get;obtain⟨dm,dr,rfl⟩:=hY.form;have dA:=hget db;have d5:=ok.kid k0 da;refine Vs 5 O ?_;refine zrg 2000 tR68 ts70 O dc tO _ rfl O (Vs 1 O (zrs tc138 O (fun w hI=>ihk k0 da _ D Dv w _ JQ U3) (Va 7 O tO (zpl tr138 O (fun w hI=>⟨_,rfl,by rw[dE];simp[qB,c6,dA],hI.k0⟩)))))
 refine Vs 6 O (zp4 O (fun c7=>?_) (fun c7=>?_))
 .
  have h1:=ok.k1 (.inr c7);refine zrI 3000 0 0 tO dz O O O (fun k0 dB dC dD db da dc dg=>?_);obtain⟨dl,rfl,hY⟩:=dg.get;obtain⟨dm,dr,rfl⟩:=hY.form;have dA:=hget db;refine Vs 5 O ?_;refine zrg 3000 tR68 ts70 O dc tO _ rfl O (Vs 1 O (zrs tc138 O (fun w hI=>ihk k0 da _ D Dv w _ JQ U3) (Vs 1 O (zrs tc172 O i7 (Vs 6 O (zpl tr138 O (fun w hI=>⟨_,rfl,by rw[dE,qB,ztx c0,ztx c24,ztx c6,zty c7,dA];rfl,hI.k0⟩)))))))
 refine Vs 6 O (zp4 O (fun c23=>?_) (fun c23=>?_))
 .
  have h1:=ok.k3 c23;refine zrI 4000 0 0 tO dz O O O (fun k0 dB dC dD db da dc dg=>?_);obtain⟨dl,rfl,hY⟩:=dg.get;obtain⟨dm,dr,rfl⟩:=hY.form;have dA:=hget db;refine zrI 5000 0 1 tO dz O O O (fun k1 dV dW dX dw dt dx dy=>?_);obtain⟨dH,rfl,dh⟩:=dy.get;obtain⟨dI,dJ,rfl⟩:=dh.form;have dY:=hget dw;refine zrI 6000 0 2 tO dz O O O (fun k2 ef eh ei dK dL dM dN=>?_);obtain⟨d6,rfl,dF⟩:=dN.get;obtain⟨d7,d8,rfl⟩:=dF.form;have ej:=hget dK;refine Vs 6 O ?_;refine zrg 4000 tR68 ts70 O dc tO _ rfl O (Vs 1 O (zrs tc138 O (fun w hI=>ihk k0 da _ D Dv w _ JQ U3) (Vs 3 O (zp4 O (fun z=>?_) (fun z=>?_)))))
  .
   refine Vs 5 O ?_;refine zrg 5000 tR68 ts70 O dx tO _ rfl O (Vs 1 O (zrs tc138 O (fun w hI=>ihk k1 dt _ D Dv w _ JQ (RTm.put im)) (Vs 7 O (zpl tr138 O (fun w hI=>⟨_,rfl,by rw[dE];simp[qB,c23,dA,z,dY],hI.k0⟩)))))
  refine Vs 7 O ?_;refine zrg 6000 tR68 ts70 O dM tO _ rfl O (Vs 1 O (zrs tc138 O (fun w hI=>ihk k2 dL _ D Dv w _ JQ (RTm.put (Tr1 hI.k0 dF))) (Vs 6 O (zpl tr138 O (fun w hI=>⟨_,rfl,by rw[dE];simp[qB,c23,dA,z,ej],hI.k0⟩)))))
 refine Vs 6 O (zp4 O (fun c25=>?_) (fun c25=>?_))
 .
  have h1:=ok.k25 c25;refine zrI 7000 0 0 tO dz O O O (fun k0 dB dC dD db da dc dg=>?_);obtain⟨dl,rfl,hY⟩:=dg.get;obtain⟨dm,dr,rfl⟩:=hY.form;have dA:=hget db;have eE:=qJ (xK vals k0) (show (0:Int)<=(t.kids.length:Int) - 2 by omega);refine zrI 8000 0 ((1+yA (xK vals k0) 0 ((t.kids.length:Int) - 2)).toNat) tO dz O O O (fun kj ek em er dO dQ dR dS=>?_);obtain⟨d9,rfl,dG⟩:=dS.get;obtain⟨eb,ec,rfl⟩:=dG.form;have ew:=hget dO;refine Vs 1 O (Vw [3,7000,8000] [] O (Vb [0,1,2,3,4,5,9,10,11,12] 0 tK O O O tO ?_));refine zrh 6 7000 tR68 ts70 O tK O dc tO _ rfl O (Vd [7] 0 tK O O O (zrt 8 0 tc138 O tK O O (fun w hI=>ihk k0 da _ D Dv w _ JQ U3) (zrt 13 0 call140 O tK O O (fun w hI=>zaq _ _ _ w) (Vb [14] 0 tK O O O tO (zrh 15 8000 tR68 ts70 O tK O dR tO ((1+yA (xK vals k0) 0 ((t.kids.length:Int) - 2)).toNat) tO O ?_)))));refine Vd [16] 0 tK O O O (zrt 17 0 tc138 O tK O O (fun w hI=>ihk kj dQ _ D Dv w _ JQ (RTm.put (Tr1 hI.k0 dG))) (Vd [18] 0 tK O O O (VD.done tK (Vs 4 O (zpl tr138 O (fun w hI=>⟨_,rfl,by rw[dE,qB,ztx c0,ztx c24,ztx c6,ztx c7,ztx c23,zty c25,dA,zdE,ew],hI.k0⟩))))))
 have h1:=ok.k2 tO;refine zrI 9000 0 0 tO dz O O O (fun k0 dB dC dD db da dc dg=>?_);obtain⟨dl,rfl,hY⟩:=dg.get;obtain⟨dm,dr,rfl⟩:=hY.form;have dA:=hget db;refine zrI 10000 0 1 tO dz O O O (fun k1 dV dW dX dw dt dx dy=>?_);obtain⟨dH,rfl,dh⟩:=dy.get;obtain⟨dI,dJ,rfl⟩:=dh.form;have dY:=hget dw;have d5:=ok.kid k0 da;have ez:=ok.kid k1 dt;refine Vs 4 O (Vw [3,9000,10000] [] O (Vd [0,1,2,3,4,8,9,10] 0 tK O O O ?_));refine zrh 5 9000 tR68 ts70 O tK O dc tO _ rfl O (Vd [6] 0 tK O O O ?_);refine zrh 11 10000 tR68 ts70 O tK O dx tO _ rfl O (Vd [12] 0 tK O O O (zrt 7 0 tc138 O tK O O (fun w hI=>ihk k0 da _ D Dv w _ JQ U3) (zrt 13 0 tc138 O tK O O (fun w hI=>ihk k1 dt _ D Dv w _ JQ (RTm.put im)) (zrt 14 0 call173 O tK O O (fun w hI=>zeS _ _ _ w d5 ez) (Vd [15] 0 tK O O O (VD.done tK (Vs 2 O ?_)))))));refine zpl tr138 O (fun w hI=>⟨_,rfl,by rw[dE,qB,ztx c0,ztx c24,ztx c6,ztx c7,ztx c23,ztx c25,dA,dY],hI.k0⟩)
end Go.Proofs.YtckdhgbepmpgiaaGreat
namespace Go.GL
def yR (r:Ins) (k:Int):List Int:=if k=1 then r.secret else if k=2 then r.pub else r.random
structure StS where
 vals:List Int
 a:Nat
 b:Nat
 c:Nat
def jB (s:StS) (k:Int):Nat:=if k=1 then s.a else if k=2 then s.b else s.c
def za2 (s:StS) (k:Int) (n:Int):StS:=if k=1 then ⟨s.vals++[n],s.a+1,s.b,s.c⟩ else if k=2 then ⟨s.vals++[n],s.a,s.b+1,s.c⟩ else ⟨s.vals++[n],s.a,s.b,s.c+1⟩
def zo (r:Ins) (o:Option StS) (v:Vr):Option StS:=o.bind fun s=>if v.kind=0 then some { s with vals:=s.vals++[v.init] } else ((yR r v.kind)[jB s v.kind]?).map fun n=>za2 s v.kind n
def kr (vs:List Vr) (r:Ins):Option StS:=vs.foldl (zo r) (some ⟨[],0,0,0⟩)
def inB (p:Vr × Int):Bool:=decide (p.1.low<=p.2)&&decide (p.2<=p.1.high)
def yZ (vs:List Vr) (r:Ins) (s:StS):Int:=if s.a ≠ r.secret.length\/s.b ≠ r.pub.length\/s.c ≠ r.random.length then 1 else if (vs.zip s.vals).all inB then 0 else 3
def zh (vs:List Vr) (r:Ins):Int:=match kr vs r with
 | none=>1
 | some s=>yZ vs r s
def zu (vs:List Vr) (r:Ins):List Int:=match kr vs r with
 | none=>[]
 | some s=>s.vals
theorem zhD (r:Ins) (vs:List Vr):vs.foldl (zo r) none=none:=by
 induction vs with
 | nil=>rfl
 | cons x t ih=>rw[zv9];exact ih
theorem zc7 (h:(vs.take i).foldl (zo r) (some ⟨[],0,0,0⟩)=none):kr vs r=none:=by
 have:=zwa i vs;rw[kr,<- this,zv8,h,zhD]
theorem kF {x:Vr} (h:vs[i]?=some x) {s:StS} (hs:(vs.take i).foldl (zo r) (some ⟨[],0,0,0⟩)=some s):(vs.take (i+1)).foldl (zo r) (some ⟨[],0,0,0⟩)=if x.kind=0 then some { s with vals:=s.vals++[x.init] } else ((yR r x.kind)[jB s x.kind]?).map fun n=>za2 s x.kind n:=by
 rw[ze h,zv8,hs];rfl
theorem zav (s:StS) (k n:Int):(za2 s k n).vals=s.vals++[n]:=by
 unfold za2
 (repeat' split);all_goals rfl
theorem zaw:∀ (i:Nat) (s:StS),i<=vs.length->(vs.take i).foldl (zo r) (some ⟨[],0,0,0⟩)=some s->s.vals.length=i/\s.a<=i/\s.b<=i/\s.c<=i:=by
 intro i;induction i with
 | zero=>intro s _ h;simp at h;subst h;simp
 | succ i ih =>
  intro s hi h;obtain⟨x,hx⟩:∃ x,vs[i]?=some x:=iA;cases h1:(vs.take i).foldl (zo r) (some ⟨[],0,0,0⟩) with
  | none=>rw[ze hx,zv8,h1]at h;cases h
  | some s0 =>
   obtain⟨e1,e2,e3,e4⟩:=ih s0 tO h1;rw[kF hx h1]at h;split at h
   . grind
   obtain⟨n,_,rfl⟩:=zwI.1 h;unfold za2
   (repeat' split);all_goals (simp;omega)
theorem zc8 (s:StS) {k':Int} (hk:1<=k/\k<=3) (hY:1<=k'/\k'<=3) (n:Int):jB (za2 s k n) k'=if k'=k then jB s k'+1 else jB s k':=by
 have h1:k=1\/k=2\/k=3:=tO;have h2:k'=1\/k'=2\/k'=3:=tO;rcases h1 with rfl | rfl | rfl<;>rcases h2 with rfl | rfl | rfl<;>simp[za2,jB]
theorem ziQ (db:∀ v ∈ vs,0<=v.kind/\v.kind<=3):∀ (i:Nat) (s:StS),i<=vs.length->(vs.take i).foldl (zo r) (some ⟨[],0,0,0⟩)=some s->∀ k,1<=k->k<=3->jB s k<=(yR r k).length:=by
 intro i;induction i with
 | zero=>intro s _ h k _ _;simp at h;subst h;unfold jB;(repeat' split);all_goals simp
 | succ i ih =>
  intro s hi h k hY da;obtain⟨x,hx⟩:∃ x,vs[i]?=some x:=iA;have dc:=db x (zto hx);cases h1:(vs.take i).foldl (zo r) (some ⟨[],0,0,0⟩) with
  | none=>rw[ze hx,zv8,h1]at h;cases h
  | some s0 =>
   have e1:=ih s0 tO h1 k hY da;rw[kF hx h1]at h;split at h
   . cases h;exact e1
   obtain⟨n,hn,rfl⟩:=zwI.1 h;have:=(ztB.1 hn).1;rw[zc8 s0 (k:=x.kind) tO ⟨hY,da⟩];split
   . grind
   exact e1
theorem zdJ {x:Vr} (hx:vs[i]?=some x) (vals:List Int) (hv:vals.length=i) (n:Int):((vs.take (i+1)).zip (vals++[n])).all inB=(((vs.take i).zip vals).all inB&&inB (x,n)):=by
 have hi:=(ztB.1 hx).1;rw[ze hx,List.zip_append tD,zuA];simp
structure Sg where
 vals:List Int
 outs:List Int
 time:Int
end Go.GL
namespace Go.Proofs.YtckdhgbepmpgiaaGreat
open Go.GL
abbrev zb:Int->Value:=.int .i64
structure WkV where
 (W m:Nat) (v1 v2 v3 sv vv hv ov:Value) (rm:List (Int × Value))
def zed (vs:List Vr) (vals:List Int) (v n:Int):List Int:=match vs[v.toNat]? with
 | some x=>vals.set v.toNat (yA n x.low x.high)
 | none=>vals
theorem InV.set (hg:∀ v ∈ vs,yT (v.low,v.high)) (h:InV vs vals) (v n:Int):InV vs (zed vs vals v n):=by
 unfold zed;cases hx:vs[v.toNat]? with
 | none=>exact h
 | some x =>
  have hY:=hg x (zto hx);unfold yT at hY;have hc:=qJ n (show x.low<=x.high from hY.2.1);refine⟨by simp[h.len],fun i y hy=>?_⟩;simp only[lki,zvi];by_cases hi:v.toNat=i
  .
   subst hi;rw[hx]at hy;cases hy;have:=(ztB.1 hx).1;rw[zty rfl,zty (by rw[h.len];exact this)];exact hc
  rw[ztx hi];exact h.at_ i y hy
def xL (f:Fl) (hs:List Int) (s:St) (σ:Sg):Sg :=
 if s.act=0 then { σ with vals:=zed f.vars σ.vals s.var (xK σ.vals s.term),time:=σ.time+s.cost }
 else if s.act=1 then { σ with outs:=σ.outs++[xK σ.vals s.term],time:=σ.time+s.cost }
 else if s.act=5 then { σ with vals:=zed f.vars σ.vals s.var (lki hs s.n.toNat),time:=σ.time+s.cost }
 else if s.act=6 then { σ with time:=qv s.bounds (σ.time+s.cost) }
 else { σ with time:=σ.time+s.cost }
structure StepOk (f:Fl) (s:St):Prop where
 formed:zA f.vars false s.term=true
 ranged:(rng f.vars s.term).isSome=true
 small:s.term.nodes<=1000000
 cost:0<=s.cost/\s.cost<=67108864
 var:s.act=0\/s.act=5->0<=s.var/\s.var<f.vars.length
 num:s.act=5->0<=s.n/\s.n<f.hatches.length
def zee (rd:Int->Int) (k n:Int):Int->Int:=fun j=>if j=k then n else rd j
def xt (f:Fl) (hs:List Int) (x:Nd) (s:St) (σ:Sg) (rd:Int->Int):Int × Sg × (Int->Int) :=
 if x.kind=0 then (x.next,σ,rd)
 else if x.kind=2 then (x.next,xL f hs s σ,rd)
 else if x.kind=4 then (x.next,σ,zee rd x.at_ 0)
 else if x.kind=5/\rd x.at_=s.n then (x.other,σ,rd)
 else (if xK σ.vals s.term ≠ 0 then x.next else x.other,{ σ with time:=σ.time+s.cost },if x.kind=5 then zee rd x.at_ (rd x.at_+1) else rd)
def kG (body:Sg->Sg) (cost:Int) (t:Tm):Nat->Sg->Sg
 | 0,σ=>σ
 | k+1,σ=>if xK σ.vals t=0 then { σ with time:=σ.time+cost } else kG body cost t k (body { σ with time:=σ.time+cost })
section
variable (f:Fl) (hs:List Int)
mutual
def exS:St->Sg->Sg
 | .mk a c v n t th el b,σ =>
  if a=3 then (if xK σ.vals t ≠ 0 then exL th { σ with time:=σ.time+c } else exL el { σ with time:=σ.time+c })
  else if a=4 then kG (fun σ=>exL th σ) c t n.toNat σ
  else xL f hs (.mk a c v n t th el b) σ
def exL:List St->Sg->Sg
 | [],σ=>σ
 | s::r,σ=>exL r (exS s σ)
end
theorem za3 (s:St) (σ:Sg):exS f hs s σ=if s.act=3 then (if xK σ.vals s.term ≠ 0 then exL f hs s.thn { σ with time:=σ.time+s.cost } else exL f hs s.els { σ with time:=σ.time+s.cost })
  else if s.act=4 then kG (exL f hs s.thn) s.cost s.term s.n.toNat σ else xL f hs s σ:=by cases s;rw[exS];rfl
structure Mc where
 at_:Int
 σ:Sg
 rd:Int->Int
def znN:St:=.mk 0 0 0 0 (.mk 0 0 []) [] [] []
def xf (g:List Nd) (k:Int):Nd:=g[k.toNat]?.getD ⟨1,-1,-1,-1⟩
def yp (f:Fl) (k:Int):St:=(preL f.body)[k.toNat]?.getD znN
def kg (g:List Nd) (m:Mc):Mc :=
 ⟨(xt f hs (xf g m.at_) (yp f (xf g m.at_).at_) m.σ m.rd).1,(xt f hs (xf g m.at_) (yp f (xf g m.at_).at_) m.σ m.rd).2.1,(xt f hs (xf g m.at_) (yp f (xf g m.at_).at_) m.σ m.rd).2.2⟩
def zcB (g:List Nd):Nat->Mc->Mc
 | 0,m=>m
 | k+1,m=>zcB g k (kg f hs g m)
theorem za4 (g:List Nd):∀ (a b:Nat) (m:Mc),zcB f hs g (a+b) m=zcB f hs g b (zcB f hs g a m)
 | 0,b,m=>by rw[zwC];rfl
 | a+1,b,m=>by rw[show a+1+b=(a+b)+1 by omega];exact za4 g a b (kg f hs g m)
theorem zcV (g:List Nd) (k:Nat) (m:Mc):zcB f hs g (k+1) m=kg f hs g (zcB f hs g k m):=by rw[za4];rfl
def Goes (g:List Nd) (lo hi:Int) (k:Nat) (m m':Mc):Prop:=zcB f hs g k m=m'/\∀ j,j<k->lo<=(zcB f hs g j m).at_/\(zcB f hs g j m).at_<hi
end
section
variable {lo hi:Int} {k k':Nat} {m m' m'':Mc}
theorem Goes.refl (m:Mc):Goes f hs g lo hi 0 m m:=⟨rfl,fun _ h=>absurd h (zwz _)⟩
theorem Goes.trans (h:Goes f hs g lo hi k m m') (h':Goes f hs g lo hi k' m' m''):Goes f hs g lo hi (k+k') m m'':=by
 refine⟨by rw[za4,h.1,h'.1],fun j hj=>?_⟩;by_cases hY:j<k
 . exact h.2 j hY
 obtain⟨i,rfl⟩:∃ i,j=k+i:=⟨j - k,tO⟩;rw[za4,h.1];exact h'.2 i tO
theorem Goes.widen {lo' hY:Int} (h:Goes f hs g lo hi k m m') (h1:lo'<=lo) (h2:hi<=hY):Goes f hs g lo' hY k m m':=⟨h.1,fun j hj=>by have:=h.2 j hj;omega⟩
theorem Goes.one (h:kg f hs g m=m') (h1:lo<=m.at_/\m.at_<hi):Goes f hs g lo hi 1 m m':=by
 refine⟨h,fun j hj=>?_⟩;obtain rfl:j=0:=tO;exact h1
end
mutual
def nbS:St->Nat
 | .mk a _ _ n _ th el _=>if a=3 then 1+max (nbL th) (nbL el) else if a=4 then 2+n.toNat*(1+nbL th) else 1
def nbL:List St->Nat
 | []=>0
 | s::r=>nbS s+nbL r
end
theorem zeT (s:St):nbS s=if s.act=3 then 1+max (nbL s.thn) (nbL s.els) else if s.act=4 then 2+s.n.toNat*(1+nbL s.thn) else 1:=by cases s;rw[nbS];rfl
theorem znX (l:List St):∀ top,stepsCodeN vs nh l top=0->(nbL l:Int)<=2*(bds l).1:=by
 induction l using zr3 with
 | h l ih =>
 intro top h;have hm:=qc l top h
 have key:∀ r:List St,(∀ x ∈ r,x ∈ l)->(nbL r:Int)<=2*(bds r).1:=by
  intro r;induction r with
  | nil=>intro _;simp[nbL,bds]
  | cons x r ihr =>
   intro hx;have h1:=ihr (fun y hy=>hx y iq);obtain⟨last,h2⟩:=hm x (hx x (ztr ..));obtain⟨h3,_,_,h4,h5⟩:=qu h2;have h6:=(ih x (hx x (ztr ..))).1 _ h4;have h7:=(ih x (hx x (ztr ..))).2 _ h5;have b4:=xq x.thn _ h4;have b5:=xq x.els _ h5;rw[nbL,bds]
   have:(nbS x:Int)<=2*(qO x).1:=by
    rw[zeT,yY];by_cases a4:x.act=4
    .
     rw[ztx (show ¬ x.act=3 by omega),zty a4,zty a4];obtain⟨n,hn⟩:=zul (h3.rep a4).1;rw[hn,ztJ]
     have:((n*(1+nbL x.thn):Nat):Int)<=(n:Int)*(2*(1+(bds x.thn).1)):=by
      rw[zuw];exact zur tO tO
     grind
    grind
   simp only;omega
 exact key l (fun x h=>h)
def CtxG (g:List Nd) (n:Nat) (ns:List Nd):Prop:=∀ (i:Nat) x,ns[i]?=some x->g[n+i]?=some x
def CtxP (P:List St) (a:Nat) (ps:List St):Prop:=∀ (i:Nat) x,ps[i]?=some x->P[a+i]?=some x
theorem CtxG.left {n:Nat} {a b:List Nd} (h:CtxG g n (a++b)):CtxG g n a:=fun i x hx=>h i x (by rw[ztN (ztB.1 hx).1];exact hx)
theorem CtxG.right {n:Nat} {a b:List Nd} (h:CtxG g n (a++b)) (hm:m=n+a.length):CtxG g m b:=fun i x hx=>by
 rw[hm,zwg];exact h _ x (by rw[ztO tO];simpa using hx)
theorem CtxG.head {n:Nat} {b:List Nd} (h:CtxG g n (x::b)):g[n]?=some x:=h 0 x rfl
theorem CtxG.tail {n:Nat} {b:List Nd} (h:CtxG g n (x::b)):CtxG g (n+1) b:=fun i y hy=>by
 rw[zwg,zwh 1];exact h (i+1) y tD
theorem CtxP.left {P:List St} {n:Nat} {a b:List St} (h:CtxP P n (a++b)):CtxP P n a:=fun i x hx=>h i x (by rw[ztN (ztB.1 hx).1];exact hx)
theorem CtxP.right {P:List St} {n:Nat} {a b:List St} (h:CtxP P n (a++b)) (hm:m=n+a.length):CtxP P m b:=fun i x hx=>by
 rw[hm,zwg];exact h _ x (by rw[ztO tO];simpa using hx)
theorem CtxP.head {P:List St} {n:Nat} {x:St} {b:List St} (h:CtxP P n (x::b)):P[n]?=some x:=h 0 x rfl
theorem CtxP.tail {P:List St} {n:Nat} {x:St} {b:List St} (h:CtxP P n (x::b)):CtxP P (n+1) b:=fun i y hy=>by
 rw[zwg,zwh 1];exact h (i+1) y tD
theorem jp {n:Nat} (h:g[n]?=some x):xf g n=x:=by unfold xf;rw[ztJ,h];rfl
theorem ziR {s:St} (h:(preL f.body)[a]?=some s):yp f a=s:=by unfold yp;rw[ztJ,h];rfl
def SameR (a n:Nat) (rd rd':Int->Int):Prop:=∀ k:Int,¬ ((a:Int)<=k/\k<(a+n:Nat))->rd' k=rd k
theorem SameR.refl (a n:Nat) (rd:Int->Int):SameR a n rd rd:=fun _ _=>rfl
theorem SameR.trans {n:Nat} {r3:Int->Int} (h:SameR a n r1 r2) (h':SameR a n r2 r3):SameR a n r1 r3:=fun k hk=>(h' k hk).trans (h k hk)
theorem SameR.widen {n:Nat} (h:SameR a n r1 r2) (h1:b<=a) (h2:a+n<=b+m):SameR b m r1 r2:=fun k hk=>h k (fun h3=>hk ⟨tO,tO⟩)
theorem zsw {n:Nat} {rd:Int->Int} (h:(a:Int)<=k/\k<(a+n:Nat)):SameR a n rd (zee rd k v):=fun j hj=>by
 unfold zee;rw[ztx (fun e=>hj tO)]
section
def Sim (f:Fl) (hs:List Int) (g:List Nd) (l:List St):Prop:=∀ (a n e:Nat),CtxG g n (layL l a n e)->CtxP (preL f.body) a (preL l)->∀ (σ:Sg) (rd:Int->Int),∃ k rd',Goes f hs g n (n+widL l:Nat) k ⟨((if l.isEmpty then e else n:Nat):Int),σ,rd⟩ ⟨(e:Int),exL f hs l σ,rd'⟩/\k<=nbL l/\SameR a (ssize l) rd rd'
theorem zmR (s:St) (hp:s.plainB=true) (hn:s.act=4->0<=s.n) (h1:Sim f hs g s.thn) (h2:Sim f hs g s.els):∀ (a n e:Nat),CtxG g n (s.lay a n e)->CtxP (preL f.body) a s.pre->∀ (σ:Sg) (rd:Int->Int),∃ k rd',Goes f hs g n (n+s.wid:Nat) k ⟨(n:Int),σ,rd⟩ ⟨(e:Int),exS f hs s σ,rd'⟩/\k<=nbS s/\SameR a s.size rd rd':=by
 intro a n e hG hP σ rd;have hw:=s.wid_eq;have hz:=s.size_eq;have dg:=hp;rw[s.plainB_eq,zu8,zu8]at dg;rw[s.lay_eq]at hG;rw[s.pre_eq]at hP;have hY:yp f a=s:=ziR hP.head;rw[zeT,za3];by_cases a3:s.act=3
 .
  rw[zty a3]at hG;rw[ztx i3]at hw;rw[zty a3,zty a3];have da:=jp hG.head;have dr:=zB s.thn dg.1.2 (a+1) (n+1) e;have dt:=qk s.thn;obtain⟨k1,r1,g1,b1,s1⟩:=h1 (a+1) (n+1) e hG.tail.left hP.tail.left { σ with time:=σ.time+s.cost } rd;obtain⟨k2,r2,g2,b2,s2⟩:=h2 (a+1+ssize s.thn) (n+1+widL s.thn) e (hG.tail.right tO) (hP.tail.right tO) { σ with time:=σ.time+s.cost } rd;by_cases hv:xK σ.vals s.term ≠ 0
  .
   rw[zty hv];refine⟨1+k1,r1,(Goes.one (m':=⟨((if s.thn.isEmpty then e else n+1:Nat):Int),{ σ with time:=σ.time+s.cost },rd⟩) ?_ tD).trans (g1.widen tO tO),tO,s1.widen tO tO⟩;unfold kg;rw[da,hY];simp[xt,hv,apply_ite (Nat.cast (R:=Int))]
  rw[ztx hv];refine⟨1+k2,r2,(Goes.one (m':=⟨((if s.els.isEmpty then e else n+1+widL s.thn:Nat):Int),{ σ with time:=σ.time+s.cost },rd⟩) ?_ tD).trans (g2.widen tO tO),tO,s2.widen tO tO⟩;unfold kg;rw[da,hY];simp[xt,hv,apply_ite (Nat.cast (R:=Int))]
 by_cases a4:s.act=4
 .
  rw[ztx a3,zty a4]at hG;rw[zty a4]at hw;rw[ztx a3,ztx a3,zty a4,zty a4];have da:=jp hG.head;have db:=jp hG.tail.head;have dl:CtxG g (n+2) (layL s.thn (a+1) (n+2) (n+1)):=hG.tail.tail;obtain⟨N,hN⟩:=zul (hn a4)
  have key:∀ (q:Nat),q<=N->∀ (σ:Sg) (rd:Int->Int),rd a=((N - q:Nat):Int)->∃ k rd',Goes f hs g n (n+s.wid:Nat) k ⟨((n+1:Nat):Int),σ,rd⟩ ⟨(e:Int),kG (exL f hs s.thn) s.cost s.term q σ,rd'⟩/\k<=1+q*(1+nbL s.thn)/\SameR a s.size rd rd':=by
   intro q;induction q with
   | zero =>
    intro _ σ rd dc;refine⟨1,rd,Goes.one ?_ tD,tO,SameR.refl _ _ _⟩;unfold kg;rw[db,hY];simp[xt,hN,dc,kG]
   | succ q ih =>
    intro hq σ rd dc;have dh:¬ (rd a=s.n):=tO;rw[kG];by_cases hv:xK σ.vals s.term=0
    .
     rw[zty hv];refine⟨1,zee rd a (rd a+1),Goes.one ?_ tD,tO,zsw tO⟩;unfold kg;rw[db,hY];simp[xt,dh,hv]
    rw[ztx hv];obtain⟨k1,r1,g1,b1,s1⟩:=h1 (a+1) (n+2) (n+1) dl hP.tail.left { σ with time:=σ.time+s.cost } (zee rd a (rd a+1))
    have dm:r1 a=((N - q:Nat):Int):=by
     rw[s1 a tO];unfold zee;rw[zty rfl,dc];omega
    obtain⟨k2,r2,g2,b2,s2⟩:=ih tO _ r1 dm;refine⟨1+(k1+k2),r2,(Goes.one (m':=⟨((if s.thn.isEmpty then n+1 else n+2:Nat):Int),{ σ with time:=σ.time+s.cost },zee rd a (rd a+1)⟩) ?_ tD).trans ((g1.widen tO tO).trans g2),?_,(zsw tO).trans ((s1.widen tO tO).trans s2)⟩
    .
     unfold kg;rw[db,hY];simp[xt,dh,hv,apply_ite (Nat.cast (R:=Int))]
    grind
  rw[hN,ztJ];obtain⟨k,r',hg,hb,hr⟩:=key N (ztM _) σ (zee rd a 0) (by unfold zee;rw[zty rfl,zwA];rfl);refine⟨1+k,r',(Goes.one (m':=⟨((n+1:Nat):Int),σ,zee rd a 0⟩) ?_ tD).trans hg,tO,(zsw tO).trans hr⟩;unfold kg;rw[da,hY];simp[xt]
 rw[ztx a3,ztx a4]at hG;rw[ztx a4]at hw;rw[ztx a3,ztx a4,ztx a3,ztx a4];have da:=jp hG.head;refine⟨1,rd,Goes.one ?_ tD,tO,SameR.refl _ _ _⟩;unfold kg;rw[da,hY];simp[xt]
theorem zkY (l:List St):plainL l=true->(∀ s ∈ preL l,s.act=4->0<=s.n)->Sim f hs g l:=by
 induction l using zr3 with
 | h l ih =>
 intro hp hn
 have key:∀ r:List St,(∀ x ∈ r,x ∈ l)->plainL r=true->(∀ s ∈ preL r,s.act=4->0<=s.n)->Sim f hs g r:=by
  intro r;induction r with
  | nil =>
   intro _ _ _ a n e _ _ σ rd;exact⟨0,rd,by rw[exL];exact Goes.refl _,ztC _,SameR.refl _ _ _⟩
  | cons s r ihr =>
   intro hm db dg a n e hG hP σ rd;have dh:=hm s (ztr ..);have dm:widL (s::r)=s.wid+widL r:=rfl;rw[plainL,zu8]at db;have dc:=db.1;have da:=dc;rw[s.plainB_eq,zu8,zu8]at da;rw[layL]at hG;rw[preL]at hP;have hY:∀ x ∈ s.pre++preL r,x.act=4->0<=x.n:=dg;rw[s.pre_eq]at hY;have H1:=zmR (g:=g) (f:=f) (hs:=hs) s dc (fun h=>hY s tR h) ((ih s dh).1 da.1.2 (fun x hx=>hY x tD)) ((ih s dh).2 da.2 (fun x hx=>hY x tD))
   have dl:(s.lay a n (if r.isEmpty then e else n+s.wid)).length=s.wid:=by
    have h1:=zB [s] (by rw[plainL,dc];rfl) a n (if r.isEmpty then e else n+s.wid);simpa[layL,widL] using h1
   have dr:s.pre.length=s.size:=by
    have:=qk [s];simpa[preL,ssize] using this
   obtain⟨k1,r1,g1,b1,s1⟩:=H1 a n (if r.isEmpty then e else n+s.wid) hG.left hP.left σ rd;obtain⟨k2,r2,g2,b2,s2⟩:=ihr (fun y hy=>hm y iq) db.2 (fun x hx=>dg x (by rw[preL];exact zvD _ hx)) (a+s.size) (n+s.wid) e (hG.right tO) (hP.right tO) (exS f hs s σ) r1;refine⟨k1+k2,r2,?_,by rw[nbL];omega,(s1.widen (ztM _) (by rw[ssize];omega)).trans (s2.widen tO (by rw[ssize];omega))⟩;rw[List.isEmpty_cons,ztx tS,exL];exact Goes.trans (Goes.widen g1 tO tO) (Goes.widen g2 tO tO)
 exact key l (fun x h=>h) hp hn
end
open Go.GL
theorem zeU (l:List St):∀ top,stepsCodeN vs nh l top=0->∀ s ∈ preL l,∃ last,zM vs nh s last=0:=by
 induction l using zr3 with
 | h l ih =>
 intro top h;have hm:=qc l top h
 have key:∀ r:List St,(∀ x ∈ r,x ∈ l)->∀ s ∈ preL r,∃ last,zM vs nh s last=0:=by
  intro r;induction r with
  | nil=>intro _ s hs;simp[preL]at hs
  | cons x r ihr =>
   intro hx s hs;obtain⟨last,h2⟩:=hm x (hx x (ztr ..));obtain⟨_,_,_,h4,h5⟩:=qu h2;rw[preL,x.pre_eq,ztG,ztD,ztG]at hs;rcases hs with (rfl | hs | hs) | hs
   . grind
   . grind
   . grind
   grind
 exact key l (fun x h=>h)
theorem zeV (l:List St):∀ s ∈ preL l,s.nodes<=snodes l:=by
 induction l using zr3 with
 | h l ih =>
 have key:∀ r:List St,(∀ x ∈ r,x ∈ l)->∀ s ∈ preL r,s.nodes<=snodes r:=by
  intro r;induction r with
  | nil=>intro _ s hs;simp[preL]at hs
  | cons x r ihr =>
   intro hx s hs;have h1:=(ih x (hx x (ztr ..))).1;have h2:=(ih x (hx x (ztr ..))).2;have h3:=x.nodes_eq;rw[preL,x.pre_eq,ztG,ztD,ztG]at hs;rw[snodes];rcases hs with (rfl | hs | hs) | hs
   . omega
   . grind
   . grind
   grind
 exact key l (fun x h=>h)
theorem ziS {s:St} {last:Bool} (h:zM f.vars f.hatches.length s last=0) (hn:s.nodes<=100000):StepOk f s:=by
 obtain⟨h1,h2,h3,_,_⟩:=qu h;have hY:=s.nodes_eq;unfold zD at h2;split at h2
 .
  rename_i hf;split at h2
  .
   rename_i hr;refine⟨hf,hr,tO,h1.cost,fun ha=>?_,fun ha=>?_⟩
   .
    unfold zK at h3;rcases ha with ha | ha
    .
     simp[ha,qQ]at h3;omega
    simp[ha,qQ]at h3;omega
   unfold zK at h3
   grind
  cases h2
 cases h2
def jX (s:St):Prop:=s.act=6->∀ b ∈ s.bounds,b<=67108864
theorem ziT {l:List Int} (h:xA l=true):∀ (d i:Nat) x y,l[i]?=some x->l[i+d]?=some y->x<=y:=by
 intro d;induction d with
 | zero=>intro i x y hx hy;rw[zwl,hx]at hy;cases hy;exact zuo _
 | succ d ih =>
  intro i x y hx hy;have hY:=(ztB.1 hy).1;obtain⟨z,hz⟩:∃ z,l[i+d]?=some z:=iA;have h1:=ih i x z hx hz;have h2:=(xI l).1 h (i+d) z y hz hy;omega
theorem zfZ {s:St} {last:Bool} (h:zM vs nh s last=0):jX s:=by
 intro a6 b hb;obtain⟨h1,h2,h3,_,_⟩:=qu h
 have h4:xb s=true:=by
  rw[yb]at h;split at h
  . cases h
  split at h
  . cases h
  rename_i h5;simpa using h5
 unfold zK at h3;simp[a6,xJ]at h3;unfold xb at h4;simp[a6]at h4;have hr:=h3.2.2;obtain⟨i,hi⟩:=zvH.1 hb;have hY:=(ztB.1 hi).1;obtain⟨y,hy⟩:∃ y,s.bounds[s.bounds.length - 1]?=some y:=iA;have h5:=ziT hr (s.bounds.length - 1 - i) i b y hi tD;rw[hy]at h4;simp at h4;omega
theorem zeW (l:List Int) (t:Int):qv l t=t\/(qv l t ∈ l/\t<=qv l t):=by
 have key:∀ (l:List Int) (s:Int × Bool),(l.foldl (yh t) s).1=s.1\/((l.foldl (yh t) s).1 ∈ l/\t<=(l.foldl (yh t) s).1):=by
  intro l;induction l with
  | nil=>intro s;exact .inl rfl
  | cons b r ih =>
   intro s;rw[zv9];rcases ih (yh t s b) with h | h
   .
    rw[h];unfold yh;split
    . rename_i h1;exact .inr ⟨ztr ..,h1.1⟩
    exact .inl O
   grind
 exact key l (t,false)
structure Valid (f:Fl):Prop where
 ok:yq f=0
 size:snodes f.body+zz f.hatches<=1024
 bulk:sbulk f.body<=1000000
section
variable (V:Valid f)
include V
theorem Valid.plain:plainL f.body=true:=zc1 V.ok
theorem Valid.good:∀ v ∈ f.vars,yT (v.low,v.high):=zbZ (yc V.ok).2.1
theorem Valid.kinds:∀ v ∈ f.vars,0<=v.kind/\v.kind<=3:=by
 have h:=(yc V.ok).2.1
 have h1:∀ j,j<f.vars.length->kW f.vars j=0:=by
  unfold zr at h;split at h
  . omega
  rename_i h2;intro j hj;exact qb f.vars.length 0 tO j (ztC _) tO
 exact fun v hv=>(qI h1 v hv).2
theorem Valid.lens:f.vars.length<=64/\f.hatches.length<=8:=by
 have h:=(yc V.ok).1;unfold qi at h;simp at h;omega
theorem Valid.ssize:ssize f.body<=1024:=zc2 V.size
theorem Valid.step:∀ s ∈ preL f.body,StepOk f s/\jX s/\(s.act=4->0<=s.n/\s.n<=4096):=by
 intro s hs;obtain⟨last,h⟩:=zeU f.body true (yc V.ok).2.2.2.1 s hs;have hn:=zeV f.body s hs;have:=V.size;exact⟨ziS h tO,zfZ h,fun a4=>⟨((qu h).1.rep a4).1,((qu h).1.rep a4).2.1⟩⟩
theorem Valid.nb:nbL f.body<=8192:=by
 have h1:=znX f.body true (yc V.ok).2.2.2.1;have h2:=(yc V.ok).2.2.2.2;unfold zdC at h2;simp at h2;omega
end
theorem za5 (l:List St):∀ a n e,∀ x ∈ layL l a n e,x.kind=2\/x.kind=3\/x.kind=4\/x.kind=5:=by
 induction l using zr3 with
 | h l ih =>
 have key:∀ r:List St,(∀ x ∈ r,x ∈ l)->∀ a n e,∀ x ∈ layL r a n e,x.kind=2\/x.kind=3\/x.kind=4\/x.kind=5:=by
  intro r;induction r with
  | nil=>intro _ a n e x hx;simp[layL]at hx
  | cons s r ihr =>
   intro hm a n e x hx;have h1:=(ih s (hm s (ztr ..))).1;have h2:=(ih s (hm s (ztr ..))).2;rw[layL,ztG,s.lay_eq]at hx;rcases hx with hx | hx
   . grind
   grind
 exact key l (fun x h=>h)
structure NodeOk' (f:Fl) (x:Nd):Prop where
 kind:x.kind=0\/x.kind=2\/x.kind=3\/x.kind=4\/x.kind=5
 step:x.kind ≠ 0->0<=x.at_/\(preL f.body)[x.at_.toNat]?=some (yp f x.at_)/\StepOk f (yp f x.at_)/\jX (yp f x.at_)
theorem Valid.node (V:Valid f) (h0:0<=k) (h1:k<(zd f).length - 1):(zd f)[k.toNat]?=some (xf (zd f) k)/\NodeOk' f (xf (zd f) k):=by
 obtain⟨n,rfl⟩:=zul h0;have da:=yD f V.plain
 have hget:(zd f)[n]?=some (xf (zd f) n):=by
  unfold xf;rw[ztJ,ztn (show n<(zd f).length by omega)];rfl
 refine⟨hget,?_⟩;generalize xf (zd f) n=x at hget;unfold zd at hget;cases n with
 | zero=>simp at hget;subst hget;exact⟨.inl rfl,fun h=>absurd rfl h⟩
 | succ n =>
  rw[zva,ztN (by rw[zB _ V.plain];omega)]at hget;have hx:=zto hget;have hk:=za5 f.body _ _ _ x hx;have hr:=(jT f.body V.plain 0 1 (1+widL f.body)).range x hx;refine⟨.inr hk,fun _=>⟨tO,?_⟩⟩;obtain⟨s,hs⟩:∃ s,(preL f.body)[x.at_.toNat]?=some s:=⟨_,ztn (by rw[qk];omega)⟩;have e:yp f x.at_=s:=by unfold yp;rw[hs];rfl
  have hY:=V.step s (zto hs);rw[e];exact⟨hs,hY.1,hY.2.1⟩
structure MInv (f:Fl) (j:Nat) (m:Mc):Prop where
 inv:InV f.vars m.σ.vals
 time:0<=m.σ.time/\m.σ.time<=(j:Int)*67108864
 outs:m.σ.outs.length<=j
 rd:∀ k,0<=m.rd k/\m.rd k<=j
theorem zeX {s:St} {σ:Sg} (hg:∀ v ∈ f.vars,yT (v.low,v.high)) (ho:StepOk f s) (hset:jX s) (hV:InV f.vars σ.vals) (ht:0<=σ.time/\σ.time<=(j:Int)*67108864) (hY:σ.outs.length<=j) :
  InV f.vars (xL f hs s σ).vals/\(0<=(xL f hs s σ).time/\(xL f hs s σ).time<=((j+1:Nat):Int)*67108864)/\(xL f hs s σ).outs.length<=j+1:=by
 have hc:=ho.cost;unfold xL;split
 . exact⟨hV.set hg _ _,tD,tD⟩
 split
 . grind
 split
 . exact⟨hV.set hg _ _,tD,tD⟩
 split
 .
  rename_i a6;refine⟨hV,?_,tD⟩;dsimp only;rcases zeW s.bounds (σ.time+s.cost) with h | h
  . omega
  have:=hset a6 _ h.1;omega
 grind
theorem ziU {m:Mc} (hg:∀ v ∈ f.vars,yT (v.low,v.high)) (hn:NodeOk' f (xf g m.at_)) (h:MInv f j m):MInv f (j+1) (kg f hs g m):=by
 obtain⟨h1,h2,h3,h4⟩:=h
 have da:∀ k n,0<=n/\n<=(j:Int)+1->∀ i,0<=zee m.rd k n i/\zee m.rd k n i<=((j+1:Nat):Int):=fun k n hn i=>by
  have:=h4 i;unfold zee;split<;>omega
 have hY:∀ k,0<=m.rd k/\m.rd k<=((j+1:Nat):Int):=fun k=>tD;unfold kg xt;generalize hx:xf g m.at_=x at hn ⊢;split
 . exact⟨h1,tD,tD,hY⟩
 rename_i k0;obtain⟨_,_,ho,hset⟩:=hn.step k0;have hc:=ho.cost;split
 .
  obtain⟨e1,e2,e3⟩:=zeX (hs:=hs) hg ho hset h1 h2 h3;exact⟨e1,e2,e3,hY⟩
 split
 . exact⟨h1,tD,tD,da _ _ tO⟩
 split
 . exact⟨h1,tD,tD,hY⟩
 refine⟨h1,tD,tD,?_⟩;dsimp only;split
 . grind
 exact hY
theorem Valid.walk (V:Valid f) (hs:List Int) (σ:Sg):∃ (K:Nat) (rd':Int->Int),K<=8193/\Goes f hs (zd f) 0 ((zd f).length - 1) K ⟨0,σ,fun _=>0⟩ ⟨((zd f).length:Int) - 1,exL f hs f.body σ,rd'⟩:=by
 have hY:=yD f V.plain
 have hG:CtxG (zd f) 1 (layL f.body 0 1 (1+widL f.body)):=by
  intro i x hx;have hi:=(ztB.1 hx).1;unfold zd;rw[show 1+i=i+1 by omega,zva,ztN hi];exact hx
 obtain⟨k,rd',da,hk,_⟩:=zkY (hs:=hs) (g:=zd f) f.body V.plain (fun s db a4=>((V.step s db).2.2 a4).1) 0 1 (1+widL f.body) hG (fun i x hx=>by rw[zwC];exact hx) σ (fun _=>0);have:=V.nb;refine⟨1+k,rd',tO,(Goes.one (m':=⟨((if f.body.isEmpty then 1+widL f.body else 1:Nat):Int),σ,fun _=>0⟩) ?_ tD).trans ?_⟩
 .
  have h2:((if f.body.isEmpty then 1+widL f.body else 1:Nat):Int)=1:=by
   split
   .
    rename_i h;have:f.body=[]:=tD;rw[this];rfl
   rfl
  rw[h2];unfold kg;have:xf (zd f) 0=⟨0,-1,1,-1⟩:=rfl;rw[this];simp[xt]
 have e:((1+widL f.body:Nat):Int)=((zd f).length:Int) - 1:=tO;rw[<- e];exact da.widen tO tO
open Go.GL
def zdK (f:Fl) (x:Nd):Bool:=decide (x.kind=2)&&(decide ((yp f x.at_).act=0) || decide ((yp f x.at_).act=5))
structure Phn where
 var:Int
 ver:Int
 frm:List Int
 args:List Int
structure Sn where
 phis:List Phn
 uses:List (Int × Int)
 dfn:Int
structure Sf where
 of_:List Int
 nodes:List Sn
def xM (x y:Int):Int:=if y=-1\/y=x then x else if x=-1 then y else -2
def LeV (x y:Int):Prop:=x=-1\/x=y\/y=-2
theorem LeV.refl (x:Int):LeV x x:=.inr (.inl rfl)
theorem LeV.trans {x z:Int} (h:LeV x y) (h':LeV y z):LeV x z:=by unfold LeV at *;omega
theorem ziV {a b c d:Int} (h:LeV a c) (h':LeV b d):LeV (xM a b) (xM c d):=by
 unfold LeV xM at *;omega
theorem ziW (x y:Int):LeV x (xM x y):=by
 unfold LeV xM;omega
theorem zhE (x y:Int):LeV y (xM x y):=by
 unfold LeV xM;omega
def zax (l:List Int):Int:=l.foldl xM (-1)
theorem ziX (l:List Int):∀ a,LeV a (l.foldl xM a):=by
 induction l with
 | nil=>exact fun a=>LeV.refl a
 | cons x l ih=>exact fun a=>(ziW a x).trans (ih _)
theorem zkZ {l:List Int} (h:y ∈ l):∀ a,LeV y (l.foldl xM a):=by
 induction l with
 | nil=>cases h
 | cons x l ih =>
  intro a;rcases ztD.1 h with rfl | h
  . exact(zhE a y).trans (ziX l _)
  grind
theorem zgK {l:List Int} (h:y ∈ l):LeV y (zax l):=zkZ h _
theorem ziY {F G:α->Int}:∀ {a b:Int},LeV a b->(∀ x ∈ l,LeV (F x) (G x))->LeV ((l.map F).foldl xM a) ((l.map G).foldl xM b):=by
 induction l with
 | nil=>exact fun h _=>h
 | cons x l ih=>exact fun h hl=>ih (ziV h (hl x (ztr ..))) fun y hy=>hl y iq
theorem ziZ {F G:α->Int} (h:∀ x ∈ l,LeV (F x) (G x)):LeV (zax (l.map F)) (zax (l.map G)):=ziY (LeV.refl _) h
theorem zj0 (l:List Int) (x:Int):zax (l++[x])=xM (zax l) x:=by unfold zax;rw[zv8];rfl
def SndV (P:Int->Prop) (x:Int):Prop:=x=-1\/(0<=x/\P x)\/(x=-2/\∃ a b,P a/\P b/\a ≠ b)
theorem SndV.imp {P Q:Int->Prop} {x:Int} (h:SndV P x) (hi:∀ k,P k->Q k):SndV Q x:=by
 rcases h with h | ⟨h0,h⟩ | ⟨h0,a,b,ha,hb,hn⟩
 . exact .inl h
 . exact .inr (.inl ⟨h0,hi _ h⟩)
 exact .inr (.inr ⟨h0,a,b,hi _ ha,hi _ hb,hn⟩)
theorem zl0 {P:Int->Prop} {x:Int} (hx:SndV P x) (hy:SndV P y):SndV P (xM x y):=by
 unfold xM;split
 . exact hx
 rename_i h1;split
 . exact hy
 rename_i h2;refine .inr (.inr ⟨rfl,?_⟩);rcases hx with hx | ⟨_,hx⟩ | ⟨_,hx⟩
 . omega
 .
  rcases hy with hy | ⟨_,hy⟩ | ⟨_,hy⟩
  . omega
  . grind
  exact hy
 exact hx
theorem zl1 {P:Int->Prop} {l:List Int} (h:∀ x ∈ l,SndV P x):SndV P (zax l):=by
 suffices ∀ a,SndV P a->SndV P (l.foldl xM a) from this _ (.inl rfl);induction l with
 | nil=>exact fun a ha=>ha
 | cons x l ih=>exact fun a ha=>ih (fun y hy=>h y iq) _ (zl0 ha (h x (ztr ..)))
def SumV (P:Int->Prop) (x:Int):Prop:=SndV P x/\∀ k,P k->LeV k x
theorem SumV.unique {P:Int->Prop} (hP:∀ k,P k->0<=k) {x:Int} (hx:SumV P x) (hy:SumV P y):x=y:=by
 have main:∀ {x y:Int},SumV P x->SumV P y->LeV x y:=by
  intro x y hx hy;rcases hx.1 with h | ⟨_,h⟩ | ⟨_,a,b,ha,hb,hn⟩
  . exact .inl h
  . exact hy.2 x h
  have h1:=hy.2 a ha;have h2:=hy.2 b hb;have h3:=hP a ha;have h4:=hP b hb;unfold LeV at *;omega
 have h1:=main hx hy;have h2:=main hy hx;unfold LeV at h1 h2;omega
section
variable (f:Fl) (g:List Nd) (s:Sf)
def zp (i:Nat):Sn:=s.nodes[i]?.getD ⟨[],[],-1⟩
def yy (i:Nat):Int:=if zdK f (xf g i)=true then (yp f (xf g i).at_).var else -1
def zbe (l:List Phn) (v:Int):Option Int:=(l.find? fun p=>decide (p.var=v)).map (·.ver)
def zc9 (i:Nat) (v:Int):Option Int:=zbe (zp s i).phis v
def xc (B:Nat->Int->Int) (i:Nat) (v:Int):Int:=if yy f g i=v then (zp s i).dfn else B i v
def zJ (i:Nat):List Nat:=(List.range g.length).filter fun y=>decide ((xf g y).next=(i:Int)\/(xf g y).other=(i:Int))
def eqV (O:Nat->Int->Int) (i:Nat) (v:Int):Int:=if i=0 then v else match zc9 s i v with
 | some k=>k
 | none=>zax ((zJ g i).map fun y=>O y v)
inductive RV (v:Int):Nat->Int->Prop
 | ini:RV v 0 v
 | phi {i:Nat} {k:Int}:i ≠ 0->zc9 s i v=some k->RV v i k
 | dfn {i y:Nat}:i ≠ 0->zc9 s i v=none->y ∈ zJ g i->yy f g y=v->RV v i (zp s y).dfn
 | pass {i y:Nat} {k:Int}:i ≠ 0->zc9 s i v=none->y ∈ zJ g i->yy f g y ≠ v->RV v y k->RV v i k
end
section
variable {s:Sf}
theorem xN {y:Nat} (h:y ∈ zJ g i):y<g.length:=zvN.1 (zvE.1 h).1
structure NnS (f:Fl) (g:List Nd) (s:Sf):Prop where
 dfn:∀ y,y<g.length->0<=yy f g y->0<=(zp s y).dfn
 phi:∀ i v k,zc9 s i v=some k->0<=k
theorem RV.nn (hs:NnS f g s) (hv:0<=v) (h:RV f g s v i k):0<=k:=by
 induction h with
 | ini=>exact hv
 | phi _ h=>exact hs.phi _ _ _ h
 | dfn _ _ hy hd=>exact hs.dfn _ (xN hy) tO
 | pass _ _ _ _ _ ih=>exact ih
theorem znY (hs:NnS f g s) (hv:0<=v) (h:∀ y,y<g.length->SndV (RV f g s v y) (B y v)):SndV (RV f g s v i) (eqV g s (xc f g s B) i v):=by
 unfold eqV;split
 .
  rename_i h0;subst h0;exact .inr (.inl ⟨hv,.ini⟩)
 rename_i h0;split
 .
  rename_i k hk;exact .inr (.inl ⟨hs.phi _ _ _ hk,.phi h0 hk⟩)
 rename_i hk;refine zl1 fun x hx=>?_;obtain⟨y,hy,rfl⟩:=zvI.1 hx;unfold xc;split
 .
  rename_i hd;exact .inr (.inl ⟨hs.dfn _ (xN hy) tO,.dfn h0 hk hy hd⟩)
 rename_i hd;exact(h y (xN hy)).imp fun k hY=>.pass h0 hk hy hd hY
theorem zl2 {y:Nat} (h:LeV (B y v) (C y v)):LeV (xc f g s B y v) (xc f g s C y v):=by
 unfold xc;split
 . exact LeV.refl _
 exact h
theorem zmS {O O':Nat->Int->Int} (h:∀ y,y<g.length->LeV (O y v) (O' y v)):LeV (eqV g s O i v) (eqV g s O' i v):=by
 unfold eqV;split
 . exact LeV.refl _
 split
 . exact LeV.refl _
 exact ziZ fun y hy=>h y (xN hy)
structure SolV (f:Fl) (g:List Nd) (s:Sf) (nv:Nat) (B:Nat->Int->Int):Prop where
 snd:∀ i,i<g.length->∀ v:Int,0<=v->v<(nv:Int)->SndV (RV f g s v i) (B i v)
 eq:∀ i,i<g.length->∀ v:Int,0<=v->v<(nv:Int)->B i v=eqV g s (xc f g s B) i v
theorem SolV.all (h:SolV f g s nv B) (hv:0<=v) (hn:v<(nv:Int)) (hi:i<g.length):SumV (RV f g s v i) (B i v):=by
 refine⟨h.snd i hi v hv hn,fun k hk=>?_⟩;induction hk with
 | ini=>rw[h.eq 0 hi v hv hn];exact LeV.refl _
 | @phi i k h0 hk=>rw[h.eq i hi v hv hn];unfold eqV;rw[ztx h0,hk];exact LeV.refl _
 | @dfn i y h0 hk hy hd =>
  rw[h.eq i hi v hv hn];unfold eqV;rw[ztx h0,hk];refine zgK (zvI.2 ⟨y,hy,?_⟩);unfold xc;rw[zty hd]
 | @pass i y k h0 hk hy hd _ ih =>
  rw[h.eq i hi v hv hn];unfold eqV;rw[ztx h0,hk];refine(ih (xN hy)).trans (zgK (zvI.2 ⟨y,hy,?_⟩));unfold xc;rw[ztx hd]
noncomputable def zoC (P:Int->Prop):Int:=by
 classical
 exact if ∃ a b,P a/\P b/\a ≠ b then -2 else if h:∃ a,P a then Classical.choose h else -1
theorem zj1 {P:Int->Prop} (hP:∀ k,P k->0<=k):SumV P (zoC P):=by
 classical
 unfold zoC;split
 .
  rename_i h;exact⟨.inr (.inr ⟨rfl,h⟩),fun k _=>.inr (.inr O)⟩
 rename_i h;split
 .
  rename_i h2;have h3:=Classical.choose_spec h2;refine⟨.inr (.inl ⟨hP _ h3,h3⟩),fun k hk=>?_⟩;by_cases e:k=Classical.choose h2
  . exact .inr (.inl e)
  grind
 rename_i h2;exact⟨.inl rfl,fun k hk=>absurd ⟨k,hk⟩ h2⟩
noncomputable def inV (f:Fl) (g:List Nd) (s:Sf) (i:Nat) (v:Int):Int:=zoC (RV f g s v i)
noncomputable def zaV (f:Fl) (g:List Nd) (s:Sf) (i:Nat) (v:Int):Int:=xc f g s (inV f g s) i v
theorem SolV.is (hs:NnS f g s) (h:SolV f g s nv B) (hv:0<=v) (hn:v<(nv:Int)) (hi:i<g.length):B i v=inV f g s i v :=
 SumV.unique (fun _ hk=>hk.nn hs hv) (h.all hv hn hi) (zj1 fun _ hk=>hk.nn hs hv)
structure RunV (f:Fl) (g:List Nd) (s:Sf) (nv:Nat) (B:Nat->Int->Int):Prop where
 snd:∀ i,i<g.length->∀ v:Int,0<=v->v<(nv:Int)->SndV (RV f g s v i) (B i v)
 le:∀ i,i<g.length->∀ v:Int,0<=v->v<(nv:Int)->LeV (B i v) (eqV g s (xc f g s B) i v)
def zkz (B:Nat->Int->Int) (i:Nat) (v x:Int):Nat->Int->Int:=fun j u=>if j=i/\u=v then x else B j u
theorem RunV.start (h:∀ i v,B i v=if i=0 then v else -1):RunV f g s nv B:=by
 refine⟨fun i _ v hv _=>?_,fun i _ v _ _=>?_⟩
 .
  rw[h];split
  . rename_i e;subst e;exact .inr (.inl ⟨hv,.ini⟩)
  exact .inl O
 rw[h];split
 . rename_i e;unfold eqV;rw[zty e];exact LeV.refl _
 exact .inl O
theorem RunV.next (hs:NnS f g s) (h:RunV f g s nv B) (hi:i<g.length) (hv:0<=v) (hn:v<(nv:Int)):RunV f g s nv (zkz B i v (eqV g s (xc f g s B) i v)):=by
 have hB:∀ j,j<g.length->∀ u:Int,0<=u->u<(nv:Int)->LeV (B j u) (zkz B i v (eqV g s (xc f g s B) i v) j u):=fun j hj u hu hY=>by
  unfold zkz;split
  . rename_i e;obtain⟨rfl,rfl⟩:=e;exact h.le j hj u hu hY
  exact LeV.refl _
 refine⟨fun j hj u hu hY=>?_,fun j hj u hu hY=>?_⟩
 .
  unfold zkz;split
  .
   rename_i e;obtain⟨rfl,rfl⟩:=e;exact znY hs hu fun y hy=>h.snd y hy u hu hY
  exact h.snd j hj u hu hY
 have hm:LeV (eqV g s (xc f g s B) j u) (eqV g s (xc f g s (zkz B i v (eqV g s (xc f g s B) i v))) j u):=zmS fun y hy=>zl2 (hB y hy u hu hY);by_cases e:j=i/\u=v
 .
  obtain⟨rfl,rfl⟩:=e;rw[show zkz B j u (eqV g s (xc f g s B) j u) j u=eqV g s (xc f g s B) j u from zty JL];exact hm
 rw[show zkz B i v (eqV g s (xc f g s B) i v) j u=B j u from ztx e];exact(h.le j hj u hu hY).trans hm
theorem RunV.done (h:RunV f g s nv B) (hd:∀ i,i<g.length->∀ v:Int,0<=v->v<(nv:Int)->B i v=-2\/eqV g s (xc f g s B) i v=B i v\/eqV g s (xc f g s B) i v=-1):SolV f g s nv B:=by
 refine⟨h.snd,fun i hi v hv hn=>?_⟩;have h1:=h.le i hi v hv hn;have h2:=hd i hi v hv hn;unfold LeV at h1;omega
def zca (x:Int):Nat:=if x=-1 then 0 else if x=-2 then 2 else 1
theorem zmT {x:Int} (h:LeV x y) (hn:y ≠ x):zca x<zca y:=by
 unfold LeV at h;unfold zca
 grind
theorem zmU (x:Int):zca x<=2:=by
 unfold zca
 grind
end
open Go.GL
def zay (f:Fl) (s:Sf) (k v:Int) (fresh:Bool):Prop:=0<=k/\s.of_[k.toNat]?=some v/\(fresh=true->(f.vars.length:Int)<=k)
instance (f:Fl) (s:Sf) (k v:Int) (b:Bool):Decidable (zay f s k v b):=by unfold zay;infer_instance
def zi (g:List Nd) (n:Nat):List Int:=(zJ g n).map fun i:Nat=>(i:Int)
def dfL (f:Fl) (g:List Nd) (s:Sf) (n:Nat):List Int:=(zp s n).phis.map (·.ver)++if 0<=yy f g n then [(zp s n).dfn] else []
def qx (f:Fl) (g:List Nd) (s:Sf):List Int:=(List.range g.length).flatMap (dfL f g s)
section
variable (f:Fl) (g:List Nd) (s:Sf) (rd:Nat->List Int)
structure PhiF (n:Nat) (l:List Phn):Prop where
 zero:n=0->l=[]
 asc:l.Pairwise fun p q=>p.var<q.var
 ver:∀ p ∈ l,zay f s p.ver p.var true
 frm:∀ p ∈ l,p.frm=zi g n
 len:∀ p ∈ l,p.args.length=p.frm.length
 args:∀ p ∈ l,∀ a ∈ p.args,zay f s a p.var false
structure NodF (n:Nat) (x:Sn):Prop where
 phi:PhiF f g s n x.phis
 no:yy f g n<0->x.dfn=-1
 yes:0<=yy f g n->zay f s x.dfn (yy f g n) true
 use:x.uses.map (·.1)=rd n
 ver:∀ u ∈ x.uses,zay f s u.2 u.1 false
structure OfF:Prop where
 len:f.vars.length<=s.of_.length
 ini:∀ (k:Nat) v,s.of_[k]?=some v->k<f.vars.length->v=(k:Int)
 new:∀ (k:Nat) v,s.of_[k]?=some v->f.vars.length<=k->0<=v/\∃ x,f.vars[v.toNat]?=some x/\x.kind=0
structure FormF:Prop where
 of_:OfF f s
 len:s.nodes.length=g.length
 nod:∀ (n:Nat) x,s.nodes[n]?=some x->NodF f g s rd n x
 one:∀ k:Nat,f.vars.length<=k->k<s.of_.length->(qx f g s).count (k:Int)=1
structure RightF:Prop extends FormF f g s rd where
 use:∀ (n:Nat) x,s.nodes[n]?=some x->∀ u ∈ x.uses,inV f g s n u.1=u.2
 arg:∀ (n:Nat) x,s.nodes[n]?=some x->∀ p ∈ x.phis,∀ (i:Nat) y a,p.frm[i]?=some y->p.args[i]?=some a->zaV f g s y.toNat p.var=a
end
section
variable {s:Sf} {rd:Nat->List Int}
theorem yL {n:Nat} {x:Sn} (h:s.nodes[n]?=some x):zp s n=x:=by unfold zp;rw[h];rfl
theorem zcW {n:Nat} (h:¬ n<s.nodes.length):zp s n=⟨[],[],-1⟩:=by unfold zp;rw[ztL tO];rfl
theorem FormF.at (h:FormF f g s rd) {n:Nat} (hn:n<g.length):NodF f g s rd n (zp s n):=by
 have hl:=h.len;have e:=ztn (show n<s.nodes.length by omega);rw[yL e];exact h.nod n _ e
theorem FormF.nn (h:FormF f g s rd):NnS f g s:=by
 refine⟨fun y hy hd=>((h.at hy).yes hd).1,fun i v k hk=>?_⟩;unfold zc9 zbe at hk;obtain⟨p,hp,rfl⟩:=zwI.1 hk;have hm:=zvJ hp;by_cases hi:i<g.length
 . exact((h.at hi).phi.ver p hm).1
 have hl:=h.len;rw[zcW tO]at hm;cases hm
theorem zgL {l:List Phn} (h:zbe l v=none):∀ p ∈ l,p.var ≠ v:=fun p hp e=>by
 unfold zbe at h;rw[Option.map_eq_none_iff,zv2]at h;exact h p hp tD
theorem zbf {l:List Phn} (h:zbe l v=some k):∃ p ∈ l,p.var=v/\p.ver=k:=by
 unfold zbe at h;obtain⟨p,hp,rfl⟩:=zwI.1 h;exact⟨p,zvJ hp,by simpa using List.find?_some hp,rfl⟩
theorem zeY (h:FormF f g s rd) {n:Nat} (hn:n<g.length) (hk:k ∈ dfL f g s n):(f.vars.length:Int)<=k/\k<(s.of_.length:Int):=by
 have main:∀ {k v:Int},zay f s k v true->(f.vars.length:Int)<=k/\k<(s.of_.length:Int):=fun {k v} hv=>by
  obtain⟨h0,h1,h2⟩:=hv;have:=(ztB.1 h1).1;have:=h2 rfl;omega
 unfold dfL at hk;rcases ztG.1 hk with hk | hk
 .
  obtain⟨p,hp,rfl⟩:=zvI.1 hk;exact main ((h.at hn).phi.ver p hp)
 split at hk
 .
  rename_i hd;rw[ztF]at hk;subst hk;exact main ((h.at hn).yes hd)
 cases hk
theorem xO (h:FormF f g s rd) (hk:k ∈ qx f g s):(f.vars.length:Int)<=k/\k<(s.of_.length:Int):=by
 obtain⟨n,hn,hk⟩:=zvF.1 hk;exact zeY h (zvN.1 hn) hk
theorem znZ (h:FormF f g s rd):(f.vars.length+(qx f g s).length:Nat)=s.of_.length:=by
 have hp:(qx f g s).Perm ((List.range' f.vars.length (s.of_.length - f.vars.length)).map fun i:Nat=>(i:Int)):=by
  rw[zvY];intro a
  have hY:((List.range' f.vars.length (s.of_.length - f.vars.length)).map fun i:Nat=>(i:Int)).Nodup :=
   List.Pairwise.map _ (fun a b da e=>da tO) (List.nodup_range' (step:=1))
  by_cases ha:(f.vars.length:Int)<=a/\a<(s.of_.length:Int)
  .
   obtain⟨k,rfl⟩:∃ k:Nat,a=(k:Int):=⟨a.toNat,tO⟩;rw[h.one k tO tO,hY.count,zty]
   grind
  rw[zuJ.2 (fun hm=>ha (xO h hm)),zuJ.2 (fun hm=>?_)];obtain⟨k,hk,rfl⟩:=zvI.1 hm;have:=List.mem_range'_1.1 hk;exact ha tO
 have hl:=hp.length_eq;rw[ztH,List.length_range']at hl;have:=h.of_.len;omega
end
open Go.GL
section
variable {s:Sf} {rd:Nat->List Int}
theorem SumV.le {P Q:Int->Prop} (hi:∀ k,P k->Q k) {x:Int} (hx:SumV P x) (hy:SumV Q y) (hP:∀ k,P k->0<=k):LeV x y:=by
 rcases hx.1 with h | ⟨_,h⟩ | ⟨_,a,b,ha,hb,hn⟩
 . exact .inl h
 . exact hy.2 x (hi x h)
 have h1:=hy.2 a (hi a ha);have h2:=hy.2 b (hi b hb);have h3:=hP a ha;have h4:=hP b hb;unfold LeV at *;omega
theorem zcX (hs:NnS f g s) (hv:0<=v) (i:Nat):SumV (RV f g s v i) (inV f g s i v):=zj1 fun _ hk=>hk.nn hs hv
theorem zl3 (hs:NnS f g s) (hv:0<=v):inV f g s 0 v=v :=
 SumV.unique (P:=RV f g s v 0) (fun _ hk=>hk.nn hs hv) (zcX hs hv 0) ⟨.inr (.inl ⟨hv,.ini⟩),fun k hk=>by
  cases hk with
  | ini=>exact LeV.refl _
  | phi h _=>exact absurd rfl h
  | dfn h _ _ _=>exact absurd rfl h
  | pass h _ _ _ _=>exact absurd rfl h⟩
theorem zmV (hs:NnS f g s) (hv:0<=v) (hi:i ≠ 0) (hk:zc9 s i v=some k):inV f g s i v=k :=
 SumV.unique (P:=RV f g s v i) (fun _ hk=>hk.nn hs hv) (zcX hs hv i) ⟨.inr (.inl ⟨hs.phi _ _ _ hk,.phi hi hk⟩),fun k' hY=>by
  cases hY with
  | ini=>exact absurd rfl hi
  | phi _ h=>rw[hk]at h;cases h;exact LeV.refl _
  | dfn _ h _ _=>rw[hk]at h;cases h
  | pass _ h _ _ _=>rw[hk]at h;cases h⟩
theorem zl4 (hs:NnS f g s) (hv:0<=v) {y:Nat} (hi:i ≠ 0) (hk:zc9 s i v=none) (hy:y ∈ zJ g i):LeV (zaV f g s y v) (inV f g s i v):=by
 unfold zaV xc;split
 .
  rename_i hd;exact(zcX hs hv i).2 _ (.dfn hi hk hy hd)
 rename_i hd;exact(zcX hs hv y).le (fun k hY=>.pass hi hk hy hd hY) (zcX hs hv i) fun _ h=>h.nn hs hv
theorem RV.of (h:FormF f g s rd) (hv:0<=v/\v<(f.vars.length:Int)) (hi:i<g.length) (hr:RV f g s v i k):0<=k/\s.of_[k.toNat]?=some v:=by
 induction hr with
 | ini =>
  have hl:=h.of_.len;have e:=ztn (show v.toNat<s.of_.length by omega);have:=h.of_.ini _ _ e tO;exact⟨hv.1,tD⟩
 | @phi i k h0 hk =>
  obtain⟨p,hp,rfl,rfl⟩:=zbf hk;have:=(h.at hi).phi.ver p hp;exact⟨this.1,this.2.1⟩
 | @dfn i y h0 hk hy hd =>
  have:=(h.at (xN hy)).yes tO;rw[hd]at this;exact⟨this.1,this.2.1⟩
 | @pass i y k h0 hk hy hd _ ih=>exact ih (xN hy)
theorem zmv (h:FormF f g s rd) (hv:0<=v/\v<(f.vars.length:Int)) (hi:i<g.length) (h0:0<=inV f g s i v):s.of_[(inV f g s i v).toNat]?=some v:=by
 rcases (zcX h.nn hv.1 i).1 with h1 | ⟨_,h1⟩ | ⟨h1,_⟩
 . omega
 . exact(h1.of h hv hi).2
 omega
def InvV (f:Fl) (g:List Nd) (s:Sf) (i:Nat) (vl vals:List Int):Prop:=∀ v:Nat,v<f.vars.length->inV f g s i v ≠ -1/\(0<=inV f g s i v->vl[(inV f g s i v).toNat]?=vals[v]?)
def zj2 (f:Fl) (g:List Nd) (s:Sf) (i:Nat) (vl vals:List Int):Prop:=∀ v:Nat,v<f.vars.length->zaV f g s i v ≠ -1/\(0<=zaV f g s i v->vl[(zaV f g s i v).toNat]?=vals[v]?)
theorem InvV.start (h:FormF f g s rd) (he:∀ v:Nat,v<f.vars.length->vl[v]?=vals[v]?):InvV f g s 0 vl vals:=fun v hv=>by
 rw[zl3 h.nn tO]
 grind
theorem InvV.join (h:RightF f g s rd) {y:Nat} (h0:i ≠ 0) (hi:i<g.length) (hy:y ∈ zJ g i) {vl':List Int} (hp:zj2 f g s y vl vals)
  (h1:∀ p ∈ (zp s i).phis,vl'[p.ver.toNat]?=vl[(zaV f g s y p.var).toNat]?) (h2:∀ k:Nat,(∀ p ∈ (zp s i).phis,p.ver ≠ (k:Int))->vl'[k]?=vl[k]?) (h3:∀ p ∈ (zp s i).phis,0<=zaV f g s y p.var):InvV f g s i vl' vals:=fun v hv=>by
 have hf:=h.toFormF;have hn:=hf.at hi;obtain⟨g1,g2⟩:=hp v hv;cases hk:zc9 s i v with
 | some k =>
  rw[zmV hf.nn tO h0 hk];obtain⟨p,da,dg,rfl⟩:=zbf hk;have hY:=hn.phi.ver p da;have h4:=h1 p da;have h5:=h3 p da;rw[dg]at h4 h5;exact⟨by have:=hY.1;omega,fun _=>h4.trans (g2 h5)⟩
 | none =>
  have dc:=zl4 hf.nn (show (0:Int)<=(v:Int) by omega) h0 hk hy;have dh:inV f g s i v ≠ -1:=by unfold LeV at dc;omega
  refine⟨dh,fun hz=>?_⟩;have he:zaV f g s y v=inV f g s i v:=by unfold LeV at dc;omega
  have db:=zmv hf (v:=(v:Int)) ⟨tO,tO⟩ hi hz;rw[h2 _ fun p da e=>?_,<- he]
  . grind
  have hY:=(hn.phi.ver p da).2.1;have e2:p.ver.toNat=(inV f g s i v).toNat:=tO;rw[e2,db]at hY;exact zgL hk p da (Option.some.inj hY).symm
theorem InvV.pass (_:RightF f g s rd) (hI:InvV f g s i vl vals) (hd:yy f g i<0):zj2 f g s i vl vals:=fun v hv=>by
 have e:zaV f g s i v=inV f g s i v:=by unfold zaV xc;rw[ztx tO]
 rw[e];exact hI v hv
theorem InvV.set (h:RightF f g s rd) (hi:i<g.length) (hI:InvV f g s i vl vals) {k:Nat} (hd:yy f g i=(k:Int)) (hk:k<f.vars.length) (hY:k<vals.length) (da:(s.of_.length:Nat)<=vl.length) (x:Int):zj2 f g s i (vl.set (zp s i).dfn.toNat x) (vals.set k x):=fun v hv=>by
 have hf:=h.toFormF;have hy:=(hf.at hi).yes tO;have hl:(zp s i).dfn.toNat<s.of_.length:=(ztB.1 hy.2.1).1;by_cases e:v=k
 .
  subst e;have e2:zaV f g s i v=(zp s i).dfn:=by unfold zaV xc;rw[zty hd]
  rw[e2];exact⟨by have:=hy.1;omega,fun _=>by rw[zvk tO,zvk hY]⟩
 have e2:zaV f g s i v=inV f g s i v:=by unfold zaV xc;rw[ztx tO]
 rw[e2];obtain⟨g1,g2⟩:=hI v hv;refine⟨g1,fun hz=>?_⟩;have db:=zmv hf (v:=(v:Int)) ⟨tO,tO⟩ hi hz;rw[zvj (fun e3=>?_),zvj (fun e3=>e e3.symm)]
 . grind
 have:=hy.2.1
 grind
end
end Go.Proofs.YtckdhgbepmpgiaaGreat
namespace Go.Proofs
open Go.Shelf
def Tryz.lays189_ren:Go.Shelf.Ren:=⟨fun | 189=>116 | 125=>155 | 257=>154 | 128=>193 | 129=>194 | 294=>184 | 295=>185 | 296=>186 | 297=>187 | 298=>188 | 299=>189 | 216=>190 | 300=>191 | 301=>192 | 328=>208 | 329=>209 | 330=>210 | 331=>211 | 332=>212 | 215=>213 | 343=>224 | n=>n,fun | 28=>27 | 3=>3 | 46=>222 | 0=>0 | 51=>252 | 53=>254 | 4=>4 | 183=>246 | 182=>245 | 131=>207 | 5=>5 | 9=>9 | 218=>262 | 222=>266 | 228=>274 | 229=>201 | n=>n,fun | n=>n⟩
theorem Tryz.lays189:Go.Proofs.Lays.n189 prog Tryz.lays189_ren:={
  mixed:=tK
  f125:=Tryz.func155.trans iD
  f128:=Tryz.func193.trans iD
  f129:=Tryz.func194.trans iD
  f189:=Tryz.func116.trans iD
  f215:=Tryz.func213.trans iD
  f216:=Tryz.func190.trans iD
  f257:=Tryz.func154.trans iD
  f294:=Tryz.func184.trans iD
  f295:=Tryz.func185.trans iD
  f296:=Tryz.func186.trans iD
  f297:=Tryz.func187.trans iD
  f298:=Tryz.func188.trans iD
  f299:=Tryz.func189.trans iD
  f300:=Tryz.func191.trans iD
  f301:=Tryz.func192.trans iD
  f328:=Tryz.func208.trans iD
  f329:=Tryz.func209.trans iD
  f330:=Tryz.func210.trans iD
  f331:=Tryz.func211.trans iD
  f332:=Tryz.func212.trans iD
  f343:=Tryz.func224.trans iD
  t0:=underlying0
  a0:=isAgg0
  z0:=sizeOf0
  v0:=zeroValue0
  t3:=tu3
  a3:=tg3
  z3:=ts3
  v3:=tz3
  t4:=tu4
  a4:=tg4
  z4:=ts4
  v4:=zeroValue4
  t5:=underlying5
  a5:=isAgg5
  z5:=sizeOf5
  v5:=zeroValue5
  t9:=tu9
  a9:=tg9
  z9:=ts9
  v9:=zeroValue9
  t28:=tu27
  a28:=tg27
  z28:=ts27
  v28:=tz27
  t46:=underlying222
  a46:=isAgg222
  z46:=sizeOf222
  v46:=zeroValue222
  t51:=underlying252
  a51:=isAgg252
  z51:=sizeOf252
  v51:=zeroValue252
  t53:=underlying254
  a53:=isAgg254
  z53:=sizeOf254
  v53:=zeroValue254
  t131:=underlying207
  a131:=isAgg207
  z131:=sizeOf207
  v131:=zeroValue207
  t182:=underlying245
  a182:=isAgg245
  z182:=sizeOf245
  v182:=zeroValue245
  t183:=underlying246
  a183:=isAgg246
  z183:=sizeOf246
  v183:=zeroValue246
  t218:=underlying262
  a218:=isAgg262
  z218:=sizeOf262
  v218:=zeroValue262
  t222:=underlying266
  a222:=isAgg266
  z222:=sizeOf266
  v222:=zeroValue266
  t228:=underlying274
  a228:=isAgg274
  z228:=sizeOf274
  v228:=zeroValue274
  t229:=underlying201
  a229:=isAgg201
  z229:=sizeOf201
  v229:=zeroValue201 }
open Go.Sort Go.RowKit in
theorem Tryz.slices_Sort_int (blk off cap:Nat) (zs:List Int) (w:World) (hH:Holds (Value.int .i64) w blk off zs.toArray) (hY:blk<w.heap.size) (da:zs.length<4611686018427387904) :
    Calls prog 116 #[.slice (some ⟨blk,off,none⟩) zs.length cap] w fun e w' =>
      e=.returned (.tuple #[])/\∃ n os,w'=grow (putRow (Value.int .i64) (Sort.ahead w n) blk off (zs.mergeSort fun x y=>decide (x<=y)).toArray) os:=Any.slices_Sort_int Tryz.lays189 blk off cap zs w hH hY da
open Go.RowKit Go.Sort in
theorem Tryz.slices_Sort_int_none (p:Option Addr) (cap:Nat) (w:World) :
    Calls prog 116 #[.slice p 0 cap] w fun e w'=>e=.returned (.tuple #[])/\w'=w:=Any.slices_Sort_int_none Tryz.lays189 p cap w
end Go.Proofs
namespace Go.Proofs.YtckdhgbepmpgiaaGreat
open Go.GL
theorem zdL {l:List Int} {sp:List Value} (hb:Blk w b (l.map (.int .i64)++sp) e) (d:List Int) (hs:d.length=l.length) (m:Nat) (os:Array Obj) :
  Blk (Go.Sort.grow (Go.Sort.putRow (Value.int .i64) (Go.Sort.ahead w m) b 0 d.toArray) os) b (d.map (.int .i64)++sp) e/\Keep (fun q=>q=b) w (Go.Sort.grow (Go.Sort.putRow (Value.int .i64) (Go.Sort.ahead w m) b 0 d.toArray) os):=by
 have hY:=hb.lt;have dg:(Go.Sort.putRow (Value.int .i64) (Go.Sort.ahead w m) b 0 d.toArray).heap.size=w.heap.size:=by simp[Go.Sort.ahead]
 have da:∀ i,i<w.heap.size->(Go.Sort.grow (Go.Sort.putRow (Value.int .i64) (Go.Sort.ahead w m) b 0 d.toArray) os).heap[i]?=(Go.Sort.putRow (Value.int .i64) (Go.Sort.ahead w m) b 0 d.toArray).heap[i]?:=by
  intro i hi;show ((Go.Sort.putRow (Value.int .i64) (Go.Sort.ahead w m) b 0 d.toArray).heap++os)[i]?=_;rw[ztW tO]
 refine⟨?_,rfl,rfl,rfl,Nat.le_add_right _ _,?_,?_⟩
 .
  unfold Blk at *;rw[da b hY];show (w.heap.modify b _)[b]?=_;rw[zu0,zty rfl,hb];simp only[zwJ,Go.Sort.onCells];congr 2;apply ztU;intro j;simp only[Go.Sort.putCells,Array.getElem?_mapIdx,List.getElem?_toArray];by_cases hj:j<d.length
  .
   rw[ztN tD,ztN tD];rw[ztn tD];simp[hj]
  rw[ztO tD,ztO tD];have db:¬ j<l.length:=tO;simp[hs,db]
 . grind
 intro i hi dc;rw[da i hi];show (w.heap.modify b _)[i]?=_;rw[zu0,ztx (fun h=>dc h.symm)]
def xm (l:List Int):List Int:=l.mergeSort fun x y=>decide (x<=y)
theorem za6 (l:List Int) (x:Int):x ∈ xm l ↔ x ∈ l:=List.mem_mergeSort
theorem xC (l:List Int):(xm l).length=l.length:=List.length_mergeSort _
theorem zaW (l:List Int):(xm l).Pairwise (·<=·):=by
 have:=List.pairwise_mergeSort (le:=fun x y:Int=>decide (x<=y)) tD tD l;exact this.imp tD
theorem zdM (l:List Int) (v:Value) (n:Nat) (w:World) (hY:w.ownsRow 0 3 1 v n (l.map (.int .i64))) (db:l.length<=1048576):Calls prog 116 #[v] w (Ret fun u w'=>u=.tuple #[]/\w'.ownsRow 0 3 1 v n ((xm l).map (.int .i64))/\Keep (fun q=>v.ownBlock=some q) w w'):=by
 have hn:=zgq hY;subst hn;by_cases h0:l=[]
 .
  subst h0;obtain⟨ao,c,rfl⟩:=zI hY;refine(Tryz.slices_Sort_int_none ao c w).mono ?_;rintro e w' ⟨rfl,rfl⟩;exact⟨_,rfl,rfl,by simpa[xm] using hY,Keep.refl _ _⟩
 obtain⟨g,cap,sp,rfl,_,dh,dc,hB,dg⟩:=jD hY h0
 have hH:Go.Sort.Holds (Value.int .i64) w g 0 l.toArray:=by
  intro j hj;have da:j<l.length:=tO;refine⟨?_,hB.frozen⟩;refine hB.cells j _ ?_;rw[ztN tD,ztE,ztn da];simp[da]
 refine(Tryz.slices_Sort_int g 0 cap l w hH hB.lt tO).mono ?_;rintro e w' ⟨rfl,q,os,rfl⟩;have hw:=zdL hB (xm l) (xC l) q os;refine⟨_,rfl,rfl,?_,hw.2.mono Jk⟩;have:=zbp hw.1 (cap:=cap) (by rw[<- dg];simp[xC]) dc;rw[xC]at this;exact this
mutual
/-- The variables that a term mentions, in order. -/
def xP:Tm->List Int
 | .mk op n ks=>(if op=24 then [n] else [])++mentL ks
def mentL:List Tm->List Int
 | []=>[]
 | k::r=>xP k++mentL r
end
theorem za7 (t:Tm):xP t=(if t.op=24 then [t.n] else [])++mentL t.kids:=by cases t;rw[xP];rfl
theorem mentL_mem {l:List Tm}:v ∈ mentL l ↔ ∃ k ∈ l,v ∈ xP k:=by
 induction l with
 | nil=>simp[mentL]
 | cons k r ih=>rw[mentL,ztG,ih];simp
theorem zhF (l:List Tm) (k:Tm):mentL (l++[k])=mentL l++xP k:=by
 induction l with
 | nil=>simp[mentL]
 | cons x r ih=>rw[zuH,mentL,mentL,ih,zuE]
theorem zl5 {a b:List Int} (t:Tm):(∀ v ∈ xP t,lki a v.toNat=lki b v.toNat)->xK a t=xK b t:=by
 induction t using zr1 with
 | h t ih =>
  intro h;rw[zc5,zc5]
  have hk:valL a t.kids=valL b t.kids:=by
   rw[zbd,zbd];exact zvw fun k hk=>ih k hk fun v hv=>h v (by rw[za7];exact zvD _ (mentL_mem.2 ⟨k,hk,hv⟩))
  rw[hk];unfold qB;split
  . rfl
  split
  .
   rename_i e;exact h t.n (by rw[za7,zty e];simp)
  rfl
def rdB (f:Fl) (x:Nd):Bool:=decide (x.kind=3\/x.kind=5\/(x.kind=2/\((yp f x.at_).act=0\/(yp f x.at_).act=1)))
def rdN (f:Fl) (x:Nd):List Int:=if rdB f x=true then Gr.compactL (xm (xP (yp f x.at_).term)) else []
def rdV (f:Fl) (g:List Nd) (n:Nat):List Int:=rdN f (xf g n)
theorem zo0 (h:rdB f x=true):v ∈ rdN f x ↔ v ∈ xP (yp f x.at_).term:=by
 unfold rdN;rw[zty h,Gr.compactL_mem,za6]
section
variable (f:Fl) (g:List Nd) (s:Sf)
def ki (n:Nat):Bool:=decide (¬ 0<=(zp s n).dfn/\((xf g n).kind ≠ 2\/(yp f (xf g n).at_).act=1))
inductive NeedV:Int->Prop
 | sink {n:Nat} {u:Int × Int}:n<g.length->ki f g s n=true->u ∈ (zp s n).uses->NeedV u.2
 | use {n:Nat} {u:Int × Int}:n<g.length->0<=(zp s n).dfn->NeedV (zp s n).dfn->u ∈ (zp s n).uses->NeedV u.2
 | arg {n:Nat} {p:Phn} {a:Int}:n<g.length->p ∈ (zp s n).phis->NeedV p.ver->a ∈ p.args->NeedV a
theorem NeedV.all {P:Int->Prop} (h1:∀ n,n<g.length->ki f g s n=true->∀ u ∈ (zp s n).uses,P u.2)
  (h2:∀ n,n<g.length->0<=(zp s n).dfn->P (zp s n).dfn->∀ u ∈ (zp s n).uses,P u.2) (h3:∀ n,n<g.length->∀ p ∈ (zp s n).phis,P p.ver->∀ a ∈ p.args,P a) (h:NeedV f g s k):P k:=by
 induction h with
 | sink hn hs hu=>exact h1 _ hn hs _ hu
 | use hn hd _ hu ih=>exact h2 _ hn hd ih _ hu
 | arg hn hp _ ha ih=>exact h3 _ hn _ hp ih _ ha
end
end Go.Proofs.YtckdhgbepmpgiaaGreat
namespace Go.GL
open Go.RowKit
section
variable {n:Fm} {pos:Pos} {v:Value}
variable {op:Op} {ty:TypeId} {ps:String} {g:Option (Nat × Bool)}
theorem zsz (k:Nat) {E:β->HE} {u:β->Value} (hn:(Nat.blt d n,gd ops env g,(hget H k).isNone)=(true,some true,true)) (hE:∀ x,(E x).loc/\∀ b,¬ (E x).fz b) (hm:∀ w,VI Bs H w->yM P ⟨some d,op,ty,ps,aft,g⟩ env w (fun r w'=>∃ x,r=u x/\(E x).holds w'/\Ext w w'/\∀ q,(E x).S q->w.heap.size<=q/\q<w'.heap.size))
  (h:∀ x,V P n Q ks (.o ops rest) ((d,u x)::env) ((d,none)::A) ((k,E x)::H) Bs):V P n Q ks (.o ops (⟨some d,op,ty,ps,aft,g⟩::rest)) env A H Bs:=by
 simp only[Prod.mk.injEq,zwF]at hn;refine fun hA w hI=>G.mem hn.1 hn.2.1 (hm w hI) ?_;rintro _ w' ⟨x,rfl,hh,hk,hS⟩;exact h x (TgOk.none (hA.new hn.2.2)) w' (hI.new hk k hh (hE x).1 (hE x).2 hS)
theorem zsx (k:Nat) {e:HE} (hn:(gd ops env g,hget H k,qA H k)=(some true,some e,none)) (hl:e'.loc) (hz:∀ b,¬ e'.fz b) (hm:∀ w,VI Bs H w->xY P ⟨none,op,ty,ps,aft,g⟩ env w (fun w'=>e'.holds w'/\Keep e.S w w'/\∀ q,e'.S q->(e.S q\/w.heap.size<=q)/\q<w'.heap.size))
  (h:V P n Q ks (.o ops rest) env A (hset H k e') Bs):V P n Q ks (.o ops (⟨none,op,ty,ps,aft,g⟩::rest)) env A H Bs:=by
 simp only[Prod.mk.injEq]at hn;refine fun hA w hI=>zpT hn.1 (hm w hI) ?_;rintro w' ⟨hh,hk,hS⟩;exact h (hA.res hn.2.1 hn.2.2) w' (hI.set hn.2.1 hk hh hl hz hS)
abbrev DaP {α:Type} (R:Rel α) (F:Nat->Prop) (x:α) (cs:List Value):HE:=.res F (fun w=>R F w x cs)
theorem DaP.loc [h:StC R] {x:α}:(DaP R F x cs).loc:=fun w w' _ hx hk hT=>h.s F F w w' (fun _ h=>h) (fun b hb hY=>hk.block b hY (hT b hY hb)) x cs hx
def OwH {α:Type} (e:TypeId) (kk:Nat) (R:Rel α) (F:Nat->Prop) (w:World) (v:Value) (l:List α):Prop:=OwnR e kk R F w v l/\∀ q,F q->q<w.heap.size/\v.ownBlock ≠ some q
abbrev OwP {α:Type} (e:TypeId) (kk:Nat) (R:Rel α) (F:Nat->Prop) (v:Value) (l:List α):HE:=.res (fun q=>v.ownBlock=some q\/F q) (fun w=>OwH e kk R F w v l)
section
variable [hs:StC R] {G:Nat->Prop}
theorem OwP.loc:(OwP e kk R F v l).loc:=fun w w' T h hk hT =>
 ⟨h.1.keep hs.s hk (fun q hq hY=>hT q hY (.inr hq)) (fun g hg=>by
  obtain⟨xs,h1,_⟩:=h.1
  exact hT g (xp h1 hg) (.inl hg)),fun q hq=>⟨zws (h.2 q hq).1 hk.size,(h.2 q hq).2⟩⟩
omit hs in
theorem OwH.nil:OwH e kk R (fun _=>False) w (.slice none 0 0) ([]:List α):=⟨OwnR.nil,fun _ h=>h.elim⟩
omit hs in
theorem OwH.form (h:OwH e kk R F w v l):∃ ao c,v=.slice ao l.length c/\l.length<=c/\c<=9223372036854775807:=h.1.form
theorem OwH.sl (h:OwH e kk R F w v l) (hk:0<kk) (hD:∀ q,v.ownBlock=some q\/F q->D' q):SlR kk R D' w v l:=h.1.sl hk hs.s (fun q hq=>hD q (.inr hq)) (fun q hq=>hD q (.inl hq))
theorem OwnR.wide {F':Nat->Prop} (h:OwnR e kk R F w v l) (hF:∀ q,F q->F' q):OwnR e kk R F' w v l:=by
 obtain⟨xs,h1,h2⟩:=h;exact⟨xs,h1,fun i x hx=>hs.s F F' w w hF (fun _ _ _=>rfl) x _ (h2 i x hx)⟩
theorem zsA (kks:List Nat) {Hn:β->Hp} {u:β->Value} (A1:Tgs) (hn:(Nat.blt d n,gd ops env g)=(true,some true))
  (hY:∀ x,A1.map (fun p=>zcJ ((d,u x)::env) p.1)=A1.map (fun p=>jc (Hn x++yB kks H) p.2)) (da:∀ x,A1.all (fun p=>(jc (Hn x++yB kks H) p.2).isSome)=true)
  (hm:∀ w,VI Bs H w->yM P ⟨some d,op,ty,ps,aft,g⟩ env w (fun r w'=>∃ x,r=u x/\Hands H kks (Hn x) w w'))
  (h:∀ x,V P n Q ks (.o ops rest) ((d,u x)::env) A1 (Hn x++yB kks H) Bs):V P n Q ks (.o ops (⟨some d,op,ty,ps,aft,g⟩::rest)) env A H Bs:=by
 simp only[Prod.mk.injEq]at hn;refine fun hA w hI=>G.mem hn.1 hn.2 (hm w hI) ?_;rintro _ w' ⟨x,rfl,hh⟩;exact h x (TgOk.of (hY x) (da x)) w' (hI.hands hh)
theorem zsB {G:Nat->Prop} (k k2 kb:Nat) {t:TypeId} {by':Nat} {x y:Operand} {a:α} (hI:VI Bs H w) (h1:hget H k=some (OwP e kk R F v l)) (h2:hget H k2=some (DaP R G a cs)) (h3:hget H kb=some (.own b cs e)) (dc:Nat.beq k k2=false)
  (hu:P.underlying t=some (.slice e)) (he:(P.info? e).map (fun i=>(i.zero,i.size,i.bytes))=some (some z,kk,by')) (dg:z.cells.size=kk) (hk:0<kk) (hx:ev env x=some v) (hy:ev env y=some (.slice (some ⟨b,0,none⟩) 1 1)) (hl:cs.length=kk) (ho:∀ (D:Nat->Prop) x cs,R D w x cs->∀ u ∈ cs,u.oneCell'=true) (hY:l.length+1<=9223372036854775807) (dh:(l.length+1)*by'<=140737488355328) :
  yM P ⟨some d,.call ⟨.builtin .append,#[x,y],#[t,t]⟩,ty,ps,aft,g⟩ env w (fun r w'=>∃ u,r=u/\Hands H [k,k2] [(k,OwP e kk R (fun q=>F q\/G q) u (l++[a]))] w w'):=by
 have g1:OwH e kk R F w v l:=hI.at k h1;have g2:R G w a cs:=hI.at k2 h2;have g3:Blk w b cs e:=hI.at kb h3;have dl:=zal hI.apart h1 h2 dc;have dm:∀ q,G q->q<w.heap.size:=fun q hq=>hI.low _ (zm h2) q hq;have da:OwnR e kk R (fun q=>F q\/G q) w (.slice (some ⟨b,0,none⟩) 1 1) [a]:=OwnR.lit g3 hl (hs.s G _ w w (fun _ h=>.inr h) (fun _ _ _=>rfl) a cs g2);have hw:OwnR e kk R (fun q=>F q\/G q) w v l:=g1.1.wide (fun _ h=>.inl h);have hD:∀ q,(F q\/G q)->v.ownBlock ≠ some q:=fun q hq h=>hq.elim (fun hF=>(g1.2 q hF).2 h) (fun hG=>dl q (.inl h) hG);obtain⟨u,w',hr,h5,h6,h7⟩:=zsu (dst:=some d) (ty:=ty) (pos:=ps) (aft:=aft) (g:=g) hu he dg hk hx hy hs.s (ho _) hw da (fun q hq _=>hD q hq) hY dh;refine⟨u,w',hr,u,rfl,?_⟩;have i1:∀ q,(v.ownBlock=some q\/F q)->InS H [k,k2] q:=fun q hq=>⟨_,zm h1,by simp[zfH,],hq⟩;have i2:∀ q,G q->InS H [k,k2] q:=fun q hq=>⟨_,zm h2,by simp only[zfH];rw[dc];simp[],hq⟩;have db:∀ q,(F q\/G q)->q<w.heap.size:=fun q hq=>hq.elim (fun hF=>(g1.2 q hF).1) (dm q)
 have dr:∀ q,u.ownBlock=some q->(v.ownBlock=some q\/w.heap.size<=q)/\q<w'.heap.size:=fun q hq=>by
  obtain⟨xs,hx,_⟩:=h5;refine⟨?_,xp hx hq⟩;rcases h6 with h6 | ⟨g',h6,dt⟩
  . grind
  grind
 refine⟨h7.mono fun q _ hq=>i1 q (.inl hq),fun x hx=>?_,zvX _ _⟩;rw[ztF]at hx;subst hx;refine⟨⟨h5,fun q hq=>⟨zws (db q hq) h7.size,fun h=>?_⟩⟩,OwP.loc,fun _ h=>h,fun q hq=>?_⟩
 . grind
 rcases hq with hq | hq | hq
 . grind
 . exact⟨.inl (i1 q (.inr hq)),zws (db q (.inl hq)) h7.size⟩
 exact⟨.inl (i2 q hq),zws (db q (.inr hq)) h7.size⟩
end
end
section
variable {n:Fm}
theorem VD.skip (i j:Nat) {op:Op} {ty:TypeId} {ps:String} {g:Option (Nat × Bool)} (hi:ops[i]?=some ⟨some d,op,ty,ps,aft,g⟩) (hr:Region.ready .any ops listed=[i]) (hn:(Nat.blt d n,gd ops env g,qd (Hs.map (·.1)))=(true,some false,true)) (hB:Bs.drop j=B0)
  (h:VD P n Q ks ops Hs B0 L fuel (listed.setIfInBounds i true) ((d,undef)::env) ((d,none)::A) H Bs):VD P n Q ks ops Hs B0 L (fuel+1) listed env A H Bs:=by
 simp only[Prod.mk.injEq]at hn;subst hB;refine fun hH hA w hI=>WD.skip i hi hr (qf hn.2.1) O hn.1 ((hI.drop j).pick hH hn.2.2) (h hH hA.none w hI)
end
section
variable {n:Fm} {pos:Pos}
theorem zsC (k k2:Nat) {e:HE} (A1:Tgs) (hn:(hget H k,hget H k2)=(some e,some e2))
  (hY:A1.map (fun p=>zcJ env p.1)=A1.map (fun p=>jc ((k,e')::yB [k,k2] H) p.2)) (da:A1.all (fun p=>(jc ((k,e')::yB [k,k2] H) p.2).isSome)=true)
  (he:∀ w,VI Bs H w->e'.holds w) (hl:e'.loc) (hz:∀ b,¬ e'.fz b) (hS:∀ q,e'.S q->e.S q\/e2.S q) (h:V P n Q ks pos env A1 ((k,e')::yB [k,k2] H) Bs):V P n Q ks pos env A H Bs:=by
 simp only[Prod.mk.injEq]at hn;refine fun _ w hI=>h (TgOk.of hY da) w (hI.hands (Hn:=[(k,e')]) ⟨Keep.refl _ _,fun x hx=>?_,zvX _ _⟩);rw[ztF]at hx;subst hx;have i1:∀ q,e.S q->InS H [k,k2] q:=fun q hq=>⟨_,zm hn.1,by simp[zfH,],hq⟩;have i2:∀ q,e2.S q->InS H [k,k2] q:=fun q hq=>⟨_,zm hn.2,by simp[zfH,],hq⟩;refine⟨he w hI,hl,hz,fun q hq=>?_⟩;rcases hS q hq with h1 | h1
 . exact⟨.inl (i1 q h1),hI.low _ (zm hn.1) q h1⟩
 exact⟨.inl (i2 q h1),hI.low _ (zm hn.2) q h1⟩
theorem zsD (k j:Nat) {w0:World} {S:Nat->Prop} {p:World->Prop} (hn:(hget H k).isNone=true) (hp:Bs[j]?=some (w0,S)) (hl:(HE.dat F p).loc) (h0:p w0) (hF:∀ q,F q->q<w0.heap.size/\¬ S q) (h:V P n Q ks pos env A ((k,.dat F p)::H) Bs):V P n Q ks pos env A H Bs:=by
 refine fun hA w hI=>h (hA.new (by simpa using hn)) w ?_;have hb:=hI.base _ (zto hp);have hk:(HE.dat F p).holds w:=HE.keep (e:=.dat F p) ⟨h0,fun q hq=>(hF q hq).1⟩ hl hb.1 (fun q hq=>hq.elim) fun b hY=>(hF b hY).2
 have da:∀ x ∈ H,∀ b,F b->¬ x.2.S b:=fun x hx b hY hs=>by
  grind
 refine⟨?_,?_,?_,?_,?_,?_⟩
 .
  intro x hx;rcases ztD.1 hx with rfl | hx
  . exact hk
  exact hI.holds x hx
 .
  intro x hx;rcases ztD.1 hx with rfl | hx
  . exact hl
  exact hI.loc x hx
 . exact zvU.2 ⟨fun x _ q hq=>hq.elim,hI.apart⟩
 .
  intro x hx y hy b hY hs;rcases ztD.1 hy with rfl | hy
  . exact hs
  rcases ztD.1 hx with rfl | hx
  . exact da y hy b hY hs
  exact hI.froz x hx y hy b hY hs
 .
  intro x hx q hq;rcases ztD.1 hx with rfl | hx
  . exact hq.elim
  exact hI.low x hx q hq
 intro q hq;refine⟨(hI.base q hq).1,fun x hx b hY=>?_⟩;rcases ztD.1 hx with rfl | hx
 . exact hY.elim
 exact(hI.base q hq).2 x hx b hY
end
theorem zgM {α:Type} {R:α->α->Prop} (hs:∀ x y,R x y->R y x):∀ {l:List α},l.Pairwise R->∀ {x y},x ∈ l->y ∈ l->x ≠ y->R x y
 | [],_,_,_,h,_,_=>tD
 | a::l,hp,x,y,hx,hy,hne=>by
  rw[zvU]at hp;rcases ztD.1 hx with e1 | h1
  . grind
  rcases ztD.1 hy with e2 | h2
  . grind
  exact zgM hs hp.2 h1 h2 hne
theorem VI.sep {k k2:Nat} {e:HE} (hI:VI Bs H w) (h1:hget H k=some e) (h2:hget H k2=some e2) (hY:k ≠ k2) (hq:e.S q):¬ e2.S q :=
 zgM (R:=fun x y:Nat × HE=>∀ q,x.2.S q->¬ y.2.S q) (fun _ _ h q hy hx=>h q hx hy) hI.apart (zm h1) (zm h2) (fun e=>hY (congrArg Prod.fst e)) q hq
end Go.GL
namespace Go.Proofs.YtckdhgbepmpgiaaGreat
open Go.GL
theorem zmW (l:List Int) (v:Value) (D:Nat->Prop) (w:World) (i:Nat) (h:SlR 1 zv D w v l) :
  Calls prog 135 #[v,.int .i64 i] w (Ret fun r w'=>r=.tuple #[.int .i64 (l[i]?.getD 0),.bool (decide (i<l.length))]/\Ext w w'):=by
 obtain⟨av,cv,rfl⟩:=h.form;refine zqR func135 O ntmps135 O (V.inn (Vs 15 O (zp4 O (fun db=>?_) (fun db=>?_))))
 . refine Vs 8 O (zpo results135 O O (fun w hI=>⟨_,rfl,by rw[ztA tO,ztL tO];rfl,hI.k0⟩))
 refine Vs 6 O (zrJ 1000 0 i tO h O O (fun x dg dh hY dc da=>?_));refine zrg 1000 tR27 ts3 O da tO _ rfl O (Vs 6 O (zpo results135 O O (fun w hI=>⟨_,rfl,by rw[ztz tO,hY];rfl,hI.k0⟩)))
theorem zg0 (vs:List Vr) (r:Ins) (vv s1 s2 s3:Value) (Dv D1 D2 D3:Nat->Prop) (w:World) (dt:SlR 5 RVr Dv w vv vs) (dy:vs.length<=1000000) (dz:∀ v ∈ vs,0<=v.kind/\v.kind<=3) (du:SlR 1 zv D1 w s1 r.secret) (dw:SlR 1 zv D2 w s2 r.pub) (dx:SlR 1 zv D3 w s3 r.random) :
  Calls prog 94 #[vv,.agg #[s1,s2,s3]] w (Ret fun rr w'=>(∃ u,rr=.tuple #[u,.int .i64 (zh vs r)]/\(zh vs r ≠ 0->u=.slice none 0 0)/\(zh vs r=0->w'.ownsRow 0 3 1 u (zu vs r).length ((zu vs r).map zb)/\∀ g,u.ownBlock=some g->w.heap.size<=g))/\Ext w w'):=by
 obtain⟨av,cv,rfl⟩:=dt.form;obtain⟨a1,c1,rfl⟩:=du.form;obtain⟨a2,c2,rfl⟩:=dw.form;obtain⟨a3,c3,rfl⟩:=dx.form;refine zqR func94 O ntmps94 O (V.inn (Vs 2 O (V.box 3 O O (fun b3=>?_))));refine Vs 13 O (zrU 15 tR27 ts3 O (fun b15=>?_));refine Vs 15 O (zrM (σ:=Nat × StS × Value × Bool) [0,3] [3] [3] O (fun e ⟨i,s,u,b⟩=>(6,.int .i64 s.a)::(7,.int .i64 s.b)::(8,.int .i64 s.c)::(9,u)::(10,.bool b)::(11,.int .i64 i)::e) (fun e ⟨i,s,u,b⟩=>(15,.row 3 1 u s.vals.length (s.vals.map zb))::e) (fun⟨i,s,u,b⟩=>i<=vs.length/\(vs.take i).foldl (zo r) (some ⟨[],0,0,0⟩)=some s/\b=((vs.take i).zip s.vals).all inB) (fun⟨i,s,u,b⟩=>vs.length - i) (0,⟨[],0,0,0⟩,.slice (some ⟨b15,0,none⟩) 0 0,true) j2 j3 j1 j1 j1 ⟨ztC _,rfl,rfl⟩ ?_);rintro⟨i,s,u,b⟩ ⟨hi,hs,hb⟩;obtain⟨dA,ha,dD,hc⟩:=zaw i s hi hs;refine Vs 9 O (zp4 O (fun dB=>?_) (fun dB=>?_))
 .
  refine Vs 8 O (zrI 1000 0 i tO dt O O O (fun x dE dF dG db dc dg dh=>?_));obtain rfl:=dh;refine zrg 1000 tR22 ts142 O dg tO _ rfl O ?_;have hY:=kF db hs;refine Vs 1 O (V.alloc 12 tz142 O O (fun b12=>?_));refine Vs 18 O ?_;have dH:=dz x dc;refine zrN (σ:=Bool × Int × Nat × Nat × Nat) [0,3,9,10,11,12] [3,12,15] [3,12] O (fun e ⟨ok,n,a',b',c'⟩=>(13,.int .i64 n)::(14,.bool ok)::(6,.int .i64 a')::(7,.int .i64 b')::(8,.int .i64 c')::e) (fun e ⟨ok,n,a',b',c'⟩=>e) (fun⟨ok,n,a',b',c'⟩=>(vs.take (i+1)).foldl (zo r) (some ⟨[],0,0,0⟩)=if ok then some ⟨s.vals++[n],a',b',c'⟩ else none) j1 j1 ?_ ?_
  .
   refine Vs 7 O (zp4 O (fun k1=>?_) (fun k1=>?_))
   .
    refine Vs 5 O (zrs call135 O (fun w hI=>zmW r.secret _ D1 w s.a JQ) ?_);rw[ztx tO,show yR r x.kind=r.secret by unfold yR;rw[zty k1],show jB s x.kind=s.a by unfold jB;rw[zty k1]]at hY
    have hq:(vs.take (i+1)).foldl (zo r) (some ⟨[],0,0,0⟩)=if decide (s.a<r.secret.length) then some ⟨s.vals++[r.secret[s.a]?.getD 0],s.a+1,s.b,s.c⟩ else none:=by
     rw[hY];by_cases hl:s.a<r.secret.length
     . rw[zty (ztz hl),ztn hl];simp[za2,k1]
     rw[ztx (by simp[hl]),ztL tO];rfl
    refine Va 13 O tO (zpi ⟨_,_,s.a+1,s.b,s.c⟩ j2 j3 (hq) 0 O O)
   refine Vs 6 O (zp4 O (fun k2=>?_) (fun k2=>?_))
   .
    refine Vs 5 O (zrs call135 O (fun w hI=>zmW r.pub _ D2 w s.b (Tr1 hI.k0 dw)) ?_);rw[ztx tO,show yR r x.kind=r.pub by unfold yR;rw[ztx k1,zty k2],show jB s x.kind=s.b by unfold jB;rw[ztx k1,zty k2]]at hY
    have hq:(vs.take (i+1)).foldl (zo r) (some ⟨[],0,0,0⟩)=if decide (s.b<r.pub.length) then some ⟨s.vals++[r.pub[s.b]?.getD 0],s.a,s.b+1,s.c⟩ else none:=by
     rw[hY];by_cases hl:s.b<r.pub.length
     . rw[zty (ztz hl),ztn hl];simp[za2,k2]
     rw[ztx (by simp[hl]),ztL tO];rfl
    refine Va 13 O tO (zpi ⟨_,_,s.a,s.b+1,s.c⟩ j2 j3 (hq) 0 O O)
   refine Vs 6 O (zp4 O (fun k3=>?_) (fun k3=>?_))
   .
    refine Vs 5 O (zrs call135 O (fun w hI=>zmW r.random _ D3 w s.c (Tr1 hI.k0 dx)) ?_);rw[ztx tO,show yR r x.kind=r.random by unfold yR;rw[ztx k1,ztx k2],show jB s x.kind=s.c by unfold jB;rw[ztx k1,ztx k2]]at hY
    have hq:(vs.take (i+1)).foldl (zo r) (some ⟨[],0,0,0⟩)=if decide (s.c<r.random.length) then some ⟨s.vals++[r.random[s.c]?.getD 0],s.a,s.b,s.c+1⟩ else none:=by
     rw[hY];by_cases hl:s.c<r.random.length
     . rw[zty (ztz hl),ztn hl];simp[za2,k1,k2]
     rw[ztx (by simp[hl]),ztL tO];rfl
    refine Va 13 O tO (zpi ⟨_,_,s.a,s.b,s.c+1⟩ j2 j3 (hq) 0 O O)
   rw[zty tO]at hY;refine Vs 2 O (zpi ⟨true,x.init,s.a,s.b,s.c⟩ j2 j3 (by rw[hY];rfl) 0 O O)
  rintro⟨ok,n,a',b',c'⟩ hq;dsimp only at hq;refine Vs 5 O (zqH O (fun w hI=>zqi O j6) (Vs 2 O (V.bool O (fun dl=>?_) (fun dl=>?_))))
  .
   have da:ok=false:=by simpa using dl
   have hN:zh vs r=1:=by unfold zh;rw[zc7 (by rw[hq,da];rfl)]
   refine Vs 13 O (zpo tr94 O O (fun w hI=>⟨_,rfl,⟨_,by rw[hN],fun _=>rfl,fun h=>tO⟩,hI.k0⟩))
  have da:ok=true:=by simpa using dl
  rw[da,zty rfl]at hq
  have hz:∀ c,c=inB (x,n)->(b&&c)=((vs.take (i+1)).zip (s.vals++[n])).all inB:=by
   intro c hc;rw[ze db,List.zip_append (by rw[dA,ztR];omega),zuA,<- hb,hc];simp
  refine Vs 10 O (V.sp 69 O (fun g1=>?_) (fun g1=>?_))
  .
   refine Vs 15 O (zrP 77 [(0,_)] tR27 ts3 tz3 tS O O tK (fun b77=>?_));refine zrl 15 77 tu27 Tryz.el3 O tS O O tO tO (fun u15=>(Va 9 O tO (zrL 15 O (e':=.row 3 1 u15 (s.vals++[n]).length ((s.vals++[n]).map zb)) (by simp[zb]) (V.back ⟨i+1,⟨s.vals++[n],a',b',c'⟩,u15,false⟩ j2 j3 ⟨tO,hq,by rw[<- hz false (by unfold inB;rw[ztA (p:=x.low<=n) tO];rfl),zu9]⟩ tZ 0 O O))))
  refine Vs 7 O (zp4 O (fun t1=>?_) (fun t1=>?_))
  .
   refine Vs 7 O (zrP 1077 [(0,_)] tR27 ts3 tz3 tS O O tK (fun b1077=>?_));refine zrl 15 1077 tu27 Tryz.el3 O tS O O tO tO (fun u15=>(Va 9 O tO (zrL 15 O (e':=.row 3 1 u15 (s.vals++[n]).length ((s.vals++[n]).map zb)) (by simp[zb]) (V.back ⟨i+1,⟨s.vals++[n],a',b',c'⟩,u15,false⟩ j2 j3 ⟨tO,hq,by rw[<- hz false (by unfold inB;rw[ztA (p:=n<=x.high) tO,zu9]),zu9]⟩ tZ 0 O O))))
  refine Vs 5 O (zrP 2077 [(0,_)] tR27 ts3 tz3 tS O O tK (fun b2077=>?_));refine zrl 15 2077 tu27 Tryz.el3 O tS O O tO tO (fun u15=>(Va 9 O tO (zrL 15 O (e':=.row 3 1 u15 (s.vals++[n]).length ((s.vals++[n]).map zb)) (by simp[zb]) (V.back ⟨i+1,⟨s.vals++[n],a',b',c'⟩,u15,b⟩ j2 j3 ⟨tO,hq,by rw[<- hz true (by unfold inB;rw[ztz (p:=x.low<=n) tO,ztz (p:=n<=x.high) tO];rfl),Bool.and_true]⟩ tZ 0 O O))))
 have dC:i=vs.length:=tO;rw[dC,zts]at hs hb;have hS:kr vs r=some s:=hs;have hC:zh vs r=yZ vs r s:=by unfold zh;rw[hS]
 have hV:zu vs r=s.vals:=by unfold zu;rw[hS]
 rw[hC,hV];refine Vs 14 O (V.sp 84 O (fun e1=>?_) (fun e1=>?_))
 .
  have hF:yZ vs r s=1:=by unfold yZ;rw[zty (.inl tO)]
  rw[hF];refine Vs 24 O ik
 refine Vs 7 O (V.sp 91 O (fun e2=>?_) (fun e2=>?_))
 .
  have hF:yZ vs r s=1:=by unfold yZ;rw[zty (.inr (.inl tO))]
  rw[hF];refine Vs 17 O ik
 refine Vs 8 O (zp4 O (fun e3=>?_) (fun e3=>?_))
 .
  have hF:yZ vs r s=1:=by unfold yZ;rw[zty (.inr (.inr tO))]
  rw[hF];refine Vs 8 O ik
 have hF:yZ vs r s=if b=true then 0 else 3:=by unfold yZ;rw[ztx tO,hb]
 rw[hF];refine Vs 6 O (zqH O (fun w hI=>zqi O j6) (Vs 2 O (V.bool O (fun dm=>?_) (fun dm=>?_))))
 .
  have dr:b=false:=by simpa using dm
  rw[dr,ztx tS];refine Vs 8 O ik
 have dr:b=true:=by simpa using dm
 rw[dr,zty rfl];refine Vs 10 O (zpo tr94 O O (fun w hI=>⟨_,rfl,⟨_,rfl,fun h=>absurd O h,fun _=>⟨hI.at 15 rfl,hI.own 15 0 O rfl⟩⟩,hI.k0⟩))
theorem zg1 (t:Tm):zA vs true t=true->zA vs false t=true:=by
 induction t using zr1 with
 | h t ih =>
  intro h;rw[yW,zu8,zu8]at h ⊢;refine⟨⟨h.1.1,?_⟩,?_⟩
  .
   have h2:=h.1.2;unfold zT at h2 ⊢;split
   .
    rename_i e;rw[zty e,zu8]at h2;rw[h2.1];rfl
   rename_i e;rw[ztx e]at h2;exact h2
  have key:∀ l:List Tm,(∀ k ∈ l,k ∈ t.kids)->formedL vs true l=true->formedL vs false l=true:=by
   intro l;induction l with
   | nil=>intro _ _;rfl
   | cons x r ihr =>
    intro hm hf;rw[formedL,zu8]at hf ⊢;exact⟨ih x (hm x (ztr ..)) hf.1,ihr (fun k hk=>hm k (ztq _ hk)) hf.2⟩
  exact key t.kids (fun k h=>h) h.2
theorem Valid.hatch (V:Valid f):∀ h ∈ f.hatches,zA f.vars false h.term=true/\(rng f.vars h.term).isSome=true/\h.term.nodes<=1000000/\h.low<=h.high:=by
 intro h hm;obtain⟨i,hi⟩:=zvH.1 hm;have da:=(ztB.1 hi).1;have h0:=(yc V.ok).2.2.1;have h1:=qb f.hatches.length 0 h0 i (ztC _) tO;rw[zas hi]at h1;have hn:=qa hi;have:=V.size;unfold zL at h1;split at h1
 . cases h1
 split at h1
 . cases h1
 split at h1
 . cases h1
 rename_i hb;unfold zD at h1;split at h1
 .
  rename_i hf;split at h1
  .
   rename_i hr;refine⟨zg1 _ hf,hr,tO,?_⟩;have hY:zb9 h.low h.high=true:=tD;unfold zb9 at hY;exact(of_decide_eq_true hY).1
  cases h1
 cases h1
def zgN (vals:List Int) (hs:List Ht):List Int:=hs.map fun h=>yA (xK vals h.term) h.low h.high
theorem zeZ {hs:List Ht} {x:Ht} (h:hs[i]?=some x):zgN vals (hs.take (i+1))=zgN vals (hs.take i)++[yA (xK vals x.term) x.low x.high]:=by
 unfold zgN;rw[ze h,zvv];rfl
theorem jK (h:zh vs r=0):InV vs (zu vs r):=by
 unfold zh at h;cases hs:kr vs r with
 | none=>rw[hs]at h;cases h
 | some s =>
  rw[hs]at h;have hv:zu vs r=s.vals:=by unfold zu;rw[hs]
  have hl:=zaw (vs:=vs) (r:=r) vs.length s (ztM _) (by rw[zts];exact hs);simp only at h;unfold yZ at h;split at h
  . cases h
  split at h
  .
   rename_i ha;rw[hv];refine⟨hl.1,fun i v hi=>?_⟩;have hY:=(ztB.1 hi).1;rw[zuB]at ha
   have:=ha (v,lki s.vals i) (zvH.2 ⟨i,by
    rw[List.getElem?_zip_eq_some]
    exact⟨hi,zgJ tO⟩⟩)
   unfold inB at this;simp at this;exact this
  cases h
abbrev yk (f:Fl) (r:Ins):List Int:=zgN (zu f.vars r) f.hatches
abbrev zhG (f:Fl) (r:Ins):Sg:=⟨zu f.vars r,[],0⟩
abbrev zoV (f:Fl) (r:Ins):Mc:=⟨0,zhG f r,fun _=>0⟩
def zaz (f:Fl) (r:Ins):Sg:=exL f (yk f r) f.body (zhG f r)
def GoesAll (f:Fl) (r:Ins) (K:Nat):Prop:=∃ rd',Goes f (yk f r) (zd f) 0 ((zd f).length - 1) K (zoV f r) ⟨((zd f).length:Int) - 1,zaz f r,rd'⟩
theorem GoesAll.unique {K K':Nat} (h:GoesAll f r K) (h':GoesAll f r K'):K=K':=by
 obtain⟨_,h1,h2⟩:=h;obtain⟨_,h3,h4⟩:=h';rcases zwu K K' with hh | hh | hh
 . have:=(h4 K hh).2;rw[h1]at this;dsimp only at this;omega
 . exact hh
 have:=(h2 K' hh).2;rw[h3]at this;dsimp only at this;omega
theorem zcY (l:List Int):l.flatMap (fun x=>[zb x])=l.map zb:=(zb3 l).symm
theorem za8:∀ (D:Nat->Prop) (w:World) (x:Int) (cs:List Value),zv D w x cs->cs=[zb x]:=fun _ _ _ _ h=>h
theorem zf0 (vs:List Vr) (vals:List Int) (n i:Int) (v1 v2 v3 sv:Value) (Dv D:Nat->Prop) (w:World) (dg:SlR 5 RVr Dv w v1 vs) (hs:SlR 1 zv D w sv vals) (dh:vals.length=vs.length) (dm:vs.length<=1000000) (hi:0<=i/\i<vs.length) :
  Calls prog 137 #[.agg #[v1,v2,v3],sv,.int .i64 i,.int .i64 n] w (Ret fun rr w'=>(w'.ownsRow 0 3 1 rr vals.length ((zed vs vals i n).map zb)/\∀ g,rr.ownBlock=some g->w.heap.size<=g)/\Ext w w'):=by
 obtain⟨av,cv,rfl⟩:=dg.form;obtain⟨asl,csl,rfl⟩:=hs.form;obtain⟨i,rfl⟩:∃ j:Nat,i=j:=⟨i.toNat,tO⟩;refine zqT func137 O ntmps137 O (V.inn (Vs 2 O (V.box 4 O O (fun b4=>?_))));refine Vs 5 O (zrU 10 tR27 ts3 O (fun b10=>?_));refine Vs 1 O (zrS 10 (fun x=>[zb x]) j1 tY za8 tu27 Tryz.el3 O tS O (fun w hI=>⟨_,Tr1 hI.k0 hs⟩) tO tO (fun u10=>?_));refine zrL 10 O (e':=.row 3 1 u10 vals.length (vals.map zb)) (by rw[zcY,zwC];rfl) (zrn 10 O tO ?_);rintro b c rfl da;refine Vs 4 O (zrI 1000 0 i tO dg O O O (fun x dr dt du db dl hY dc=>?_));obtain rfl:=dc;refine Vw [4,1000] [] O (Vd [0,1,2,3,4,5,9,10,11] 0 tK O O O ?_);refine zrh 6 1000 tR22 ts142 O tK O hY tO _ rfl O (Vd [7,8] 0 tK O O O ?_);refine zrh 12 1000 tR22 ts142 O tK O hY tO _ rfl O (Vd [13,14] 0 tK O O O (zrt 15 0 call140 O tK O O (fun w hI=>zaq n x.low x.high w) (Vb [16] 0 tK O O O tO (zrr 17 10 0 (i) ts3 O tK O O tO tD (VD.done tK (Vs 8 O ?_))))));have hx:zed vs vals i n=vals.set i (yA n x.low x.high):=by unfold zed;rw[ztJ,db]
 refine zrL 10 O (e':=.row 3 1 (.slice (some ⟨b,0,none⟩) vals.length c) vals.length ((zed vs vals i n).map zb)) (by rw[hx,zvB]) (zpl results137 O (fun w hI=>⟨_,rfl,⟨hI.at 10 rfl,hI.own 10 0 O rfl⟩,hI.k0⟩))
theorem zdN (f:Fl) (vals:List Int) (v1 v2 v3 sv:Value) (D Ds:Nat->Prop) (w:World) (hf:RFl D w f v1 v2 v3) (hs:SlR 1 zv Ds w sv vals) (hg:∀ v ∈ f.vars,yT (v.low,v.high)) (hV:InV f.vars vals) (hh:∀ h ∈ f.hatches,zA f.vars false h.term=true/\(rng f.vars h.term).isSome=true) (dw:f.hatches.length<=1000000) :
  Calls prog 96 #[.agg #[v1,v2,v3],sv] w (Ret fun rr w'=>(w'.ownsRow 0 3 1 rr f.hatches.length ((zgN vals f.hatches).map zb)/\∀ g,rr.ownBlock=some g->w.heap.size<=g)/\Ext w w'):=by
 obtain⟨dx,dh,dy⟩:=hf;obtain⟨ah,ch,rfl⟩:=dh.form;refine zqR func96 O ntmps96 O (V.inn (Vs 2 O (V.box 2 O O (fun b2=>?_))));refine Vs 5 O (zrU 8 tR27 ts3 O (fun b8=>?_));refine Vs 10 O (zrM (σ:=Nat × Value) [1,2] [2] [2] O (fun e ⟨i,u⟩=>(5,u)::(6,.int .i64 i)::e) (fun e ⟨i,u⟩=>(8,.row 3 1 u i ((zgN vals (f.hatches.take i)).map zb))::e) (fun⟨i,u⟩=>i<=f.hatches.length) (fun⟨i,u⟩=>f.hatches.length - i) (0,.slice (some ⟨b8,0,none⟩) 0 0) j2 j3 j1 j1 j1 (ztC _) ?_);rintro⟨i,u⟩ hi;refine Vs 10 O (zp4 O (fun dl=>?_) (fun dl=>?_))
 .
  refine Vs 9 O (zrI 1000 0 i tO dh O O O (fun x dz dA dB da db dc dg=>?_));obtain⟨dm,rfl,hY⟩:=dg;obtain⟨dr,dt,rfl⟩:=hY.form;refine zrg 1000 tR23 ts109 O dc tO _ rfl O ?_;obtain⟨t1,t2⟩:=hh x db;refine Vs 1 O (V.alloc 7 tz109 O O (fun b7=>?_));refine Vs 3 O (Vw [2,1000,7] [] O (Vd [0,1,2,3,5,6,7,8] 0 tK O O O (zrt 4 0 tc138 O tK O O (fun w hI=>qw hg hV x.term t1 t2 _ D Ds w _ (Tr1 hI.k0 hs) U3) (zrt 9 0 call140 O tK O O (fun w hI=>zaq _ x.low x.high w) (zrQ 10 31 0 [(0,_)] tR27 ts3 tz3 tS O tK O O tK (fun b31=>?_))))));refine zrm 11 8 31 0 tu27 Tryz.el3 O tS O tK O O O tO tO (fun u8=>(Vd [12] 0 tK O O O (VD.done tK (Va 7 O tO (zrL 8 O (e':=.row 3 1 u8 (i+1) ((zgN vals (f.hatches.take (i+1))).map zb)) (by rw[zeZ da,zvv];rfl) (V.back (i+1,u8) j2 j3 (Nat.succ_le_of_lt tO) tD 0 O O))))))
 have du:i=f.hatches.length:=tO;subst du;refine Vs 12 O (zpl results96 O (fun w hI=>⟨_,rfl,⟨by have h:=hI.at 8 rfl;rwa [zts]at h,hI.own 8 0 O rfl⟩,hI.k0⟩))
theorem zgO (vs:List Vr) (vals:List Int) (i n:Int):(zed vs vals i n).length=vals.length:=by
 unfold zed;split
 . rw[zvu]
 rfl
structure SgB (f:Fl) (N:Nat) (σ:Sg):Prop where
 inv:InV f.vars σ.vals
 t0:0<=σ.time
 t1:σ.time<=(N:Int)*67108864
 ol:σ.outs.length<=N
theorem SgB.mono {M:Nat} {σ:Sg} (h:SgB f N σ) (hm:N<=M):SgB f M σ:=⟨h.inv,h.t0,by have:=h.t1;omega,by have:=h.ol;omega⟩
theorem SgB.cost {σ:Sg} {s:St} (h:SgB f N σ) (ho:StepOk f s):SgB f (N+1) { σ with time:=σ.time+s.cost }:=by
 have:=ho.cost;exact⟨h.inv,by have:=h.t0;dsimp only;omega,by have:=h.t1;dsimp only;omega,by have:=h.ol;dsimp only;omega⟩
abbrev PreOk (f:Fl) (l:List St):Prop:=∀ s ∈ preL l,StepOk f s/\jX s/\(s.act=4->0<=s.n)
theorem PreOk.kids {l:List St} (h:PreOk f l) {x:St} (hx:x ∈ l):(StepOk f x/\jX x/\(x.act=4->0<=x.n))/\PreOk f x.thn/\PreOk f x.els:=by
 have hm:∀ s ∈ x.pre,s ∈ preL l:=by
  intro s hs;induction l with
  | nil=>cases hx
  | cons y r ih =>
   rw[preL,ztG];rcases ztD.1 hx with rfl | hx
   . exact .inl hs
   refine .inr (ih (fun s hs=>h s ?_) hx);rw[preL,ztG];exact .inr hs
 rw[x.pre_eq]at hm;exact⟨h x (hm x tR),fun s hs=>h s (hm s (by simp[hs])),fun s hs=>h s (hm s (by simp[hs]))⟩
theorem zf1 {f:Fl} {body:Sg->Sg} {s:St} (ho:StepOk f s) {b:Nat} (hb:∀ N σ,SgB f N σ->SgB f (N+b) (body σ)):∀ (k N:Nat) (σ:Sg),SgB f N σ->SgB f (N+k*(1+b)) (kG body s.cost s.term k σ)
 | 0,N,σ,h=>by simpa[kG] using h
 | k+1,N,σ,h=>by
  unfold kG;have h1:=h.cost ho;rw[zwB];split
  . exact h1.mono tO
  exact(zf1 ho hb k _ _ (hb _ _ h1)).mono tO
theorem zj3 (hg:∀ v ∈ f.vars,yT (v.low,v.high)) (l:List St):PreOk f l->∀ N σ,SgB f N σ->SgB f (N+nbL l) (exL f hs l σ):=by
 induction l using zr3 with
 | h l ih =>
 intro hp
 have key:∀ r:List St,(∀ x ∈ r,x ∈ l)->∀ N σ,SgB f N σ->SgB f (N+nbL r) (exL f hs r σ):=by
  intro r;induction r with
  | nil=>intro _ N σ h;exact h
  | cons x r ihr =>
   intro hm N σ h;obtain⟨⟨ho,da,dc⟩,hY,db⟩:=hp.kids (hm x (ztr ..));obtain⟨i1,i2⟩:=ih x (hm x (ztr ..));rw[exL,nbL,<- zwg];refine ihr (fun y hy=>hm y iq) _ _ ?_;rw[za3,zeT];split
   .
    split
    . exact(i1 hY _ _ (h.cost ho)).mono tO
    exact(i2 db _ _ (h.cost ho)).mono tO
   split
   . exact(zf1 ho (i1 hY) _ _ _ h).mono tO
   obtain⟨h1,h2,h3⟩:=zeX (hs:=hs) hg ho da h.inv ⟨h.t0,h.t1⟩ h.ol;exact⟨h1,h2.1,h2.2,h3⟩
 exact key l (fun x h=>h)
theorem zcZ (f:Fl) (hs:List Int):∀ (a b:List St) (σ:Sg),exL f hs (a++b) σ=exL f hs b (exL f hs a σ)
 | [],_,_=>rfl
 | x::r,b,σ=>by rw[zuH,exL,exL,zcZ f hs r b]
theorem zaA:∀ (a b:List St),nbL (a++b)=nbL a+nbL b
 | [],b=>by rw[zvO];simp[nbL]
 | x::r,b=>by rw[zuH,nbL,nbL,zaA r b,zwg]
theorem zl6 (l:List St) (i:Nat):nbL (l.take i)<=nbL l:=by
 have:=zaA (l.take i) (l.drop i);rw[zwa]at this;omega
theorem zmX (s:St):1<=nbS s:=by
 rw[zeT];split
 . omega
 split<;>omega
abbrev sgV (σ:Sg) (a1:Option Addr) (c1:Nat) (a2:Option Addr) (c2:Nat):Value:=.agg #[.slice a1 σ.vals.length c1,.slice a2 σ.outs.length c2,.int .i64 σ.time]
abbrev SlI (D:Nat->Prop) (w:World) (a:Option Addr) (c:Nat) (l:List Int):Prop:=SlR 1 zv D w (.slice a l.length c) l
def zo1 (D:Nat->Prop) (w w':World) (σ:Sg) (r:Value):Prop:=∃ a1 c1 a2 c2,r=sgV σ a1 c1 a2 c2/\SlI (fun b=>D b\/w.heap.size<=b) w' a1 c1 σ.vals/\SlI (fun b=>D b\/w.heap.size<=b) w' a2 c2 σ.outs
def zj4 (f:Fl) (hs:List Int) (l:List St):Prop:=∀ (N:Nat) (σ:Sg),SgB f N σ->N+nbL l<=100000->∀ (D Df Dh:Nat->Prop) (w:World) (v1 v2 v3 hv lv:Value) (a1:Option Addr) (c1:Nat) (a2:Option Addr) (c2:Nat),(∀ b,D b->b<w.heap.size)->RFl Df w f v1 v2 v3->SlR 1 zv Dh w hv hs->SlR 10 RSt Df w lv l->SlI D w a1 c1 σ.vals->SlI D w a2 c2 σ.outs ->
 Calls prog 95 #[.agg #[v1,v2,v3],hv,lv,sgV σ a1 c1 a2 c2] w (Ret fun r w'=>zo1 D w w' (exL f hs l σ) r/\Ext w w')
theorem zj5 (f:Fl) (hs:List Int) (hg:∀ v ∈ f.vars,yT (v.low,v.high)) (x:St) (ho:StepOk f x) (hn:0<=x.n) (hp:PreOk f x.thn) (ih:zj4 f hs x.thn) (N:Nat) (σ:Sg) (hB:SgB f N σ) (hN:N+x.n.toNat*(1+nbL x.thn)<=100000) (D Df Dh:Nat->Prop) (w:World) (v1 v2 v3 hv:Value) (a1:Option Addr) (c1:Nat) (a2:Option Addr) (c2:Nat) (_:∀ b,D b->b<w.heap.size) (hf:RFl Df w f v1 v2 v3) (hh:SlR 1 zv Dh w hv hs) (ax:Option Addr) (nx:Nat) (bx:Option Addr) (mx:Nat) (ex:Option Addr) (ox:Nat) (fx:Option Addr) (px:Nat)
  (hk:SlR 3 RTm Df w (.slice ax x.term.kids.length nx) x.term.kids) (ht:SlR 10 RSt Df w (.slice bx x.thn.length mx) x.thn) (du:SlI D w a1 c1 σ.vals) (dw:SlI D w a2 c2 σ.outs) :
  Calls prog 136 #[.agg #[v1,v2,v3],hv,.agg #[.int .i64 x.act,.int .i64 x.cost,.int .i64 x.var,.int .i64 x.n,.int .i64 x.term.op,.int .i64 x.term.n,.slice ax x.term.kids.length nx,.slice bx x.thn.length mx,.slice ex x.els.length ox,.slice fx x.bounds.length px],sgV σ a1 c1 a2 c2] w
   (Ret fun r w'=>zo1 D w w' (kG (exL f hs x.thn) x.cost x.term x.n.toNat σ) r/\Ext w w'):=by
 refine zqT func136 O ntmps136 O (V.inn (Vs 2 O (V.box 4 O O (fun b4=>?_))));refine V.box 6 O O (fun b6=>(V.box 7 O O (fun b7=>?_)));refine V.alloc 8 tz117 O O (fun b8=>(Vs 9 O (V.dat 900 0 O O O (du) (fun _ _ _ h=>h) (V.dat 901 0 O O O (dw) (fun _ _ _ h=>h) (zrM (σ:=Nat × Sg × Option Addr × Nat × Option Addr × Nat × (Nat->Prop) × (Nat->Prop)) [1,4,6,7,8] [4,6,8] [4,6,7,8] O (fun e ⟨k,s,p1,q1,p2,q2,F1,F2⟩=>(9,.int .i64 k)::e) (fun e ⟨k,s,p1,q1,p2,q2,F1,F2⟩=>(7,.own b7 [.slice p1 s.vals.length q1,.slice p2 s.outs.length q2,.int .i64 s.time] 117)::(900,.dat F1 (fun w=>SlI F1 w p1 q1 s.vals))::(901,.dat F2 (fun w=>SlI F2 w p2 q2 s.outs))::e) (fun⟨k,s,p1,q1,p2,q2,F1,F2⟩=>k<=x.n.toNat/\kG (exL f hs x.thn) x.cost x.term x.n.toNat σ=kG (exL f hs x.thn) x.cost x.term (x.n.toNat - k) s/\SgB f (N+k*(1+nbL x.thn)) s/\(∀ b,F1 b->D b\/w.heap.size<=b)/\(∀ b,F2 b->D b\/w.heap.size<=b)) (fun⟨k,s,p1,q1,p2,q2,F1,F2⟩=>x.n.toNat - k) (0,σ,a1,c1,a2,c2,fun b=>D b/\b<w.heap.size,fun b=>D b/\b<w.heap.size) j2 j3 j1 j1 j1 ⟨ztC _,rfl,by simpa using hB,fun b h=>.inl h.1,fun b h=>.inl h.1⟩ ?_)))));rintro⟨k,s,p1,q1,p2,q2,F1,F2⟩ ⟨dE,hY,dc,dg,dh⟩;have dr:=ho.cost;have dF:=dc.t0;have dG:=dc.t1;refine Vs 9 O (zp4 O (fun dx=>?_) (fun dx=>?_))
 .
  obtain⟨m,hm⟩:∃ m,x.n.toNat - k=m+1:=⟨x.n.toNat - k - 1,tO⟩;have dy:x.n.toNat - (k+1)=m:=tO;have dz:(k+1)*(1+nbL x.thn)<=x.n.toNat*(1+nbL x.thn):=zwx _ tO;rw[zwB]at dz;have dH:k<=k*(1+nbL x.thn):=Nat.le_mul_of_pos_right _ tO;rw[hm,kG]at hY;have da:=dc.cost ho;refine Va 22 O tO (zrs tc138 O (fun w hI=>qw hg dc.inv x.term ho.formed ho.ranged _ Df F1 w _ (hI.at 900 O).1 JI) (Vs 3 O (zp4 O (fun z=>?_) (fun z=>?_))))
  .
   rw[zty z]at hY;rw[hY];refine Vs 13 O (zpu results136 tg117 ts117 O O O (fun w hI=>⟨_,rfl,⟨_,_,_,_,rfl,(hI.at 900 O).1.wide zc dg,(hI.at 901 O).1.wide zc dh⟩,hI.k0⟩))
  rw[ztx z]at hY;refine Vs 8 O (zru call95 O (fun w hI=>ih _ { s with time:=s.time+x.cost } da tO (fun b=>F1 b\/F2 b) Df Dh w v1 v2 v3 hv _ p1 q1 p2 q2 (fun b hb=>hb.elim ((hI.at 900 O).2 b) ((hI.at 901 O).2 b)) i5 (Tr1 hI.k0 hh) (Tr1 hI.k0 ht) ((hI.at 900 O).1.wide zc (fun _ h=>.inl h)) ((hI.at 901 O).1.wide zc (fun _ h=>.inr h))) ?_);rintro r w1 w2 dl dA ⟨p1',q1',p2',q2',rfl,dB,dC⟩ dm;have db:∀ b,((F1 b\/F2 b)\/w1.heap.size<=b)->b<w2.heap.size->¬ HS _ b:=fun b hb _=>hb.elim (fun h=>h.elim (dl.offF 900 rfl b) (dl.offF 901 rfl b)) (fun h hs=>by have:=dm b hs;omega);have dI:w.heap.size<=w1.heap.size:=dl.k0.size;refine Va 9 O tO (V.del 900 O (V.dat 900 0 O O O (dB) (db) (V.del 901 O (V.dat 901 0 O O O (dC) (db) ?_))));have dt:∀ b,((F1 b\/F2 b)\/w1.heap.size<=b)/\b<w2.heap.size->D b\/w.heap.size<=b:=fun b hb=>hb.1.elim (fun h=>h.elim (dg b) (dh b)) (fun h=>.inr tO);refine V.back ⟨k+1,_,p1',q1',p2',q2',_,_⟩ j2 j3 ⟨tO,by rw[dy];exact hY,(zj3 hg x.thn hp _ _ da).mono (by rw[zwB];omega),dt,dt⟩ tZ 1 O O
 have dD:k=x.n.toNat:=tO;rw[dD,zwA,kG]at hY;rw[hY];refine Vs 12 O (zpu results136 tg117 ts117 O O O (fun w hI=>⟨_,rfl,⟨_,_,_,_,rfl,(hI.at 900 O).1.wide zc dg,(hI.at 901 O).1.wide zc dh⟩,hI.k0⟩))
theorem zl7 (f:Fl) (hs:List Int) (hg:∀ v ∈ f.vars,yT (v.low,v.high)) (dR:hs.length=f.hatches.length) (em:f.vars.length<=1000) (l:List St):PreOk f l->zj4 f hs l:=by
 induction l using zr3 with
 | h l ih =>
 intro hp N σ hB hN D Df Dh w v1 v2 v3 hv lv a1 c1 a2 c2 hD hf hh hl dS dT;obtain⟨al,cl,rfl⟩:=hl.form;obtain⟨ahv,chv,rfl⟩:=hh.form;have er:=hl.max;refine zqT func95 O ntmps95 O (V.inn (Vs 2 O (V.box 4 O O (fun b4=>?_))));refine V.box 7 O O (fun b7=>(V.alloc 8 tz117 O O (fun b8=>?_)));refine Vs 9 O (V.dat 900 0 O O O (dS) (fun _ _ _ h=>h) (V.dat 901 0 O O O (dT) (fun _ _ _ h=>h) (zrM (σ:=Nat × Sg × Option Addr × Nat × Option Addr × Nat × (Nat->Prop) × (Nat->Prop)) [1,2,4,7,8] [4,8] [4,7,8] O (fun e ⟨i,s,p1,q1,p2,q2,F1,F2⟩=>(9,.int .i64 i)::e) (fun e ⟨i,s,p1,q1,p2,q2,F1,F2⟩=>(7,.own b7 [.slice p1 s.vals.length q1,.slice p2 s.outs.length q2,.int .i64 s.time] 117)::(900,.dat F1 (fun w=>SlI F1 w p1 q1 s.vals))::(901,.dat F2 (fun w=>SlI F2 w p2 q2 s.outs))::e) (fun⟨i,s,p1,q1,p2,q2,F1,F2⟩=>i<=l.length/\s=exL f hs (l.take i) σ/\SgB f (N+nbL (l.take i)) s/\(∀ b,F1 b->D b\/w.heap.size<=b)/\(∀ b,F2 b->D b\/w.heap.size<=b)) (fun⟨i,s,p1,q1,p2,q2,F1,F2⟩=>l.length - i) (0,σ,a1,c1,a2,c2,fun b=>D b/\b<w.heap.size,fun b=>D b/\b<w.heap.size) j2 j3 j1 j1 j1 ⟨ztC _,rfl,by simpa[nbL] using hB,fun b h=>.inl h.1,fun b h=>.inl h.1⟩ ?_)));rintro⟨i,s,p1,q1,p2,q2,F1,F2⟩ ⟨hi,dy,dl,dz,du⟩;have ew:=dl.t0;have ez:=dl.t1;have eA:=dl.ol;refine Vs 9 O (zp4 O (fun dU=>?_) (fun dU=>?_))
 .
  refine Vs 8 O (zrI 1000 0 i tO hl O O O (fun x eC eD eE dC dD dJ dK=>?_));obtain⟨dV,dW,dX,dY,rfl,dh,dA,dE,dF⟩:=dK.get;obtain⟨dZ,d5,rfl⟩:=dh.form;obtain⟨d6,d7,rfl⟩:=dA.form;obtain⟨d8,d9,rfl⟩:=dE.form;obtain⟨eb,ec,rfl⟩:=dF.form;refine zrg 1000 tR24 ts72 O dJ tO _ rfl O ?_;obtain⟨⟨ho,eF,ed⟩,dL,ee⟩:=hp.kids dD;obtain⟨i1,i2⟩:=ih x dD;have dO:=ho.cost;have eG:nbL (l.take (i+1))=nbL (l.take i)+nbS x:=by rw[ze dC,zaA];rfl
  have eH:nbL (l.take (i+1))<=nbL l:=zl6 l (i+1);have ef:=zmX x;have dm:exL f hs (l.take (i+1)) σ=exS f hs x s:=by rw[ze dC,zcZ,<- dy];rfl
  have dQ:=zeT x
  have da:SgB f (N+nbL (l.take (i+1))) (exS f hs x s):=by
   rw[<- dm];exact zj3 hg _ (fun s hs=>hp s (by rw[<- zwa (i+1) l,zc4];simp[hs])) N σ hB
  have dG:=dl.cost ho;have dw:i+1<=l.length:=tO;refine Vs 1 O (V.alloc 10 tz72 O O (fun b10=>?_));refine Vs 11 O (zp4 O (fun a4=>?_) (fun a4=>?_))
  .
   rw[ztx tO,zty a4]at dQ;have hx:exS f hs x s=kG (exL f hs x.thn) x.cost x.term x.n.toNat s:=by rw[za3,ztx tO,zty a4]
   refine Vs 6 O (zru call136 O (fun w hI=>zj5 f hs hg x ho (ed a4) dL (i1 dL) _ s dl tO (fun b=>F1 b\/F2 b) Df Dh w v1 v2 v3 _ p1 q1 p2 q2 (fun b hb=>hb.elim ((hI.at 900 O).2 b) ((hI.at 901 O).2 b)) i5 (Tr1 hI.k0 hh) _ _ _ _ _ _ _ _ im (Tr1 hI.k0 dA) ((hI.at 900 O).1.wide zc (fun _ h=>.inl h)) ((hI.at 901 O).1.wide zc (fun _ h=>.inr h))) ?_);rintro r w1 w2 dc dr ⟨p1',q1',p2',q2',rfl,dg,dt⟩ hY;have db:∀ b,((F1 b\/F2 b)\/w1.heap.size<=b)->b<w2.heap.size->¬ HS _ b:=fun b hb _=>hb.elim (fun h=>h.elim (dc.offF 900 rfl b) (dc.offF 901 rfl b)) (fun h hs=>by have:=hY b hs;omega);have dH:w.heap.size<=w1.heap.size:=dc.k0.size;have dx:∀ b,((F1 b\/F2 b)\/w1.heap.size<=b)/\b<w2.heap.size->D b\/w.heap.size<=b:=fun b hb=>hb.1.elim (fun h=>h.elim (dz b) (du b)) (fun h=>.inr tO);refine Va 12 O tO Ue
  refine Va 26 O tO (zp4 O (fun a0=>?_) (fun a0=>?_))
  .
   have hx:exS f hs x s={ s with vals:=zed f.vars s.vals x.var (xK s.vals x.term),time:=s.time+x.cost }:=by rw[za3,ztx tO,ztx a4];unfold xL;rw[zty a0]
   have dB:=ho.var (.inl a0);refine Vw [4,8,7,1000,10] [12] O (Vd [0,1,2,3,4,5,6,7,8] 0 tK O O O (zrt 9 0 tc138 O tK O O (fun w hI=>qw hg dl.inv x.term ho.formed ho.ranged _ Df F1 w _ (hI.at 900 O).1 (RTm.put im)) (zrv 10 0 call137 O tK O O (fun w hI=>zf0 f.vars s.vals _ x.var v1 v2 v3 _ Df F1 w i4 (hI.at 900 O).1 dl.inv.len tO dB) ?_)));rintro r w1 w2 dc dr ⟨dg,dt⟩ hY;rw[<- zgO f.vars s.vals x.var (xK s.vals x.term)]at dg;obtain⟨ar,cr,rfl⟩:=zI dg;have dH:w.heap.size<=w1.heap.size:=dc.k0.size;refine Vd [11] 1 tK O O O (Vl 12 O tK O (VDx.done tK (Va 8 O tO (V.del 900 O (V.dat 900 0 O O O (zqa (R:=zv) (D:=fun b=>w1.heap.size<=b) zb j9 dg dt) y7 (V.back ⟨i+1,{ s with vals:=zed f.vars s.vals x.var (xK s.vals x.term),time:=s.time+x.cost },ar,cr,p2,q2,_,F2⟩ j2 j3 ⟨dw,by rw[dm,hx],by rw[<- hx];exact da,fun b hb=>.inr tO,du⟩ tZ 1 O O))))))
  refine Vs 6 O (zp4 O (fun a1=>?_) (fun a1=>?_))
  .
   have hx:exS f hs x s={ s with outs:=s.outs++[xK s.vals x.term],time:=s.time+x.cost }:=by rw[za3,ztx tO,ztx a4];unfold xL;rw[ztx a0,zty a1]
   refine Vw [4,8,7,1000,10] [12] O (Vd [1,2,4,5,6,7] 0 tK O O O (zrV 0 53 0 tR27 ts3 O tK O (fun b53=>?_)));refine zrT 3 53 0 (fun x=>[zb x]) j1 tY za8 tu27 Tryz.el3 O tS O tK O O (fun w hI=>⟨_,(hI.at 901 O).1⟩) tO tO (fun u53=>(zrt 8 0 tc138 O tK O O (fun w hI=>qw hg dl.inv x.term ho.formed ho.ranged _ Df F1 w _ (hI.at 900 O).1 (RTm.put im)) (zrQ 9 62 0 [(0,_)] tR27 ts3 tz3 tS O tK O O tK (fun b62=>?_))));refine zrm 10 53 62 0 tu27 Tryz.el3 O tS O tK O O O tO tO (fun u53=>(Vd [11] 0 tK O O O (zro 53 O tO ?_)));rintro bo co rfl dI;refine Vl 12 O tK O (VDx.done tK (Va 8 O tO (zrL 7 O (e':=.own b7 [.slice p1 s.vals.length q1,.slice (some ⟨bo,0,none⟩) (s.outs++[xK s.vals x.term]).length co,.int .i64 (s.time+x.cost)] 117) (by rw[ztv,zwC];rfl) (zrL 53 O (e':=.row 3 1 (.slice (some ⟨bo,0,none⟩) (s.outs++[xK s.vals x.term]).length co) (s.outs++[xK s.vals x.term]).length ((s.outs++[xK s.vals x.term]).map zb)) (by rw[ztv,zwC,zcY,zvv];rfl) (zr8 (p:=w.heap.size<=bo) (fun w hI=>hI.own 53 0 O O bo O) (fun eh=>?_))))));refine V.del 901 O (zrK 53 901 (R:=zv) zb (fun _ _ _=>rfl) O O (V.back ⟨i+1,{ s with outs:=s.outs++[xK s.vals x.term],time:=s.time+x.cost },p1,q1,some ⟨bo,0,none⟩,co,F1,_⟩ j2 j3 ⟨dw,by rw[dm,hx],by rw[<- hx];exact da,dz,fun b hb=>.inr (by have hb:some bo=some b:=hb;cases hb;exact eh)⟩ tZ 0 O O))
  refine Vs 6 O (zp4 O (fun a5=>?_) (fun a5=>?_))
  .
   have hx:exS f hs x s={ s with vals:=zed f.vars s.vals x.var (lki hs x.n.toNat),time:=s.time+x.cost }:=by rw[za3,ztx tO,ztx a4];unfold xL;rw[ztx a0,ztx a1,zty a5]
   have dB:=ho.var (.inr a5);have ei:=ho.num a5;refine zrJ 2000 0 x.n.toNat tO hh O O (fun y eI eJ dM ej dN=>?_);have hy:lki hs x.n.toNat=y:=zgI dM;rw[hy]at hx;refine Vw [4,8,7,1000,10,2000] [12] O (Vd [0,1,2,3,4,5,6,7] 0 tK O O O (zrh 8 2000 tR27 ts3 O tK O dN tO (x.n.toNat) tO O (Vd [9] 0 tK O O O (zrv 10 0 call137 O tK O O (fun w hI=>zf0 f.vars s.vals y x.var v1 v2 v3 _ Df F1 w i4 (hI.at 900 O).1 dl.inv.len tO dB) ?_))));rintro r w1 w2 dc dr ⟨dg,dt⟩ hY;rw[<- zgO f.vars s.vals x.var y]at dg;obtain⟨ar,cr,rfl⟩:=zI dg;have dH:w.heap.size<=w1.heap.size:=dc.k0.size;refine Vd [11] 1 tK O O O (Vl 12 O tK O (VDx.done tK (Va 8 O tO (V.del 900 O (V.dat 900 0 O O O (zqa (R:=zv) (D:=fun b=>w1.heap.size<=b) zb j9 dg dt) y7 (V.back ⟨i+1,{ s with vals:=zed f.vars s.vals x.var y,time:=s.time+x.cost },ar,cr,p2,q2,_,F2⟩ j2 j3 ⟨dw,by rw[dm,hx],by rw[<- hx];exact da,fun b hb=>.inr tO,du⟩ tZ 1 O O))))))
  refine Vs 6 O (zp4 O (fun a3=>?_) (fun a3=>?_))
  .
   have hx:=za3 f hs x s;rw[zty a3]at hx;rw[zty a3]at dQ;refine Vs 6 O (zrs tc138 O (fun w hI=>qw hg dl.inv x.term ho.formed ho.ranged _ Df F1 w _ (hI.at 900 O).1 (RTm.put im)) (Vs 3 O (zp4 O (fun z=>?_) (fun z=>?_))))
   .
    rw[zty z]at hx;refine Vs 6 O (zru call95 O (fun w hI=>i1 dL _ { s with time:=s.time+x.cost } dG tO (fun b=>F1 b\/F2 b) Df Dh w v1 v2 v3 _ _ p1 q1 p2 q2 (fun b hb=>hb.elim ((hI.at 900 O).2 b) ((hI.at 901 O).2 b)) i5 (Tr1 hI.k0 hh) (Tr1 hI.k0 dA) ((hI.at 900 O).1.wide zc (fun _ h=>.inl h)) ((hI.at 901 O).1.wide zc (fun _ h=>.inr h))) ?_);rintro r w1 w2 dc dr ⟨p1',q1',p2',q2',rfl,dg,dt⟩ hY;have db:∀ b,((F1 b\/F2 b)\/w1.heap.size<=b)->b<w2.heap.size->¬ HS _ b:=fun b hb _=>hb.elim (fun h=>h.elim (dc.offF 900 rfl b) (dc.offF 901 rfl b)) (fun h hs=>by have:=hY b hs;omega);have dH:w.heap.size<=w1.heap.size:=dc.k0.size;have dx:∀ b,((F1 b\/F2 b)\/w1.heap.size<=b)/\b<w2.heap.size->D b\/w.heap.size<=b:=fun b hb=>hb.1.elim (fun h=>h.elim (dz b) (du b)) (fun h=>.inr tO);refine Va 10 O tO Ue
   rw[ztx z]at hx;refine Vs 6 O (zru call95 O (fun w hI=>i2 ee _ { s with time:=s.time+x.cost } dG tO (fun b=>F1 b\/F2 b) Df Dh w v1 v2 v3 _ _ p1 q1 p2 q2 (fun b hb=>hb.elim ((hI.at 900 O).2 b) ((hI.at 901 O).2 b)) i5 (Tr1 hI.k0 hh) (Tr1 hI.k0 dE) ((hI.at 900 O).1.wide zc (fun _ h=>.inl h)) ((hI.at 901 O).1.wide zc (fun _ h=>.inr h))) ?_);rintro r w1 w2 dc dr ⟨p1',q1',p2',q2',rfl,dg,dt⟩ hY;have db:∀ b,((F1 b\/F2 b)\/w1.heap.size<=b)->b<w2.heap.size->¬ HS _ b:=fun b hb _=>hb.elim (fun h=>h.elim (dc.offF 900 rfl b) (dc.offF 901 rfl b)) (fun h hs=>by have:=hY b hs;omega);have dH:w.heap.size<=w1.heap.size:=dc.k0.size;have dx:∀ b,((F1 b\/F2 b)\/w1.heap.size<=b)/\b<w2.heap.size->D b\/w.heap.size<=b:=fun b hb=>hb.1.elim (fun h=>h.elim (dz b) (du b)) (fun h=>.inr tO);refine Va 10 O tO Ue
  refine Vs 6 O (zp4 O (fun a6=>?_) (fun a6=>?_))
  .
   have hx:exS f hs x s={ s with time:=qv x.bounds (s.time+x.cost) }:=by rw[za3,ztx tO,ztx a4];unfold xL;rw[ztx a0,ztx a1,ztx a5,zty a6]
   refine Vs 5 O (zrs call139 O (fun w hI=>zdI x.bounds (s.time+x.cost) _ Df w (Tr1 hI.k0 dF)) (Va 11 O tO (V.back ⟨i+1,{ s with time:=qv x.bounds (s.time+x.cost) },p1,q1,p2,q2,F1,F2⟩ j2 j3 ⟨dw,by rw[dm,hx],by rw[<- hx];exact da,dz,du⟩ tZ 0 O O)))
  have hx:exS f hs x s={ s with time:=s.time+x.cost }:=by rw[za3,ztx tO,ztx a4];unfold xL;rw[ztx a0,ztx a1,ztx a5,ztx a6]
  refine Va 9 O tO (V.back ⟨i+1,{ s with time:=s.time+x.cost },p1,q1,p2,q2,F1,F2⟩ j2 j3 ⟨dw,by rw[dm,hx],by rw[<- hx];exact da,dz,du⟩ tZ 0 O O)
 have ek:i=l.length:=tO;subst ek;rw[zts]at dy;subst dy;refine Vs 12 O (zpu results95 tg117 ts117 O O O (fun w hI=>⟨_,rfl,⟨_,_,_,_,rfl,(hI.at 900 O).1.wide zc dz,(hI.at 901 O).1.wide zc du⟩,hI.k0⟩))
def xD (f:Fl) (r:Ins):Int:=if yq f ≠ 0 then yq f else zh f.vars r
theorem zl8 (vd:Valid f):PreOk f f.body:=fun s hs=>by
 obtain⟨h1,h2,h3⟩:=vd.step s hs
 grind
theorem zj6 (h:zh f.vars r=0):SgB f 0 (zhG f r):=⟨jK h,tD,tD,ztM _⟩
theorem zmY (f:Fl) (r:Ins) (v1 v2 v3 s1 s2 s3:Value) (D D1 D2 D3:Nat->Prop) (W:World) (hf:RFl D W f v1 v2 v3) (dt:SlR 1 zv D1 W s1 r.secret) (du:SlR 1 zv D2 W s2 r.pub) (dw:SlR 1 zv D3 W s3 r.random) (dc:snodes f.body+zz f.hatches<=1024) (dg:sbulk f.body<=1000000) :
  Calls prog 49 #[.agg #[v1,v2,v3],.agg #[s1,s2,s3]] W (Ret fun rr w'=>(∃ st,rr=.tuple #[st,.int .i64 (xD f r)]/\(xD f r ≠ 0->st=.agg #[.slice none 0 0,.slice none 0 0,.int .i64 0])/\(xD f r=0->∃ a1 c1 a2 c2,st=sgV (zaz f r) a1 c1 a2 c2/\SlI (fun b=>W.heap.size<=b) w' a1 c1 (zaz f r).vals/\SlI (fun b=>W.heap.size<=b) w' a2 c2 (zaz f r).outs))/\Ext W w'):=by
 refine zqR func49 O ntmps49 O (V.inn (Vs 2 O (V.box 2 O O (fun b2=>?_))));refine V.box 3 O O (fun b3=>(V.alloc 4 tz117 O O (fun b4=>?_)));refine Vs 6 O (zrs call29 O (fun w hI=>zc0 f v1 v2 v3 D w i5 dc dg) (Vs 10 O (zp4 O (fun c0=>?_) (fun c0=>?_))))
 .
  have hc:xD f r=yq f:=zty c0;refine Vs 2 O (zrW [Value.slice none 0 0,Value.slice none 0 0,Value.int IntKind.i64 0] [(0,1),(1,1),(2,1)] [] O O (fun _=>tK) (Vs 7 O (zpx results49 tg117 ts117 O O O O (fun w hI=>⟨_,rfl,⟨_,tD,fun _=>rfl,fun h=>absurd (hc ▸ h) c0⟩,hI.k0⟩))))
 have c0':yq f=0:=tO;have vd:Valid f:=⟨c0',dc,dg⟩;have hc:xD f r=zh f.vars r:=ztx c0;have hl:=vd.lens;have dJ:=vd.nb;rw[hc];refine Vs 7 O (zru call94 O (fun w hI=>zg0 f.vars r v1 s1 s2 s3 D D1 D2 D3 w i4 tO vd.kinds (Tr1 hI.k0 dt) JQ (Tr1 hI.k0 dw)) ?_);rintro rr w1 w2 dx db ⟨u,rfl,dK,dy⟩ dz;refine Vs 14 O (zp4 O (fun e0=>?_) (fun e0=>?_))
 . refine Vs 2 O (zrW [Value.slice none 0 0,Value.slice none 0 0,Value.int IntKind.i64 0] [(0,1),(1,1),(2,1)] [] O O (fun _=>tK) (Vs 7 O (zpx results49 tg117 ts117 O O O O (fun w hI=>⟨_,rfl,⟨_,rfl,fun _=>rfl,fun h=>absurd h e0⟩,hI.k1⟩))))
 have e0':zh f.vars r=0:=tO;obtain⟨hY,dA⟩:=dy e0';obtain⟨au,cu,rfl⟩:=zI hY;have dB:W.heap.size<=w1.heap.size:=dx.k0.size;refine Vs 3 O (V.dat 900 0 O O O (zqa (R:=zv) (D:=fun b=>w1.heap.size<=b) zb j9 hY dA) (fun b hb _ hs=>tD) (Vw [2,3,4] [9] O (Vd [0,1,2,4,5,6] 0 tK O O O (zrX 7 [Value.slice none 0 0,Value.slice none 0 0,Value.int IntKind.i64 0] [(0,1),(1,1),(2,1)] [(0,_)] O tK O O (fun _=>tK) (zrv 3 0 call96 O tK O O (fun w hI=>zdN f (zu f.vars r) v1 v2 v3 _ D _ w (Tr1 hI.k1 hf) (hI.at 900 O).1 vd.good (jK e0') (fun h hh=>⟨(vd.hatch h hh).1,(vd.hatch h hh).2.1⟩) tO) ?_)))));rintro hv w3 w4 dL dC ⟨dD,dE⟩ dh;refine zrv 8 1 call95 O tK O O (fun w hI=>zl7 f (yk f r) vd.good (by simp[zgN]) tO f.body (zl8 vd) 0 (zhG f r) (zj6 e0') tO (fun b=>w1.heap.size<=b/\b<w2.heap.size) D (fun b=>w3.heap.size<=b) w v1 v2 v3 hv _ au cu none 0 (fun b hb=>by have:w2.heap.size<=w.heap.size:=hI.k1.size;omega) (Tr1 hI.k2 hf) (zqa (R:=zv) zb j9 (zj dD hI.k0 (fun g hg hs=>tD)) dE) (Tr1 hI.k2 hf.body) (hI.at 900 O).1 SlR.nil) ?_;rintro rs w5 w6 dl dF ⟨a1,c1,a2,c2,rfl,dG,dH⟩ dm;refine Vl 9 O tK O (Vx [10] tK O (VDx.done tK (Vs 2 O ?_)));have dI:w1.heap.size<=w5.heap.size:=by have h1:=db.size;have h2:w2.heap.size<=w5.heap.size:=dl.k1.size;omega
 have da:∀ b,((w1.heap.size<=b/\b<w2.heap.size)\/w5.heap.size<=b)->b<w6.heap.size->¬ HS _ b:=fun b hb _=>hb.elim (dl.offF 900 rfl b) (fun h hs=>tD);refine V.dat 901 0 O O O (dG) (da) (V.dat 902 0 O O O (dH) (da) ?_);have dr:∀ b,((w1.heap.size<=b/\b<w2.heap.size)\/w5.heap.size<=b)/\b<w6.heap.size->W.heap.size<=b:=fun b hb=>tO;refine zpx results49 tg117 ts117 O O O O (fun w hI=>⟨_,rfl,⟨_,by rw[e0'];rfl,fun h=>absurd e0' h,fun _=>⟨_,_,_,_,rfl,(hI.at 901 O).1.wide zc dr,(hI.at 902 O).1.wide zc dr⟩⟩,hI.k3⟩)
theorem zj7 (f:Fl) (r:Ins) (v1 v2 v3 s1 s2 s3:Value) (D D1 D2 D3:Nat->Prop) (W:World) (hf:RFl D W f v1 v2 v3) (hY:SlR 1 zv D1 W s1 r.secret) (da:SlR 1 zv D2 W s2 r.pub) (db:SlR 1 zv D3 W s3 r.random) (dc:snodes f.body+zz f.hatches<=1024) (dg:sbulk f.body<=1000000) :
  Calls prog 19 #[.agg #[v1,v2,v3],.agg #[s1,s2,s3]] W (Ret fun rr w'=>(∃ ov t,rr=.tuple #[.agg #[ov,.int .i64 t],.int .i64 (xD f r)]/\(xD f r ≠ 0->ov=.slice none 0 0/\t=0)/\(xD f r=0->t=(zaz f r).time/\SlR 1 zv (fun b=>W.heap.size<=b) w' ov (zaz f r).outs))/\Ext W w'):=by
 refine zqR func19 O ntmps19 O (V.inn (Vs 2 O (V.box 2 O O (fun b2=>?_))));refine V.box 3 O O (fun b3=>(V.alloc 4 tz47 O O (fun b4=>?_)));refine Vs 7 O (zru call49 O (fun w hI=>zmY f r v1 v2 v3 s1 s2 s3 D D1 D2 D3 w i5 iy iT iQ dc dg) ?_);rintro rr w1 w2 dh dl ⟨st,rfl,dm,dr⟩ dt;have du:W.heap.size<=w1.heap.size:=dh.k0.size;by_cases c0:xD f r=0
 .
  obtain⟨a1,c1,a2,c2,rfl,dx,dw⟩:=dr c0;rw[c0]at *;refine Vs 3 O (V.alloc 6 tz117 O O (fun b6=>?_));refine Vs 11 O (zp4 O (fun e=>?_) (fun e=>?_))
  . omega
  refine V.dat 901 0 O O O (dw) (fun b hb _ hs=>tD) (Vs 8 O (zrW [Value.slice none 0 0,Value.int IntKind.i64 0] [(0,1),(1,1)] [(0,_),(1,_)] O O (fun _=>tK) (Vs 5 O (zpx results19 tg47 ts47 O O O O (fun w hI=>⟨_,rfl,⟨_,_,rfl,fun h=>absurd O h,fun _=>⟨rfl,(hI.at 901 O).1.wide zc (fun b hb=>tO)⟩⟩,hI.k1⟩)))))
 obtain rfl:=dm c0;refine Vs 3 O (V.alloc 1006 tz117 O O (fun b1006=>?_));refine Vs 11 O (zp4 O (fun e=>?_) (fun e=>?_))
 . refine Vs 2 O (zrW [Value.slice none 0 0,Value.int IntKind.i64 0] [(0,1),(1,1)] [] O O (fun _=>tK) (Vs 7 O (zpx results19 tg47 ts47 O O O O (fun w hI=>⟨_,rfl,⟨_,_,rfl,fun _=>⟨rfl,rfl⟩,fun h=>absurd h c0⟩,hI.k1⟩))))
 omega
def LeftOk (D:Nat->Prop) (W:World) (r:Ins) (s:StS) (q:Int->Value):Prop:=∀ k,1<=k->k<=3->SlR 1 zv D W (q k) ((yR r k).drop (jB s k))
theorem zf2 {prev:List Vr} {v:Vr} (h:zO prev v=0) (hk:v.kind=0):v.low<=v.init/\v.init<=v.high:=by
 unfold zO at h;split at h
 . cases h
 split at h
 . cases h
 split at h
 . cases h
 split at h
 . cases h
 split at h
 . cases h
 rename_i h5;omega
theorem zf3 {s:StS} {x:Vr} (h:x.kind=0):zo r (some s) x=some ⟨s.vals++[x.init],s.a,s.b,s.c⟩:=by simp[zo,h]
theorem zl9 {s:StS} (_:1<=k/\k<=3) {l:List Int} (hl:(yR r k).drop (jB s k)=l):(yR r k)[jB s k]?=l[0]?:=by
 rw[<- hl,zvc,zwl]
theorem zaB {x:Vr} {s s1:StS} (he:f.vars[i]?=some x) (hs:(f.vars.take i).foldl (zo r) (some ⟨[],0,0,0⟩)=some s) (h1:zo r (some s) x=some s1):(f.vars.take (i+1)).foldl (zo r) (some ⟨[],0,0,0⟩)=some s1:=by
 rw[ze he,zv8,hs];exact h1
theorem Valid.varAt0 (V:Valid f) {x:Vr} (he:f.vars[i]?=some x):zO (f.vars.take i) x=0:=by
 have h:=V.ok;unfold yq at h;split at h
 . cases h
 split at h
 . omega
 rename_i h2;have h:=ztw.1 h2;unfold zr at h;split at h
 . omega
 rename_i h2;rw[<- zbb he];exact qb f.vars.length 0 tO i (ztC _) (by have:=(ztB.1 he).1;omega)
theorem LeftOk.next {W:World} {s:StS} {q:Int->Value} {aq:Option Addr} {cq:Nat} {rest:List Int} (hL:LeftOk D W r s q) (hk:1<=k/\k<=3) (hr:rest=(yR r k).drop (jB s k)) (hq:SlR 1 zv D W (.slice aq rest.length cq) rest) (h1:1<=rest.length):LeftOk D W r (za2 s k y) (fun j=>if j=k then .slice (if cq=1 then aq else aq.map (·.add (1*1))) (rest.length - 1) (cq - 1) else q j):=by
 intro j hY da;have hc:=zc8 s hk ⟨hY,da⟩ y;dsimp only;by_cases e:j=k
 .
  subst e;rw[zty rfl]at hc;rw[zty rfl,hc];have:=hq.drop 1 h1;rw[hr,zuN]at this
  grind
 rw[ztx e]at hc;rw[ztx e,hc];exact hL j hY da
theorem zgP {s:StS} {x:Vr} (h:1<=x.kind/\x.kind<=3) (hy:(yR r x.kind)[jB s x.kind]?=some y):zo r (some s) x=some (za2 s x.kind y):=by
 simp only[zo,Option.bind_some]
 grind
theorem zj8 {s:StS} {x:Vr} (h:1<=x.kind/\x.kind<=3) (hy:(yR r x.kind)[jB s x.kind]?=none):zo r (some s) x=none:=by
 simp only[zo,Option.bind_some]
 grind
theorem zaC {s:StS} (hS:kr f.vars r=some s) (hk:1<=k/\k<=3) (h:0<((yR r k).drop (jB s k)).length):zh f.vars r=1:=by
 unfold zh;rw[hS];dsimp only;unfold yZ;rw[zvq]at h;rw[zty];rcases iu with rfl | rfl | rfl
 .
  have h:0<r.secret.length - s.a:=h;omega
 .
  have h:0<r.pub.length - s.b:=h;omega
 have h:0<r.random.length - s.c:=h;omega
theorem zf4 {s:StS} (hS:kr f.vars r=some s) (hY:∀ v ∈ f.vars,0<=v.kind/\v.kind<=3) (hz:∀ k:Int,1<=k->k<=3->((yR r k).drop (jB s k)).length=0):zh f.vars r=if (f.vars.zip s.vals).all inB then 0 else 3:=by
 have da:=ziQ hY f.vars.length s (ztM _) (by rw[zts];exact hS)
 have key:∀ k:Int,1<=k->k<=3->jB s k=(yR r k).length:=fun k h1 h3=>by
  grind
 have h1:s.a=r.secret.length:=key 1 tO tO;have h2:s.b=r.pub.length:=key 2 tO tO;have h3:s.c=r.random.length:=key 3 tO tO;unfold zh;rw[hS];dsimp only;unfold yZ;omega
theorem zgQ {x:α} (h:l[i]?=some x):l.drop i=x::l.drop (i+1):=by
 obtain⟨h1,h2⟩:=ztB.1 h;rw[zuO h1,h2]
def zH:List Vr->Int->List Int × Int
 | [],n=>([],n)
 | v::vs,n=>((v.low+(zH vs n).2.tmod (v.high - v.low+1))::(zH vs n).1,(zH vs n).2.tdiv (v.high - v.low+1))
theorem xQ:∀ (vs:List Vr) (n:Int),(zH vs n).1.length=vs.length
 | [],_=>rfl
 | v::vs,n=>by simp[zH,xQ vs n]
theorem zla (hg:∀ v ∈ vs,yT (v.low,v.high)) (h:(zl k vs).isSome=true):(zl k vs).getD 0<=4096:=by
 cases hm:zl k vs with
 | none=>rw[hm]at h;cases h
 | some m=>exact(yg k vs 1 m hg tO tO hm).2
def zS (k:Int) (vs:List Vr) (n:Int):Int :=
 if (zl k vs).isSome then (if n<0\/(zl k vs).getD 0<=n then 3 else 0) else 4
end Go.Proofs.YtckdhgbepmpgiaaGreat
namespace Go.GL
def RQu:Rel (Int × List Int):=fun D w q cs=>∃ v,cs=[.int .i64 q.1,v]/\SlR 1 zv D w v q.2
@[ext] structure Ac where
 mode:Int
 budget:Int
 spent:Int
 left:List Int
 asked:List (Int × List Int)
deriving DecidableEq
structure RAc (D:Nat->Prop) (w:World) (a:Ac) (v1 v2:Value):Prop where
 left:SlR 1 zv D w v1 a.left
 asked:SlR 2 RQu D w v2 a.asked
end Go.GL
namespace Go.Proofs.YtckdhgbepmpgiaaGreat
open Go.GL
variable {s:Sf}
def zmw:Rel Phn:=fun D w p cs=>∃ u1 u2,cs=[.int .i64 p.var,.int .i64 p.ver,u1,u2]/\SlR 1 zv D w u1 p.frm/\SlR 1 zv D w u2 p.args
def RSn:Rel Sn:=fun D w x cs=>∃ u1 u2,cs=[u1,u2,.int .i64 x.dfn]/\SlR 4 zmw D w u1 x.phis/\SlR 2 xu D w u2 x.uses
theorem qK:ye xu:=fun _ _ _ _ _ _ _ _ h=>h
theorem zd0:ye zmw:=fun _ _ _ _ hD hk _ _ ⟨u1,u2,h0,h1,h2⟩=>⟨u1,u2,h0,h1.stable zc hD hk,h2.stable zc hD hk⟩
theorem za9:ye RSn:=fun _ _ _ _ hD hk _ _ ⟨u1,u2,h0,h1,h2⟩=>⟨u1,u2,h0,h1.stable zd0 hD hk,h2.stable qK hD hk⟩
theorem zaX:qD xu:=fun _ _ _ _ h=>h
theorem zhH:qD zmw:=fun _ _ _ _ ⟨u1,u2,h0,h1,h2⟩=>⟨u1,u2,h0,h1.narrow tO yt,h2.narrow tO yt⟩
theorem zj9:qD RSn:=fun _ _ _ _ ⟨u1,u2,h0,h1,h2⟩=>⟨u1,u2,h0,h1.narrow tO zhH,h2.narrow tO zaX⟩
instance:StC zmw:=⟨zd0⟩
structure RSf (D:Nat->Prop) (w:World) (s:Sf) (u1 u2:Value):Prop where
 of_:SlR 1 zv D w u1 s.of_
 nodes:SlR 3 RSn D w u2 s.nodes
theorem RSf.keep {S:Nat->Prop} (h:RSf D w s u1 u2) (hk:Keep S w w') (hS:∀ b,D b->b<w.heap.size->¬ S b):RSf D w' s u1 u2:=⟨h.of_.keep zc hk hS,h.nodes.keep za9 hk hS⟩
theorem RSf.ext (h:RSf D w s u1 u2) (hk:Ext w w'):RSf D w' s u1 u2:=⟨h.of_.ext zc hk,h.nodes.ext za9 hk⟩
instance {D:Nat->Prop} {w w':World} {s:Sf} {u1 u2:Value}:Tr (RSf D w s u1 u2) w w' (RSf D w' s u1 u2):=⟨fun h hk=>RSf.ext h hk⟩
theorem RSf.wide (h:RSf D w s u1 u2) (hD:∀ q,D q->D' q):RSf D' w s u1 u2:=⟨h.of_.wide zc hD,h.nodes.wide za9 hD⟩
def stN (f:Fl) (x:Nd):St:=if 0<=x.at_ then yp f x.at_ else znN
def zf5 (g:List Nd):List (List Int):=(List.range g.length).map (zi g)
def GrO (D:Nat->Prop) (w:World) (f:Fl) (g:List Nd) (b:Nat):Prop:=∃ v1 v2 v3 gv sv pv,D b/\Cells w b 0 [v1,v2,v3,gv,sv,pv]/\RFl D w f v1 v2 v3/\SlR 4 RNd D w gv g/\SlR 10 RSt D w sv (g.map (stN f))/\SlR 1 (RSl 1 zv) D w pv (zf5 g)
theorem GrO.keep {S:Nat->Prop} (h:GrO D w f g b) (hk:Keep S w w') (hS:∀ b,D b->b<w.heap.size->¬ S b):GrO D w' f g b:=by
 obtain⟨v1,v2,v3,gv,sv,pv,h0,h1,h2,h3,h4,h5⟩:=h;exact⟨v1,v2,v3,gv,sv,pv,h0,hk.cells h1 (hS b h0 (ztp _ _ (h1 0 _ O))),⟨h2.vars.keep yI hk hS,h2.hatches.keep yO hk hS,h2.body.keep zg hk hS⟩,h3.keep zC hk hS,h4.keep zg hk hS,h5.keep (zP zc) hk hS⟩
theorem GrO.ext (h:GrO D w f g b) (hk:Ext w w'):GrO D w' f g b:=h.keep hk fun _ _ _ h=>h
instance {D:Nat->Prop} {w w':World} {f:Fl} {g:List Nd} {b:Nat}:Tr (GrO D w f g b) w w' (GrO D w' f g b):=⟨fun h hk=>GrO.ext h hk⟩
theorem yl (h:g[i]?=some x):xf g (i:Int)=x:=by unfold xf;rw[ztJ,h];rfl
theorem zdO (h:i<g.length):(zf5 g)[i]?=some (zi g i):=by unfold zf5;rw[ztE,zvf h];rfl
theorem pred_mem {y:Nat}:y ∈ zJ g i ↔ y<g.length/\((xf g y).next=(i:Int)\/(xf g y).other=(i:Int)):=by
 unfold zJ
 grind
def GOk (f:Fl) (g:List Nd):Prop:=∀ (i:Nat) x,g[i]?=some x->(x.at_<0->x.kind=0\/x.kind=1)/\(0<=x.at_->x.at_<((preL f.body).length:Int)/\(xP (yp f x.at_).term).length<=100000)
theorem GOk.at (h:GOk f g) (hx:g[i]?=some x) (hk:x.kind=2\/x.kind=3\/x.kind=5):0<=x.at_/\x.at_<((preL f.body).length:Int)/\(xP (yp f x.at_).term).length<=100000:=by
 obtain⟨h1,h2⟩:=h i x hx
 have h0:0<=x.at_:=by
  by_cases e:x.at_<0
  . have:=h1 e;omega
  omega
 exact⟨h0,h2 h0⟩
theorem jq (f:Fl) (g:List Nd) (hk:GOk f g) (i:Nat) (hi:i<g.length) (b:Nat) (D:Nat->Prop) (W:World) (hG:GrO D W f g b) :
  Calls prog 79 #[.pointer (some ⟨b,0,none⟩),.int .i64 i] W (Ret fun r w'=>r=.int .i64 (yy f g i)/\Ext W w'):=by
 obtain⟨v1,v2,v3,gv,sv,pv,hD,db,hf,hg,hs,hp⟩:=hG;obtain⟨as_,cs_,rfl⟩:=hs.form;obtain⟨ag,cg,rfl⟩:=hg.form;have dR:(g.map (stN f)).length=g.length:=ztH _;have dS:=hs.max;refine zqR func79 O ntmps79 O (V.inn (zrG 900 0 O O (fun h=>h) db (zre 0 900 0 O O (Vs 13 O (zrI 1000 0 i tO hs O O O (fun st dK dL dM hY dx dc dg=>?_))))));obtain⟨dy,dz,dA,dB,rfl,dh,dl,dm,dr⟩:=dg.get;obtain⟨dC,dD,rfl⟩:=dh.form;obtain⟨dE,dF,rfl⟩:=dl.form;obtain⟨dG,dH,rfl⟩:=dm.form;obtain⟨dI,dJ,rfl⟩:=dr.form;refine zrg 1000 tR24 ts72 O dc tO _ rfl O (Vs 1 O (V.alloc 5 tz72 O O (fun b5=>?_)));refine Vs 10 O (zrI 2000 0 i tO hg O O O (fun x dT dU dV da dN dt du=>?_));obtain rfl:=du;refine zrg 2000 tR34 ts65 O dt tO _ rfl O ?_;have hx:=yl da;have dO:st=stN f x:=by rw[ztE,da]at hY;exact(Option.some.inj hY).symm
 refine Vs 4 O (V.sp 22 O (fun g1=>?_) (fun g1=>?_))
 .
  have h0:=(hk.at da (.inl g1)).1;have dw:st=yp f x.at_:=by rw[dO];exact zty h0
  have dQ:yy f g i=if st.act=0\/st.act=5 then st.var else -1:=by
   unfold yy zdK;rw[hx,<- dw];by_cases e:st.act=0\/st.act=5
   . rw[zty e,zty (by simpa[g1] using e)]
   rw[ztx e,ztx (by simpa[g1] using e)]
  refine Vs 4 O (V.sp 26 O (fun g2=>?_) (fun g2=>?_))
  . refine Vs 17 O (zrz 0 tr79 O O tD)
  refine Vs 7 O (zp4 O (fun g3=>?_) (fun g3=>?_))
  . refine Vs 9 O (zrz 0 tr79 O O tD)
  refine Vs 8 O (zrz 0 tr79 O O tD)
 refine Vs 20 O (zrz 0 tr79 O O (by unfold yy zdK;rw[hx,ztx tD]))
end Go.Proofs.YtckdhgbepmpgiaaGreat
namespace Go.GL
section
variable {n:Nat}
theorem zrf (s k off:Nat) (h:zcJ env s=jc H (some (k,off))) (hs:(jc H (some (k,off))).isSome=true) (h1:VD P n Q ks ops Hs B0 L fuel listed env ((s,some (k,off))::A) H Bs):VD P n Q ks ops Hs B0 L fuel listed env A H Bs:=by
 refine fun hH hA w hI=>h1 hH (fun s' k' off' hk=>?_) w hI;simp only[tgt]at hk;cases hb:Nat.beq s s' with
 | false=>rw[hb]at hk;exact hA s' k' off' hk
 | true =>
  rw[hb]at hk;cases hk;have:=TgOk.of (A:=[(s,some (k,off))]) (env:=env) (H:=H) tD tD;exact this s' k off (by simp[tgt,hb])
end
end Go.GL
namespace Go.Proofs.YtckdhgbepmpgiaaGreat
open Go.GL
def qy (t:Tm):List Int:=if t.op=24 then [t.n] else []
theorem zja (t:Tm):xP t=qy t++mentL t.kids:=za7 t
theorem zhI {l:List Tm} {k:Tm} (h:l[i]?=some k):mentL (l.take (i+1))=mentL (l.take i)++xP k:=by rw[ze h,zhF]
theorem zlb (l:List Tm) (i:Nat):(mentL (l.take i)).length<=(mentL l).length:=by
 have main:∀ a b:List Tm,mentL (a++b)=mentL a++mentL b:=fun a b=>by
  induction a with
  | nil=>simp[mentL]
  | cons x r ih=>rw[zuH,mentL,mentL,ih,zuE]
 have:=congrArg List.length (main (l.take i) (l.drop i));rw[zwa,ztv]at this;omega
abbrev jr (u:Value) (l:List Int):HE:=.row 3 1 u l.length (l.map zb)
theorem zlc (t:Tm):∀ (kv uo:Value) (acc:List Int) (D:Nat->Prop) (W:World),SlR 3 RTm D W kv t.kids->(jr uo acc).holds W->(∀ q,D q->q<W.heap.size/\uo.ownBlock ≠ some q)->acc.length+(xP t).length<=1000000 ->
  Calls prog 127 #[.agg #[.int .i64 t.op,.int .i64 t.n,kv],uo] W (Ret fun r w'=>∃ x:Value,r=x/\(jr x (acc++xP t)).holds w'/\Keep (jr uo acc).S W w'/\∀ q,(jr x (acc++xP t)).S q->((jr uo acc).S q\/W.heap.size<=q)/\q<w'.heap.size):=by
 induction t using zr1 with
 | h t ih =>
 intro kv uo acc D W hk hY db dc;obtain⟨ak,ck,rfl⟩:=hk.form;have dB:=hk.max;have dg:∀ q,(jr uo acc).S q->¬ D q:=fun q h hd=>(db q hd).2 h;rw[zja,ztv]at dc;refine zqR func127 O ntmps127 O (zs3 900 (.row 3 1 uo acc.length (acc.map zb)) (hY) trivial (fun _ h=>h) (fun q hq=>xp hY hq) (Vs 2 O (V.box 2 O O (fun b2=>?_))));refine Vs 4 O (zrN (σ:=Value) [2] [2] [2] O (fun e u=>(1,u)::e) (fun e u=>(900,.row 3 1 u (acc++qy t).length ((acc++qy t).map zb))::e) (fun u=>True) j1 j1 ?_ ?_)
 .
  refine Vs 7 O (zp4 O (fun e=>?_) (fun e=>?_))
  .
   refine Vs 4 O (zrP 13 [(0,_)] tR27 ts3 tz3 tS O O tK (fun b13=>?_));refine zrl 900 13 tu27 Tryz.el3 O tS O O tO tO (fun u900=>(Vs 2 O (zrL 900 O (e':=.row 3 1 u900 (acc++qy t).length ((acc++qy t).map zb)) (by unfold qy;rw[zty e,ztv,zvv];rfl) (zpi (u900) j2 j3 True.intro 0 O O))))
  refine zrL 900 O (e':=.row 3 1 uo (acc++qy t).length ((acc++qy t).map zb)) (by unfold qy;rw[ztx e,zuF]) (Vs 1 O (zpi (uo) j2 j3 True.intro 0 O O))
 rintro u -;refine Vs 10 O (zrL 900 O (e':=.row 3 1 u (acc++qy t++mentL (t.kids.take 0)).length ((acc++qy t++mentL (t.kids.take 0)).map zb)) (by rw[show acc++qy t++mentL (t.kids.take 0)=acc++qy t from zuF _]) (Vs 1 O (zrM (σ:=Nat × Value) [16,17] [] [] O (fun e ⟨i,u⟩=>(18,.int .i64 i)::(1,u)::e) (fun e ⟨i,u⟩=>(900,.row 3 1 u (acc++qy t++mentL (t.kids.take i)).length ((acc++qy t++mentL (t.kids.take i)).map zb))::e) (fun⟨i,u⟩=>i<=t.kids.length) (fun⟨i,u⟩=>t.kids.length - i) (0,u) j2 j3 j1 j1 j1 (ztC _) ?_)));rintro⟨i,u⟩ hi;refine Vs 6 O (zp4 O (fun lt=>?_) (fun lt=>?_))
 .
  refine Vs 6 O (zrH 1000 0 i tO hk O O O (fun b_ d_ h_=>by have dt:=dg _ h_;first | omega | exact dt d_) (fun k dC dD dE dh dl dm du dr=>?_));obtain⟨dw,rfl,da⟩:=dr.get;obtain⟨dx,dy,rfl⟩:=da.form;refine zrg 1000 tR68 ts70 O dm tO _ rfl O ?_;have dz:=zhI dh;have dA:=zlb t.kids (i+1);rw[dz,ztv]at dA;refine Vs 1 O (V.alloc 6 tz70 O O (fun b6=>?_));refine Vs 6 O (zrx 900 (E:=fun x=>.row 3 1 x (acc++qy t++mentL (t.kids.take i)++xP k).length ((acc++qy t++mentL (t.kids.take i)++xP k).map zb)) call127 O iK (fun w hI=>ih k dl _ _ (acc++qy t++mentL (t.kids.take i)) D w (da.keep yN hI.k0 (fun q hq _ hs=>dg q hs hq)) (hI.at 900 O) (fun q hq=>⟨zws (db q hq).1 hI.k0.size,show ¬ (jr u (acc++qy t++mentL (t.kids.take i))).S q from hI.offD 0 900 O O (db q hq).1 (fun h=>dg q h hq)⟩) tD) ?_);rintro u2 _ rfl;refine Va 8 O tO (zrL 900 O (e':=.row 3 1 u2 (acc++qy t++mentL (t.kids.take (i+1))).length ((acc++qy t++mentL (t.kids.take (i+1))).map zb)) tD (V.back ⟨i+1,u2⟩ j2 j3 tO tD 0 O O))
 obtain rfl:i=t.kids.length:=tO;refine zrL 900 O (e':=jr u (acc++xP t)) (by rw[zts,zja,<- zuE]) (Vs 12 O (zpl results127 O (fun w hI=>⟨_,rfl,⟨u,rfl,hI.at 900 rfl,hI.k0,fun q hq=>hI.inS 0 900 O O hq⟩⟩)))
theorem zgR (xs ys:List Int) (u v:Value) (D D':Nat->Prop) (w:World) (hx:SlR 1 zv D w u xs) (hy:SlR 1 zv D' w v ys):Calls prog 69 #[u,v] w (Ret fun r w'=>r=.bool (decide (xs=ys))/\Ext w w'):=by
 obtain⟨ao,cx,rfl,dB,dC,dm⟩:=hx;obtain⟨bo,cy,rfl,dD,dE,dr⟩:=hy;refine zqR func69 O ntmps69 O (Gs 15 O (zqE O (fun dt=>?_) (fun dF=>?_)))
 .
  refine Gs 7 O ?_;have:¬ xs=ys:=fun h=>dt tD;refine zpk results69 O ⟨_,rfl,tD,Keep.refl _ _⟩
 have hl:xs.length=ys.length:=tO;refine Gs 11 O (G.loop (σ:=Nat) (fun k=>[(0,.slice ao xs.length cx),(1,.slice bo ys.length cy),(11,.slice ao xs.length cx),(12,.int .i64 xs.length),(13,.int .i64 k)]) (fun k=>fun w'=>k<=xs.length/\xs.take k=ys.take k/\Ext w w') (fun k=>xs.length - k) 0 j2 JF ?_);rintro k w1 ⟨dG,du,hY⟩;refine Gs 6 O (zqE O (fun dH=>?_) (fun dI=>?_))
 .
  obtain⟨x,hx⟩:∃ x,xs[k]?=some x:=iA;obtain⟨y,hy⟩:∃ y,ys[k]?=some y:=iA;obtain⟨b1,o1,c1,dw,_,dx,dg,rfl⟩:=dm k x hx;obtain⟨b2,o2,c2,dy,_,dz,dh,rfl⟩:=dr k y hy;have da:=hY.cells dg (fun h=>h);have db:=hY.cells dh (fun h=>h);refine Gs 11 O (Qt tK (Gs 2 O (zqJ O O (fun w1 dc=>zpH tR27 ts3 O O dw tO) (zqL O tg3 (fun w1 dc=>(dc.cell (da 0 _ O) (fun h=>h))) (Gs 2 O (zqJ O O (fun w1 dc=>zpH tR27 ts3 O O dy tO) (zqL O tg3 (fun w1 dc=>(dc.cell (db 0 _ O) (fun h=>h))) (Gs 1 O (zqN (fun w2 dl=>?_))))))))));refine Gs 1 O (zqE O (fun hd=>?_) (fun he=>?_))
  .
   have:¬ xs=ys:=by
    grind
   refine Gs 11 O (zpk results69 O ⟨_,rfl,tD,hY.ext dl⟩)
  have dA:x=y:=ztw.1 he;refine Ga 7 O tO (G.back (k+1) j2 ⟨tO,?_,hY.ext dl⟩ tO);obtain⟨h1,h2⟩:=ztB.1 hx;obtain⟨h3,h4⟩:=ztB.1 hy;rw[zwe h1,zwe h3,du,h2,h4,dA]
 have dJ:k=xs.length:=tO
 have:xs=ys:=by
  grind
 refine Gs 11 O (zpk results69 O ⟨_,rfl,tD,hY⟩)
theorem zcb {α:Type} {c:Nat} {enc:α->List Value} (hc:∀ x,(enc x).length=c) {v:Value} {j:Nat} {x y:α} (hj:j<c) (hy:enc y=(enc x).set j v):∀ (L:List α) (k:Nat) (sp:List Value),L[k]?=some x->(L.flatMap enc++sp).set (k*c+j) v=(L.set k y).flatMap enc++sp
 | [],k,sp,h=>tD
 | z::r,0,sp,h=>by
  grind
 | z::r,k+1,sp,h=>by
  simp only[zva]at h;simp only[zv4,List.set_cons_succ,zuE];rw[zw4 _ _ tD,hc];rw[show (k+1)*c+j - c=k*c+j from tD,zcb hc hj hy r k sp h]
theorem zo2 (m:Nat):Builtin.zeroCells (Value.int .i64 0).cells m=(List.replicate (m*1) (.int .i64 0)).toArray:=by
 apply Array.ext
 . simp[Builtin.zeroCells,Value.cells]
 intro i h1 h2;have:i % 1=0:=tO;simp[Builtin.zeroCells,Value.cells,this]
theorem zcc (es:List Int) (v:Value) (n:Nat) (w:World) (hY:w.ownsRow 0 3 1 v n (es.flatMap zdx)) (dF:es.length<=1048576):Calls prog 117 #[v] w (Ret fun u w'=>w'.ownsRow 0 3 1 u (Gr.compactL es).length ((Gr.compactL es).flatMap zdx)/\u.ownBlock=v.ownBlock/\Keep (fun q=>v.ownBlock=some q) w w'):=by
 have hn:n=es.length:=by
  have:=hY.1;rw[qP]at this;omega
 subst hn;by_cases h0:es=[]
 .
  subst h0
  obtain⟨l,c,hv⟩:∃ ao c,v=.slice ao 0 c:=by
   rcases hY.2 with⟨rfl,_⟩ | ⟨g,cap,cur,rfl,_⟩<;>exact⟨_,_,rfl⟩
  subst hv;refine zqQ func117 O ntmps117 O (Gs 13 O (zp6 O rfl (Gs 8 O (zpk tr117 O ⟨_,rfl,hY,rfl,Keep.refl _ _⟩))))
 obtain⟨g,cap,sp,rfl,_,dY,dG,hB,dH⟩:=qC xW tO hY h0;refine zqQ func117 O ntmps117 O (Gs 13 O (zqE O (fun h2=>?_) (fun h2=>?_)))
 .
  refine Gs 8 O ?_
  have e1:Gr.compactL es=es:=by
   match es,h0,h2 with
   | [x],_,_=>rfl
   | x::y::r,_,h=>simp at h;omega
  refine zpk tr117 O ⟨_,rfl,tD,rfl,Keep.refl _ _⟩
 refine Gs 9 O ?_
 have e1:Gr.compactL (es.take 1)=es.take 1:=by
  match es,h0 with
  | x::r,_=>rfl
 refine G.loop (σ:=Nat) (fun k=>[(0,.slice (some ⟨g,0,none⟩) es.length cap),(3,.int .i64 k)]) (fun k=>fun w'=>1<=k/\k<=es.length/\Gr.compactL (es.take k)=es.take k/\Ext w w') (fun k=>es.length - k) 1 j2 ⟨tO,tO,e1,Keep.refl _ _⟩ ?_;rintro k w2 ⟨dZ,d5,dr,db⟩;have dt:=db.blk hB (fun h=>h);refine Gs 9 O (zqE O (fun d6=>?_) (fun d7=>?_))
 .
  refine Gs 5 O (Qt tK (Gs 2 O ?_));obtain⟨x,hx⟩:∃ e,es[k]?=some e:=iA;obtain⟨y,hy⟩:∃ e,es[k - 1]?=some e:=iA;refine Ga 1 O tO (zqL O tg3 (fun w1 da=>(da.cell (yU xW dt hx 0 _ O) (fun h=>h))) (Ga 4 O tO (zqL O tg3 (fun w1 da=>((show Cells w2 g (0+((k:Int) - 1).toNat*1) (zdx y) from by rw[show ((k:Int) - 1).toNat=k - 1 from tO];exact yU xW dt hy) 0 _ O |> fun h=>da.cell h (fun h=>h))) (Gs 1 O (zqN (fun w3 du=>?_))))));have dI:=du.blk dt (fun h=>h)
  have dB:(Gr.compactL (es.take k)).getLast?=some y:=by
   grind
  refine Gs 1 O (zqE O (fun dJ=>?_) (fun d8=>?_))
  .
   refine Gs 4 O ?_;have d9:x=y:=dJ;refine zqG O O (zqd tR27 ts3 O O O tO tO) (Gs 10 O ?_)
   have dK:Gr.compactL (es.take (k+1))=es.take k:=by
    rw[Gr.compactL_take hx];unfold Gr.cstep
    grind
   refine G.loop (σ:=Nat × Nat × List Int) (fun⟨q,k2,L⟩=>[(0,.slice (some ⟨g,0,none⟩) es.length cap),(3,.int .i64 q),(4,.slice (some ⟨g,0+k*1,none⟩) (es.length - k) (cap - k)),(5,.int .i64 k2)]) (fun⟨q,k2,L⟩=>fun w'=>Blk w' g (L.flatMap zdx++sp) 3/\L.length=es.length/\k<=q/\q+1<=k+k2/\1<=k2/\k2<=es.length - k/\L.take q=Gr.compactL (es.take (k+k2))/\L.drop (k+k2 - 1)=es.drop (k+k2 - 1)/\Keep (fun b=>b=g) w w') (fun⟨q,k2,L⟩=>es.length - k - k2) (k,1,es) j2 J8 ?_;rintro⟨q,k2,L⟩ w4 ⟨dg,hL,eb,ec,dL,dM,dh,dl,dw⟩;have dN:(L.flatMap zdx++sp).length=cap*1:=by rw[<- dH,ztv,ztv,qP,qP,hL]
   refine Gs 9 O (zqE O (fun dO=>?_) (fun dQ=>?_))
   .
    refine Gs 5 O (Qt tK (Gs 2 O ?_));obtain⟨x2,dx⟩:∃ e,es[k+k2]?=some e:=iA;obtain⟨y2,dC⟩:∃ e,es[k+k2 - 1]?=some e:=iA
    have dR:L[k+k2]?=some x2:=by
     have:=congrArg (fun l=>l[1]?) dl;simp only[zvc]at this;rw[show k+k2 - 1+1=k+k2 from tO]at this;rw[this];exact dx
    have dS:L[k+k2 - 1]?=some y2:=by
     have:=congrArg (fun l=>l[0]?) dl;simp only[zvc,zwl]at this;rw[this];exact dC
    have dD:Cells w4 g (0+k*1+(k2:Int).toNat*1) (zdx x2):=by
     have:=yU xW dg dR
     grind
    have dT:Cells w4 g (0+k*1+((k2:Int) - 1).toNat*1) (zdx y2):=by
     have:=yU xW dg dS
     grind
    refine Ga 1 O tO (zqL O tg3 (fun w1 da=>(da.cell (dD 0 _ O) (fun h=>h))) (Ga 4 O tO (zqL O tg3 (fun w1 da=>(da.cell (dT 0 _ O) (fun h=>h))) (Gs 1 O (zqN (fun w5 dm=>?_))))));have dE:=dm.blk dg (fun h=>h)
    have dy:(Gr.compactL (es.take (k+k2))).getLast?=some y2:=by
     have:=Gr.compactL_last dC
     grind
    refine Gs 1 O (zqE O (fun dU=>?_) (fun dV=>?_))
    .
     refine Ga 7 O tO (zqK O tg3 (dm.cell (dD 0 _ O) (fun h=>h)) (Ga 1 O tO (zpT O (M.store ts3 O O O O dE tO) ?_)));rintro w6 ⟨dW,dc,dz⟩;obtain⟨z,hz⟩:∃ z,L[q]?=some z:=iA;rw[ztJ,zwC,<- zwl (q*1),zcb xW (y:=x2) tS rfl L q sp hz]at dc;refine Ga 14 O tO (G.back (q+1,k2+1,L.set q x2) j2 ⟨dc,tD,tO,tO,tO,tO,?_,?_,(dw.ext dm).trans dz (fun _ _ h=>h)⟩ tD)
     .
      rw[show k+(k2+1)=k+k2+1 from tO,Gr.compactL_take dx,<- dh];unfold Gr.cstep;rw[ztx tD];rw[zwe tD];simp[zwd]
     rw[zuQ tO];have:=congrArg (List.drop 1) dl;simp only[zuN]at this
     grind
    refine Ga 8 O tO (G.back (q,k2+1,L) j2 ⟨dE,hL,tO,tO,tO,tO,?_,?_,dw.ext dm⟩ tD)
    .
     rw[show k+(k2+1)=k+k2+1 from tO,Gr.compactL_take dx,<- dh];unfold Gr.cstep
     grind
    have:=congrArg (List.drop 1) dl;simp only[zuN]at this
    grind
   refine Gs 9 O (zqG O O (zqd tR27 ts3 O O O tO tO) (zpQ O (M.clear (k:=1) (zs:=List.replicate ((es.length - q)*1) (.int .i64 0)) tR27 tz3 O tO (zo2 _) tR (by intro u hu;rw[zuV hu];rfl) dg tO) ?_));rintro _ w6 ⟨rfl,dW,dc,dz⟩;refine Gs 6 O (zqG O O (zqc tR27 ts3 O O tO) (Gs 9 O (zpk tr117 O ⟨_,rfl,?_,rfl,(dw.trans dz (fun _ _ h=>h)).mono Jk⟩)));have dA:k+k2=es.length:=tO;rw[dA,zts]at dh;have dX:(Gr.compactL es).length=q:=tD;have ed:q*1<=(L.flatMap zdx++sp).length:=tO;rw[dX];rw[ztJ,zwC]at dc;have h7:=zG (k:=1) (n:=q) (cap:=cap) dc tO dG tD;rw[zuE,zwb tD,List.take_take,Nat.min_self,zwb (by rw[qP];omega),jC xW,dh]at h7;exact h7
  refine Ga 8 O tO (G.back (k+1) j2 ⟨tO,tO,?_,db.ext du⟩ tO);rw[Gr.compactL_take hx];unfold Gr.cstep;rw[ztx tD,dr];rw[zwe tO];rw[ztn tO]at hx;cases hx;rfl
 refine Gs 12 O ?_;have:k=es.length:=tO;subst this;rw[zts]at dr;refine zpk tr117 O Jy
theorem zmZ (u:Value) (l:List Int) (h:(jr u l).holds w) (hl:l.length<=1048576):Calls prog 116 #[u] w (Ret fun r w'=>∃ _:Unit,r=.tuple #[]/\(jr u (xm l)).holds w'/\Keep (jr u l).S w w'/\∀ q,(jr u (xm l)).S q->((jr u l).S q\/w.heap.size<=q)/\q<w'.heap.size):=by
 refine(zdM l u l.length w h hl).mono ?_;rintro _ w' ⟨_,rfl,rfl,h1,h2⟩;have hY:(jr u (xm l)).holds w':=by rw[<- xC l]at h1;exact h1
 exact⟨_,rfl,(),rfl,hY,h2,fun q hq=>⟨.inl hq,xp h1 hq⟩⟩
theorem zhJ (u:Value) (l:List Int) (h:(jr u l).holds w) (hl:l.length<=1048576):Calls prog 117 #[u] w (Ret fun r w'=>∃ x:Value,r=x/\(jr x (Gr.compactL l)).holds w'/\Keep (jr u l).S w w'/\∀ q,(jr x (Gr.compactL l)).S q->((jr u l).S q\/w.heap.size<=q)/\q<w'.heap.size):=by
 have he:∀ l:List Int,l.map zb=l.flatMap zdx:=fun l=>by rw[List.map_eq_flatMap];rfl
 have h':w.ownsRow 0 3 1 u l.length (l.flatMap zdx):=by rw[<- he];exact h
 refine(zcc l u l.length w h' hl).mono ?_;rintro _ w' ⟨x,rfl,h1,h2,h3⟩;rw[<- he]at h1;exact⟨_,rfl,x,rfl,h1,h3,fun q hq=>⟨.inl (show u.ownBlock=some q from h2 ▸ hq),xp h1 hq⟩⟩
theorem zf6 (f:Fl) (g:List Nd) (hk:GOk f g) (i:Nat) (hi:i<g.length) (b:Nat) (D:Nat->Prop) (W:World) (hG:GrO D W f g b) :
  Calls prog 81 #[.pointer (some ⟨b,0,none⟩),.int .i64 i] W (Ret fun r w'=>SlR 1 zv (fun q=>W.heap.size<=q) w' r (rdV f g i)/\Ext W w'):=by
 obtain⟨v1,v2,v3,gv,sv,pv,hD,dg,hf,hg,hs,hp⟩:=hG;obtain⟨as_,cs_,rfl⟩:=hs.form;obtain⟨ag,cg,rfl⟩:=hg.form;have dV:(g.map (stN f)).length=g.length:=ztH _;have dW:=hs.max;refine zqR func81 O ntmps81 O (V.inn (zrG 900 0 O O (fun h=>h) dg (zre 0 900 0 O O (Vs 12 O (zrI 1000 0 i tO hs O O O (fun st dQ dR dS db dz dh dl=>?_))))));obtain⟨dA,dB,dC,dD,rfl,dc,dm,dr,dt⟩:=dl.get;obtain⟨dE,dF,rfl⟩:=dc.form;obtain⟨dG,dH,rfl⟩:=dm.form;obtain⟨dI,dJ,rfl⟩:=dr.form;obtain⟨dK,dL,rfl⟩:=dt.form;refine zrg 1000 tR24 ts72 O dh tO _ rfl O (Vs 1 O (V.alloc 5 tz72 O O (fun b5=>?_)));refine Vs 11 O (zrI 2000 0 i tO hg O O O (fun x dX dY dZ da dT du dw=>?_));obtain rfl:=dw;refine zrg 2000 tR34 ts65 O du tO _ rfl O ?_;have hx:=yl da;have dM:st=stN f x:=by rw[ztE,da]at db;exact(Option.some.inj db).symm
 have dN:rdV f g i=rdN f x:=by unfold rdV;rw[hx]
 have dO:rdB f x=false->SlR 1 zv (fun q=>W.heap.size<=q) W (.slice none 0 0) (rdV f g i):=fun h=>by rw[dN];unfold rdN;rw[h];exact SlR.nil
 refine Vs 4 O (zrN (σ:=Unit) [5] [5] [5] O (fun e u=>e) (fun e u=>e) (fun u=>rdB f x=true) j1 j1 ?_ ?_)
 .
  refine Vs 8 O (zp4 O (fun k3=>?_) (fun k3=>?_))
  . refine Vs 5 O (zpi () j2 j3 (by unfold rdB;simp[k3]) 0 O O)
  refine Vs 5 O (zp4 O (fun k5=>?_) (fun k5=>?_))
  . refine Vs 2 O (zpi () j2 j3 (by unfold rdB;simp[k5]) 0 O O)
  refine Vs 6 O (zp4 O (fun k2=>?_) (fun k2=>?_))
  .
   have h0:=(hk.at da (.inl k2)).1;have hY:st=yp f x.at_:=by rw[dM];exact zty h0
   refine Vs 6 O (V.sp 30 O (fun a0=>?_) (fun a0=>?_))
   .
    refine Vs 6 O (zp4 O (fun a1=>?_) (fun a1=>?_))
    . refine Vs 9 O (zpl results81 O (fun w hI=>⟨_,rfl,Tr1 hI.k0 (dO (by unfold rdB;rw[<- hY];simp[k2,a0,a1])),hI.k0⟩))
    refine Vs 2 O (zpi () j2 j3 (by unfold rdB;rw[<- hY];simp[k2,ztw.1 a1]) 0 O O)
   refine Vs 9 O (zpi () j2 j3 (by unfold rdB;rw[<- hY];simp[k2,ztw.1 a0]) 0 O O)
  refine Vs 9 O (zpl results81 O (fun w hI=>⟨_,rfl,Tr1 hI.k0 (dO (by unfold rdB;simp[k2,k3,k5])),hI.k0⟩))
 rintro u dx;have dU:x.kind=2\/x.kind=3\/x.kind=5:=by unfold rdB at dx;simp at dx;omega
 obtain⟨h0,h1,h2⟩:=hk.at da dU;have hY:st=yp f x.at_:=by rw[dM];exact zty h0
 rw[<- hY]at h2;have dy:rdV f g i=Gr.compactL (xm (xP st.term)):=by rw[dN];unfold rdN;rw[zty dx,<- hY]
 refine Vs 2 O (zrk 901 3 1 O (Vs 3 O (zrx 901 (E:=fun x=>jr x ([]++xP st.term)) call127 O iK (fun w hI=>zlc st.term _ _ [] (fun q=>D q/\q<W.heap.size) w ((dc.narrow tO zbs).ext yN hI.k0) (hI.at 901 O) (fun q hq=>⟨zws hq.2 (hI.k0).size,fun h=>by cases h⟩) tD) ?_)));rintro u2 _ rfl;rw[zvO];refine Vs 6 O (zrx 901 (E:=fun _:Unit=>jr u2 (xm (xP st.term))) call116 O iK (fun w hI=>zmZ u2 (xP st.term) (hI.at 901 O) tO) ?_);rintro _ _ rfl;refine Vs 5 O (zrx 901 (E:=fun x=>jr x (Gr.compactL (xm (xP st.term)))) call117 O iK (fun w hI=>zhJ u2 (xm (xP st.term)) (hI.at 901 O) (by rw[xC];omega)) ?_);rintro u3 _ rfl;refine Vs 4 O (zpl results81 O (fun w hI=>⟨_,rfl,by rw[dy];exact zqa zb j9 (hI.at 901 O) (fun g hg=>hI.own 901 0 O O g hg),hI.k0⟩))
theorem zjb (l:List St):plainL l=true->∀ (a n e:Nat) (G:List Nd) (P:List St),CtxG G n (layL l a n e)->CtxP P a (preL l)->∀ x ∈ layL l a n e,
  (x.kind=2->∃ s,P[x.at_.toNat]?=some s/\s.act ≠ 3/\s.act ≠ 4)/\(x.kind=4->0<=x.next/\∃ y,G[x.next.toNat]?=some y/\y.kind=5/\y.at_=x.at_)/\(x.kind=5->∃ s,P[x.at_.toNat]?=some s/\s.act=4):=by
 induction l using zr3 with
 | h l ih =>
 intro hp
 have key:∀ r:List St,(∀ x ∈ r,x ∈ l)->∀ (a n e:Nat) (G:List Nd) (P:List St),CtxG G n (layL r a n e)->CtxP P a (preL r)->∀ x ∈ layL r a n e,
   (x.kind=2->∃ s,P[x.at_.toNat]?=some s/\s.act ≠ 3/\s.act ≠ 4)/\(x.kind=4->0<=x.next/\∃ y,G[x.next.toNat]?=some y/\y.kind=5/\y.at_=x.at_)/\(x.kind=5->∃ s,P[x.at_.toNat]?=some s/\s.act=4):=by
  intro r;induction r with
  | nil=>intro _ a n e G P _ _ x hx;simp[layL]at hx
  | cons s r ihr =>
   intro hm a n e G P hG hP x hx;have hs:=yV hp s (hm s (ztr ..));have da:=hs;rw[s.plainB_eq,zu8,zu8]at hs;have h1:=(ih s (hm s (ztr ..))).1 hs.1.2;have h2:=(ih s (hm s (ztr ..))).2 hs.2;have hw:=s.wid_eq;rw[layL]at hG hx;rw[preL]at hP
   have hY:(s.lay a n (if r.isEmpty then e else n+s.wid)).length=s.wid:=by
    have h1:=zB [s] (by rw[plainL,da];rfl) a n (if r.isEmpty then e else n+s.wid);simpa[layL,widL] using h1
   have dc:s.pre.length=s.size:=by
    have:=qk [s];simpa[preL,ssize] using this
   rw[ztG]at hx;rcases hx with hx | hx
   .
    replace hG:=hG.left;replace hP:=hP.left;generalize (if r.isEmpty then e else n+s.wid)=e' at hG hx hY;rw[s.lay_eq]at hG hx;rw[s.pre_eq]at hP;have db:=qk s.thn;split at hx
    .
     rename_i a3;rw[zty a3]at hG;have dg:=zB s.thn hs.1.2 (a+1) (n+1) e';rw[ztD,ztG]at hx;rcases hx with rfl | hx | hx
     . grind
     . exact h1 _ _ _ G P hG.tail.left hP.tail.left x hx
     exact h2 _ _ _ G P (hG.tail.right tO) (hP.tail.right tO) x hx
    rename_i a3;split at hx
    .
     rename_i a4;rw[ztx a3,zty a4]at hG;rw[ztD,ztD]at hx;rcases hx with rfl | rfl | hx
     . exact⟨fun h=>tD,fun _=>⟨zux _,⟨5,a,if s.thn.isEmpty then (n+1:Nat) else (n+2:Nat),e'⟩,by dsimp only;rw[ztJ];exact hG.tail.head,rfl,rfl⟩,fun h=>by (cases h)⟩
     . exact⟨fun h=>by (cases h),fun h=>by (cases h),fun _=>⟨s,by dsimp only;rw[ztJ];exact hP.head,a4⟩⟩
     exact h1 _ _ _ G P hG.tail.tail hP.tail.left x hx
    rename_i a4;rw[ztF]at hx;subst hx;exact⟨fun _=>⟨s,by dsimp only;rw[ztJ];exact hP.head,a3,a4⟩,fun h=>by (cases h),fun h=>by (cases h)⟩
   exact ihr (fun y hy=>hm y iq) _ _ _ G P (hG.right tO) (hP.right tO) x hx
 exact key l (fun x h=>h)
theorem zjc (l:List St):plainL l=true->∀ a n e:Nat,(layL l a n e).Pairwise fun x y=>x.kind=y.kind->x.at_ ≠ y.at_:=by
 induction l using zr3 with
 | h l ih =>
 intro hp
 have key:∀ r:List St,(∀ x ∈ r,x ∈ l)->∀ a n e:Nat,(layL r a n e).Pairwise fun x y=>x.kind=y.kind->x.at_ ≠ y.at_:=by
  intro r;induction r with
  | nil=>intro _ a n e;simp[layL]
  | cons s r ihr =>
   intro hm a n e;have hs:=yV hp s (hm s (ztr ..));have hr:plainL r=true:=zbG fun y hy=>yV hp y (hm y iq);have hY:=(jT [s] (by rw[plainL,hs];rfl) a n (if r.isEmpty then e else n+s.wid)).range;have da:=(jT r hr (a+s.size) (n+s.wid) e).range;rw[s.plainB_eq,zu8,zu8]at hs;have h1:=(ih s (hm s (ztr ..))).1 hs.1.2;have h2:=(ih s (hm s (ztr ..))).2 hs.2;simp only[layL,List.isEmpty_nil,if_true,zuF,ssize,zwl]at hY;rw[layL,zvT];refine⟨?_,ihr (fun y hy=>hm y iq) _ _ _,fun x hx y hy _=>tD⟩;generalize (if r.isEmpty then e else n+s.wid)=e';rw[s.lay_eq];split
   .
    have n1:=(jT s.thn hs.1.2 (a+1) (n+1) e').range;have n2:=(jT s.els hs.2 (a+1+ssize s.thn) (n+1+widL s.thn) e').range
    exact List.Pairwise.cons (fun y hy _=>by
     grind) (zvT.2 ⟨h1 _ _ _,h2 _ _ _,fun x hx y hy _=>by have:=n1 x hx;have:=n2 y hy;omega⟩)
   split
   .
    have n1:=(jT s.thn hs.1.2 (a+1) (n+2) (n+1)).range
    exact List.Pairwise.cons (fun y hy h=>by
     grind) (List.Pairwise.cons (fun y hy _=>by have:=n1 y hy;dsimp only;omega) (h1 _ _ _))
   grind
 exact key l (fun x h=>h)
theorem Valid.part (V:Valid f) (hx:(zd f)[i]?=some x) :
  (x.kind=2->(yp f x.at_).act ≠ 3/\(yp f x.at_).act ≠ 4)/\(x.kind=4->0<=x.next/\∃ y,(zd f)[x.next.toNat]?=some y/\y.kind=5/\y.at_=x.at_)/\(x.kind=5->(yp f x.at_).act=4):=by
 have hm:=zto hx
 have hG:CtxG (zd f) 1 (layL f.body 0 1 (1+widL f.body)):=by
  intro i x hx;have hi:=(ztB.1 hx).1;unfold zd;rw[show 1+i=i+1 by omega,zva,ztN hi];exact hx
 unfold zd at hm;rw[ztD,ztG,ztF]at hm;rcases hm with rfl | hm | rfl
 . grind
 .
  obtain⟨p1,p2,p3⟩:=zjb f.body V.plain 0 1 (1+widL f.body) (zd f) (preL f.body) hG (fun i x hx=>tD) x hm;refine⟨fun h=>?_,p2,fun h=>?_⟩
  .
   obtain⟨s,h1,h2⟩:=p1 h;unfold yp
   grind
  obtain⟨s,h1,h2⟩:=p3 h;unfold yp
  grind
 grind
theorem Valid.same (V:Valid f) {y:Nd} (hx:(zd f)[i]?=some x) (hy:(zd f)[j]?=some y) (hk:x.kind=y.kind) (he:x.at_=y.at_):i=j:=by
 have hP:(zd f).Pairwise fun x y=>x.kind=y.kind->x.at_ ≠ y.at_:=by
  have hY:=za5 f.body 0 1 (1+widL f.body);unfold zd;refine List.Pairwise.cons (fun y hy h=>?_) (zvT.2 ⟨zjc f.body V.plain _ _ _,tR,fun x hx y hy h=>?_⟩)
  . grind
  grind
 obtain⟨hi,rfl⟩:=ztB.1 hx;obtain⟨hj,rfl⟩:=ztB.1 hy;rcases zwu i j with h | h | h
 . exact absurd he (zvV.1 hP i j hi hj h hk)
 . exact h
 exact absurd he.symm (zvV.1 hP j i hj hi h hk.symm)
theorem Valid.heads (V:Valid f) {y:Nd} (hx:(zd f)[i]?=some x) (hy:(zd f)[j]?=some y) (kx:x.kind=5) (ky:y.kind=5) (he:x.at_=y.at_):i=j:=V.same hx hy (kx.trans ky.symm) he
end Go.Proofs.YtckdhgbepmpgiaaGreat
namespace Go.GL
theorem qS:qD RNd:=fun _ _ _ _ h=>h
end Go.GL
namespace Go.Proofs.YtckdhgbepmpgiaaGreat
open Go.GL
theorem zjd (l:List St):∀ (a n e N:Nat),n+widL l<=N->e<N->∀ x ∈ layL l a n e,(-1<=x.next/\x.next<N)/\(-1<=x.other/\x.other<N):=by
 induction l using zr3 with
 | h l ih =>
 have wpos:∀ r:List St,r.isEmpty=false->1<=widL r:=by
  intro r hr;cases r with
  | nil=>simp at hr
  | cons s t=>have:=s.wid_eq;simp only[widL];omega
 have key:∀ r:List St,(∀ x ∈ r,x ∈ l)->∀ (a n e N:Nat),n+widL r<=N->e<N->∀ x ∈ layL r a n e,(-1<=x.next/\x.next<N)/\(-1<=x.other/\x.other<N):=by
  intro r;induction r with
  | nil=>intro _ a n e N _ _ x hx;simp[layL]at hx
  | cons s r ihr =>
   intro hm a n e N hN he x hx;have h1:=(ih s (hm s (ztr ..))).1;have h2:=(ih s (hm s (ztr ..))).2;have hw:=s.wid_eq;simp only[widL]at hN;rw[layL,ztG]at hx;rcases hx with hx | hx
   .
    have hY:(if r.isEmpty then e else n+s.wid)<N:=by
     grind
    generalize (if r.isEmpty then e else n+s.wid)=e' at hx hY;rw[s.lay_eq]at hx;split at hx
    .
     rename_i a3;rw[ztx i3]at hw;rw[ztD,ztG]at hx;rcases hx with rfl | hx | hx
     .
      dsimp only;refine⟨?_,?_⟩
      . grind
      grind
     . exact h1 _ _ _ N tO hY x hx
     exact h2 _ _ _ N tO hY x hx
    split at hx
    .
     rename_i a4;rw[zty a4]at hw;rw[ztD,ztD]at hx;rcases hx with rfl | rfl | hx
     . dsimp only;omega
     .
      dsimp only;refine⟨?_,tO⟩;cases hr:s.thn.isEmpty
      . have:=wpos _ hr;simp;omega
      simp;omega
     exact h1 _ _ _ N tO tO x hx
    rw[ztF]at hx;subst hx;dsimp only;omega
   exact ihr (fun y hy=>hm y iq) _ _ _ N tO he x hx
 exact key l (fun x h=>h)
theorem Valid.edge (V:Valid f) (hx:(zd f)[i]?=some x):(∀ to,to=x.next\/to=x.other -> -1<=to/\to<(zd f).length)/\(x.kind=2->0<=x.at_/\x.at_<(preL f.body).length):=by
 have da:=yD f V.plain;have hi:=(ztB.1 hx).1;refine⟨?_,fun k2=>?_⟩
 .
  have hm:=zto hx;unfold zd at hm;rw[ztD,ztG,ztF]at hm;rcases hm with rfl | hm | rfl
  . grind
  .
   have:=zjd f.body 0 1 (1+widL f.body) (zd f).length tO tO x hm;omega
  grind
 by_cases hl:i<(zd f).length - 1
 .
  obtain⟨h1,h2⟩:=V.node (k:=(i:Int)) tO tO;rw[ztJ,hx]at h1;have e:=Option.some.inj h1;rw[<- e]at h2;obtain⟨h3,h4,_⟩:=h2.step tO;have:=(ztB.1 h4).1;omega
 have hY:=hx;unfold zd at hY;obtain⟨j,rfl⟩:∃ j,i=j+1:=⟨i - 1,tO⟩;rw[zva,ztO (by rw[zB _ V.plain];omega),zB _ V.plain]at hY;rw[show j - widL f.body=0 by omega]at hY;simp at hY;subst hY;cases k2
abbrev xi (f:Fl) (r:Ins) (j:Nat):Mc:=zcB f (yk f r) (zd f) j (zoV f r)
theorem zje {f:Fl} {r:Ins} (vd:Valid f) (e0:zh f.vars r=0) {K:Nat} (hg:GoesAll f r K):∀ j,j<=K->MInv f j (xi f r j)
 | 0,_=>⟨jK e0,by show (0:Int)<=0/\(0:Int)<=_;omega,ztM _,fun k=>by show (0:Int)<=0/\(0:Int)<=_;omega⟩
 | j+1,h=>by
  have h3:0<=(xi f r j).at_/\(xi f r j).at_<((zd f).length:Int) - 1:=by
   obtain⟨_,_,h2⟩:=hg
   grind
  rw[show xi f r (j+1)=kg f (yk f r) (zd f) (xi f r j) from zcV _ _ _ _ _];exact ziU vd.good (vd.node h3.1 h3.2).2 (zje vd e0 hg j tO)
def CtOk (f:Fl) (cl:List Int) (rd:Int->Int):Prop:=∀ (i:Nat) x,(zd f)[i]?=some x->x.kind=5->cl[i]?=some (rd x.at_)
theorem CtOk.set (vd:Valid f) {cl:List Int} {rd:Int->Int} (h:CtOk f cl rd) (hl:cl.length=(zd f).length) (hx:(zd f)[i]?=some x) (hk:x.kind=5) (v:Int):CtOk f (cl.set i v) (zee rd x.at_ v):=by
 intro q y hy ky;have hi:=(ztB.1 hx).1;unfold zee;by_cases e:y.at_=x.at_
 .
  obtain rfl:q=i:=vd.heads hy hx ky hk e;rw[zty e,zvk tO]
 rw[ztx e,zvj (fun h=>e tD)];exact h q y hy ky
theorem zn0 (vd:Valid f) (hx:(zd f)[i]?=some x):(i+1=(zd f).length->x=⟨1,-1,-1,-1⟩)/\(x.kind=0->x.at_=-1):=by
 have hY:=yD f vd.plain;have hi:=(ztB.1 hx).1;unfold zd at hx;cases i with
 | zero=>simp at hx;subst hx;exact⟨fun h=>tO,fun _=>rfl⟩
 | succ i =>
  rw[zva]at hx;by_cases da:i<widL f.body
  .
   rw[ztN (by rw[zB _ vd.plain];omega)]at hx;refine⟨fun h=>tO,fun h=>?_⟩;rcases za5 _ _ _ _ x (zto hx) with h' | h' | h' | h'<;>omega
  rw[ztO (by rw[zB _ vd.plain];omega),zB _ vd.plain,show i - widL f.body=0 by omega]at hx;simp at hx;subst hx;exact⟨fun _=>rfl,fun h=>tD⟩
end Go.Proofs.YtckdhgbepmpgiaaGreat
namespace Go.GL
open Go.RowKit
section
variable {n:Fm} {pos:Pos} {v:Value}
variable {op:Op} {ty:TypeId} {ps:String} {g:Option (Nat × Bool)}
theorem V.opM (k:Nat) {e:HE} {r:Value} (hn:(Nat.blt d n,gd ops env g,hget H k,qA H k)=(true,some true,some e,none)) (hl:e'.loc) (hz:∀ b,¬ e'.fz b) (hm:∀ w,VI Bs H w->yM P ⟨some d,op,ty,ps,aft,g⟩ env w (fun u w'=>u=r/\e'.holds w'/\Keep e.S w w'/\∀ q,e'.S q->(e.S q\/w.heap.size<=q)/\q<w'.heap.size))
  (h:V P n Q ks (.o ops rest) ((d,r)::env) ((d,none)::A) (hset H k e') Bs):V P n Q ks (.o ops (⟨some d,op,ty,ps,aft,g⟩::rest)) env A H Bs:=by
 simp only[Prod.mk.injEq]at hn;refine fun hA w hI=>G.mem hn.1 hn.2.1 (hm w hI) ?_;rintro _ w' ⟨rfl,hh,hk,hS⟩;exact h (TgOk.none (hA.res hn.2.2.1 hn.2.2.2)) w' (hI.set hn.2.2.1 hk hh hl hz hS)
end
section
variable {n:Fm}
variable {ty:TypeId} {ps:String}
theorem zsE (i i2 k2 j:Nat) (kk:List Nat) {f:FuncId} {xs:Array Operand} {ts:Array TypeId} {vs:List Value} {Hn:α->Hp} {Φ:Value->α->Prop} (A1:Tgs) {e2:TypeId} (hf:∀ args w,(callFunc f args).run P w=.ok (.enter f args) w)
  (hi:(ops[i]?,ops[i2]?)=(some ⟨some d,.call ⟨.value (.func f),xs,ts⟩,ty,ps,aft,none⟩,some ⟨some d2,.alloc e2,ty2,ps2,aft2,none⟩)) (hr:Region.ready .any ops listed=[i,i2]) (hn:(Nat.blt d n,Nat.blt d2 n,qM env xs.toList,(hget H k2).isNone,qd (Hs.map (·.1)))=(true,true,some vs,true,true)) (hB:Bs.drop j=B0)
  (hY:∀ x,Hs.map (fun y=>hget (Hn x++yB kk H) y.1)=Hs.map (fun y=>some y.2))
  (dl:∀ r x,A1.map (fun p=>zcJ ((d,r)::env) p.1)=A1.map (fun p=>jc (Hn x++yB kk H) p.2)) (dm:∀ x,A1.all (fun p=>(jc (Hn x++yB kk H) p.2).isSome)=true)
  (hz:∀ w,(zeroValue e2).run P w=.ok z w) (dr:z.cells=cs.toArray)
  (hc:∀ w,VI Bs H w->Calls P f vs.toArray w (Ret fun r w'=>∃ x,Φ r x/\Hands H kk (Hn x) w w'))
  (h:∀ r x,Φ r x->VD P n Q ks ops Hs B0 L fuel (listed.setIfInBounds i true) ((d,r)::env) A1 (Hn x++yB kk H) Bs)
  (h2:∀ b,VD P n Q ks ops Hs B0 L fuel (listed.setIfInBounds i2 true) ((d2,.pointer (some ⟨b,0,none⟩))::env) ((d2,some (k2,0))::A) ((k2,.own b cs e2)::H) Bs):VD P n Q ks ops Hs B0 L (fuel+1) listed env A H Bs:=by
 simp only[Prod.mk.injEq,zwF]at hi hn;subst hB;obtain⟨dt,du⟩:=hi;obtain⟨dw,dx,hv,da,db⟩:=hn;intro hH hA w hI;refine zq7 i i2 (R:=fun r w'=>∃ x,Φ r x/\Hands H kk (Hn x) w w') (Rj:=fun r w'=>∃ b,r=.pointer (some ⟨b,0,none⟩)/\New w cs e2 b w') dt du hr O O dw O O dx (.inr ⟨f,_,F.call hf (yr hv),hc w hI⟩) (.inl (M.alloc hz dr)) ?_ ?_
 .
  rintro r w1 ⟨x,hP,hh⟩;have dc:=hI.hands hh;exact⟨fun _=>(dc.drop j).pick (Has.of (hY x)) db,h r x hP (Has.of (hY x)) (TgOk.of (dl r x) (dm x)) w1 dc⟩
 rintro _ w1 ⟨b,rfl,hb,hs,hB,hk⟩;have dg:VI Bs ((k2,.own b cs e2)::H) w1:=hI.new hk k2 hB trivial (fun _ h=>h) JE;have dh:Has Hs ((k2,.own b cs e2)::H):=hH.new da;refine⟨fun _=>(dg.drop j).pick dh db,h2 b dh ((hA.new da).push fun k' off hg=>?_) w1 dg⟩;cases hg;exact Jf
end
end Go.GL
namespace Go.Proofs.YtckdhgbepmpgiaaGreat
open Go.GL
variable {s:Sf}
theorem jY (h0:0<=k) (h1:k<((preL f.body).length:Int)):(preL f.body)[k.toNat]?=some (yp f k):=by
 unfold yp;rw[ztn (show k.toNat<(preL f.body).length by omega)];rfl
theorem verB_nat {n:Nat} {b:Bool}:zay f s (n:Int) v b ↔ s.of_[n]?=some v/\(b=true->f.vars.length<=n):=by
 unfold zay;rw[ztJ];constructor
 . exact fun h=>⟨h.2.1,fun hb=>by have:=h.2.2 hb;omega⟩
 exact fun h=>⟨tO,h.1,fun hb=>by have:=h.2 hb;omega⟩
theorem zld {b:Bool} (h:¬ 0<=k):¬ zay f s k v b:=fun h2=>h h2.1
abbrev chk (gb:Nat) (ofv nv bv dv:Value):List Value:=[.pointer (some ⟨gb,0,none⟩),ofv,nv,bv,dv]
theorem zgS (f:Fl) (s:Sf) (k v:Int) (b gb:Nat) (ofv nv bv dv:Value) (D:Nat->Prop) (W:World) (hc:Cells W b 0 (chk gb ofv nv bv dv)) (hY:SlR 1 zv D W ofv s.of_) :
  Calls prog 82 #[.pointer (some ⟨b,0,none⟩),.int .i64 k,.int .i64 v] W (Ret fun r w'=>r=.bool (decide (zay f s k v false))/\Ext W w'):=by
 obtain⟨ao,co,rfl⟩:=hY.form;have dg:=hY.max;refine zqS func82 O ntmps82 O (V.inn (zrG 900 0 O O (fun h=>h) hc (zre 0 900 0 O O (Vs 10 O (V.sp 9 O (fun g0=>?_) (fun g0=>?_))))))
 .
  obtain⟨n,rfl⟩:=zul g0;refine Vs 10 O (V.sp 19 O (fun g1=>?_) (fun g1=>?_))
  .
   refine Vs 6 O (zrJ 1000 0 n tO hY O O (fun x dh dl da dc db=>?_));refine zrg 1000 tR27 ts3 O db tO _ rfl O (Vs 8 O (zrz 0 results82 O O (by rw[ztP.2 (show zay f s (n:Int) v false ↔ x=v by rw[verB_nat,da];simp)])))
  refine Vs 15 O (zrz 0 results82 O O (by rw[ztA (fun h=>g1 (by have:=(ztB.1 (verB_nat.1 h).1).1;omega))]))
 refine Vs 25 O (zrz 0 results82 O O (by rw[ztA (zld g0)]))
theorem zcd (f:Fl) (g:List Nd) (s:Sf) (k v:Int) (b gb:Nat) (ofv nv bv dv:Value) (D D':Nat->Prop) (W:World) (hc:Cells W b 0 (chk gb ofv nv bv dv)) (da:SlR 1 zv D W ofv s.of_) (hG:GrO D' W f g gb) :
  Calls prog 80 #[.pointer (some ⟨b,0,none⟩),.int .i64 k,.int .i64 v] W (Ret fun r w'=>r=.bool (decide (zay f s k v true))/\Ext W w'):=by
 obtain⟨v1,v2,v3,gv,sv,pv,hD,hY,hf,hg,hs,hp⟩:=hG;obtain⟨a1,c1,rfl⟩:=hf.vars.form;obtain⟨ao,co,rfl⟩:=da.form;refine zqS func80 O ntmps80 O (V.inn (zrG 900 0 O O (fun h=>h) hc (zrG 901 0 O O (fun h=>h) hY (zre 0 900 0 O O (Vs 12 O (zre 11 901 0 O O (Vs 7 O (V.sp 18 O (fun g0=>?_) (fun g0=>?_)))))))))
 . refine Vs 3 O (zrs call82 O (fun w hI=>zgS f s k v b gb _ _ _ _ D w (Tr1 hI.k0 hc) iT) (Vs 5 O (zrz 0 results80 O O (by rw[ztP.2 (show zay f s k v true ↔ zay f s k v false by unfold zay;simp;omega)]))))
 refine Vs 9 O (zrz 0 results80 O O (by rw[ztA (fun h=>g0 (by have:=h.2.2 rfl;omega))]))
def VOk (f:Fl) (j:Nat) (v:Int):Prop:=(j<f.vars.length->v=(j:Int))/\(f.vars.length<=j->0<=v/\∃ x,f.vars[v.toNat]?=some x/\x.kind=0)
theorem ofF_iff:OfF f s ↔ f.vars.length<=s.of_.length/\∀ (j:Nat) v,s.of_[j]?=some v->VOk f j v :=
 ⟨fun h=>⟨h.len,fun j v hv=>⟨fun hj=>h.ini j v hv hj,fun hj=>h.new j v hv hj⟩⟩,fun h=>⟨h.1,fun j v hv hj=>(h.2 j v hv).1 hj,fun j v hv hj=>(h.2 j v hv).2 hj⟩⟩
theorem xX {P:Nat->α->Prop} {x:α} (h:∀ (j:Nat) y,j<i->l[j]?=some y->P j y) (hx:l[i]?=some x) (hp:P i x):∀ (j:Nat) y,j<i+1->l[j]?=some y->P j y:=fun j y hj hy=>by
 grind
theorem zaa {P:Nat->α->Prop} (h:∀ (j:Nat) y,j<l.length->l[j]?=some y->P j y):∀ (j:Nat) y,l[j]?=some y->P j y:=fun j y hy=>h j y (ztB.1 hy).1 hy
theorem zf7 (f:Fl) (g:List Nd) (s:Sf) (b gb:Nat) (ofv nv bv dv:Value) (D D':Nat->Prop) (W:World) (hc:Cells W b 0 (chk gb ofv nv bv dv)) (dm:SlR 1 zv D W ofv s.of_) (hG:GrO D' W f g gb) :
  Calls prog 38 #[.pointer (some ⟨b,0,none⟩)] W (Ret fun r w'=>(∃ q:Bool,r=.bool q/\(q=true ↔ OfF f s))/\Ext W w'):=by
 obtain⟨v1,v2,v3,gv,sv,pv,hD,db,hf,hg,hs,hp⟩:=hG;have du:=hf.vars;obtain⟨a1,c1,rfl⟩:=du.form;obtain⟨ao,co,rfl⟩:=dm.form;have dB:=dm.max;have dl:∀ (j:Nat) v,s.of_[j]?=some v->¬ VOk f j v->((false:Bool)=true ↔ OfF f s):=fun j v hv hn=>⟨fun h=>tD,fun h=>absurd ((ofF_iff.1 h).2 j v hv) hn⟩;refine zqQ func38 O ntmps38 O (V.inn (zrG 900 0 O O (fun h=>h) hc (zrG 901 0 O O (fun h=>h) db (zre 0 900 0 O O (Vs 11 O (zre 9 901 0 O O (Vs 21 O (zp4 O (fun l0=>?_) (fun l0=>?_)))))))))
 . refine Vs 7 O (zpl tr38 O (fun w hI=>⟨_,rfl,⟨_,rfl,⟨fun h=>tD,fun h=>absurd h.len tO⟩⟩,hI.k0⟩))
 refine Vs 15 O (zrM (σ:=Nat) [0,3,27,28] [900,901] [0] O (fun e i=>(29,.int .i64 i)::e) (fun e i=>e) (fun i=>i<=s.of_.length/\∀ (j:Nat) v,j<i->s.of_[j]?=some v->VOk f j v) (fun i=>s.of_.length - i) 0 j2 j3 j1 j1 j1 ⟨ztC _,fun j v h=>absurd h (zwz _)⟩ ?_);rintro i ⟨hi,da⟩;refine Vs 6 O (zp4 O (fun lt=>?_) (fun lt=>?_))
 .
  refine Vs 7 O (zrJ 1000 0 i tO dm O O (fun v dC dD hY dx dr=>?_));refine zrg 1000 tR27 ts3 O dr tO _ rfl O (Vs 12 O (V.sp 37 O (fun a1=>?_) (fun a1=>?_)))
  .
   refine Vs 6 O (zp4 O (fun a2=>?_) (fun a2=>?_))
   . refine Vs 12 O (zpl tr38 O (fun w hI=>⟨_,rfl,⟨_,rfl,dl i v hY fun h=>a2 (h.1 tO)⟩,hI.k0⟩))
   have dt:=xX da hY ⟨fun _=>ztw.1 a2,fun h=>tO⟩;refine Vs 8 O (V.sp 45 O (fun b1=>?_) (fun b1=>?_))
   . omega
   refine Va 33 O tO (V.back (i+1) j2 j3 ⟨tO,dt⟩ tO 0 O O)
  refine Vs 15 O (V.sp 45 O (fun b1=>?_) (fun b1=>?_))
  .
   refine Vs 3 O (V.sp 48 O (fun b2=>?_) (fun b2=>?_))
   . refine Vs 34 O (zpl tr38 O (fun w hI=>⟨_,rfl,⟨_,rfl,dl i v hY fun h=>by have:=(h.2 tO).1;omega⟩,hI.k0⟩))
   obtain⟨m,rfl⟩:=zul (show 0<=v by omega);refine Vs 5 O (V.sp 53 O (fun b3=>?_) (fun b3=>?_))
   .
    refine Vs 29 O ?_
    have hb:¬ VOk f i (m:Int):=fun h=>by
     obtain⟨_,x,hx,_⟩:=h.2 tO;have:=(ztB.1 hx).1;omega
    refine zpl tr38 O (fun w hI=>⟨_,rfl,⟨_,rfl,dl i m hY hb⟩,hI.k0⟩)
   refine Vs 4 O (zre 57 901 0 O O (Vs 5 O (zrI 2000 0 m tO du O O O (fun vr dy dz dA dc dw dg dh=>?_))));obtain rfl:=dh;refine zrg 2000 tR22 ts142 O dg tO _ rfl O (Vs 7 O (zp4 O (fun b4=>?_) (fun b4=>?_)))
   .
    have hb:¬ VOk f i (m:Int):=fun h=>by
     obtain⟨_,x,hx,h0⟩:=h.2 tO
     grind
    refine Vs 11 O (zpl tr38 O (fun w hI=>⟨_,rfl,⟨_,rfl,dl i m hY hb⟩,hI.k0⟩))
   have dt:=xX da hY ⟨fun h=>tO,fun _=>⟨tO,vr,dc,ztw.1 b4⟩⟩;refine Va 7 O tO (V.back (i+1) j2 j3 ⟨tO,dt⟩ tO 0 O O)
  omega
 obtain rfl:i=s.of_.length:=tO;refine Vs 11 O (zpl tr38 O (fun w hI=>⟨_,rfl,⟨_,rfl,⟨fun _=>ofF_iff.2 ⟨tO,zaa da⟩,fun _=>rfl⟩⟩,hI.k0⟩))
structure PhOne (f:Fl) (g:List Nd) (s:Sf) (n:Nat) (p:Phn):Prop where
 ver:zay f s p.ver p.var true
 frm:p.frm=zi g n
 len:p.args.length=p.frm.length
 args:∀ a ∈ p.args,zay f s a p.var false
structure PhTo (f:Fl) (g:List Nd) (s:Sf) (n:Nat) (l:List Phn) (i:Nat):Prop where
 asc:(l.take i).Pairwise fun p q=>p.var<q.var
 one:∀ p ∈ l.take i,PhOne f g s n p
theorem PhTo.start {n:Nat} {l:List Phn}:PhTo f g s n l 0:=⟨List.Pairwise.nil,fun p h=>tD⟩
theorem PhTo.next {n:Nat} {l:List Phn} {p:Phn} (h:PhTo f g s n l i) (hp:l[i]?=some p) (hv:0<i->∃ q,l[i - 1]?=some q/\q.var<p.var) (h1:PhOne f g s n p):PhTo f g s n l (i+1):=by
 refine⟨?_,fun q hq=>?_⟩
 .
  rw[ze hp];refine zvT.2 ⟨h.asc,zvX _ _,fun x hx y hy=>?_⟩;rw[ztF]at hy;subst hy;obtain⟨k,hk⟩:=zvH.1 hx;have da:=(ztB.1 hk).1;rw[ztR]at da;obtain⟨q,hq,db⟩:=hv tO;by_cases e:k=i - 1
  .
   subst e;rw[zvl tO,hq]at hk;cases hk;exact db
  have hY:(l.take i)[i - 1]?=some q:=by rw[zvl tO];exact hq
  have:=zvV.1 h.asc k (i - 1) tD (by have:=(ztB.1 hY).1;exact this) tO;rw[(ztB.1 hk).2,(ztB.1 hY).2]at this;omega
 rw[ze hp,ztG,ztF]at hq;rcases hq with hq | rfl
 . exact h.one q hq
 exact h1
theorem PhTo.done {n:Nat} {l:List Phn} (h:PhTo f g s n l l.length) (h0:n=0->l=[]):PhiF f g s n l:=by
 have ha:=h.asc;have ho:=h.one;rw[zts]at ha ho;exact⟨h0,ha,fun p hp=>(ho p hp).ver,fun p hp=>(ho p hp).frm,fun p hp=>(ho p hp).len,fun p hp=>(ho p hp).args⟩
theorem PhiF.bad {n:Nat} {l:List Phn} {p:Phn} (h:PhiF f g s n l) (hp:p ∈ l):PhOne f g s n p:=⟨h.ver p hp,h.frm p hp,h.len p hp,h.args p hp⟩
theorem zle (f:Fl) (g:List Nd) (s:Sf) (n:Nat) (hn:n<g.length) (l:List Phn) (b gb:Nat) (lv ofv nv bv dv:Value) (D D' Dl:Nat->Prop) (W:World) (hc:Cells W b 0 (chk gb ofv nv bv dv)) (dz:SlR 1 zv D W ofv s.of_) (hG:GrO D' W f g gb) (hl:SlR 4 zmw Dl W lv l) :
  Calls prog 78 #[.pointer (some ⟨b,0,none⟩),.int .i64 n,lv] W (Ret fun r w'=>(∃ q:Bool,r=.bool q/\(q=true ↔ PhiF f g s n l))/\Ext W w'):=by
 have dT:=hG;obtain⟨v1,v2,v3,gv,sv,pv,hD,dA,hf,hg,hs,dE⟩:=dT;obtain⟨apr,cpr,rfl⟩:=dE.form;obtain⟨al,cl,rfl⟩:=hl.form;have dU:(zf5 g).length=g.length:=by simp[zf5]
 have dV:=dE.max;have ez:=hl.max;have dW:=dz.max;have dl:∀ p ∈ l,¬ PhOne f g s n p->((false:Bool)=true ↔ PhiF f g s n l):=fun p hp hb=>⟨fun h=>tD,fun h=>absurd (h.bad hp) hb⟩;refine zqS func78 O ntmps78 O (V.inn (zrG 900 0 O O (fun h=>h) hc (zrG 901 0 O O (fun h=>h) dA (zre 0 900 0 O O (Vs 6 O (zrN (σ:=Unit) [0,1,2] [900,901] [0] O (fun e u=>e) (fun e u=>e) (fun u=>n=0->l=[]) j1 j1 ?_ ?_))))))
 .
  refine Vs 5 O (V.sp 13 O (fun z1=>?_) (fun z1=>?_))
  .
   refine Vs 6 O (zp4 O (fun z2=>?_) (fun z2=>?_))
   . refine Vs 8 O (zpl tr78 O (fun w hI=>⟨_,rfl,⟨_,rfl,⟨fun h=>tD,fun h=>absurd (h.zero tO) (fun e=>tD)⟩⟩,hI.k0⟩))
   refine Vs 1 O (zpi () j2 j3 (fun _=>List.length_eq_zero_iff.1 tO) 0 O O)
  refine Vs 8 O (zpi () j2 j3 (fun e=>absurd tO z1) 0 O O)
 rintro u h0;refine Vs 10 O (zrM (σ:=Nat) [0,1,2,18,19] [900,901] [0] O (fun e i=>(20,.int .i64 i)::e) (fun e i=>e) (fun i=>i<=l.length/\PhTo f g s n l i) (fun i=>l.length - i) 0 j2 j3 j1 j1 j1 ⟨ztC _,PhTo.start⟩ ?_);rintro i ⟨hi,dF⟩;refine Vs 6 O (zp4 O (fun lt=>?_) (fun lt=>?_))
 .
  refine Vs 7 O (zrI 1000 0 i tO hl O O O (fun p eA eC eD dc hY dG dH=>?_));obtain⟨dX,dY,rfl,dg,dh⟩:=dH;obtain⟨dZ,d5,rfl⟩:=dg.form;obtain⟨d6,d7,rfl⟩:=dh.form;refine zrg 1000 tR56 ts88 O dG tO _ rfl O ?_;have d8:=dh.max;have d9:=dg.max;refine zrI 2000 0 n tO dE O O O (fun pr eb ec ed dm dO dr dB=>?_);obtain⟨dQ,rfl,da⟩:=dB;obtain⟨dR,dS,rfl⟩:=da.form;have dC:pr=zi g n:=by rw[zdO hn]at dm;exact(Option.some.inj dm).symm
  refine Vs 1 O (V.alloc 8 tz88 O O (fun b8=>?_));refine Vs 6 O (zqD (p:=0<i) (fun ci=>?_) (fun ci=>?_))
  .
   refine zrI 3000 0 (i-1) tO hl O O O (fun q eE eF eG dt ee dI dJ=>?_);obtain⟨ef,eh,rfl,dK,dL⟩:=dJ;obtain⟨ei,ej,rfl⟩:=dK.form;obtain⟨ek,em,rfl⟩:=dL.form;refine Vw [900,901,1000,2000,8,3000] [] O (Vd [0,1,2] 0 tK O O O (VD.sp 27 O (fun c1=>?_) (fun c1=>?_)))
   .
    refine Vb [3,4,5,6,7] 0 tK O O O tO (zrh 8 3000 tR56 ts88 O tK O dI tO (i - 1) tO O (Vd [9,10,11,12,13] 0 tK O O O (VD.sp 38 O (fun c2=>?_) (fun c2=>?_))))
    .
     have dM:¬ PhiF f g s n l:=fun h=>by
      have:=zvV.1 h.asc (i - 1) i (ztB.1 dt).1 (ztB.1 dc).1 tO;rw[(ztB.1 dt).2,(ztB.1 dc).2]at this;omega
     refine Vd [14,15,16,17,18] 0 tK O O O (VD.skip 19 0 O tK O O (Vd [20,21,22,23,24,25,26,27,28,29,30,31,32,33,34] 0 tK O O O (VD.skip 35 0 O tK O O (Vd [36,37,38,39,40,41,42,43,44,45,46] 0 tK O O O (VD.done tK (Vs 14 O (zpl tr78 O (fun w hI=>⟨_,rfl,⟨_,rfl,⟨fun h=>tD,fun h=>absurd h dM⟩⟩,hI.k0⟩))))))))
    have dN:0<i->∃ q,l[i - 1]?=some q/\q.var<p.var:=fun _=>⟨q,dt,tO⟩;refine Vd [14,15,16,17,18] 0 tK O O O (zrt 19 0 call80 O tK O O Jc (zqI 20 0 O tK O O (fun w hI=>zqi O za) (Vd [21,22] 0 tK O O O (VD.sp 47 O (fun c3=>?_) (fun c3=>?_)))))
    . refine Vd [23,24,25,26,27,28,29,30,31,32,33,34] 0 tK O O O iw
    have c3:=ztw.1 c3;refine Vd [23,24,25,26,27,28] 0 tK O O O (zrf 53 901 0 O O (Vd [29,30,31,32] 0 tK O O O (zrh 33 2000 tR89 ts27 O tK O dr tO (n) tO O (Vd [34] 0 tK O O O (zrt 35 0 call69 O tK O O (fun w hI=>zgR p.frm pr _ _ _ _ w il iT) (zqI 36 0 O tK O O (fun w hI=>zqi O za) (Vd [37,38] 0 tK O O O (VD.sp 63 O (fun c4=>?_) (fun c4=>?_)))))))))
    . refine Vd [39,40,41,42,43,44,45,46] 0 tK O O O JM
    have c4:=ztw.1 c4;refine Vd [39,40,41,42,43,44,45,46] 0 tK O O O (VD.done tK (Vs 1 O (zp4 O (fun c5=>?_) (fun c5=>?_))))
    . refine Vs 12 O Jg
    refine Vs 11 O (zrM (σ:=Nat) [0,1,2,8,18,19,20,73,74] [8,900,901] [0,8] O (fun e j=>(75,.int .i64 j)::e) (fun e j=>e) (fun j=>j<=p.args.length/\∀ (q:Nat) a,q<j->p.args[q]?=some a->zay f s a p.var false) (fun j=>p.args.length - j) 0 j2 j3 j1 j1 j1 ⟨ztC _,fun q a h=>absurd h (zwz _)⟩ ?_);rintro j ⟨hj,db⟩;refine Vs 6 O (zp4 O (fun lj=>?_) (fun lj=>?_))
    .
     refine Vs 6 O (zrJ 4000 0 j tO dh O O (fun a er ew du dw dx=>?_));refine zrg 4000 tR27 ts3 O dx tO _ rfl O (Vs 10 O (zrs call82 O UB (zqH O (fun w hI=>zqi O j6) (Vs 2 O (zp4 O (fun c6=>?_) (fun c6=>?_))))))
     . refine Vs 15 O Js
     have dy:=xX db du (ztw.1 c6);refine Va 7 O tO (V.back (j+1) j2 j3 ⟨tO,dy⟩ tO 0 O O)
    obtain rfl:j=p.args.length:=tO;have h1:PhOne f g s n p:=UC;have dy:=dF.next dc dN h1;refine Va 10 O tO (V.back (i+1) j2 j3 ⟨tO,dy⟩ tO 0 O O)
   omega
  refine Vw [900,901,1000,2000,8] [] O (Vd [0,1,2] 0 tK O O O (VD.sp 27 O (fun c1=>?_) (fun c1=>?_)))
  . omega
  have dN:0<i->∃ q,l[i - 1]?=some q/\q.var<p.var:=fun h=>tO;refine Vd [3,4,5,6,7,8,9,10,11,12,13,14,15,16,17,18] 0 tK O O O (zrt 19 0 call80 O tK O O Jc (zqI 20 0 O tK O O (fun w hI=>zqi O za) (Vd [21,22] 0 tK O O O (VD.sp 47 O (fun c3=>?_) (fun c3=>?_)))))
  . refine Vd [23,24,25,26,27,28,29,30,31,32,33,34] 0 tK O O O iw
  have c3:=ztw.1 c3;refine Vd [23,24,25,26,27,28] 0 tK O O O (zrf 53 901 0 O O (Vd [29,30,31,32] 0 tK O O O (zrh 33 2000 tR89 ts27 O tK O dr tO (n) tO O (Vd [34] 0 tK O O O (zrt 35 0 call69 O tK O O (fun w hI=>zgR p.frm pr _ _ _ _ w il iT) (zqI 36 0 O tK O O (fun w hI=>zqi O za) (Vd [37,38] 0 tK O O O (VD.sp 63 O (fun c4=>?_) (fun c4=>?_)))))))))
  . refine Vd [39,40,41,42,43,44,45,46] 0 tK O O O JM
  have c4:=ztw.1 c4;refine Vd [39,40,41,42,43,44,45,46] 0 tK O O O (VD.done tK (Vs 1 O (zp4 O (fun c5=>?_) (fun c5=>?_))))
  . refine Vs 12 O Jg
  refine Vs 11 O (zrM (σ:=Nat) [0,1,2,8,18,19,20,73,74] [8,900,901] [0,8] O (fun e j=>(75,.int .i64 j)::e) (fun e j=>e) (fun j=>j<=p.args.length/\∀ (q:Nat) a,q<j->p.args[q]?=some a->zay f s a p.var false) (fun j=>p.args.length - j) 0 j2 j3 j1 j1 j1 ⟨ztC _,fun q a h=>absurd h (zwz _)⟩ ?_);rintro j ⟨hj,db⟩;refine Vs 6 O (zp4 O (fun lj=>?_) (fun lj=>?_))
  .
   refine Vs 6 O (zrJ 5000 0 j tO dh O O (fun a er ew du dw dx=>?_));refine zrg 5000 tR27 ts3 O dx tO _ rfl O (Vs 10 O (zrs call82 O UB (zqH O (fun w hI=>zqi O j6) (Vs 2 O (zp4 O (fun c6=>?_) (fun c6=>?_))))))
   . refine Vs 15 O Js
   have dy:=xX db du (ztw.1 c6);refine Va 7 O tO (V.back (j+1) j2 j3 ⟨tO,dy⟩ tO 0 O O)
  obtain rfl:j=p.args.length:=tO;have h1:PhOne f g s n p:=UC;have dy:=dF.next dc dN h1;refine Va 10 O tO (V.back (i+1) j2 j3 ⟨tO,dy⟩ tO 0 O O)
 obtain rfl:i=l.length:=tO;have dD:=dF.done h0;refine Vs 11 O (zpl tr78 O (fun w hI=>⟨_,rfl,⟨_,rfl,⟨fun _=>dD,fun _=>rfl⟩⟩,hI.k0⟩))
theorem zhK (f:Fl) (g:List Nd) (s:Sf) (hk:GOk f g) (dN:s.nodes.length=g.length) (b gb:Nat) (ofv nv bv dv:Value) (D D':Nat->Prop) (W:World) (hc:Cells W b 0 (chk gb ofv nv bv dv)) (hS:RSf D W s ofv nv) (hG:GrO D' W f g gb) :
  Calls prog 39 #[.pointer (some ⟨b,0,none⟩)] W (Ret fun r w'=>(∃ q:Bool,r=.bool q/\(q=true ↔ ∀ (n:Nat) x,s.nodes[n]?=some x->NodF f g s (rdV f g) n x))/\Ext W w'):=by
 have dy:=hS.of_;have dz:=hS.nodes;have eb:=dz.max;obtain⟨an,cn,rfl⟩:=dz.form;have dg:∀ (n:Nat) x,s.nodes[n]?=some x->¬ NodF f g s (rdV f g) n x->((false:Bool)=true ↔ ∀ (n:Nat) x,s.nodes[n]?=some x->NodF f g s (rdV f g) n x):=fun n x hx hb=>⟨fun h=>tD,fun h=>absurd (h n x hx) hb⟩;refine zqQ func39 O ntmps39 O (V.inn (zrG 900 0 O O (fun h=>h) hc (zre 0 900 0 O O (Vs 18 O (zrM (σ:=Nat) [0,13,14] [900] [0] O (fun e n=>(15,.int .i64 n)::e) (fun e n=>e) (fun n=>n<=s.nodes.length/\∀ (j:Nat) x,j<n->s.nodes[j]?=some x->NodF f g s (rdV f g) j x) (fun n=>s.nodes.length - n) 0 j2 j3 j1 j1 j1 ⟨ztC _,fun j x h=>absurd h (zwz _)⟩ ?_)))));rintro n ⟨hn,dh⟩;refine Vs 6 O (zp4 O (fun lt=>?_) (fun lt=>?_))
 .
  refine Vs 7 O (zrI 1000 0 n tO dz O O O (fun x ec ed ee hY dO dA dB=>?_));obtain⟨dQ,dR,rfl,dl,dc⟩:=dB;obtain⟨dS,dT,rfl⟩:=dl.form;obtain⟨dU,dV,rfl⟩:=dc.form;refine zrg 1000 tR28 ts59 O dA tO _ rfl O ?_;have ef:=dc.max;have dC:n<g.length:=tO;refine Vs 1 O (V.alloc 4 tz59 O O (fun b4=>?_));refine Vs 11 O (zru call78 O (fun w hI=>zle f g s n dC x.phis b gb _ _ _ _ _ D D' D w (Tr1 hI.k0 hc) (Tr1 hI.k0 dy) (Tr1 hI.k0 hG) (Tr1 hI.k0 dl)) ?_);rintro r1 w1 w2 eh dW ⟨q,rfl,hq⟩ dX;refine zqH O (fun w hI=>zqi O j6) (Vs 2 O (V.bool O (fun p1=>?_) (fun p1=>?_)))
  .
   have hb:¬ PhiF f g s n x.phis:=fun h=>by have:=hq.2 h;rw[this]at p1;cases p1
   refine Vs 12 O (zpl tr39 O (fun w hI=>⟨_,rfl,⟨_,rfl,dg n x hY fun h=>hb h.phi⟩,hI.k1⟩))
  have dD:=hq.1 tD;refine Vs 9 O (zrs call79 O (fun w hI=>jq f g hk n dC gb D' w (Tr1 hI.k1 hG)) (Vs 4 O (zrN (σ:=Unit) [0,3,4,13,14,15] [4,900] [0,4] O (fun e u=>e) (fun e u=>e) (fun u=>(yy f g n<0->x.dfn=-1)/\(0<=yy f g n->zay f s x.dfn (yy f g n) true)) j1 j1 ?_ ?_)))
  .
   refine Vs 5 O (V.sp 34 O (fun d1=>?_) (fun d1=>?_))
   .
    refine Vs 5 O (V.sp 39 O (fun d2=>?_) (fun d2=>?_))
    . refine Vs 27 O (zpl tr39 O (fun w hI=>⟨_,rfl,⟨_,rfl,dg n x hY fun h=>d2 (h.no d1)⟩,hI.k1⟩))
    refine Vs 3 O (V.sp 42 O (fun d3=>?_) (fun d3=>?_))
    . omega
    refine Vs 12 O (zpi () j2 j3 ⟨fun _=>ztw.1 d2,fun h=>tO⟩ 0 O O)
   refine Vs 8 O (V.sp 42 O (fun d3=>?_) (fun d3=>?_))
   .
    refine Vs 4 O (zrs call80 O (fun w hI=>zcd f g s x.dfn (yy f g n) b gb _ _ _ _ D D' w (Tr1 hI.k1 hc) (Tr1 hI.k1 dy) (Tr1 hI.k1 hG)) (zqH O (fun w hI=>zqi O j6) (Vs 4 O (zp4 O (fun d4=>?_) (fun d4=>?_)))))
    . refine Vs 13 O (zpl tr39 O (fun w hI=>⟨_,rfl,⟨_,rfl,dg n x hY fun h=>d4 (h.yes d3)⟩,hI.k1⟩))
    refine Vs 1 O (zpi () j2 j3 ⟨fun h=>tO,fun _=>ztw.1 d4⟩ 0 O O)
   omega
  rintro u ⟨dY,dZ⟩;refine Vs 8 O (zru call81 O (fun w hI=>zf6 f g hk n dC gb D' w (Tr1 hI.k1 hG)) ?_);rintro r2 w3 w4 ei d5 dE dm;obtain⟨ar,cr,rfl⟩:=dE.form;have ej:=dE.max;refine Vs 14 O (zp4 O (fun e0=>?_) (fun e0=>?_))
  . refine Vs 12 O (zpl tr39 O (fun w hI=>⟨_,rfl,⟨_,rfl,dg n x hY fun h=>e0 (by rw[<- h.use,ztH])⟩,hI.k2⟩))
  refine Vs 11 O (zrM (σ:=Nat) [0,6,13,14,15,64,65] [900] [0] O (fun e k=>(66,.int .i64 k)::e) (fun e k=>e) (fun k=>k<=x.uses.length/\∀ (q:Nat) u,q<k->x.uses[q]?=some u->(rdV f g n)[q]?=some u.1/\zay f s u.2 u.1 false) (fun k=>x.uses.length - k) 0 j2 j3 j1 j1 j1 ⟨ztC _,fun q u h=>absurd h (zwz _)⟩ ?_);rintro k ⟨ek,da⟩;refine Vs 6 O (zp4 O (fun lk=>?_) (fun lk=>?_))
  .
   refine Vs 7 O (zrI 2000 2 k tO dc O O O (fun u em er ew dr dF dG dH=>?_));obtain rfl:=dH;refine zrg 2000 tR57 ts85 O dG tO _ rfl O (zrH 3000 0 k tO dE O O O (fun b_ d_ h_=>by have d6:=dm _ h_;first | omega | exact d6 d_) (fun rk d7 d8 d9 dt dK du dL dw=>?_));obtain rfl:=dw;refine Vs 1 O (V.alloc 8 tz85 O O (fun b8=>?_));refine Vs 5 O (Vw [900,2000,3000,8] [] O (Vd [0,1,2,3] 0 tK O O O (zrh 4 3000 tR27 ts3 O tK O du tO (k) tO O (Vd [5,6,7] 0 tK O O O (VD.sp 78 O (fun e1=>?_) (fun e1=>?_))))))
   .
    have hb:¬ NodF f g s (rdV f g) n x:=fun h=>e1 (by
     have:=congrArg (fun l:List Int=>l[k]?) h.use;rw[ztE,dr,dt]at this
     exact Option.some.inj this)
    refine Vd [8,9,10,11,12] 0 tK O O O (VD.skip 13 0 O tK O O (Vd [14,15] 0 tK O O O (VD.done tK (Vs 17 O (zpl tr39 O (fun w hI=>⟨_,rfl,⟨_,rfl,dg n x hY hb⟩,hI.k2⟩))))))
   have e1:=ztw.1 e1;refine Vd [8,9,10,11,12] 0 tK O O O (zrt 13 0 call82 O tK O O (fun w hI=>zgS f s u.2 u.1 b gb _ _ _ _ D w (Tr1 hI.k2 hc) (Tr1 hI.k2 dy)) (zqI 14 0 O tK O O (fun w hI=>zqi O za) (Vd [15] 0 tK O O O (VD.done tK (Vs 1 O (zp4 O (fun e2=>?_) (fun e2=>?_)))))))
   . refine Vs 15 O (zpl tr39 O (fun w hI=>⟨_,rfl,⟨_,rfl,dg n x hY fun h=>e2 (h.ver u dF)⟩,hI.k2⟩))
   have dI:=xX da dr ⟨tD,ztw.1 e2⟩;refine Va 7 O tO (V.back (k+1) j2 j3 ⟨tO,dI⟩ tO 0 O O)
  obtain rfl:k=x.uses.length:=tO;have db:=zaa da
  have dJ:x.uses.map (·.1)=rdV f g n:=by
   apply zuW;intro q;rw[ztE];by_cases dM:q<x.uses.length
   . rw[(db q _ (ztn dM)).1,ztn dM];rfl
   rw[ztL tO,ztL tO];rfl
  have dx:NodF f g s (rdV f g) n x:=⟨dD,dY,dZ,dJ,fun u hu=>by obtain⟨q,hq⟩:=zvH.1 hu;exact(db q u hq).2⟩;have dI:=xX dh hY dx;refine Va 10 O tO (V.back (n+1) j2 j3 ⟨tO,dI⟩ tO 2 O O)
 obtain rfl:n=s.nodes.length:=tO;refine Vs 11 O (zpl tr39 O (fun w hI=>⟨_,rfl,⟨_,rfl,⟨fun _=>zaa dh,fun _=>rfl⟩⟩,hI.k0⟩))
end Go.Proofs.YtckdhgbepmpgiaaGreat
namespace Go.GL
open Go.RowKit
section
variable {n:Fm} {ty:TypeId} {ps:String} {g g2:Option (Nat × Bool)}
theorem zsF {n:Fm} {pos:Pos} (k:Nat) {e:HE} {p:World->Prop} (hn:(hget H k,qA H k)=(some e,none)) (hl:(HE.dat e.S p).loc) (hp:∀ w,VI Bs H w->p w)
  (h:∀ w,p w->(∀ b,HS (hset H k (.dat e.S p)) b->¬ e.S b)->V P n Q ks pos env A (hset H k (.dat e.S p)) ((w,HS (hset H k (.dat e.S p)))::Bs)):V P n Q ks pos env A H Bs:=by
 simp only[Prod.mk.injEq]at hn;intro hA w hI;have he:(HE.dat e.S p).holds w:=⟨hp w hI,fun q hq=>hI.low _ (zm hn.1) q hq⟩;have hF:=hI.freeze hn.1 he hl (fun q h=>h) (fun b hb=>hb);have hg:hget (hset H k (.dat e.S p)) k=some (.dat e.S p):=by rw[jS hn.1,zwm];rfl
 exact h w (hp w hI) (fun b hb hs=>hF.offF k hg b hs hb) (hA.res hn.1 hn.2) w hF.here
end
end Go.GL
namespace Go.Proofs.YtckdhgbepmpgiaaGreat
open Go.GL
variable {s:Sf}
def zef (L:List Int) (m:Nat):List Int:=(List.range m).map fun k:Nat=>((L.count (k:Int):Nat):Int)
theorem js (L:List Int) (m:Nat):(zef L m).length=m:=by simp[zef]
theorem zab {L:List Int} {k:Nat} (h:k<m):(zef L m)[k]?=some ((L.count (k:Int):Nat):Int):=by unfold zef;rw[ztE,zvf h];rfl
theorem zlf (m:Nat):zef [] m=List.replicate m 0:=by
 rw[List.eq_replicate_iff];refine⟨js _ _,fun x hx=>?_⟩;obtain⟨k,_,rfl⟩:=zvI.1 hx;rfl
theorem zf8 {L:List Int} {k:Nat} (h:k<m):(zef L m).set k (((L.count (k:Int):Nat):Int)+1)=zef (L++[(k:Int)]) m:=by
 apply zuW;intro j;by_cases hj:j<m
 .
  rw[zab hj,zuI];by_cases e:j=k
  .
   subst e;rw[zvk (by rw[js];exact hj),List.count_singleton_self];rfl
  rw[zvj (fun h=>e h.symm),zab hj,List.count_singleton];rw[ztx tD];simp
 rw[ztL (by rw[zvu,js];omega),ztL (by rw[js];omega)]
def dP (x:Sn):List Int:=if 0<=x.dfn then [x.dfn] else []
def LP (s:Sf) (n:Nat):List Int:=(List.range n).flatMap fun i=>dP (zp s i)++(zp s i).phis.map (·.ver)
theorem zjf {n:Nat} {x:Sn} (h:s.nodes[n]?=some x):LP s (n+1)=LP s n++dP x++x.phis.map (·.ver):=by
 unfold LP;rw[zw0,zv3,zv6,yL h,zuE]
theorem zgT {rd:Nat->List Int} (hY:s.nodes.length=g.length) (hN:∀ (n:Nat) x,s.nodes[n]?=some x->NodF f g s rd n x) (a:Int):(LP s g.length).count a=(qx f g s).count a:=by
 have main:∀ n,n<=g.length->(LP s n).count a=((List.range n).flatMap (dfL f g s)).count a:=by
  intro n;induction n with
  | zero=>exact fun _=>rfl
  | succ n ih =>
   intro hn;have e:=ztn (show n<s.nodes.length by omega);have hx:=hN n _ e;rw[zjf e,zw0,zv3,zv6,zuI,zuI,zuI,ih tO];unfold dfL dP;rw[yL e,zuI];by_cases hd:0<=yy f g n
   .
    have:=(hx.yes hd).1
    grind
   have:=hx.no tO
   grind
 exact main _ (ztM _)
theorem jL {b:Bool} (h:zay f s k v b):∃ n:Nat,k=(n:Int)/\n<s.of_.length:=⟨k.toNat,by have:=h.1;omega,(ztB.1 h.2.1).1⟩
theorem zlg (f:Fl) (g:List Nd) (s:Sf) (rd:Nat->List Int) (db:s.nodes.length=g.length) (hN:∀ (n:Nat) x,s.nodes[n]?=some x->NodF f g s rd n x) (ef:f.vars.length<=s.of_.length) (dK:s.of_.length<=1000000/\(LP s g.length).length<=1000000) (b gb:Nat) (ofv nv bv dv:Value) (D D':Nat->Prop) (W:World) (hc:Cells W b 0 (chk gb ofv nv bv dv)) (hS:RSf D W s ofv nv) (hG:GrO D' W f g gb) :
  Calls prog 40 #[.pointer (some ⟨b,0,none⟩)] W (Ret fun r w'=>(∃ q:Bool,r=.bool q/\(q=true ↔ ∀ k:Nat,f.vars.length<=k->k<s.of_.length->(qx f g s).count (k:Int)=1))/\Ext W w'):=by
 obtain⟨v1,v2,v3,gv,sv,pv,hD,dc,hf,hg,hs,hp⟩:=hG;have dL:=hf.vars;obtain⟨a1,c1,rfl⟩:=dL.form;have dM:=hS.of_;have dl:=hS.nodes;have eh:=dl.max;obtain⟨ao,co,rfl⟩:=dM.form;obtain⟨an,cn,rfl⟩:=dl.form;generalize hm:s.of_.length=m at *;have dH:∀ (L:List Int) (k:Int),L.count k<=L.length:=fun L k=>List.count_le_length;refine zqQ func40 O ntmps40 O (V.inn (zrG 900 0 O O (fun h=>h) hc (zrG 901 0 O O (fun h=>h) dc (zre 0 900 0 O O (Vs 13 O (zpW 16 tu27 Tryz.el3 O tO tO (zs:=List.replicate m (.int .i64 0)) JY tR (fun b16=>?_)))))));refine zrL 16 O (e':=.row 3 1 (.slice (some ⟨b16,0,none⟩) m m) m ((zef (LP s 0) m).map zb)) (by rw[show LP s 0=[] from rfl,zlf,zvA]) (Vs 16 O (zrM (σ:=Nat) [0,3,21,22] [900,901] [0] O (fun e n=>(23,.int .i64 n)::e) (fun e n=>(16,.row 3 1 (.slice (some ⟨b16,0,none⟩) m m) m ((zef (LP s n) m).map zb))::e) (fun n=>n<=s.nodes.length) (fun n=>s.nodes.length - n) 0 j2 j3 j1 j1 j1 (ztC _) ?_));rintro n hn
 have dN:∀ j,j<=g.length->(LP s j).length<=(LP s g.length).length:=fun j hj=>by
  have:LP s g.length=LP s j++(List.range' j (g.length - j)).flatMap fun i=>dP (zp s i)++(zp s i).phis.map (·.ver):=by
   unfold LP;rw[<- zv3,zvZ,zvZ];congr 1;rw[show g.length=j+(g.length - j) by omega,<- List.range'_append_1];simp
  grind
 refine Vs 6 O (zp4 O (fun lt=>?_) (fun lt=>?_))
 .
  refine Vs 6 O (zrI 1000 0 n tO dl O O O (fun x ei ej ek dg dO dm dr=>?_));obtain⟨dQ,dR,rfl,hY,dt⟩:=dr;obtain⟨dS,dT,rfl⟩:=hY.form;obtain⟨dU,dV,rfl⟩:=dt.form;refine zrg 1000 tR28 ts59 O dm tO _ rfl O ?_;have hx:=hN n x dg;have em:=hY.max;have du:=zjf dg;have dW:=dN (n+1) tO;rw[du,ztv,ztv,ztH]at dW;refine Vs 1 O (V.alloc 5 tz59 O O (fun b5=>?_));refine Vs 4 O (zrN (σ:=Unit) [0,3,5,21,22,23] [5,900,901] [0,5] O (fun e u=>e) (fun e u=>(16,.row 3 1 (.slice (some ⟨b16,0,none⟩) m m) m ((zef (LP s n++dP x) m).map zb))::e) (fun u=>True) j1 j1 ?_ ?_)
  .
   refine Vs 7 O (zp4 O (fun d0=>?_) (fun d0=>?_))
   .
    have dI:dP x=[x.dfn]:=zty d0
    have dX:0<=yy f g n:=by
     by_cases e:0<=yy f g n
     . exact e
     have:=hx.no tO;omega
    obtain⟨k,hk,da⟩:=jL (hx.yes dX);rw[hm]at da;have dJ:=dH (LP s n) (k:Int);refine Va 5 O tO (zrp 16 (k) tg3 O tO (show _=some (Value.int .i64 (((LP s n).count (k:Int):Nat):Int)) by rw[ztE,zab da];rfl) ?_);refine Va 2 O tO (zrq 16 (k) ts3 O tO (by simp[js];omega) (zrL 16 O (e':=.row 3 1 (.slice (some ⟨b16,0,none⟩) m m) m ((zef (LP s n++dP x) m).map zb)) (by rw[dI,hk,<- zf8 da,zvB]) (Vs 1 O (zpi () j2 j3 True.intro 0 O O))))
   have dI:dP x=[]:=ztx d0;refine zrL 16 O (e':=.row 3 1 (.slice (some ⟨b16,0,none⟩) m m) m ((zef (LP s n++dP x) m).map zb)) tD (Vs 1 O (zpi () j2 j3 True.intro 0 O O))
  rintro u -;refine Vs 9 O (zrL 16 O (e':=.row 3 1 (.slice (some ⟨b16,0,none⟩) m m) m ((zef (LP s n++dP x++(x.phis.take 0).map (·.ver)) m).map zb)) tD (Vs 1 O (zrM (σ:=Nat) [0,3,21,22,23,38,39] [900,901] [0] O (fun e j=>(40,.int .i64 j)::e) (fun e j=>(16,.row 3 1 (.slice (some ⟨b16,0,none⟩) m m) m ((zef (LP s n++dP x++(x.phis.take j).map (·.ver)) m).map zb))::e) (fun j=>j<=x.phis.length) (fun j=>x.phis.length - j) 0 j2 j3 j1 j1 j1 (ztC _) ?_)));rintro j hj;refine Vs 6 O (zp4 O (fun lj=>?_) (fun lj=>?_))
  .
   refine Vs 6 O (zrI 2000 0 j tO hY O O O (fun p er ew ez dw dx dy dz=>?_));obtain⟨dY,dZ,rfl,dA,dB⟩:=dz;obtain⟨d5,d6,rfl⟩:=dA.form;obtain⟨d7,d8,rfl⟩:=dB.form;refine zrg 2000 tR56 ts88 O dy tO _ rfl O ?_;obtain⟨k,hk,da⟩:=jL (hx.phi.ver p dx);rw[hm]at da;have dJ:=dH (LP s n++dP x++(x.phis.take j).map (·.ver)) (k:Int);rw[ztv,ztv,ztH,ztR]at dJ;refine Vs 1 O (V.alloc 7 tz88 O O (fun b7=>?_));refine Va 8 O tO (zrp 16 (k) tg3 O tO (show _=some (Value.int .i64 (((LP s n++dP x++(x.phis.take j).map (·.ver)).count (k:Int):Nat):Int)) by rw[ztE,zab da];rfl) ?_);refine Va 2 O tO (zrq 16 (k) ts3 O tO (by simp[js];omega) (zrL 16 O (e':=.row 3 1 (.slice (some ⟨b16,0,none⟩) m m) m ((zef (LP s n++dP x++(x.phis.take (j+1)).map (·.ver)) m).map zb)) (by rw[ze dw,zvv,<- zuE,show [p].map (·.ver)=[(k:Int)] by grind,<- zf8 da,zvB]) (Va 7 O tO (V.back (j+1) j2 j3 tO tO 0 O O))))
  obtain rfl:j=x.phis.length:=tO;refine zrL 16 O (e':=.row 3 1 (.slice (some ⟨b16,0,none⟩) m m) m ((zef (LP s (n+1)) m).map zb)) tD (Va 10 O tO (V.back (n+1) j2 j3 tO tO 0 O O))
 obtain rfl:n=s.nodes.length:=tO;have dC:∀ a,(LP s s.nodes.length).count a=(qx f g s).count a:=fun a=>by rw[db];exact zgT db hN a
 refine Vs 7 O (zsF 16 O (p:=fun w=>SlR 1 zv (fun q=>(Value.slice (some ⟨b16,0,none⟩) m m).ownBlock=some q) w (.slice (some ⟨b16,0,none⟩) m m) (zef (LP s s.nodes.length) m)) (fun w w' T h hk hT=>h.keep zc hk fun b hb _=>hT b hb) (fun w hI=>zqa zb j9 (show w.ownsRow 0 3 1 _ m _ from hI.at 16 O) (fun g hg=>hg)) (fun wp dD d9=>?_));have eA:=js (LP s s.nodes.length) m;have eb:=dD.drop f.vars.length tO;have eC:((zef (LP s s.nodes.length) m).drop f.vars.length).length=m - f.vars.length:=tD;refine Vs 6 O (zre 57 901 0 O O (Vs 5 O (zqH O (fun w hI=>zpK tR27 ts3 O O tO) (Vs 5 O (zrM (σ:=Nat) [63,64] [16] [] O (fun e j=>(65,.int .i64 j)::e) (fun e j=>e) (fun j=>j<=m - f.vars.length/\∀ k:Nat,f.vars.length<=k->k<f.vars.length+j->(qx f g s).count (k:Int)=1) (fun j=>m - f.vars.length - j) 0 j2 j3 j1 j1 j1 ⟨ztC _,fun k h1 h2=>tO⟩ ?_)))));rintro j ⟨hj,dE⟩;refine Vs 6 O (zp4 O (fun lj=>?_) (fun lj=>?_))
 .
  refine Vs 6 O (zrH 3000 0 j tO eb O O O (fun b_ d_ h_=>by have ec:=d9 _ h_;first | omega | exact ec d_) (fun c eD eE eF dh ed dF ee dG=>?_));obtain rfl:=dG;refine zrg 3000 tR27 ts3 O dF tO _ rfl O ?_
  have eG:c=(((qx f g s).count ((f.vars.length+j:Nat):Int):Nat):Int):=by
   rw[zvc,zab tO,dC]at dh;exact(Option.some.inj dh).symm
  refine Vs 10 O (zp4 O (fun e1=>?_) (fun e1=>?_))
  .
   have hb:¬ ∀ k:Nat,f.vars.length<=k->k<m->(qx f g s).count (k:Int)=1:=fun h=>e1 tD;refine Vs 11 O (zpl results40 O (fun w hI=>⟨_,rfl,⟨_,rfl,⟨fun h=>tD,fun h=>absurd h hb⟩⟩,hI.k1⟩))
  have du:∀ k:Nat,f.vars.length<=k->k<f.vars.length+(j+1)->(qx f g s).count (k:Int)=1:=fun k h1 h2=>by
   grind
  refine Va 7 O tO (V.back (j+1) j2 j3 ⟨tO,du⟩ tO 0 O O)
 refine Vs 11 O (zpl results40 O (fun w hI=>⟨_,rfl,⟨_,rfl,⟨fun _ k h1 h2=>dE k h1 tO,fun _=>rfl⟩⟩,hI.k1⟩))
def bfV (rows:List (List Int)) (i:Nat) (v:Int):Int:=((rows[i]?.getD [])[v.toNat]?).getD (-1)
structure Shp (rows:List (List Int)) (N nv:Nat):Prop where
 len:rows.length=N
 row:∀ r ∈ rows,r.length=nv
def zgU (rows:List (List Int)) (i v:Nat) (x:Int):List (List Int):=rows.set i ((rows[i]?.getD []).set v x)
theorem zjg {r:List Int} {v:Nat} {x:Int} (hr:rows[i]?=some r) (hx:r[v]?=some x):bfV rows i (v:Int)=x:=by unfold bfV;rw[hr,zwE,ztJ,hx];rfl
theorem Shp.at (h:Shp rows N nv) (hi:i<N):∃ r,rows[i]?=some r/\r.length=nv:=by
 have hl:=h.len;exact⟨_,ztn (show i<rows.length by omega),h.row _ (zvn _)⟩
theorem Shp.set (h:Shp rows N nv) {v:Nat} (hi:i<N) (x:Int):Shp (zgU rows i v x) N nv:=by
 obtain⟨r,hr,hl⟩:=h.at hi;refine⟨by unfold zgU;rw[zvu];exact h.len,fun q hq=>?_⟩;unfold zgU at hq;rcases zvM hq with hq | rfl
 . exact h.row q hq
 grind
theorem zmx (h:Shp rows N nv) {v:Nat} (hi:i<N) (hv:v<nv) (x:Int) {u:Int} (hu:0<=u):bfV (zgU rows i v x) j u=zkz (bfV rows) i (v:Int) x j u:=by
 obtain⟨r,hr,hl⟩:=h.at hi;unfold bfV zgU zkz;rw[hr,zwE];by_cases e:j=i
 .
  subst e;have hY:=(ztB.1 hr).1;rw[zvk hY,zwE];by_cases e2:u=(v:Int)
  . rw[zty ⟨rfl,e2⟩,e2,ztJ,zvk tO];rfl
  rw[ztx (fun h=>e2 h.2),zvj tO];show _=((rows[j]?.getD [])[u.toNat]?).getD (-1);rw[hr];rfl
 rw[zvj (fun h=>e h.symm),ztx (fun h=>e h.1)]
section
theorem zlh (h:∀ y,y<g.length->B y v=C y v):eqV g s (xc f g s B) i v=eqV g s (xc f g s C) i v:=by
 unfold eqV;split
 . rfl
 split
 . rfl
 congr 1;refine zvw fun y hy=>?_;unfold xc;rw[h y (xN hy)]
theorem RunV.congr (h:RunV f g s nv B) (he:∀ i,i<g.length->∀ v:Int,0<=v->v<(nv:Int)->B i v=C i v):RunV f g s nv C :=
 ⟨fun i hi v hv hn=>he i hi v hv hn ▸ h.snd i hi v hv hn,fun i hi v hv hn=>by
  rw[<- he i hi v hv hn,<- zlh fun y hy=>he y hy v hv hn]
  exact h.le i hi v hv hn⟩
end
def rkR (r:List Int):Nat:=(r.map zca).sum
def rkT (rows:List (List Int)):Nat:=(rows.map rkR).sum
theorem zgV {l:List Nat} {x y:Nat} (h:l[i]?=some x):(l.set i y).sum+x=l.sum+y:=by
 induction l generalizing i with
 | nil=>simp at h
 | cons z l ih =>
  cases i with
  | zero=>simp at h;subst h;simp;omega
  | succ i =>
   have:=ih (i:=i) tD;simp only[List.set_cons_succ,zw8];omega
theorem zo3 {v:Nat} {r:List Int} {old x:Int} (hr:rows[i]?=some r) (ho:r[v]?=some old):rkT (zgU rows i v x)+zca old=rkT rows+zca x:=by
 have h1:rkR (r.set v x)+zca old=rkR r+zca x:=by
  unfold rkR;rw[zvB];exact zgV (by rw[ztE,ho];rfl)
 have h2:rkT (zgU rows i v x)+rkR r=rkT rows+rkR (r.set v x):=by
  unfold rkT zgU;rw[hr,zwE,zvB];exact zgV (by rw[ztE,hr];rfl)
 omega
theorem zjh {l:List Nat} (h:∀ x ∈ l,x<=b):l.sum<=l.length*b:=by
 induction l with
 | nil=>simp
 | cons x l ih =>
  have h1:=h x (ztr ..);have h2:=ih fun y hy=>h y iq;rw[zw8,ztQ,zwB];omega
theorem rk_le (h:Shp rows N nv):rkT rows<=N*(nv*2):=by
 unfold rkT
 have:=zjh (l:=rows.map rkR) (b:=nv*2) fun x hx=>by
  obtain⟨r,hr,rfl⟩:=zvI.1 hx
  have:=zjh (l:=r.map zca) (b:=2) fun y hy=>by
   obtain⟨z,_,rfl⟩:=zvI.1 hy;exact zmU z
  rw[ztH,h.row r hr]at this;exact this
 rw[ztH,h.len]at this;omega
structure PassV (f:Fl) (g:List Nd) (s:Sf) (nv:Nat) (rows0 rows:List (List Int)) (ch:Bool) (dn:Nat->Nat->Prop):Prop where
 shp:Shp rows g.length nv
 run:RunV f g s nv (bfV rows)
 no:ch=false->rows=rows0/\∀ i v,dn i v->bfV rows0 i (v:Int)=-2\/eqV g s (xc f g s (bfV rows0)) i v=bfV rows0 i v\/eqV g s (xc f g s (bfV rows0)) i v=-1
 yes:ch=true->rkT rows0<rkT rows
section
variable {rows0:List (List Int)} {ch:Bool} {dn dn':Nat->Nat->Prop}
theorem PassV.imp (h:PassV f g s nv rows0 rows ch dn) (hd:∀ i v,dn' i v->dn i v):PassV f g s nv rows0 rows ch dn':=⟨h.shp,h.run,fun e=>⟨(h.no e).1,fun i v hv=>(h.no e).2 i v (hd i v hv)⟩,h.yes⟩
theorem PassV.start (h1:Shp rows g.length nv) (h2:RunV f g s nv (bfV rows)) (hd:∀ i v,¬ dn i v):PassV f g s nv rows rows false dn:=⟨h1,h2,fun _=>⟨rfl,fun i v h=>absurd h (hd i v)⟩,fun h=>tD⟩
theorem PassV.skip (h:PassV f g s nv rows0 rows ch dn) {v:Nat} (hs:bfV rows i (v:Int)=-2\/eqV g s (xc f g s (bfV rows)) i v=bfV rows i v\/eqV g s (xc f g s (bfV rows)) i v=-1) (hd:∀ j u,dn' j u->dn j u\/(j=i/\u=v)):PassV f g s nv rows0 rows ch dn' :=
 ⟨h.shp,h.run,fun e=>by
  obtain⟨h1,h2⟩:=h.no e;refine⟨h1,fun j u hY=>?_⟩;rcases hd j u hY with h3 | ⟨rfl,rfl⟩
  . grind
  .
   rw[<- h1];exact hs,h.yes⟩
theorem PassV.set (hs:NnS f g s) (h:PassV f g s nv rows0 rows ch dn) {v:Nat} (hi:i<g.length) (hv:v<nv) (hn:eqV g s (xc f g s (bfV rows)) i v ≠ bfV rows i v):PassV f g s nv rows0 (zgU rows i v (eqV g s (xc f g s (bfV rows)) i v)) true dn':=by
 obtain⟨r,hr,hl⟩:=h.shp.at hi;have ho:=ztn (show v<r.length by omega);have hb:=zjg hr ho;have hY:=h.run.le i hi (v:Int) tO tO;have da:=zmT hY hn;have h1:=zo3 (x:=eqV g s (xc f g s (bfV rows)) i v) hr ho;rw[<- hb]at h1;refine⟨h.shp.set hi _,(h.run.next hs hi (v:=(v:Int)) tO tO).congr fun j _ u hu _=>(zmx h.shp hi hv _ hu).symm,fun e=>tD,fun _=>?_⟩;cases ch with
 | false=>rw[<- (h.no rfl).1];omega
 | true=>have:=h.yes rfl;omega
theorem PassV.done (h:PassV f g s nv rows0 rows false dn) (hd:∀ i v,1<=i->i<g.length->v<nv->dn i v) (h0:∀ v:Int,0<=v->v<(nv:Int)->bfV rows 0 v=v):SolV f g s nv (bfV rows):=by
 refine h.run.done fun i hi v hv hn=>?_;obtain⟨h1,h2⟩:=h.no rfl;by_cases e:i=0
 .
  subst e;exact .inr (.inl (by rw[h0 v hv hn];unfold eqV;rw[zty rfl]))
 have:=h2 i v.toNat (hd i v.toNat tO hi tO)
 grind
end
open Go.GL
theorem zd1 (f:Fl) (g:List Nd) (s:Sf) (hk:GOk f g) (dz:s.nodes.length=g.length) (rows:List (List Int)) (nv:Nat) (dy:Shp rows g.length nv) (i v:Nat) (hi:i<g.length) (hv:v<nv) (b gb:Nat) (ofv nodv bv dv:Value) (D D' Db:Nat->Prop) (W:World) (hc:Cells W b 0 (chk gb ofv nodv bv dv)) (hS:RSf D W s ofv nodv) (hG:GrO D' W f g gb) (hr:SlR 1 (RSl 1 zv) Db W bv rows) :
  Calls prog 84 #[.pointer (some ⟨b,0,none⟩),.int .i64 i,.int .i64 v] W (Ret fun r w'=>r=.int .i64 (xc f g s (bfV rows) i v)/\Ext W w'):=by
 have da:=hS.nodes;have dL:=da.max;have dM:=hr.max;have dN:=dy.len;obtain⟨an,cn,rfl⟩:=da.form;obtain⟨ar,cr,rfl⟩:=hr.form;refine zqS func84 O ntmps84 O (V.inn (zrG 900 0 O O (fun h=>h) hc (zre 0 900 0 O O (Vs 13 O (zrs call79 O (fun w hI=>jq f g hk i hi gb D' w (Tr1 hI.k0 hG)) (Vs 4 O (zp4 O (fun d0=>?_) (fun d0=>?_))))))))
 .
  refine Vs 8 O (zrI 1000 0 i tO da O O O (fun x dO dQ dR db dA dc dg=>?_));obtain⟨dB,dC,rfl,dh,dl⟩:=dg;obtain⟨dD,dE,rfl⟩:=dh.form;obtain⟨dF,dG,rfl⟩:=dl.form;refine zrg 1000 tR28 ts59 O dc tO _ rfl O (Vs 7 O (zrz 0 results84 O O (by unfold xc;rw[zty d0,yL db])))
 refine Vs 9 O (zrI 2000 0 i tO hr O O O (fun r dS dT dU dm dr dt du=>?_));obtain⟨dH,rfl,hY⟩:=du;obtain⟨dI,dJ,rfl⟩:=hY.form;refine zrg 2000 tR89 ts27 O dt tO _ rfl O ?_;have dV:=dy.row r dr;refine Vs 2 O (zrJ 3000 0 v tO hY O O (fun y dW dX dw dK dx=>?_));refine zrg 3000 tR27 ts3 O dx tO _ rfl O (Vs 5 O (zrz 0 results84 O O (by unfold xc;rw[ztx d0,zjg dm dw])))
theorem zn1 {l:List Phn} {k:Nat} {p:Phn} (h:∀ (j:Nat) q,j<k->l[j]?=some q->q.var ≠ v) (hp:l[k]?=some p) (hv:p.var=v):zbe l v=some p.ver:=by
 unfold zbe;induction l generalizing k with
 | nil=>simp at hp
 | cons q l ih =>
  cases k with
  | zero =>
   simp at hp;subst hp;rw[zv1 tD];rfl
  | succ k =>
   have:=h 0 q tO rfl;rw[zv0 tD];exact ih (k:=k) (fun j q' hj hq=>h (j+1) q' tO tD) tD
theorem zli {l:List Phn} (h:∀ (j:Nat) q,l[j]?=some q->q.var ≠ v):zbe l v=none:=by
 unfold zbe;rw[Option.map_eq_none_iff,zv2];intro p hp e;obtain⟨j,hj⟩:=zvH.1 hp;exact h j p hj tD
theorem zf9 (h:(zi g i)[j]?=some y):∃ n:Nat,y=(n:Int)/\(zJ g i)[j]?=some n/\n<g.length:=by
 unfold zi at h;rw[ztE]at h;obtain⟨n,hn,rfl⟩:=zwI.1 h;exact⟨n,rfl,hn,xN (zto hn)⟩
theorem zlj (f:Fl) (g:List Nd) (s:Sf) (hk:GOk f g) (dt:s.nodes.length=g.length) (rows:List (List Int)) (nv:Nat) (dO:Shp rows g.length nv) (i v:Nat) (hi:i<g.length) (h0:i ≠ 0) (hv:v<nv) (b gb:Nat) (ofv nodv bv dv:Value) (D D' Db:Nat->Prop) (W:World) (hc:Cells W b 0 (chk gb ofv nodv bv dv)) (hS:RSf D W s ofv nodv) (hG:GrO D' W f g gb) (hr:SlR 1 (RSl 1 zv) Db W bv rows) :
  Calls prog 83 #[.pointer (some ⟨b,0,none⟩),.int .i64 i,.int .i64 v] W (Ret fun r w'=>r=.int .i64 (eqV g s (xc f g s (bfV rows)) i v)/\Ext W w'):=by
 have dQ:=hG;obtain⟨v1,v2,v3,gv,sv,pv,hD,dg,hf,hg,hs,du⟩:=dQ;obtain⟨apr,cpr,rfl⟩:=du.form;have dR:(zf5 g).length=g.length:=by simp[zf5]
 have dS:=du.max;have dT:=hS;have dw:=hS.nodes;have ew:=dw.max;obtain⟨an,cn,rfl⟩:=dw.form;refine zqS func83 O ntmps83 O (V.inn (zrG 900 0 O O (fun h=>h) hc (zrG 901 0 O O (fun h=>h) dg (zre 0 900 0 O O (Vs 14 O (zrI 1000 0 i tO dw O O O (fun x ez eA eC dx dU dy dz=>?_)))))));obtain⟨dV,dW,rfl,db,dA⟩:=dz;obtain⟨dX,dY,rfl⟩:=db.form;obtain⟨dZ,d5,rfl⟩:=dA.form;refine zrg 1000 tR28 ts59 O dy tO _ rfl O ?_;have eD:=db.max;have dJ:zp s i=x:=yL dx;refine Vs 7 O (zrM (σ:=Nat) [0,1,2,21,22] [900,901] [0] O (fun e k=>(23,.int .i64 k)::e) (fun e k=>e) (fun k=>k<=x.phis.length/\∀ (j:Nat) q,j<k->x.phis[j]?=some q->q.var ≠ (v:Int)) (fun k=>x.phis.length - k) 0 j2 j3 j1 j1 j1 ⟨ztC _,fun j q h=>absurd h (zwz _)⟩ ?_);rintro k ⟨eE,dc⟩;refine Vs 6 O (zp4 O (fun lt=>?_) (fun lt=>?_))
 .
  refine Vs 6 O (zrI 2000 0 k tO db O O O (fun p eF eG eH dh d6 dB dC=>?_));obtain⟨d7,d8,rfl,dD,dE⟩:=dC;obtain⟨d9,eb,rfl⟩:=dD.form;obtain⟨ec,ed,rfl⟩:=dE.form;refine zrg 2000 tR56 ts88 O dB tO _ rfl O (Vs 1 O (V.alloc 8 tz88 O O (fun b8=>?_)));refine Vs 11 O (zp4 O (fun e0=>?_) (fun e0=>?_))
  . refine Vs 13 O (zpl results83 O (fun w hI=>⟨_,rfl,by unfold eqV zc9;rw[ztx h0,dJ,zn1 dc dh e0],hI.k0⟩))
  have dF:=xX dc dh e0;refine Va 7 O tO (V.back (k+1) j2 j3 ⟨tO,dF⟩ tO 0 O O)
 obtain rfl:k=x.phis.length:=tO;have ee:zc9 s i v=none:=by unfold zc9;rw[dJ];exact zli (zaa dc)
 refine Vs 17 O (zre 37 901 0 O O (Vs 4 O (zrI 3000 0 i tO du O O O (fun pr ef eh ei da dK dl dm=>?_))));obtain⟨dL,rfl,hY⟩:=dm;obtain⟨dM,dN,rfl⟩:=hY.form;refine zrg 3000 tR89 ts27 O dl tO _ rfl O ?_;have dr:pr=zi g i:=by rw[zdO hi]at da;exact(Option.some.inj da).symm
 have dG:pr.length=(zJ g i).length:=by rw[dr];simp[zi]
 have ej:=hY.max;refine Vs 6 O (zrM (σ:=Nat) [0,2,43,44] [900,901] [0] O (fun e j=>(45,.int .i64 j)::(9,.int .i64 (zax (((zJ g i).take j).map fun y:Nat=>xc f g s (bfV rows) y v)))::e) (fun e j=>e) (fun j=>j<=pr.length) (fun j=>pr.length - j) 0 j2 j3 j1 j1 j1 (ztC _) ?_);rintro j hj;refine Vs 6 O (zp4 O (fun lj=>?_) (fun lj=>?_))
 .
  refine Vs 6 O (zrJ 4000 0 j tO hY O O (fun y eI eJ dH ek dI=>?_));refine zrg 4000 tR27 ts3 O dI tO _ rfl O ?_;obtain⟨n,rfl,em,er⟩:=zf9 (dr ▸ dH);have dF:zax (((zJ g i).take (j+1)).map fun y:Nat=>xc f g s (bfV rows) y v)=xM (zax (((zJ g i).take j).map fun y:Nat=>xc f g s (bfV rows) y v)) (xc f g s (bfV rows) n v):=by rw[ze em,zvv,List.map_singleton,zj0]
  generalize zax (((zJ g i).take j).map fun y:Nat=>xc f g s (bfV rows) y v)=ac at *;refine Vs 9 O (zrs call84 O (fun w hI=>zd1 f g s hk dt rows nv dO n v er hv b gb _ _ _ _ D D' Db w (Tr1 hI.k0 hc) (Tr1 hI.k0 dT) (Tr1 hI.k0 hG) (Tr1 hI.k0 hr)) ?_);generalize xc f g s (bfV rows) n v=bb at *;refine Vs 3 O (zrN (σ:=Unit) [0,2,43,44,45] [900,901] [0] O (fun e u=>(9,.int .i64 (xM ac bb))::e) (fun e u=>e) (fun u=>True) j1 j1 ?_ ?_)
  .
   refine Vs 6 O (V.sp 56 O (fun e1=>?_) (fun e1=>?_))
   . refine Vs 10 O (zpi () (Sub.cons (by unfold xM;rw[zty (.inl e1)];rfl) j2) j3 True.intro 0 O O)
   refine Vs 7 O (zp4 O (fun e2=>?_) (fun e2=>?_))
   . refine Vs 2 O (zpi () (Sub.cons (by unfold xM;rw[zty (.inr e2)];rfl) j2) j3 True.intro 0 O O)
   refine Vs 7 O (zp4 O (fun e3=>?_) (fun e3=>?_))
   . refine Vs 5 O (zpi () (Sub.cons (by unfold xM;rw[ztx (fun h=>h.elim e1 e2),zty e3];rfl) j2) j3 True.intro 0 O O)
   refine Vs 4 O (zpi () (Sub.cons (by unfold xM;rw[ztx (fun h=>h.elim e1 e2),ztx e3];rfl) j2) j3 True.intro 0 O O)
  rintro u -;refine Va 6 O tO (V.back (j+1) (Sub.cons rfl (Sub.cons (by rw[dF];rfl) j2)) j3 tO tO 0 O O)
 obtain rfl:j=pr.length:=tO;refine Vs 12 O (zpl results83 O (fun w hI=>⟨_,rfl,by unfold eqV;rw[ztx h0,ee,dG,zts],hI.k0⟩))
end Go.Proofs.YtckdhgbepmpgiaaGreat
namespace Go.GL
theorem RowsOk.add {rows:List (List α)} {r:List α} (h:RowsOk enc e w rv rows) (hu:w.ownsRow 0 e 1 u r.length (r.map enc)) (dc:∀ g,u.ownBlock=some g->∀ (i:Nat) v,rv[i]?=some v->v.ownBlock ≠ some g):RowsOk enc e w (rv++[u]) (rows++[r]):=by
 have hY:=h.len
 have da:∀ (i:Nat) (v:Value),(rv++[u])[i]?=some v->(i<rv.length/\rv[i]?=some v)\/(i=rv.length/\v=u):=fun i v hv=>by
  by_cases hi:i<rv.length
  . rw[ztN hi]at hv;exact .inl ⟨hi,hv⟩
  have hl:=(ztB.1 hv).1;rw[ztv,ztI]at hl;obtain rfl:i=rv.length:=tO;rw[ztO tO,zwA]at hv;exact .inr ⟨rfl,tD⟩
 refine⟨tD,fun i v r' hv hr=>?_,fun i j vi vj g db hi hj hg=>?_⟩
 .
  rcases da i v hv with⟨h1,h2⟩ | ⟨rfl,rfl⟩
  .
   rw[ztN tO]at hr;exact h.row i v r' h2 hr
  rw[hY,ztO tO,zwA]at hr;obtain rfl:r=r':=tD;exact hu
 rcases da i vi hi with⟨h1,h2⟩ | ⟨rfl,rfl⟩
 .
  rcases da j vj hj with⟨h3,h4⟩ | ⟨rfl,rfl⟩
  . exact h.apart i j vi vj g db h2 h4 hg
  grind
 grind
theorem RowsOk.nil:RowsOk enc e w [] ([]:List (List α)):=⟨rfl,fun i v r h=>tD,fun i j vi vj g _ h=>tD⟩
theorem set_same {x:α} (h:l[i]?=some x):l.set i x=l:=by
 apply zuW;intro j;rw[zvi];by_cases e:i=j
 .
  subst e;rw[zty rfl,zty (ztB.1 h).1,h]
 grind
section
variable {dst:Option Tmp} {ty:TypeId} {pos:String} {g0:Option (Nat × Bool)}
variable {rows:List (List α)} {p g c:Nat} {r:List α} {a:α}
theorem zac (hR:RowsOk enc e w rv rows) {v:Value} (hv:rv[p]?=some v) (hr:rows[p]?=some r):∃ ao c,v=.slice ao r.length c/\(0<r.length->∃ g,ao=some ⟨g,0,none⟩):=by
 have h:=hR.row p v r hv hr;rcases h.2 with⟨rfl,h0⟩ | ⟨g,cap,cur,rfl,_⟩
 . grind
 grind
theorem zji (hR:RowsOk enc e w rv rows) (hv:rv[p]?=some (.slice (some ⟨g,0,none⟩) m c)) (hr:rows[p]?=some r) (ha:r[j]?=some a):w.cell? ⟨g,0+(j:Int).toNat*1,none⟩=some (enc a):=by
 have h:=hR.row p _ r hv hr;obtain⟨ao,c',he⟩:=zI h;simp only[Value.slice.injEq]at he;obtain⟨_,rfl,_⟩:=he;have:=(jR h).2.2 j (enc a) (by rw[ztE,ha];rfl);simpa using this
theorem zsG {tl:TypeId} {x y:Operand} (hs:∀ w,(sizeOf tl).run P w=.ok 1 w) (hR:RowsOk enc e w rv rows) (hv:rv[p]?=some (.slice (some ⟨g,0,none⟩) m c)) (hr:rows[p]?=some r) (hj:j<r.length) (h1:one (enc a)=true) (hx:ev env x=some (.pointer (some ⟨g,0+(j:Int).toNat*1,none⟩))) (hy:ev env y=some (enc a)) :
  xY P ⟨dst,.store tl x y,ty,pos,aft,g0⟩ env w (fun w'=>RowsOk enc e w' rv (rows.set p (r.set j a))/\Keep (fun q=>∃ (i:Nat) (v:Value),rv[i]?=some v/\v.ownBlock=some q) w w'/\∀ q,(∃ (i:Nat) (v:Value),rv[i]?=some v/\v.ownBlock=some q)->((∃ (i:Nat) (v:Value),rv[i]?=some v/\v.ownBlock=some q)\/w.heap.size<=q)/\q<w'.heap.size):=by
 have ho:=hR.row p _ r hv hr;obtain⟨ao,c',he⟩:=zI ho;simp only[Value.slice.injEq]at he;obtain⟨_,rfl,_⟩:=he;obtain⟨sp,hB,hc,dc,dg⟩:=xw ho;have dh:0+(j:Int).toNat*1=j:=tR;rw[dh]at hx;obtain⟨h6,h7⟩:=xU h1;obtain⟨w',da,dm,dl,hk⟩:=M.store (dst:=dst) (ty:=ty) (pos:=pos) (aft:=aft) (g:=g0) hs hx hy h6 h7 hB tO
 have db:w'.ownsRow 0 e 1 (.slice (some ⟨g,0,none⟩) r.length c) (r.set j a).length ((r.set j a).map enc):=by
  have:=zG (k:=1) (n:=r.length) (cap:=c) dl hc dc tD;rw[zw3 _ _ tD,zwy,zwb tD,zwc tD]at this;rw[zvu,zvB];omega
 have dr:∃ (i:Nat) (v:Value),rv[i]?=some v/\v.ownBlock=some g:=⟨p,_,hv,rfl⟩;have hY:=hR.put hv db (.inl rfl) (hk.mono fun q _ hq=>by have hq:q=g:=hq;subst hq;exact rfl);rw[set_same hv]at hY;refine⟨w',da,hY,hk.mono fun q _ hq=>tD,fun q hq=>⟨.inl hq,?_⟩⟩;obtain⟨i,v,h8,h9⟩:=hq;exact zws (hR.blk h8 h9) hk.size
end
theorem zo4 (hq:∃ (i:Nat) (v:Value),(rv++[u])[i]?=some v/\v.ownBlock=some q):(∃ (i:Nat) (v:Value),rv[i]?=some v/\v.ownBlock=some q)\/u.ownBlock=some q:=by
 obtain⟨i,v,h1,h2⟩:=hq;by_cases hi:i<rv.length
 . exact .inl ⟨i,v,by rwa [ztN hi]at h1,h2⟩
 have hl:=(ztB.1 h1).1;rw[ztv,ztI]at hl;rw[ztO tO,show i - rv.length=0 by omega]at h1;have h3:u=v:=Option.some.inj h1;exact .inr (h3 ▸ h2)
end Go.GL
namespace Go.Proofs.YtckdhgbepmpgiaaGreat
open Go.GL
theorem zlk {p:Nat} {v:Value} {r:List Int} (h:RowsOk zb e w rv rows) (hv:rv[p]?=some v) (hr:rows[p]?=some r):SlR 1 zv (fun _=>True) w v r:=zqa zb j9 (h.row p v r hv hr) (fun _ _=>trivial)
theorem zce {v:Value} (h1:w.ownsRow 0 27 1 v rows.length rv) (h2:RowsOk zb 3 w rv rows) (hY:∀ g,v.ownBlock=some g->D g) (da:∀ (i:Nat) u g,rv[i]?=some u->u.ownBlock=some g->D g):SlR 1 (RSl 1 zv) D w v rows:=by
 have:OwnR 27 1 (RSl 1 zv) D w v rows:=⟨rv,h1,fun i x hx=>by
  have db:=h2.len;have hl:=(ztB.1 hx).1;obtain⟨u,hu⟩:∃ u,rv[i]?=some u:=iA;have hd:(rv.drop (i*1)).take 1=[u]:=by rw[zwy,zgQ hu];rfl
  rw[hd]
  exact⟨u,rfl,zqa zb j9 (h2.row i u x hu hx) (fun g hg=>da i u g hu hg)⟩⟩
 exact this.sl tS (zP zc) (fun q h=>h) hY
def zd2 (f:Fl) (g:List Nd) (s:Sf):Prop:=(∀ (n:Nat) x,s.nodes[n]?=some x->∀ u ∈ x.uses,inV f g s n u.1=u.2)/\∀ (n:Nat) x,s.nodes[n]?=some x->∀ p ∈ x.phis,∀ (i:Nat) y a,p.frm[i]?=some y->p.args[i]?=some a->zaV f g s y.toNat p.var=a
def zfF (nv i:Nat):List Int:=(List.range nv).map fun v:Nat=>if i=0 then (v:Int) else -1
def rows0 (nv N:Nat):List (List Int):=(List.range N).map (zfF nv)
theorem zdP (nv i:Nat):(zfF nv i).length=nv:=by simp[zfF]
theorem zfa (nv N:Nat):Shp (rows0 nv N) N nv:=⟨by simp[rows0],fun r hr=>by obtain⟨i,_,rfl⟩:=zvI.1 hr;exact zdP nv i⟩
theorem zfb (h:i<N):(rows0 nv N)[i]?=some (zfF nv i):=by unfold rows0;rw[ztE,zvf h];rfl
theorem zgW (hi:i<N) (h0:0<=v) (hv:v<(nv:Int)):bfV (rows0 nv N) i v=if i=0 then v else -1:=by
 obtain⟨n,rfl⟩:=zul h0;refine zjg (zfb hi) ?_;unfold zfF;rw[ztE,zvf tO];rfl
theorem zjj (f:Fl) (g:List Nd) (s:Sf) (nv:Nat):RunV f g s nv (bfV (rows0 nv g.length)):=by
 have h:RunV f g s nv (fun i v=>if i=0 then v else -1):=RunV.start fun i v=>rfl;exact h.congr fun i hi v hv hn=>(zgW hi hv hn).symm
theorem zll {k:Nat} (h:k<nv):((zfF nv i).take k++List.replicate (nv - k) 0).set k (if i=0 then (k:Int) else -1)=(zfF nv i).take (k+1)++List.replicate (nv - (k+1)) 0:=by
 have hg:(zfF nv i)[k]?=some (if i=0 then (k:Int) else -1):=by unfold zfF;rw[ztE,zvf h];rfl
 rw[ze hg,zw4 _ _ tD,ztR,zdP,show k - min k nv=0 by omega,show nv - k=(nv - (k+1))+1 by omega,zw1];simp
end Go.Proofs.YtckdhgbepmpgiaaGreat
