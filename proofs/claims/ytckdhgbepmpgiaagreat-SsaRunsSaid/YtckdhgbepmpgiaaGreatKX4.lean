/-
  Contracts and the mathematics that the proof needs. Nothing here is a claim.
-/
import Derived.Test.YtckdhgbepmpgiaaGreatKX3
namespace Go.Proofs.YtckdhgbepmpgiaaGreat
open Go.GL
def RNew (cs:List Value) (e:TypeId):World->Value->World->Prop:=fun a v a'=>∃ b,v=.pointer (some ⟨b,0,none⟩)/\New a cs e b a'
theorem RNew.ext {cs:List Value} {e:TypeId} {a a':World} {v:Value} (h:RNew cs e a v a'):Ext a a':=by obtain⟨_,_,h⟩:=h;obtain⟨_,_,_,h⟩:=h;exact h
theorem RNew.apart {cs cs':List Value} {e e':TypeId} {v u:Value} {b c:Nat} (h:zk2 (RNew cs e) v (RNew cs' e') u) (hb:v=.pointer (some ⟨b,0,none⟩)) (hc:u=.pointer (some ⟨c,0,none⟩)):b ≠ c:=by
 rcases h with⟨a,a',d,d',⟨b1,e1,g1,s1,_,_⟩,⟨c1,e2,g2,s2,_,_⟩,hk⟩ | ⟨a,a',d,d',⟨b1,e1,g1,s1,_,_⟩,⟨c1,e2,g2,s2,_,_⟩,hk⟩
 . rw[hb]at e1;rw[hc]at e2;cases e1;cases e2;have:=hk.size;omega
 rw[hb]at e1;rw[hc]at e2;cases e1;cases e2;have:=hk.size;omega
theorem zix (vs:List Vr) (nh:Nat) (l:List St):∀ (v:Value) (D:Nat->Prop) (w:World) (top:Bool),stepsCodeN vs nh l top=0->SlR 10 RSt D w v l->sbulk l<=1000000->Calls Tryz.prog 124 #[v] w (Ret fun r w'=>r=.agg #[.int .i64 (cap 1099511627776 (bds l).1),.int .i64 (cap 1099511627776 (bds l).2.1),.int .i64 (cap 1099511627776 (bds l).2.2)]/\Ext w w'):=by
 induction l using znx with
 | h l ih =>
 intro v D w top eD hl hb
 have fy:=hl.max
 obtain⟨av,nv,rfl⟩:=hl.form
 have eM:=hl
 have hE:=Keep.refl (fun _=>False) w
 refine znk Tryz.func124 O Tryz.ntmps124 O (Gs 2 O (zmr O O (M.alloc (cs:=_) tz193 O) ?_))
 rintro _ fA ⟨r,rfl,eh,eN,db,ei⟩
 have eE:_<=r:=zpq hE.size (zrS eh.symm)
 obtain⟨hE,hl⟩:=Tr2 ei hE hl
 refine Gs 4 O (zmr O O (M.alloc (cs:=_) tz193 O) ?_)
 rintro _ eO ⟨o,rfl,ej,eP,hY,ek⟩
 have dh:r ≠ o:=by have:=db.lt;omega
 have eF:_<=o:=zpq hE.size (zrS ej.symm)
 obtain⟨hE,hl,db⟩:=Tr3 ek hE hl db
 refine Gs 11 O ?_
 have fB:=Keep.refl (fun q=>q=o) eO
 refine G.loop (σ:=Nat) (fun i=>[(2,.pointer (some ⟨r,0,none⟩)),(3,.pointer (some ⟨o,0,none⟩)),(9,.slice av l.length nv),(10,.int .i64 l.length),(11,.int .i64 i)]) (fun i=>fun w'=>i<=l.length/\Blk w' o [.int .i64 (cap 1099511627776 (bds (l.take i)).1),.int .i64 (cap 1099511627776 (bds (l.take i)).2.1),.int .i64 (cap 1099511627776 (bds (l.take i)).2.2)] 193/\Blk w' r [.int .i64 0,.int .i64 0,.int .i64 0] 193/\Ext w w') (fun i=>l.length - i) (0) (Sub.of O) (⟨zpz _,hY,db,hE⟩) ?_
 rintro i w1 ⟨hi,hY,db,hE⟩
 have hl:=eM.ext zd hE
 refine Gs 6 O (zlF O (fun eQ=>?_) (fun eQ=>?_))
 .
  obtain⟨x,eb,dR⟩:=gE_ l (i) (by omega)
  obtain⟨eR,fC,fD,em,_,dS,ec⟩:=hl.at eb
  have en:=RSt.one ec
  obtain⟨eS,eT,eU,eV,rfl,dz,dx,dy,dA⟩:=ec.get
  obtain⟨eW,eX,rfl⟩:=dz.form
  obtain⟨eY,eZ,rfl⟩:=dx.form
  obtain⟨e8,e9,rfl⟩:=dy.form
  obtain⟨fa,fb,rfl⟩:=dA.form
  have eG:eR<_:=zpm _ _ (dS 0 _ rfl)
  have eo:=zfj eb
  have dT:(bds (l.take (i+1))).1=(bds (l.take i)).1+(yw x).1:=by rw[eo]
  have dU:(bds (l.take (i+1))).2.1=(bds (l.take i)).2.1+(yw x).2.1:=by rw[eo]
  have dV:(bds (l.take (i+1))).2.2=(bds (l.take i)).2.2+(yw x).2.2:=by rw[eo]
  have dm:0<=(bds (l.take i)).1/\0<=(bds (l.take i)).2.1/\0<=(bds (l.take i)).2.2:=zgV eD i
  obtain⟨last,eH⟩:=xK l top eD x dR
  obtain⟨hS,_,_,ed,ee⟩:=qx eH
  have dB:=hS.cost
  have n1:=yX x.thn _ ed
  have n2:=yX x.els _ ee
  have y:=zaB eH
  have fc:=jg dR
  rw[St.bulk_eq]at fc
  refine Gs 6 O (zna O O (zmh tR24 ts72 O O em (by omega)) (zng O tg72 ts72 dS O (zmr O O (M.alloc (cs:=_) tz72 O) ?_)))
  rintro _ wa1 ⟨c,rfl,ep,fe,dc,dW⟩
  refine zmw O (zmx ts72 O O O O en dc (by simp)) ?_
  rintro fE ⟨_,dc,ef⟩
  replace dW:=dW.trans ef (fun q hq h=>by have h:q=c:=h;omega)
  have er:r ≠ c:=by have:=db.lt;omega
  have di:o ≠ c:=by have:=hY.lt;omega
  have eI:_<=c:=zpq hE.size (zrS ep.symm)
  obtain⟨hE,hl,db,hY,dS,dz,dx⟩:=Tr7 dW hE hl db hY dS dz dx
  obtain⟨dy,dA⟩:=Tr2 dW dy dA
  refine Gs 5 O (zne O tg3 (dc.cells 1 _ O) (zna O O (R.build (v:=.agg #[.int .i64 1,.int .i64 0,.int .i64 x.cost]) [(0,_),(2,_)] O (fun _=>by kernel_rfl)) (zmr O O (M.alloc (cs:=_) tz193 O) ?_)))
  rintro _ wa2 ⟨p,rfl,eu,fg,da,dX⟩
  refine zmw O (zmx ts193 O O O O (by simp[Value.oneCell']) da (by simp)) ?_
  rintro dY ⟨_,da,eg⟩
  replace dX:=dX.trans eg (fun q hq h=>by have h:q=p:=h;omega)
  have dr:r ≠ p:=by have:=db.lt;omega
  have dg:o ≠ p:=by have:=hY.lt;omega
  have dt:c ≠ p:=by have:=dc.lt;omega
  have eJ:_<=p:=zpq hE.size (zrS eu.symm)
  obtain⟨hE,hl,db,hY,dz,dx,dy⟩:=Tr7 dX hE hl db hY dz dx dy
  obtain⟨dA,dc⟩:=Tr2 dX dA dc
  refine Gs 3 O ?_
  have fF:r<dY.heap.size:=db.lt
  have fG:o<dY.heap.size:=hY.lt
  have fH:c<dY.heap.size:=dc.lt
  have fI:p<dY.heap.size:=da.lt
  refine Dw (fun q=>Ext dY q) [] (fun wd0 hD _=>(Ds [0] (by kernel_rfl) O (WD.take 1 O (by kernel_rfl) O O O hD (fun w1 ew=>R.load tg24 O ((ew.blk dc (fun h=>h)).cells 7 _ O)) (Ds [3] (by kernel_rfl) O (WD.take 4 O (by kernel_rfl) O O O hD (fun w1 ew=>R.load tg24 O ((ew.blk dc (fun h=>h)).cells 8 _ O)) ?_)))))
  refine zoT (fuel:=2) (L3:=#[true,true,true,true,true,true,true,true,false,false]) [⟨2,_,20,fun a v a'=>v=.agg #[.int .i64 (cap 1099511627776 (bds x.thn).1),.int .i64 (cap 1099511627776 (bds x.thn).2.1),.int .i64 (cap 1099511627776 (bds x.thn).2.2)]/\Ext a a'⟩,⟨5,_,23,fun a v a'=>v=.agg #[.int .i64 (cap 1099511627776 (bds x.els).1),.int .i64 (cap 1099511627776 (bds x.els).2.1),.int .i64 (cap 1099511627776 (bds x.els).2.2)]/\Ext a a'⟩,⟨6,_,7,RNew [.int .i64 0,.int .i64 0,.int .i64 0] 193⟩,⟨7,_,8,RNew [.int .i64 0,.int .i64 0,.int .i64 0] 193⟩]
   (zqV.2 ⟨⟨rfl,rfl,rfl,rfl,rfl⟩,zqV.2 ⟨⟨rfl,rfl,rfl,rfl,rfl⟩,zqV.2 ⟨⟨rfl,rfl,rfl,rfl,rfl⟩,zqV.2 ⟨⟨rfl,rfl,rfl,rfl,rfl⟩,by simp⟩⟩⟩⟩)
   (show List.Nodup [20,23,7,8] by decide) (show List.Nodup [2,5,6,7] by decide) (by kernel_rfl) (fun w' h=>hD.ext h) ?_ ?_ ?_
  . refine zqV.2 ⟨fun a v a' h=>h.2,zqV.2 ⟨fun a v a' h=>h.2,zqV.2 ⟨fun a v a' h=>h.ext,zqV.2 ⟨fun a v a' h=>h.ext,by simp⟩⟩⟩⟩
  . refine zqV.2 ⟨fun w' h=>Does.call (F.call (vs:=[_]) Tryz.call124 O) ((ih x dR).1 _ _ _ _ ed (dx.ext zd (hD.ext h)) (by omega)),zqV.2 ⟨fun w' h=>Does.call (F.call (vs:=[_]) Tryz.call124 O) ((ih x dR).2 _ _ _ _ ee (dy.ext zd (hD.ext h)) (by omega)),zqV.2 ⟨fun w' h=>Does.of (M.alloc (cs:=_) tz193 O),zqV.2 ⟨fun w' h=>Does.of (M.alloc (cs:=_) tz193 O),by simp⟩⟩⟩⟩
  intro val wm fh dC fi
  obtain⟨_,_,_,⟨e2,_⟩,_⟩:=dC _ (zpo ..)
  obtain⟨_,_,_,⟨e5,_⟩,_⟩:=dC _ (zpn _ (zpo ..))
  obtain⟨a6,a6',fj,⟨t,e6,fJ,dZ,fk,fK⟩,fm⟩:=dC _ (zpn _ (zpn _ (zpo ..)))
  obtain⟨a7,a7',fp,⟨u,e7,fL,d5,fq,fM⟩,ft⟩:=dC _ (zpn _ (zpn _ (zpn _ (zpo ..))))
  have dQ:t ≠ u:=RNew.apart (fi _ (zpn _ (zpn _ (zpo ..))) _ (zpn _ (zpn _ (zpn _ (zpo ..)))) (show (7:Nat) ≠ 8 by decide)) e6 e7
  have fN:dY.heap.size<=t:=by have:=hD.size;have:=fj.size;omega
  have fO:dY.heap.size<=u:=by have:=hD.size;have:=fp.size;omega
  have de:=fm.blk fk (fun h=>h)
  have df:=ft.blk fq (fun h=>h)
  replace hD:=hD.ext fh
  have ey:r ≠ t:=by omega
  have ez:r ≠ u:=by omega
  have dk:o ≠ t:=by omega
  have dl:o ≠ u:=by omega
  have eA:c ≠ t:=by omega
  have eC:c ≠ u:=by omega
  have du:p ≠ t:=by omega
  have dw:p ≠ u:=by omega
  show WD _ _ _ _ _ _ _ _ ((20,val 20)::(23,val 23)::(7,val 7)::(8,val 8)::_) _
  rw[e2,e5,e6,e7]
  refine zmv 8 O (by kernel_rfl) O O (zmx ts193 O O O O (by simp[Value.oneCell']) de (by simp)) ?_
  rintro ws1 ⟨_,de,ed⟩
  replace df:=ed.blk df (fun h=>dQ h.symm)
  replace hD:=hD.trans ed (fun q hq h=>by have h:q=t:=h;omega)
  refine⟨fun _=>hD,?_⟩
  refine zmv 9 O (by kernel_rfl) O O (zmx ts193 O O O O (by simp[Value.oneCell']) df (by simp)) ?_
  rintro ws2 ⟨_,df,ee⟩
  replace de:=ee.blk de dQ
  replace hD:=hD.trans ee (fun q hq h=>by have h:q=u:=h;omega)
  refine⟨fun _=>hD,?_⟩
  refine G.done (by kernel_rfl) ?_ _
  obtain⟨hE,hl,db,hY,dz,dx,dy⟩:=Tr7 hD hE hl db hY dz dx dy
  obtain⟨dA,dc,da⟩:=Tr3 hD dA dc da
  have eK:w.heap.size<=t:=by have:=hE.size;omega
  have eL:w.heap.size<=u:=by have:=hE.size;omega
  have r1:=zE n1.1 (show (0:Int)<=1099511627776 by decide)
  have r2:=zE n1.2.1 (show (0:Int)<=1099511627776 by decide)
  have r3:=zE n1.2.2 (show (0:Int)<=1099511627776 by decide)
  have r4:=zE n2.1 (show (0:Int)<=1099511627776 by decide)
  have r5:=zE n2.2.1 (show (0:Int)<=1099511627776 by decide)
  have r6:=zE n2.2.2 (show (0:Int)<=1099511627776 by decide)
  have t1:=zE dm.1 (show (0:Int)<=1099511627776 by decide)
  have t2:=zE dm.2.1 (show (0:Int)<=1099511627776 by decide)
  have t3:=zE dm.2.2 (show (0:Int)<=1099511627776 by decide)
  refine Gs 5 O (zne O tg66 (dc.cells 0 _ O) (Gs 9 O (zlF O (fun a1=>?_) (fun a1=>?_))))
  .
   obtain⟨g1,g2⟩:=hS.free (by omega) (by omega)
   have eB:yw x=(1,1,x.cost):=by rw[yb,g1,g2,zpu (by omega)];simp[bds,a1]
   have f1:cap 1099511627776 1=cap 1099511627776 (yw x).1:=by rw[eB]
   have f2:cap 1099511627776 1=cap 1099511627776 (yw x).2.1:=by rw[eB]
   have f3:cap 1099511627776 x.cost=cap 1099511627776 (yw x).2.2:=by rw[eB]
   have z1:(0:Int)<=1:=by decide
   have z2:(0:Int)<=1:=by decide
   have z3:=dB.1
   refine Gs 2 O (zmw O (M.store ts3 O O O O da (by simp)) ?_)
   rintro ws3 ⟨_,da,d6⟩
   replace hE:=hE.trans d6 (fun q hq h=>by have h:q=p:=h;omega)
   replace db:=d6.blk db dr
   replace hY:=d6.blk hY dg
   replace dc:=d6.blk dc dt
   replace de:=d6.blk de (fun h=>du h.symm)
   replace df:=d6.blk df (fun h=>dw h.symm)
   refine Gs 6 O (zne O tg3 (hY.cells 0 _ O) (Gs 1 O (zne O tg3 (da.cells 0 _ O) (Ga 3 O (by omega) (zmw O (M.store ts3 O O O O hY (by simp)) ?_)))))
   rintro ws4 ⟨_,hY,d7⟩
   replace hE:=hE.trans d7 (fun q hq h=>by have h:q=o:=h;omega)
   replace db:=d7.blk db dh
   replace dc:=d7.blk dc (fun h=>di h.symm)
   replace da:=d7.blk da (fun h=>dg h.symm)
   replace de:=d7.blk de (fun h=>dk h.symm)
   replace df:=d7.blk df (fun h=>dl h.symm)
   refine Gs 5 O (zne O tg3 (hY.cells 1 _ O) (Gs 1 O (zne O tg3 (da.cells 1 _ O) (Ga 3 O (by omega) (zmw O (M.store ts3 O O O O hY (by simp)) ?_)))))
   rintro ws5 ⟨_,hY,d8⟩
   replace hE:=hE.trans d8 (fun q hq h=>by have h:q=o:=h;omega)
   replace db:=d8.blk db dh
   replace dc:=d8.blk dc (fun h=>di h.symm)
   replace da:=d8.blk da (fun h=>dg h.symm)
   replace de:=d8.blk de (fun h=>dk h.symm)
   replace df:=d8.blk df (fun h=>dl h.symm)
   refine Gs 4 O (zne O tg3 (hY.cells 2 _ O) (Gs 1 O (zne O tg3 (da.cells 2 _ O) (Ga 3 O (by omega) (zmw O (M.store ts3 O O O O hY (by simp)) ?_)))))
   rintro ws6 ⟨_,hY,dZ⟩
   replace hE:=hE.trans dZ (fun q hq h=>by have h:q=o:=h;omega)
   replace db:=dZ.blk db dh
   replace dc:=dZ.blk dc (fun h=>di h.symm)
   replace da:=dZ.blk da (fun h=>dg h.symm)
   replace de:=dZ.blk de (fun h=>dk h.symm)
   replace df:=dZ.blk df (fun h=>dl h.symm)
   refine Ga 7 O (by omega) (G.back (i+1) (Sub.of O) (⟨by omega,by rw[dT,dU,dV,<- yh dm.1 y.1 z1 f1,<- yh dm.2.1 y.2.1 z2 f2,<- yh dm.2.2 y.2.2 z3 f3];exact hY,db,hE⟩) (by first | omega | (dsimp only;omega)))
  refine Gs 6 O (zlF O (fun a3=>?_) (fun a3=>?_))
  .
   have n4:¬ x.act=4:=by omega
   have f1:cap 1099511627776 (1+max (cap 1099511627776 (bds x.thn).1) (cap 1099511627776 (bds x.els).1))=cap 1099511627776 (yw x).1:=by rw[yb,zpu n4];exact zcT (by omega) n1.1 n2.1
   have f2:cap 1099511627776 (max (cap 1099511627776 (bds x.thn).2.1) (cap 1099511627776 (bds x.els).2.1))=cap 1099511627776 (yw x).2.1:=by rw[yb,zpu n4];simp only[a1,if_false];exact zfk n1.2.1 n2.2.1
   have f3:cap 1099511627776 (x.cost+max (cap 1099511627776 (bds x.thn).2.2) (cap 1099511627776 (bds x.els).2.2))=cap 1099511627776 (yw x).2.2:=by rw[yb,zpu n4];exact zcT dB.1 n1.2.2 n2.2.2
   have z1:0<=1+max (cap 1099511627776 (bds x.thn).1) (cap 1099511627776 (bds x.els).1):=by omega
   have z2:0<=max (cap 1099511627776 (bds x.thn).2.1) (cap 1099511627776 (bds x.els).2.1):=by omega
   have z3:0<=x.cost+max (cap 1099511627776 (bds x.thn).2.2) (cap 1099511627776 (bds x.els).2.2):=by omega
   refine Gs 3 O (zne O tg3 (da.cells 0 _ O) (Gs 1 O (zne O tg3 (de.cells 0 _ O) (Gs 1 O (zne O tg3 (df.cells 0 _ O) (Ga 3 O (by omega) (zmw O (M.store ts3 O O O O da (by simp)) ?_)))))))
   rintro ws7 ⟨_,da,d5⟩
   replace hE:=hE.trans d5 (fun q hq h=>by have h:q=p:=h;omega)
   replace db:=d5.blk db dr
   replace hY:=d5.blk hY dg
   replace dc:=d5.blk dc dt
   replace de:=d5.blk de (fun h=>du h.symm)
   replace df:=d5.blk df (fun h=>dw h.symm)
   refine Gs 5 O (zne O tg3 (de.cells 1 _ O) (Gs 1 O (zne O tg3 (df.cells 1 _ O) (Gs 2 O (zmw O (M.store ts3 O O O O da (by simp)) ?_)))))
   rintro ws8 ⟨_,da,d9⟩
   replace hE:=hE.trans d9 (fun q hq h=>by have h:q=p:=h;omega)
   replace db:=d9.blk db dr
   replace hY:=d9.blk hY dg
   replace dc:=d9.blk dc dt
   replace de:=d9.blk de (fun h=>du h.symm)
   replace df:=d9.blk df (fun h=>dw h.symm)
   refine Gs 4 O (zne O tg3 (da.cells 2 _ O) (Gs 1 O (zne O tg3 (de.cells 2 _ O) (Gs 1 O (zne O tg3 (df.cells 2 _ O) (Ga 3 O (by omega) (zmw O (M.store ts3 O O O O da (by simp)) ?_)))))))
   rintro ws9 ⟨_,da,ea⟩
   replace hE:=hE.trans ea (fun q hq h=>by have h:q=p:=h;omega)
   replace db:=ea.blk db dr
   replace hY:=ea.blk hY dg
   replace dc:=ea.blk dc dt
   replace de:=ea.blk de (fun h=>du h.symm)
   replace df:=ea.blk df (fun h=>dw h.symm)
   refine Gs 6 O (zne O tg3 (hY.cells 0 _ O) (Gs 1 O (zne O tg3 (da.cells 0 _ O) (Ga 3 O (by omega) (zmw O (M.store ts3 O O O O hY (by simp)) ?_)))))
   rintro ws10 ⟨_,hY,dD⟩
   replace hE:=hE.trans dD (fun q hq h=>by have h:q=o:=h;omega)
   replace db:=dD.blk db dh
   replace dc:=dD.blk dc (fun h=>di h.symm)
   replace da:=dD.blk da (fun h=>dg h.symm)
   replace de:=dD.blk de (fun h=>dk h.symm)
   replace df:=dD.blk df (fun h=>dl h.symm)
   refine Gs 5 O (zne O tg3 (hY.cells 1 _ O) (Gs 1 O (zne O tg3 (da.cells 1 _ O) (Ga 3 O (by omega) (zmw O (M.store ts3 O O O O hY (by simp)) ?_)))))
   rintro ws11 ⟨_,hY,dE⟩
   replace hE:=hE.trans dE (fun q hq h=>by have h:q=o:=h;omega)
   replace db:=dE.blk db dh
   replace dc:=dE.blk dc (fun h=>di h.symm)
   replace da:=dE.blk da (fun h=>dg h.symm)
   replace de:=dE.blk de (fun h=>dk h.symm)
   replace df:=dE.blk df (fun h=>dl h.symm)
   refine Gs 4 O (zne O tg3 (hY.cells 2 _ O) (Gs 1 O (zne O tg3 (da.cells 2 _ O) (Ga 3 O (by omega) (zmw O (M.store ts3 O O O O hY (by simp)) ?_)))))
   rintro ws12 ⟨_,hY,dF⟩
   replace hE:=hE.trans dF (fun q hq h=>by have h:q=o:=h;omega)
   replace db:=dF.blk db dh
   replace dc:=dF.blk dc (fun h=>di h.symm)
   replace da:=dF.blk da (fun h=>dg h.symm)
   replace de:=dF.blk de (fun h=>dk h.symm)
   replace df:=dF.blk df (fun h=>dl h.symm)
   refine Ga 7 O (by omega) (G.back (i+1) (Sub.of O) (⟨by omega,by rw[dT,dU,dV,<- yh dm.1 y.1 z1 f1,<- yh dm.2.1 y.2.1 z2 f2,<- yh dm.2.2 y.2.2 z3 f3];exact hY,db,hE⟩) (by first | omega | (dsimp only;omega)))
  refine Gs 6 O (zlF O (fun a4=>?_) (fun a4=>?_))
  .
   have hr:=hS.rep a4
   have p1:=qC x.n (1+cap 1099511627776 (bds x.thn).1) 4096 1099511627777 hr.1 hr.2.1 (by omega) (by omega)
   have p2:=qC x.n (cap 1099511627776 (bds x.thn).2.1) 4096 1099511627776 hr.1 hr.2.1 (by omega) (by omega)
   have p3:=qC x.n (x.cost+cap 1099511627776 (bds x.thn).2.2) 4096 1099578736640 hr.1 hr.2.1 (by omega) (by omega)
   have q1:=zpP hr.1 (show 0<=1+(bds x.thn).1 by omega)
   have f1:cap 1099511627776 (1+x.n*(1+cap 1099511627776 (bds x.thn).1))=cap 1099511627776 (yw x).1:=by rw[yb,zpv a4];exact zgU p1.1 q1 (zby hr.1 (by omega) n1.1 (by omega))
   have f2:cap 1099511627776 (x.n*cap 1099511627776 (bds x.thn).2.1)=cap 1099511627776 (yw x).2.1:=by rw[yb,zpv a4];exact zfl hr.1 n1.2.1 (by omega)
   have f3:cap 1099511627776 (x.n*(x.cost+cap 1099511627776 (bds x.thn).2.2))=cap 1099511627776 (yw x).2.2:=by rw[yb,zpv a4];exact zby hr.1 dB.1 n1.2.2 (by omega)
   have z1:0<=1+x.n*(1+cap 1099511627776 (bds x.thn).1):=by omega
   have z2:=p2.1
   have z3:=p3.1
   refine Gs 3 O (zne O tg3 (da.cells 0 _ O) (Gs 1 O (zne O tg3 (dc.cells 3 _ O) (Gs 1 O (zne O tg3 (de.cells 0 _ O) (Ga 4 O (by omega) (zmw O (M.store ts3 O O O O da (by simp)) ?_)))))))
   rintro ws13 ⟨_,da,dG⟩
   replace hE:=hE.trans dG (fun q hq h=>by have h:q=p:=h;omega)
   replace db:=dG.blk db dr
   replace hY:=dG.blk hY dg
   replace dc:=dG.blk dc dt
   replace de:=dG.blk de (fun h=>du h.symm)
   replace df:=dG.blk df (fun h=>dw h.symm)
   refine Gs 5 O (zne O tg3 (dc.cells 3 _ O) (Gs 1 O (zne O tg3 (de.cells 1 _ O) (Ga 2 O (by omega) (zmw O (M.store ts3 O O O O da (by simp)) ?_)))))
   rintro ws14 ⟨_,da,dH⟩
   replace hE:=hE.trans dH (fun q hq h=>by have h:q=p:=h;omega)
   replace db:=dH.blk db dr
   replace hY:=dH.blk hY dg
   replace dc:=dH.blk dc dt
   replace de:=dH.blk de (fun h=>du h.symm)
   replace df:=dH.blk df (fun h=>dw h.symm)
   refine Gs 4 O (zne O tg3 (dc.cells 3 _ O) (Gs 1 O (zne O tg3 (dc.cells 1 _ O) (Gs 1 O (zne O tg3 (de.cells 2 _ O) (Ga 3 O (by omega) (zmw O (M.store ts3 O O O O da (by simp)) ?_)))))))
   rintro ws15 ⟨_,da,dI⟩
   replace hE:=hE.trans dI (fun q hq h=>by have h:q=p:=h;omega)
   replace db:=dI.blk db dr
   replace hY:=dI.blk hY dg
   replace dc:=dI.blk dc dt
   replace de:=dI.blk de (fun h=>du h.symm)
   replace df:=dI.blk df (fun h=>dw h.symm)
   refine Gs 6 O (zne O tg3 (hY.cells 0 _ O) (Gs 1 O (zne O tg3 (da.cells 0 _ O) (Ga 3 O (by omega) (zmw O (M.store ts3 O O O O hY (by simp)) ?_)))))
   rintro ws16 ⟨_,hY,dJ⟩
   replace hE:=hE.trans dJ (fun q hq h=>by have h:q=o:=h;omega)
   replace db:=dJ.blk db dh
   replace dc:=dJ.blk dc (fun h=>di h.symm)
   replace da:=dJ.blk da (fun h=>dg h.symm)
   replace de:=dJ.blk de (fun h=>dk h.symm)
   replace df:=dJ.blk df (fun h=>dl h.symm)
   refine Gs 5 O (zne O tg3 (hY.cells 1 _ O) (Gs 1 O (zne O tg3 (da.cells 1 _ O) (Ga 3 O (by omega) (zmw O (M.store ts3 O O O O hY (by simp)) ?_)))))
   rintro ws17 ⟨_,hY,dK⟩
   replace hE:=hE.trans dK (fun q hq h=>by have h:q=o:=h;omega)
   replace db:=dK.blk db dh
   replace dc:=dK.blk dc (fun h=>di h.symm)
   replace da:=dK.blk da (fun h=>dg h.symm)
   replace de:=dK.blk de (fun h=>dk h.symm)
   replace df:=dK.blk df (fun h=>dl h.symm)
   refine Gs 4 O (zne O tg3 (hY.cells 2 _ O) (Gs 1 O (zne O tg3 (da.cells 2 _ O) (Ga 3 O (by omega) (zmw O (M.store ts3 O O O O hY (by simp)) ?_)))))
   rintro ws18 ⟨_,hY,dL⟩
   replace hE:=hE.trans dL (fun q hq h=>by have h:q=o:=h;omega)
   replace db:=dL.blk db dh
   replace dc:=dL.blk dc (fun h=>di h.symm)
   replace da:=dL.blk da (fun h=>dg h.symm)
   replace de:=dL.blk de (fun h=>dk h.symm)
   replace df:=dL.blk df (fun h=>dl h.symm)
   refine Ga 7 O (by omega) (G.back (i+1) (Sub.of O) (⟨by omega,by rw[dT,dU,dV,<- yh dm.1 y.1 z1 f1,<- yh dm.2.1 y.2.1 z2 f2,<- yh dm.2.2 y.2.2 z3 f3];exact hY,db,hE⟩) (by first | omega | (dsimp only;omega)))
  obtain⟨g1,g2⟩:=hS.free a3 a4
  have eB:yw x=(1,0,x.cost):=by rw[yb,g1,g2,zpu a4];simp[bds,a1]
  have f1:cap 1099511627776 1=cap 1099511627776 (yw x).1:=by rw[eB]
  have f2:cap 1099511627776 0=cap 1099511627776 (yw x).2.1:=by rw[eB]
  have f3:cap 1099511627776 x.cost=cap 1099511627776 (yw x).2.2:=by rw[eB]
  have z1:(0:Int)<=1:=by decide
  have z2:(0:Int)<=0:=by decide
  have z3:=dB.1
  refine Gs 6 O (zne O tg3 (hY.cells 0 _ O) (Gs 1 O (zne O tg3 (da.cells 0 _ O) (Ga 3 O (by omega) (zmw O (M.store ts3 O O O O hY (by simp)) ?_)))))
  rintro ws19 ⟨_,hY,dM⟩
  replace hE:=hE.trans dM (fun q hq h=>by have h:q=o:=h;omega)
  replace db:=dM.blk db dh
  replace dc:=dM.blk dc (fun h=>di h.symm)
  replace da:=dM.blk da (fun h=>dg h.symm)
  replace de:=dM.blk de (fun h=>dk h.symm)
  replace df:=dM.blk df (fun h=>dl h.symm)
  refine Gs 5 O (zne O tg3 (hY.cells 1 _ O) (Gs 1 O (zne O tg3 (da.cells 1 _ O) (Ga 3 O (by omega) (zmw O (M.store ts3 O O O O hY (by simp)) ?_)))))
  rintro ws20 ⟨_,hY,dN⟩
  replace hE:=hE.trans dN (fun q hq h=>by have h:q=o:=h;omega)
  replace db:=dN.blk db dh
  replace dc:=dN.blk dc (fun h=>di h.symm)
  replace da:=dN.blk da (fun h=>dg h.symm)
  replace de:=dN.blk de (fun h=>dk h.symm)
  replace df:=dN.blk df (fun h=>dl h.symm)
  refine Gs 4 O (zne O tg3 (hY.cells 2 _ O) (Gs 1 O (zne O tg3 (da.cells 2 _ O) (Ga 3 O (by omega) (zmw O (M.store ts3 O O O O hY (by simp)) ?_)))))
  rintro ws21 ⟨_,hY,dO⟩
  replace hE:=hE.trans dO (fun q hq h=>by have h:q=o:=h;omega)
  replace db:=dO.blk db dh
  replace dc:=dO.blk dc (fun h=>di h.symm)
  replace da:=dO.blk da (fun h=>dg h.symm)
  replace de:=dO.blk de (fun h=>dk h.symm)
  replace df:=dO.blk df (fun h=>dl h.symm)
  refine Ga 7 O (by omega) (G.back (i+1) (Sub.of O) (⟨by omega,by rw[dT,dU,dV,<- yh dm.1 y.1 z1 f1,<- yh dm.2.1 y.2.1 z2 f2,<- yh dm.2.2 y.2.2 z3 f3];exact hY,db,hE⟩) (by first | omega | (dsimp only;omega)))
 have fu:i=l.length:=by omega
 subst fu
 rw[zpp]at hY
 refine Gs 7 O (zng O Tryz.isAgg193 ts193 hY.cells O (zmw O (zmx ts193 O O O O (by simp[Value.oneCell']) db (by simp)) ?_))
 rintro wf ⟨_,fv,fw⟩
 refine Gs 3 O (zm3 Tryz.results124 O (zn Tryz.isAgg193 ts193 O fv.cells) ?_)
 exact⟨_,rfl,rfl,hE.trans fw (fun q hq h=>by have h:q=r:=h;omega)⟩
def xN (f:Fl):Bool:=decide (f.vars.length<=64)&&decide (f.hatches.length<=8)&&f.hatches.all (fun h=>decide (h.term.depth<=12))&&(decide (sdepth f.body<=12)&&!stdeep f.body)
theorem zeM (f:Fl) (v1 v2 v3:Value) (D:Nat->Prop) (w:World) (hf:RFl D w f v1 v2 v3) (dN:snodes f.body+zA f.hatches<=1024):Calls Tryz.prog 59 #[.agg #[v1,v2,v3]] w (Ret fun r w'=>r=.bool (xN f)/\Ext w w'):=by
 obtain⟨dc,da,db⟩:=hf
 have dO:=dc.max
 have dQ:=da.max
 obtain⟨a1,n1,rfl⟩:=dc.form
 obtain⟨a2,n2,rfl⟩:=da.form
 have hE:=Keep.refl (fun _=>False) w
 refine znk Tryz.func59 O Tryz.ntmps59 O (Gs 2 O (zmr O O (M.box O O) ?_))
 rintro _ dR ⟨b,rfl,dr,dA,hY,dt⟩
 have dw:_<=b:=zpq hE.size (zrS dr.symm)
 obtain⟨hE,dc,da,db⟩:=Tr4 dt hE dc da db
 refine Gs 7 O (zne O tg22 (hY.cells 0 _ O) (Gs 3 O (G.sp 9 O (fun g1=>?_) (fun g1=>?_))))
 . refine Gs 15 O (zlV tr59 O ⟨_,rfl,by unfold xN;rw[zpx (show ¬ f.vars.length<=64 by omega)];rfl,hE⟩)
 refine Gs 1 O (zne O tg23 (hY.cells 1 _ O) (Gs 5 O (zlF O (fun g2=>?_) (fun g2=>?_))))
 . refine Gs 7 O (zlV tr59 O ⟨_,rfl,by unfold xN;rw[zpx (show ¬ f.hatches.length<=8 by omega),zpX];rfl,hE⟩)
 have dh:xN f=(f.hatches.all (fun h=>decide (h.term.depth<=12))&&(decide (sdepth f.body<=12)&&!stdeep f.body)):=by
  unfold xN;rw[zpw (show f.vars.length<=64 by omega),zpw (show f.hatches.length<=8 by omega)];rfl
 refine Gs 5 O (zne O tg24 (hY.cells 2 _ O) (G.call O Tryz.call104 (zez f.body _ D _ db (by omega)) ?_))
 rintro _ wz1 ⟨rfl,dB⟩
 obtain⟨hE,dc,da,db,hY⟩:=Tr5 dB hE dc da db hY
 refine Gs 10 O (G.loop (σ:=Nat) (fun i=>[(1,.pointer (some ⟨b,0,none⟩)),(3,.int .i64 ((snodes f.body:Int)+zA (f.hatches.take i))),(4,.int .i64 i)]) (fun i=>fun w'=>i<=f.hatches.length/\(f.hatches.take i).all (fun h=>decide (h.term.depth<=12))=true/\Ext wz1 w') (fun i=>f.hatches.length - i) (0) (Sub.of O) (⟨zpz _,rfl,Keep.refl _ _⟩) ?_)
 rintro i w1 ⟨hi,dk,dg⟩
 obtain⟨hE,dc,da,db,hY⟩:=Tr5 dg hE dc da db hY
 refine Gs 5 O (zne O tg23 (hY.cells 1 _ O) (Gs 4 O (zlF O (fun dC=>?_) (fun dC=>?_))))
 .
  obtain⟨x,di,du⟩:=gE_ f.hatches (i) (by omega)
  obtain⟨dD,dS,dT,dl,_,de,dm⟩:=da.at di
  have dE:=RHt.one dm
  obtain⟨dF,rfl,df⟩:=dm
  obtain⟨dG,dH,rfl⟩:=df.form
  have dx:dD<_:=zpm _ _ (de 0 _ rfl)
  have dU:=xG di
  have dI:=jV di
  have dV:x.term.depth<=x.term.nodes:=by have:=zav [x.term];simp[tdepth,tnodes]at this;exact this
  refine Gs 8 O (zne O tg23 (hY.cells 1 _ O) (Gs 1 O (zna O O (zmh tR23 ts109 O O dl (by omega)) (Gs 1 O (zng O tg70 ts70 (de.sub 3 3) O (G.call O Tryz.call105 (ji x.term _ D _ (RTm.put df) (by omega)) ?_))))))
  rintro _ wz2 ⟨rfl,dy⟩
  obtain⟨hE,dc,da,db,hY,dg,de⟩:=Tr7 dy hE dc da db hY dg de
  replace df:=Tr1 dy df
  refine Ga 7 O (by omega) (zne O tg23 (hY.cells 1 _ O) (Gs 1 O (zna O O (zmh tR23 ts109 O O dl (by omega)) (Gs 1 O (zng O tg70 ts70 (de.sub 3 3) O (G.call O Tryz.call106 (jj x.term _ D _ (RTm.put df) (by omega)) ?_))))))
  rintro _ wz3 ⟨rfl,dz⟩
  obtain⟨hE,dc,da,db,hY,dg,de⟩:=Tr7 dz hE dc da db hY dg de
  replace df:=Tr1 dz df
  refine Gs 3 O (zlF O (fun dd=>?_) (fun dd=>?_))
  .
   have dJ:f.hatches.all (fun h=>decide (h.term.depth<=12))=false:=by
    rw[zpZ];intro h;have:=zqv.1 h x du;simp at this;omega
   refine Gs 11 O (zlV tr59 O ⟨_,rfl,by rw[dh,dJ,zq1],hE⟩)
  refine Ga 8 O (by omega) (G.back (i+1) (Sub.cons O (Sub.cons (yC O (by rw[dI];omega)) (Sub.of O))) (⟨by omega,by rw[ze di,List.all_append,dk];simp;omega,dg⟩) (by first | omega | (dsimp only;omega)))
 have dK:i=f.hatches.length:=by omega
 subst dK
 rw[zpp]at dk
 rw[dk,zqc]at dh
 have dW:=jh f.body
 refine Gs 10 O (G.sp 44 O (fun gn=>?_) (fun gn=>?_))
 .
  refine Gs 1 O (zne O tg24 (hY.cells 2 _ O) (G.call O Tryz.call107 (zbi f.body _ D _ db (by omega)) ?_))
  rintro _ wz4 ⟨rfl,dL⟩
  obtain⟨hE,dc,da,db,hY,dg⟩:=Tr6 dL hE dc da db hY dg
  refine Gs 3 O (G.sp 50 O (fun gd=>?_) (fun gd=>?_))
  .
   refine Gs 1 O (zne O tg24 (hY.cells 2 _ O) (G.call O Tryz.call108 (zbj f.body _ D _ db (by omega)) ?_))
   rintro _ wz5 ⟨rfl,dM⟩
   obtain⟨hE,dc,da,db,hY,dg⟩:=Tr6 dM hE dc da db hY dg
   refine zna O O (zmT O (by first | exact za | rfl)) (Gs 5 O (zlV tr59 O ⟨_,rfl,by rw[dh,zpw (show sdepth f.body<=12 by omega)];rfl,hE⟩))
  refine Gs 9 O (zlV tr59 O ⟨_,rfl,by rw[dh,zpx (show ¬ sdepth f.body<=12 by omega)];rfl,hE⟩)
 exact absurd (by rw[zpp];omega) gn
def zcU (f:Fl):Bool:=decide (4096<(bds f.body).1) || decide (8<(bds f.body).2.1) || decide (67108864<(bds f.body).2.2)
def yj (f:Fl):Int :=
 if xN f=false then 4
 else if zv f.vars ≠ 0 then zv f.vars
 else if zy f.vars f.hatches ≠ 0 then zy f.vars f.hatches
 else if stepsCodeN f.vars f.hatches.length f.body true ≠ 0 then stepsCodeN f.vars f.hatches.length f.body true
 else if zcU f then 4 else 0
theorem zbA {vs:List Vr} (h:zv vs=0):∀ v ∈ vs,yr (v.low,v.high):=by
 have h1:∀ j,j<vs.length->kN vs j=0:=by
  unfold zv at h
  split at h
  . rename_i h2;exact absurd h h2
  rename_i h2
  intro j hj
  exact xJ vs.length 0 (by simpa using h2) j (zpz _) (by omega)
 exact fun v hv=>(qs h1 v hv).1
theorem zbB (f:Fl) (v1 v2 v3:Value) (D:Nat->Prop) (w:World) (hf:RFl D w f v1 v2 v3) (dY:snodes f.body+zA f.hatches<=1024) (dM:sbulk f.body<=1000000):Calls Tryz.prog 29 #[.agg #[v1,v2,v3]] w (Ret fun r w'=>r=.int .i64 (yj f)/\Ext w w'):=by
 obtain⟨db,dc,dg⟩:=hf
 have ew:=db.max
 have ey:=dc.max
 obtain⟨a1,n1,rfl⟩:=db.form
 obtain⟨a2,n2,rfl⟩:=dc.form
 have hE:=Keep.refl (fun _=>False) w
 refine znk Tryz.func29 O Tryz.ntmps29 O (Gs 2 O (zmr O O (M.box O O) ?_))
 rintro _ ez ⟨b,rfl,dD,dZ,hY,dE⟩
 have dN:_<=b:=zpq hE.size (zrS dD.symm)
 obtain⟨hE,db,dc,dg⟩:=Tr4 dE hE db dc dg
 refine Gs 6 O (zng O tg26 ts26 hY.cells O (G.call O Tryz.call59 (zeM f _ _ _ D _ ⟨db,dc,dg⟩ dY) ?_))
 rintro _ wz1 ⟨rfl,d5⟩
 obtain⟨hE,db,dc,dg,hY⟩:=Tr5 d5 hE db dc dg hY
 refine zna O O (zmT O (by first | exact za | rfl)) (Gs 2 O (G.bool O (fun s0=>?_) (fun s0=>?_)))
 .
  have s0':xN f=false:=by simpa using s0
  refine Gs 7 O (zlV tr29 O ⟨_,rfl,by rw[yj,zpv s0'],hE⟩)
 have s0':¬ xN f=false:=by simpa using s0
 refine Gs 5 O (zne O tg22 (hY.cells 0 _ O) (G.call O Tryz.call60 (zbw f.vars _ D _ db) ?_))
 rintro _ wz2 ⟨rfl,d6⟩
 obtain⟨hE,db,dc,dg,hY⟩:=Tr5 d6 hE db dc dg hY
 refine Gs 10 O (zlF O (fun vz=>?_) (fun vz=>?_))
 . refine Gs 8 O (zlV tr29 O ⟨_,rfl,by rw[yj,zpu s0',zpv vz],hE⟩)
 have hg:=zbA (show zv f.vars=0 by omega)
 refine Gs 9 O ?_
 have dr:yj f=if zy f.vars f.hatches ≠ 0 then zy f.vars f.hatches else if stepsCodeN f.vars f.hatches.length f.body true ≠ 0 then stepsCodeN f.vars f.hatches.length f.body true else if zcU f then 4 else 0:=by rw[yj,zpu s0',zpu vz]
 refine G.loop (σ:=Nat) (fun i=>[(1,.pointer (some ⟨b,0,none⟩)),(4,.int .i64 i)]) (fun i=>fun w'=>i<=f.hatches.length/\(∀ j,j<i->qQ f.vars f.hatches j=0)/\Ext wz2 w') (fun i=>f.hatches.length - i) (0) (Sub.of O) (⟨zpz _,fun j h=>absurd h (zrZ _),Keep.refl _ _⟩) ?_
 rintro i w1 ⟨hi,dt,dh⟩
 obtain⟨hE,db,dc,dg,hY⟩:=Tr5 dh hE db dc dg hY
 refine Gs 5 O (zne O tg23 (hY.cells 1 _ O) (Gs 4 O (zlF O (fun d7=>?_) (fun d7=>?_))))
 .
  obtain⟨x,du,d8⟩:=gE_ f.hatches (i) (by omega)
  obtain⟨d9,eA,eC,dF,_,de,dz⟩:=dc.at du
  have dG:=RHt.one dz
  obtain⟨ea,rfl,df⟩:=dz
  obtain⟨eb,ec,rfl⟩:=df.form
  have dO:d9<_:=zpm _ _ (de 0 _ rfl)
  have dH:=zag (vs:=f.vars) du
  have di:∀ c:Int,zJ f.vars (f.hatches.take i) x=c->c ≠ 0->yj f=c:=by
   intro c h1 h2
   have h3:qQ f.vars f.hatches i ≠ 0:=by rw[dH,h1];exact h2
   have h4:zy f.vars f.hatches=c:=by rw[zy,qP dt (by omega) h3,dH,h1]
   rw[dr,h4,zpv h2]
  have dA:zJ f.vars (f.hatches.take i) x=0->∀ j,j<i+1->qQ f.vars f.hatches j=0:=by
   intro h j hj
   by_cases e:j=i
   . subst e;rw[dH,h]
   exact dt j (by omega)
  have eD:=xG du
  refine Gs 7 O (zne O tg23 (hY.cells 1 _ O) (Gs 1 O (zna O O (zmh tR23 ts109 O O dF (by omega)) (zng O tg109 ts109 de O (zmr O O (M.alloc (cs:=_) tz109 O) ?_)))))
  rintro _ wa3 ⟨c,rfl,dI,ed,da,dk⟩
  refine zmw O (zmx ts109 O O O O dG da (by simp)) ?_
  rintro eE ⟨_,da,dB⟩
  replace dk:=dk.trans dB (fun q hq h=>by have h:q=c:=h;omega)
  have dJ:b ≠ c:=by have:=hY.lt;omega
  have dQ:_<=c:=zpq hE.size (zrS dI.symm)
  obtain⟨hE,db,dc,dg,hY,dh,de⟩:=Tr7 dk hE db dc dg hY dh de
  replace df:=Tr1 dk df
  refine Gs 6 O (zne O tg9 (da.cells 0 _ O) (G.call O Tryz.call61 (zaw x.name _) ?_))
  rintro _ wz4 ⟨rfl,dR⟩
  obtain⟨hE,db,dc,dg,hY,dh,de⟩:=Tr7 dR hE db dc dg hY dh de
  obtain⟨df,da⟩:=Tr2 dR df da
  refine zna O O (zmT O (by first | exact za | rfl)) (Gs 2 O (G.bool O (fun n0=>?_) (fun n0=>?_)))
  .
   have n0':zbr x.name=false:=by simpa using n0
   refine Gs 12 O (zlV tr29 O ⟨_,rfl,by rw[di 7 (by rw[zJ,zpv n0']) (by decide)],hE⟩)
  have n0':¬ zbr x.name=false:=by simpa using n0
  refine Gs 9 O (G.loop (σ:=Nat) (fun j=>[(1,.pointer (some ⟨b,0,none⟩)),(4,.int .i64 i),(5,.pointer (some ⟨c,0,none⟩)),(6,.int .i64 j)]) (fun j=>fun w'=>j<=i/\(f.hatches.take j).any (fun u=>zQ u.name x.name)=false/\Ext wz4 w') (fun j=>i - j) (0) (Sub.of O) (⟨zpz _,rfl,Keep.refl _ _⟩) ?_)
  rintro j w2 ⟨hj,dS,dl⟩
  obtain⟨hE,db,dc,dg,hY,dh,de⟩:=Tr7 dl hE db dc dg hY dh de
  obtain⟨df,da⟩:=Tr2 dl df da
  refine Gs 8 O (zlF O (fun ee=>?_) (fun ee=>?_))
  .
   obtain⟨y,dw,ef⟩:=gE_ f.hatches (j) (by omega)
   obtain⟨eg,eF,eG,dK,_,dm,dC⟩:=dc.at dw
   have eh:=RHt.one dC
   obtain⟨ei,rfl,dx⟩:=dC
   obtain⟨ej,ek,rfl⟩:=dx.form
   have dT:eg<_:=zpm _ _ (dm 0 _ rfl)
   refine Gs 5 O (Qt (by kernel_rfl) (Gs 1 O (znf O tg23 (fun w1 dy=>((dy.blk hY (fun h=>h)).cells 1 _ O)) (Gs 1 O (znd O O (fun w1 dy=>zmh tR23 ts109 O O dK (by omega)) (Gs 1 O (znf O tg9 (fun w1 dy=>((dy.cells dm (fun h=>h)) 0 _ O)) (Gs 1 O (znf O tg9 (fun w1 dy=>((dy.blk da (fun h=>h)).cells 0 _ O)) (Gs 1 O (znh (fun wz5 dU=>?_))))))))))))
   obtain⟨hE,db,dc,dg,hY,dh,de⟩:=Tr7 dU hE db dc dg hY dh de
   obtain⟨df,da,dl,dm,dx⟩:=Tr5 dU df da dl dm dx
   refine Gs 1 O (zlF O (fun hd=>?_) (fun hd=>?_))
   .
    have dL:(f.hatches.take i).any (fun u=>zQ u.name x.name)=true:=by
     rw[zqx]
     refine⟨y,zpl (i:=j) (by rw[zpQ,zpv (by omega)];exact dw),?_⟩
     unfold zQ;exact zpw hd
    refine Gs 16 O (zlV tr29 O ⟨_,rfl,by rw[di 8 (by rw[zJ,zpu n0',zpv dL]) (by decide)],hE⟩)
   refine Ga 8 O (by omega) (G.back (j+1) (Sub.of O) (⟨by omega,by rw[ze dw,zqw,dS];simp[zQ,hd],dl⟩) (by first | omega | (dsimp only;omega)))
  have em:j=i:=by omega
  subst em
  have n1:¬ (f.hatches.take j).any (fun u=>zQ u.name x.name)=true:=by rw[dS];decide
  refine Gs 9 O (zne O tg3 (da.cells 1 _ O) (Gs 1 O (zne O tg3 (da.cells 2 _ O) (G.call O Tryz.call62 (kJ x.low x.high _) ?_))))
  rintro _ wz6 ⟨rfl,dV⟩
  obtain⟨hE,db,dc,dg,hY,dh,de⟩:=Tr7 dV hE db dc dg hY dh de
  obtain⟨df,da,dl⟩:=Tr3 dV df da dl
  refine zna O O (zmT O (by first | exact za | rfl)) (Gs 2 O (G.bool O (fun n3=>?_) (fun n3=>?_)))
  .
   have n3':zaO x.low x.high=false:=by simpa using n3
   refine Gs 12 O (zlV tr29 O ⟨_,rfl,by rw[di 3 (by rw[zJ,zpu n0',zpu n1,zpv n3']) (by decide)],hE⟩)
  have n3':¬ zaO x.low x.high=false:=by simpa using n3
  have dW:zJ f.vars (f.hatches.take j) x=zD f.vars true x.term:=by rw[zJ,zpu n0',zpu n1,zpu n3']
  refine Gs 5 O (zne O tg22 (hY.cells 0 _ O) (Gs 1 O (zng O tg70 ts70 (da.cells.sub 3 3) O (G.call O Tryz.call63 (qb f.vars true _ _ D D _ x.term hg db (RTm.put df) (by omega)) ?_))))
  rintro _ wz7 ⟨rfl,dX⟩
  obtain⟨hE,db,dc,dg,hY,dh,de⟩:=Tr7 dX hE db dc dg hY dh de
  obtain⟨df,da,dl⟩:=Tr3 dX df da dl
  refine Gs 9 O (zlF O (fun tz=>?_) (fun tz=>?_))
  . refine Gs 12 O (zlV tr29 O ⟨_,rfl,by rw[di _ dW tz],hE⟩)
  refine Ga 8 O (by omega) (G.back (j+1) (Sub.of O) (⟨by omega,dA (by rw[dW];omega),dh⟩) (by first | omega | (dsimp only;omega)))
 have en:i=f.hatches.length:=by omega
 subst en
 have eo:zy f.vars f.hatches=0:=xS dt
 rw[eo,zpu (by decide)]at dr
 refine Gs 7 O (zng O tg26 ts26 hY.cells O (Gs 1 O (zne O tg24 (hY.cells 2 _ O) (G.call O tc64 (zcS f _ _ _ hg D f.body _ D _ true ⟨db,dc,dg⟩ dg dM) ?_))))
 rintro _ wz8 ⟨rfl,ep⟩
 obtain⟨hE,db,dc,dg,hY,dh⟩:=Tr6 ep hE db dc dg hY dh
 refine Gs 10 O (zlF O (fun sz=>?_) (fun sz=>?_))
 . refine Gs 8 O (zlV tr29 O ⟨_,rfl,by rw[dr,zpv sz],hE⟩)
 have er:stepsCodeN f.vars f.hatches.length f.body true=0:=by omega
 rw[zpu sz]at dr
 refine Gs 5 O (zne O tg24 (hY.cells 2 _ O) (G.call O Tryz.call65 (zaC f.vars f.hatches.length f.body _ D _ true er dg dM) ?_))
 rintro _ wz9 ⟨rfl,eu⟩
 obtain⟨hE,db,dc,dg,hY,dh⟩:=Tr6 eu hE db dc dg hY dh
 have c1:(4096<cap 4097 (bds f.body).1) ↔ 4096<(bds f.body).1:=by unfold cap;omega
 have c2:(8<cap 9 (bds f.body).2.1) ↔ 8<(bds f.body).2.1:=by unfold cap;omega
 have c3:(67108864<cap 67108865 (bds f.body).2.2) ↔ 67108864<(bds f.body).2.2:=by unfold cap;omega
 have ho:zcU f=(decide (4096<cap 4097 (bds f.body).1) || decide (8<cap 9 (bds f.body).2.1) || decide (67108864<cap 67108865 (bds f.body).2.2)):=by
  unfold zcU;rw[zpM.2 c1,zpM.2 c2,zpM.2 c3]
 refine Gs 15 O (G.sp 79 O (fun b1=>?_) (fun b1=>?_))
 . refine Gs 17 O (zlV tr29 O ⟨_,rfl,by rw[dr,zpv (by rw[ho,zpw b1];rfl)],hE⟩)
 refine Gs 4 O (G.sp 83 O (fun b2=>?_) (fun b2=>?_))
 . refine Gs 13 O (zlV tr29 O ⟨_,rfl,by rw[dr,zpv (by rw[ho,zpw b2,zqa];rfl)],hE⟩)
 refine Gs 5 O (zlF O (fun b3=>?_) (fun b3=>?_))
 . refine Gs 7 O (zlV tr29 O ⟨_,rfl,by rw[dr,zpv (by rw[ho,zpw b3,zqa])],hE⟩)
 refine Gs 8 O (zlV tr29 O ⟨_,rfl,by rw[dr,zpu (by rw[ho,zpx b1,zpx b2,zpx b3];decide)],hE⟩)
theorem zdM (f:Fl) (v1 v2 v3:Value) (D:Nat->Prop) (w:World) (hf:RFl D w f v1 v2 v3) (eh:snodes f.body+zA f.hatches<=1024) (dO:sbulk f.body<=1000000):Calls Tryz.prog 72 #[.agg #[v1,v2,v3]] w (Ret fun r w'=>r=.int .i64 (yj f)/\Ext w w'):=by
 replace hf:=hf.narrow
 generalize dT:(fun b=>D b/\b<w.heap.size)=E at hf
 have dU:∀ q,E q->q<w.heap.size:=fun q h=>by rw[<- dT]at h;exact h.2
 obtain⟨de,dc,df⟩:=hf
 have ei:=de.max
 have ej:=dc.max
 obtain⟨a1,n1,rfl⟩:=de.form
 obtain⟨a2,n2,rfl⟩:=dc.form
 have hE:=Keep.refl (fun _=>False) w
 refine znk Tryz.func72 O Tryz.ntmps72 O (Gs 2 O (zmr O O (M.box O O) ?_))
 rintro _ ek ⟨b,rfl,dF,dV,hY,dG⟩
 have dQ:_<=b:=zpq hE.size (zrS dF.symm)
 replace hE:=Tr1 dG hE
 refine Gs 5 O (zmr O O (M.alloc (cs:=_) Tryz.zeroValue189 O) ?_)
 rintro _ em ⟨m,rfl,dH,dW,da,dI⟩
 have dk:b ≠ m:=by have:=hY.lt;omega
 have dR:_<=m:=zpq hE.size (zrS dH.symm)
 obtain⟨hE,hY⟩:=Tr2 dI hE hY
 refine Gs 5 O (zne O tg24 (hY.cells 2 _ O) ?_)
 have dJ:=de
 have dz:=dc
 have dK:=df
 have DM:∀ q,E q->q ≠ m:=fun q h=>by have:=dU q h;omega
 refine G.call O Tryz.call118 (zdL f.body _ E _ m 0 false 1 (df.ext zd hE) DM da (by omega) (by omega) (by omega) (by omega)) ?_
 rintro _ w2 ⟨rfl,⟨m2,h1,h2,da⟩,hz⟩
 replace hE:=hE.trans hz (fun q hq h=>by have h:q=m:=h;omega)
 replace hY:=hz.blk hY (dk)
 refine Gs 6 O (zne O tg23 (hY.cells 1 _ O) (Gs 5 O (G.loop (σ:=Nat) (fun i=>[(1,.pointer (some ⟨b,0,none⟩)),(3,.pointer (some ⟨m,0,none⟩)),(14,.slice a2 f.hatches.length n2),(15,.int .i64 f.hatches.length),(16,.int .i64 i)]) (fun i=>fun w'=>i<=f.hatches.length/\(∃ m':Int,0<=m'/\m'<=snodes f.body+zA (f.hatches.take i)/\Blk w' m [.int .i64 m',.bool (qk 1 f.body || (f.hatches.take i).any (fun h=>decide (12<h.term.depth)))] 189)/\Blk w' b [.slice a1 f.vars.length n1,.slice a2 f.hatches.length n2,v3] 26/\Ext w w') (fun i=>f.hatches.length - i) (0) (Sub.of O) (⟨zpz _,⟨m2,by omega,by simp[zA];omega,by simpa using da⟩,hY,hE⟩) ?_)))
 rintro i w3 ⟨hi,⟨m',en,hm'1,da⟩,hY,hE⟩
 have dc:=dz.ext xE hE
 refine Gs 6 O (zlF O (fun dX=>?_) (fun dX=>?_))
 .
  obtain⟨x,dl,dY⟩:=gE_ f.hatches (i) (by omega)
  obtain⟨dZ,eo,ep,dL,_,dh,dA⟩:=dc.at dl
  have dM:=RHt.one dA
  obtain⟨d5,rfl,di⟩:=dA
  obtain⟨d6,d7,rfl⟩:=di.form
  have dS:dZ<_:=zpm _ _ (dh 0 _ rfl)
  have er:=xG dl
  have eu:=jV dl
  refine Gs 6 O (zna O O (zmh tR23 ts109 O O dL (by omega)) (zng O tg109 ts109 dh O (zmr O O (M.alloc (cs:=_) tz109 O) ?_)))
  rintro _ wa1 ⟨c,rfl,dx,dN,db,dg⟩
  refine zmw O (zmx ts109 O O O O dM db (by simp)) ?_
  rintro d8 ⟨_,db,dm⟩
  replace dg:=dg.trans dm (fun q hq h=>by have h:q=c:=h;omega)
  have dy:b ≠ c:=by have:=hY.lt;omega
  have dr:m ≠ c:=by have:=da.lt;omega
  have dB:_<=c:=zpq hE.size (zrS dx.symm)
  obtain⟨hE,hY,da,dc,dh,di⟩:=Tr6 dg hE hY da dc dh di
  refine Gs 4 O (G.call O Tryz.call119 (qR m _ _ _ da) ?_)
  rintro _ wz2 ⟨rfl,dC⟩
  obtain⟨hE,hY,da,dc,dh,di,db⟩:=Tr7 dC hE hY da dc dh di db
  have ho:decide (1024<m')=false:=zpx (by omega)
  rw[ho,zq9]
  refine zna O O (zmT O (by first | exact za | rfl)) (Gs 2 O (G.bool O (fun dD=>?_) (fun dD=>?_)))
  .
   have dt:(qk 1 f.body || (f.hatches.take i).any (fun h=>decide (12<h.term.depth)))=false:=by simpa using dD
   rw[dt]at da
   refine Gs 2 O (zng O tg70 ts70 (db.cells.sub 3 3) O (G.call O Tryz.call120 (zbz x.term _ E _ m _ _ 1 (RTm.put di) DM da (by omega) (by omega) (by omega) (by omega)) ?_))
   rintro _ w6 ⟨rfl,⟨n2',ew,ey,d9⟩,hz⟩
   replace hE:=hE.trans hz (fun q hq h=>by have h:q=m:=h;omega)
   replace hY:=hz.blk hY (dk)
   replace db:=hz.blk db (fun h=>dr h.symm)
   refine Ga 7 O (by omega) (G.back (i+1) (Sub.of O) (⟨by omega,⟨n2',by omega,by omega,?_⟩,hY,hE⟩) (by first | omega | (dsimp only;omega)))
   have hb:(false || decide (12<1+(x.term.depth:Int) - 1))=(qk 1 f.body || (f.hatches.take (i+1)).any (fun h=>decide (12<h.term.depth))):=by
    rw[ze dl,zqw,<- Bool.or_assoc,dt,zq3,zq3]
    simp;omega
   rw[<- hb];exact d9
  have dt:(qk 1 f.body || (f.hatches.take i).any (fun h=>decide (12<h.term.depth)))=true:=by rw[<- Bool.not_eq_false];intro h;rw[h]at dD;cases dD
  refine Ga 7 O (by omega) (G.back (i+1) (Sub.of O) (⟨by omega,⟨m',by omega,by omega,?_⟩,hY,hE⟩) (by first | omega | (dsimp only;omega)))
  rw[dt]at da
  rw[ze dl,zqw,<- Bool.or_assoc,dt,zqd]
  exact da
 have ea:i=f.hatches.length:=by omega
 subst ea
 rw[zpp]at da hm'1
 have du:xN f=(decide (f.vars.length<=64)&&decide (f.hatches.length<=8)&&!(qk 1 f.body || f.hatches.any (fun h=>decide (12<h.term.depth)))):=by
  unfold xN qk
  have e1:(f.hatches.all fun h=>decide (h.term.depth<=12))=!(f.hatches.any fun h=>decide (12<h.term.depth)):=by
   rw[List.not_any_eq_all_not];congr 1;funext h;rw[<- decide_not,zpM];omega
  have e2:decide (12<1+(sdepth f.body:Int) - 1)=!decide (sdepth f.body<=12):=by rw[<- decide_not,zpM];omega
  rw[e1,e2]
  generalize decide (f.vars.length<=64)=p1
  generalize decide (f.hatches.length<=8)=p2
  generalize (f.hatches.any fun h=>decide (12<h.term.depth))=p3
  generalize decide (sdepth f.body<=12)=p4
  generalize stdeep f.body=p5
  revert p1 p2 p3 p4 p5;decide
 refine Gs 9 O (zne O tg22 (hY.cells 0 _ O) (Gs 3 O (G.sp 30 O (fun g1=>?_) (fun g1=>?_))))
 .
  have s0:xN f=false:=by rw[du,zpx (show ¬ f.vars.length<=64 by omega)];rfl
  refine Gs 18 O (zlV tr72 O ⟨_,rfl,by rw[yj,zpv s0],hE⟩)
 refine Gs 1 O (zne O tg23 (hY.cells 1 _ O) (Gs 4 O (G.sp 36 O (fun g2=>?_) (fun g2=>?_))))
 .
  have s0:xN f=false:=by rw[du,zpx (show ¬ f.hatches.length<=8 by omega),zpX];rfl
  refine Gs 12 O (zlV tr72 O ⟨_,rfl,by rw[yj,zpv s0],hE⟩)
 have de:=dJ.ext xD hE
 have df:=dK.ext zd hE
 refine G.call O Tryz.call119 (qR m _ _ _ da) ?_
 rintro _ wz3 ⟨rfl,eb⟩
 obtain⟨hE,hY,da,dc,de,df⟩:=Tr6 eb hE hY da dc de df
 have ho:decide (1024<m')=false:=zpx (by omega)
 rw[ho,zq9]
 rw[zpw (show f.vars.length<=64 by omega),zpw (show f.hatches.length<=8 by omega),zqc,zqc]at du
 refine Gs 3 O (G.bool O (fun s1=>?_) (fun s1=>?_))
 .
  have s0:xN f=false:=by rw[du,s1];rfl
  refine Gs 7 O (zlV tr72 O ⟨_,rfl,by rw[yj,zpv s0],hE⟩)
 have s0:¬ xN f=false:=by rw[du,s1];decide
 refine Gs 6 O (zne O tg22 (hY.cells 0 _ O) (G.call O Tryz.call121 (zeI f.vars _ E _ de (by omega)) ?_))
 rintro _ wz4 ⟨rfl,ec⟩
 obtain⟨hE,hY,da,dc,de,df⟩:=Tr6 ec hE hY da dc de df
 refine Gs 9 O (zlF O (fun vz=>?_) (fun vz=>?_))
 . refine Gs 8 O (zlV tr72 O ⟨_,rfl,by rw[yj,zpu s0,zpv vz],hE⟩)
 have hg:=zbA (show zv f.vars=0 by omega)
 refine Gs 5 O (zng O tg26 ts26 hY.cells O ?_)
 have dw:yj f=if zy f.vars f.hatches ≠ 0 then zy f.vars f.hatches else if stepsCodeN f.vars f.hatches.length f.body true ≠ 0 then stepsCodeN f.vars f.hatches.length f.body true else if zcU f then 4 else 0:=by rw[yj,zpu s0,zpu vz]
 have dc:=dz.ext xE hE
 refine G.call O Tryz.call122 (zc5 f _ _ _ E _ ⟨de,dc,df⟩ hg (fun h hh=>by obtain⟨i,hi⟩:=zre.1 hh;have:=xG hi;omega) (by omega)) ?_
 rintro _ wz5 ⟨rfl,ed⟩
 obtain⟨hE,hY,da,de,df,dc⟩:=Tr6 ed hE hY da de df dc
 refine Gs 9 O (zlF O (fun dC=>?_) (fun dC=>?_))
 . refine Gs 8 O (zlV tr72 O ⟨_,rfl,by rw[dw,zpv dC],hE⟩)
 rw[zpu dC]at dw
 refine Gs 5 O (zng O tg26 ts26 hY.cells O (Gs 1 O (zne O tg24 (hY.cells 2 _ O) (G.call O Tryz.call123 (zdK f _ _ _ hg E f.body _ E _ true ⟨de,dc,df⟩ df dO) ?_))))
 rintro _ wz6 ⟨rfl,ee⟩
 obtain⟨hE,hY,da,de,df,dc⟩:=Tr6 ee hE hY da de df dc
 refine Gs 9 O (zlF O (fun sz=>?_) (fun sz=>?_))
 . refine Gs 8 O (zlV tr72 O ⟨_,rfl,by rw[dw,zpv sz],hE⟩)
 have ef:stepsCodeN f.vars f.hatches.length f.body true=0:=by omega
 rw[zpu sz]at dw
 refine Gs 6 O (zne O tg24 (hY.cells 2 _ O) (G.call O Tryz.call124 (zix f.vars f.hatches.length f.body _ E _ true ef df dO) ?_))
 rintro _ wz7 ⟨rfl,eg⟩
 obtain⟨hE,hY,da,de,df,dc⟩:=Tr6 eg hE hY da de df dc
 have c1:(4096<cap 1099511627776 (bds f.body).1) ↔ 4096<(bds f.body).1:=by unfold cap;omega
 have c2:(8<cap 1099511627776 (bds f.body).2.1) ↔ 8<(bds f.body).2.1:=by unfold cap;omega
 have c3:(67108864<cap 1099511627776 (bds f.body).2.2) ↔ 67108864<(bds f.body).2.2:=by unfold cap;omega
 have dE:zcU f=(decide (4096<cap 1099511627776 (bds f.body).1) || decide (8<cap 1099511627776 (bds f.body).2.1) || decide (67108864<cap 1099511627776 (bds f.body).2.2)):=by
  unfold zcU;rw[zpM.2 c1,zpM.2 c2,zpM.2 c3]
 refine zmr O O (M.alloc (cs:=_) tz193 O) ?_
 rintro _ wa8 ⟨c,rfl,dx,dN,db,dg⟩
 refine zmw O (zmx ts193 O O O O (by simp[Value.oneCell']) db (by simp)) ?_
 rintro d8 ⟨_,db,dm⟩
 replace dg:=dg.trans dm (fun q hq h=>by have h:q=c:=h;omega)
 have dy:b ≠ c:=by have:=hY.lt;omega
 have dr:m ≠ c:=by have:=da.lt;omega
 have dB:_<=c:=zpq hE.size (zrS dx.symm)
 obtain⟨hE,hY,da,de,df,dc⟩:=Tr6 dg hE hY da de df dc
 refine Gs 5 O (zne O tg3 (db.cells 0 _ O) (Gs 2 O (G.sp 63 O (fun b1=>?_) (fun b1=>?_))))
 . refine Gs 19 O (zlV tr72 O ⟨_,rfl,by rw[dw,zpv (by rw[dE,zpw b1];rfl)],hE⟩)
 refine Gs 1 O (zne O tg3 (db.cells 1 _ O) (Gs 3 O (G.sp 68 O (fun b2=>?_) (fun b2=>?_))))
 . refine Gs 14 O (zlV tr72 O ⟨_,rfl,by rw[dw,zpv (by rw[dE,zpw b2,zqa];rfl)],hE⟩)
 refine Gs 1 O (zne O tg3 (db.cells 2 _ O) (Gs 4 O (zlF O (fun b3=>?_) (fun b3=>?_))))
 . refine Gs 7 O (zlV tr72 O ⟨_,rfl,by rw[dw,zpv (by rw[dE,zpw b3,zqa])],hE⟩)
 refine Gs 8 O (zlV tr72 O ⟨_,rfl,by rw[dw,zpu (by rw[dE,zpx b1,zpx b2,zpx b3];decide)],hE⟩)
end Go.Proofs.YtckdhgbepmpgiaaGreat
namespace Go.GL
instance decNd:DecidableEq Nd:=fun a b =>
 if h:a.kind=b.kind/\a.at_=b.at_/\a.next=b.next/\a.other=b.other then isTrue (zoR h.1 h.2.1 h.2.2.1 h.2.2.2) else isFalse (fun e=>h (by subst e;exact⟨rfl,rfl,rfl,rfl⟩))
end Go.GL
namespace Go.Proofs.YtckdhgbepmpgiaaGreat
open Go.GL
theorem zcV {vs:List Vr} {nh:Nat} (l:List St):∀ top,stepsCodeN vs nh l top=0->plainL l=true:=by
 induction l using znx with
 | h l ih =>
 intro top h
 refine zbp (fun s hs=>?_)
 obtain⟨last,h2⟩:=xK l top h s hs
 obtain⟨h3,_,_,h4,h5⟩:=qx h2
 rw[s.plainB_eq,(ih s hs).1 _ h4,(ih s hs).2 _ h5,zpY,zpY]
 split
 . rfl
 split
 . rename_i a4;rw[(h3.rep a4).2.2];rfl
 rename_i a3 a4;rw[(h3.free a3 a4).1,(h3.free a3 a4).2];rfl
theorem yi {f:Fl} (h:yj f=0):xN f=true/\zv f.vars=0/\zy f.vars f.hatches=0/\stepsCodeN f.vars f.hatches.length f.body true=0/\zcU f=false:=by
 unfold yj at h
 split at h
 . cases h
 split at h
 . rename_i h1;exact absurd h h1
 split at h
 . rename_i h1;exact absurd h h1
 split at h
 . rename_i h1;exact absurd h h1
 split at h
 . cases h
 rename_i h1 h2 h3 h4 h5
 refine⟨by simpa using h1,by omega,by omega,by omega,by simpa using h5⟩
theorem zbC {f:Fl} (h:yj f=0):plainL f.body=true:=zcV _ _ (yi h).2.2.2.1
theorem ziy (w:World) (dd:Nat) (a b:Nd):(Op.equalIn (dd+2) 65 (.agg (qY a).toArray) (.agg (qY b).toArray)).run Tryz.prog w=.ok (decide (a=b)) w:=by
 have hf:Tryz.prog.fieldsOf 65=#[{ name := "Kind",type:=63,offset:=0,embedded:=false,tag := "",pkgPath := "",byteOffset:=0 },{ name := "At",type:=3,offset:=1,embedded:=false,tag := "",pkgPath := "",byteOffset:=8 },{ name := "Next",type:=3,offset:=2,embedded:=false,tag := "",pkgPath := "",byteOffset:=16 },{ name := "Other",type:=3,offset:=3,embedded:=false,tag := "",pkgPath := "",byteOffset:=24 }]:=by kernel_rfl
 rw[run_equalIn_struct w _ _ _ _ (by rw[hf];exact Tryz.underlying65) (by kernel_rfl),hf]
 simp[Op.eqFields,part,qY,Tryz.isAgg63,run_equalIn_int w _ _ _ _ _ _ Tryz.underlying63,run_equalIn_int w _ _ _ _ _ _ Tryz.underlying3]
 have e:decide (a=b)=(decide (a.kind=b.kind)&&decide (a.at_=b.at_)&&decide (a.next=b.next)&&decide (a.other=b.other)):=by
  rw[zq0]
  simp only[zpW,decide_eq_true_eq]
  exact⟨fun h=>by subst h;exact⟨⟨⟨rfl,rfl⟩,rfl⟩,rfl⟩,fun h=>zoR h.1.1.1 h.1.1.2 h.1.2 h.2⟩
 rw[e]
 by_cases h1:a.kind=b.kind
 .
  by_cases h2:a.at_=b.at_
  .
   by_cases h3:a.next=b.next
   . by_cases h4:a.other=b.other<;>simp[h1,h2,h3,h4]
   simp[h1,h2,h3]
  simp[h1,h2]
 simp[h1]
theorem neNd {env:Env} {w:World} {dst:Option Tmp} {ty:TypeId} {pos:String} {aft:Array Edge} {g:Option (Nat × Bool)} {t':TypeId} {x y:Operand} {a b:Nd} (hx:ev env x=some (.agg (qY a).toArray)) (hy:ev env y=some (.agg (qY b).toArray)) :
  yA Tryz.prog ⟨dst,.binOp .neq 65 x y t',ty,pos,aft,g⟩ env w (.bool (decide (a ≠ b))) w:=by
 intro n c hc
 have hm:Tryz.prog.eqGuardType Tryz.prog.depth 65=false:=by kernel_rfl
 simp[execOp,hc.eval hx,hc.eval hy,run_eqGuard_agg,hm,run_neq_struct,ziy]
theorem zg1 (a b:List Nd) (va vb:Value) (D D':Nat->Prop) (w:World) (ha:SlR 4 RNd D w va a) (hb:SlR 4 RNd D' w vb b):Calls Tryz.prog 73 #[va,vb] w (Ret fun r w'=>r=.bool (decide (a=b))/\Ext w w'):=by
 have dt:=ha.max
 have du:=hb.max
 obtain⟨aa,ca,rfl⟩:=ha.form
 obtain⟨ab,cb,rfl⟩:=hb.form
 refine znl Tryz.func73 O Tryz.ntmps73 O (Gs 15 O (zlF O (fun dh=>?_) (fun dw=>?_)))
 . refine Gs 7 O (zlV Tryz.results73 O ⟨_,rfl,by rw[zpx (fun h=>dh (by rw[h]))],Keep.refl _ _⟩)
 have hl:a.length=b.length:=by omega
 refine Gs 11 O (G.loop (σ:=Nat) (fun i=>[(0,.slice aa a.length ca),(1,.slice ab b.length cb),(12,.int .i64 a.length),(13,.int .i64 i)]) (fun i=>fun w'=>i<=a.length/\a.take i=b.take i/\Ext w w') (fun i=>a.length - i) (0) (Sub.of O) (⟨zpz _,rfl,Keep.refl _ _⟩) ?_)
 rintro i w1 ⟨hi,da,dc⟩
 obtain⟨ha,hb⟩:=Tr2 dc ha hb
 refine Gs 6 O (zlF O (fun dx=>?_) (fun dy=>?_))
 .
  obtain⟨x,hY⟩:∃ x,a[i]?=some x:=⟨_,zpk (by omega)⟩
  obtain⟨y,db⟩:∃ x,b[i]?=some x:=⟨_,zpk (by omega)⟩
  obtain⟨bx,ox,cx,di,_,dk,rfl⟩:=ha.at hY
  obtain⟨by',oy,cy,dl,_,dm,rfl⟩:=hb.at db
  refine Gs 11 O (Qt (by kernel_rfl) (Gs 2 O (znd O O (fun w1 de=>zmh tR34 ts65 O O di (by omega)) (znd O O (fun w1 de=>zmj Tryz.isAgg65 ts65 O (by rfl) (de.cells dk (fun h=>h))) (Gs 2 O (znd O O (fun w1 de=>zmh tR34 ts65 O O dl (by omega)) (znd O O (fun w1 de=>zmj Tryz.isAgg65 ts65 O (by rfl) (de.cells dm (fun h=>h))) (znd O O (fun w1 de=>neNd (a:=x) (b:=y) O O) (znh (fun wz1 dr=>?_))))))))))
  obtain⟨ha,hb,dc⟩:=Tr3 dr ha hb dc
  refine Gs 1 O (zlF O (fun df=>?_) (fun df=>?_))
  . refine Gs 11 O (zlV Tryz.results73 O ⟨_,rfl,by rw[zpx (fun h=>df (by rw[h,db]at hY;exact(Option.some.inj hY).symm))],dc⟩)
  have dg:x=y:=zpt.1 df
  refine Ga 7 O (by omega) (G.back (i+1) (Sub.of O) (⟨by omega,by rw[ze hY,ze db,da,dg],dc⟩) (by first | omega | (dsimp only;omega)))
 have:i=a.length:=by omega
 subst this
 rw[zpp,hl,zpp]at da
 refine Gs 11 O (zlV Tryz.results73 O ⟨_,rfl,by rw[zpw da],dc⟩)
theorem ziz (f:Fl) (v1 v2 v3:Value) (D:Nat->Prop) (w:World) (hf:RFl D w f v1 v2 v3) (hp:plainL f.body=true) (ep:ssize f.body<=10000) :
  Calls Tryz.prog 74 #[.agg #[v1,v2,v3]] w (Ret fun r w'=>(∃ nv,r=.agg #[nv]/\SlR 4 RNd (fun b=>w.heap.size<=b) w' nv (zk f))/\Ext w w'):=by
 have er:=xe f.body
 have dU:=hf.narrow.body
 refine znk Tryz.func74 O Tryz.ntmps74 O (Gs 2 O (zmr O O (M.box O O) ?_))
 rintro _ w1 ⟨c,rfl,hc,eu,db,dV⟩
 refine zmr O O (M.alloc (cs:=[.slice none 0 0]) tz36 O) ?_
 rintro _ w2 ⟨r,rfl,hr,ew,dg,dQ⟩
 replace db:=dQ.blk db (fun h=>h)
 refine Gs 4 O (zna O O (R.build (v:=.agg #[.int .i64 0,.int .i64 (-1),.int .i64 (-1),.int .i64 (-1)]) [(0,_),(1,_),(2,_),(3,_)] O (fun _=>by kernel_rfl)) (zmr O O (M.buildSlice (cs:=qY ⟨0,-1,-1,-1⟩) [(0,_)] tR34 ts65 tz65 (by decide) O (by kernel_rfl)) ?_))
 rintro _ w3 ⟨g3,rfl,ey,ez,dB,dC⟩
 replace db:=dC.blk db (fun h=>h)
 replace dg:=dC.blk dg (fun h=>h)
 refine zna O O (R.build (v:=.agg #[.slice (some ⟨g3,0,none⟩) 1 1,.int .i64 0]) [(0,_)] O (fun _=>by kernel_rfl)) (zmr O O (M.box O O) ?_)
 rintro _ w4 ⟨B,rfl,hB,eA,dW,dx⟩
 replace db:=dx.blk db (fun h=>h)
 replace dg:=dx.blk dg (fun h=>h)
 replace dB:=dx.blk dB (fun h=>h)
 have dX:Ext w w4:=((dV.ext dQ).ext dC).ext dx
 have dY:BdS w.heap.size B w4 { nodes:=[⟨0,-1,-1,-1⟩],step:=0 } (.slice (some ⟨g3,0,none⟩) 1 1) :=
  ⟨dW,ye (k:=4) (n:=1) (cap:=1) dB (zpJ _) (by decide) rfl,by omega,fun g hg=>by obtain rfl:g3=g:=Option.some.inj hg;omega⟩
 have eC:c ≠ r:=by omega
 refine Gs 5 O (Dw (fun q=>Blk q c [v1,v2,v3] 26) [] (fun w5 dy _=>?_))
 have dh:=dy.blk db (fun h=>h)
 have dD:=dy.blk dg (fun h=>h)
 have dZ:=dY.ext dy
 have d5:=dX.ext dy
 refine Ds [0,1] (by kernel_rfl) O (WD.take 2 O (by kernel_rfl) O O O dh (fun w1 d6=>R.load tg24 O (d6.cells 2 _ O)) (Ds [3,8] (by kernel_rfl) O (WD.call 4 O (by kernel_rfl) O O O (F.call (vs:=[_,_]) Tryz.call126 O) (zcL B 0 w5) ?_)))
 rintro x w6 ⟨hx,dz⟩
 have di:=dz.blk dh (fun h=>h)
 have dE:=dz.blk dD (fun h=>h)
 have d7:=dZ.ext dz
 have d8:=d5.ext dz
 refine⟨fun _=>di,?_⟩
 have d9:=hx
 obtain⟨bb,ab,rfl,_,_⟩:=hx
 refine zmq 5 O (by kernel_rfl) O O O (M.buildSlice (cs:=[.func (.func 166) #[] #[.pointer (some ⟨bb,0,none⟩),.pointer (some ⟨ab,0,none⟩)]]) [(0,_)] tR198 ts120 tz120 (by decide) O (by kernel_rfl)) ?_
 rintro _ w7 ⟨g7,rfl,eD,eE,ea,dk⟩
 have dl:=dk.blk di (fun h=>h)
 have dF:=dk.blk dE (fun h=>h)
 have eb:=d7.ext dk
 have dG:=d8.ext dk
 refine⟨fun _=>dl,?_⟩
 have ec:=Hung.lit ea (d9.ext dk)
 have ed:=dG.size
 refine WD.call 6 O (by kernel_rfl) O O O (F.call (vs:=[_,_,_]) Tryz.call125 O) (zk3 f.body w.heap.size B _ _ _ w7 _ _ _ (dU.ext zd dG) (fun q h=>h.2) eb ec (by simp) (by omega) hp (by simp;omega) (by dsimp only;omega)) ?_
 rintro r9 w9 ⟨⟨nv9,dH⟩,dA,_,dI⟩
 have dJ:=dI.blk dl (by decide)
 have dK:=dI.blk dF (by decide)
 have ee:Ext w w9:=zoF (KT.trans (zoC dG) dI) (zpJ _)
 refine⟨fun _=>dJ,?_⟩
 have dL:=xq f.body hp { nodes:=[⟨0,-1,-1,-1⟩],step:=0 } [(0,false)] (by simp)
 have dc:zfc f=zk f:=zim f hp
 unfold zfc at dc
 generalize hX:listB f.body { nodes:=[⟨0,-1,-1,-1⟩],step:=0 } [(0,false)]=X at dH dA dL dc
 obtain⟨a9,c9,rfl,_⟩:=dA.form
 have dm:=dL.len
 have dM:=dL.lt
 have ef:=dA.len
 simp only[zpF]at dm
 obtain⟨an,cn,rfl,eF,_⟩:=xC dH.row
 refine Ds [7] (by kernel_rfl) O (G.done (by kernel_rfl) ?_ _)
 refine Gs 2 O (G.loop (σ:=Nat) (fun j=>[(2,.pointer (some ⟨r,0,none⟩)),(3,.pointer (some ⟨B,0,none⟩)),(16,.slice a9 X.2.length c9),(17,.int .i64 X.2.length),(18,.int .i64 j)]) (fun j=>fun w'=>j<=X.2.length/\BdS w.heap.size B w' { X.1 with nodes:=zw X.1.nodes X.1.nodes.length (X.2.take j) } (.slice an X.1.nodes.length cn)/\Hung B w' (.slice a9 X.2.length c9) X.2/\Blk w' r [.slice none 0 0] 36/\Ext w w') (fun j=>X.2.length - j) (0) (Sub.of O) (⟨zpz _,dH,dA,dK,ee⟩) ?_)
 rintro j y1 ⟨hj,df,dR,da,dN⟩
 refine Gs 6 O (zlF O (fun eG=>?_) (fun eH=>?_))
 .
  obtain⟨e,he⟩:∃ e,X.2[j]?=some e:=⟨_,zpk (by omega)⟩
  obtain⟨ge,x,rfl,eg,eh⟩:=dR.at he
  obtain⟨ie,pe⟩:=e
  obtain⟨ff,fcs,rfl,ei,dr⟩:=zeC w.heap.size B ie pe (X.1.nodes.length:Nat) _ _ x y1 df eh (by dsimp only;rw[zM];exact dM _ (zpl he))
  refine Ga 7 O (by omega) (zne O Tryz.isAgg120 (eg 0 _ O) (Gs 8 O (zne O tg34 (df.blk.cells 0 _ O) (Gs 1 O (zmo O ei dr ?_)))))
  rintro _ y2 ⟨dt,dO⟩
  refine Ga 7 O (by omega) (G.back (j+1) (Sub.of O) (⟨by omega,by rw[jW he];exact dt,dR.kt dO,dO.blk da (by decide),zoF (KT.trans (zoC dN) dO) (zpJ _)⟩) (by first | omega | (dsimp only;omega)))
 have ej:j=X.2.length:=by omega
 subst ej
 rw[zpp]at df
 have hY:=df.row
 dsimp only at hY
 rw[zM]at hY
 refine Gs 10 O (zne O tg34 (df.blk.cells 0 _ O) (zna O O (R.build (v:=.agg #[.int .i64 1,.int .i64 (-1),.int .i64 (-1),.int .i64 (-1)]) [(0,_),(1,_),(2,_),(3,_)] O (fun _=>by kernel_rfl)) (zmr O O (M.buildSlice (cs:=qY ⟨1,-1,-1,-1⟩) [(0,_)] tR34 ts65 tz65 (by decide) O (by kernel_rfl)) ?_)))
 rintro _ y2 ⟨g2,rfl,yg2,ys2,yB2,yk2⟩
 replace hY:=zm hY yk2 (fun _ _ h=>h)
 replace da:=yk2.blk da (fun h=>h)
 refine zmr O O (M.append tu34 Tryz.el65 O (by decide) O O hY O (Cells.add yB2.cells) (jC _) (by omega) (by omega)) ?_
 rintro nv y3 ⟨de,ek,yk3,_⟩
 have em:∀ g,Value.ownBlock (.slice an X.1.nodes.length cn)=some g->g ≠ r:=fun g hg=>by
  obtain⟨cs',dt⟩:=yM hY hg
  exact dt.ne da (by decide)
 have du:∀ g,Value.ownBlock (.slice an X.1.nodes.length cn)=some g->w.heap.size<=g:=df.far
 replace da:=yk3.blk da (fun h=>em r h rfl)
 have en:Ext w y3:=Keep.trans (dN.ext yk2) yk3 (fun k hk h=>by have:=du k h;omega)
 obtain⟨av,cv,rfl⟩:=xa de
 have dS:∀ g,Value.ownBlock (.slice av (X.1.nodes.length+1) cv)=some g->w.heap.size<=g/\g ≠ r:=by
  intro g hg
  refine⟨?_,?_⟩
  .
   rcases ek with h | ⟨g',h1,h2⟩
   . exact du g (by rw[<- h];exact hg)
   rw[h1]at hg;cases hg
   have:=(dN.ext yk2).size
   omega
  obtain⟨cs',dt⟩:=yM de hg
  exact dt.ne da (by decide)
 refine zna O O (R.build (v:=.agg #[.slice av (X.1.nodes.length+1) cv]) [(0,_)] O (fun _=>by kernel_rfl)) (zmw O (zmx ts36 O O O O (by simp[Value.oneCell']) da (by simp)) ?_)
 rintro yf ⟨_,eo,dT⟩
 have dw:=zm de dT (fun g hg h=>(dS g hg).2 h)
 refine Gs 3 O (zm3 Tryz.results74 O (zn tg36 ts36 O eo.cells) ?_)
 refine⟨_,rfl,⟨_,rfl,?_⟩,en.trans dT (fun q hq h=>by have h:q=r:=h;omega)⟩
 rw[<- dc]
 refine zmN (by decide) qY zY (fun _ _=>rfl) (n:=X.1.nodes.length+1) (e:=65) ?_ (fun g hg=>(dS g hg).1)
 rw[zqO]
 simpa using dw
def yD (f:Fl) (g:List Nd):Int:=if yj f ≠ 0 then yj f else if zk f=g then 0 else 2
theorem zbD {f:Fl} (hY:snodes f.body+zA f.hatches<=1024):ssize f.body<=1024:=by have:=zdv f.body;omega
theorem zeN (f:Fl) (g:List Nd) (v1 v2 v3 gv:Value) (D Dg:Nat->Prop) (w:World) (hf:RFl D w f v1 v2 v3) (hg:SlR 4 RNd Dg w gv g) (dk:snodes f.body+zA f.hatches<=1024) (dr:sbulk f.body<=1000000) :
  Calls Tryz.prog 36 #[.agg #[v1,v2,v3],.agg #[gv]] w (Ret fun r w'=>r=.int .i64 (yD f g)/\Ext w w'):=by
 have dB:=zbD dk
 have hE:=Keep.refl (fun _=>False) w
 obtain⟨ag,cg,rfl⟩:=hg.form
 refine znl Tryz.func36 O Tryz.ntmps36 O (Gs 2 O (zmr O O (M.box O O) ?_))
 rintro _ dC ⟨b,rfl,df,dt,hY,dg⟩
 have dl:_<=b:=zpq hE.size (zrS df.symm)
 obtain⟨hE,hf,hg⟩:=Tr3 dg hE hf hg
 refine zmr O O (M.box O O) ?_
 rintro _ du ⟨b2,rfl,db,dm,da,dc⟩
 have de:b ≠ b2:=by have:=hY.lt;omega
 have dh:_<=b2:=zpq hE.size (zrS db.symm)
 obtain⟨hE,hf,hg,hY⟩:=Tr4 dc hE hf hg hY
 refine Gs 6 O (zng O tg26 ts26 hY.cells O (G.call O Tryz.call72 (zdM f _ _ _ D _ hf dk dr) ?_))
 rintro _ wz1 ⟨rfl,dw⟩
 obtain⟨hE,hf,hg,hY,da⟩:=Tr5 dw hE hf hg hY da
 refine Gs 9 O (zlF O (fun h0=>?_) (fun h0=>?_))
 . refine Gs 8 O (zlV Tryz.results36 O ⟨_,rfl,by rw[yD,zpv h0],hE⟩)
 have dx:yj f=0:=by omega
 refine Gs 4 O (Dw (fun q=>Ext wz1 q) [] (fun wd2 hD _=>?_))
 refine WD.take 0 O (by kernel_rfl) O O O hD (fun w1 di=>zmj tg26 ts26 O (by rfl) (di.blk hY (fun h=>h)).cells) (Ds [3] (by kernel_rfl) O (WD.take 4 O (by kernel_rfl) O O O hD (fun w1 di=>R.load tg34 O ((di.blk da (fun h=>h)).cells 0 _ O)) (WD.call 1 O (by kernel_rfl) O O O (F.call (vs:=[_]) Tryz.call74 O) (ziz f _ _ _ D _ (hf.ext hD) (zbC dx) (by omega)) ?_)))
 rintro _ wz3 ⟨⟨nv,rfl,dy⟩,dz⟩
 replace hD:=hD.ext dz
 refine⟨fun _=>hD,?_⟩
 refine zmI 2 O (by kernel_rfl) O O O (fun w1=>R.field Tryz.runUnderlying36 O tg34 O O) (WD.call 5 O (by kernel_rfl) O O O (F.call (vs:=[_,_]) Tryz.call73 O) (zg1 (zk f) g _ _ _ Dg _ dy (hg.ext zH hD)) ?_)
 rintro _ wz4 ⟨rfl,dA⟩
 replace hD:=hD.ext dA
 refine⟨fun _=>hD,?_⟩
 refine zmI 6 O (by kernel_rfl) O O O (fun w1=>zmT O (by first | exact za | rfl)) (G.done (by kernel_rfl) ?_ _)
 obtain⟨hE,hf,hg,hY,da⟩:=Tr5 hD hE hf hg hY da
 refine Gs 1 O (zlF O (fun h1=>?_) (fun h1=>?_))
 . refine Gs 7 O (zlV Tryz.results36 O ⟨_,rfl,by rw[yD,zpu (by omega),zpu h1],hE⟩)
 refine Gs 8 O (zlV Tryz.results36 O ⟨_,rfl,by rw[yD,zpu (by omega),zpv (zpt.1 h1)],hE⟩)
end Go.Proofs.YtckdhgbepmpgiaaGreat
namespace Go.GL
mutual
/-- The steps in preorder. -/
def St.pre:St->List St
 | .mk a c v n t f g b=>.mk a c v n t f g b::(preL f++preL g)
def preL:List St->List St
 | []=>[]
 | s::r=>s.pre++preL r
end
theorem St.pre_eq (s:St):s.pre=s::(preL s.thn++preL s.els):=by cases s;rw[St.pre];rfl
theorem jZ (a b:List St):preL (a++b)=preL a++preL b:=by
 induction a with
 | nil=>rfl
 | cons x r ih=>rw[zqA,preL,ih,preL,zqy]
theorem zgW {l:List St} {i:Nat} {x:St} (h:l[i]?=some x):preL (l.take (i+1))=preL (l.take i)++x.pre:=by rw[ze h,jZ];simp[preL]
theorem yk:∀ l:List St,(preL l).length=ssize l:=by
 intro l
 induction l using znx with
 | h l ih =>
  have key:∀ r:List St,(∀ s ∈ r,(preL s.thn).length=ssize s.thn/\(preL s.els).length=ssize s.els)->(preL r).length=ssize r:=by
   intro r
   induction r with
   | nil=>intro _;rfl
   | cons x r ih2 =>
    intro h
    have h1:=h x (zpo ..)
    have h2:=ih2 (fun s hs=>h s (zpn _ hs))
    have h4:=x.size_eq
    rw[preL,zps,x.pre_eq,zpN,zps,h1.1,h1.2,h2,ssize];omega
  exact key l ih
end Go.GL
namespace Go.Proofs.YtckdhgbepmpgiaaGreat
open Go.GL
theorem zk5 {l:List St} {i k:Nat} {x s:St} (h:l[i]?=some x) (hk:(preL l)[ssize (l.take i)+k]?=some s):(x.pre++preL (l.drop (i+1)))[k]?=some s:=by
 have e:preL l=preL (l.take i)++(x.pre++preL (l.drop (i+1))):=by
  have h1:=congrArg preL (yy h)
  rw[jZ]at h1
  exact h1
 rw[e,zpL (by rw[yk];omega),yk,zrM]at hk
 exact hk
theorem zk6 (l:List St):∀ (v:Value) (D:Nat->Prop) (w:World) (k:Nat) (s:St),SlR 10 RSt D w v l->(preL l)[k]?=some s->ssize l<=10000 ->
  Calls Tryz.prog 25 #[v,.int .i64 k] w (Ret fun r w'=>(∃ cs:List Value,r=.tuple #[.agg cs.toArray,.bool true]/\cs.length=10/\RSt D w' s cs)/\Ext w w'):=by
 induction l using znx with
 | h l ih =>
 intro v D0 w k s hl hs dT
 replace hl:=hl.narrow (by decide) jd
 generalize dF:(fun b=>D0 b/\b<w.heap.size)=D at hl
 have dy:∀ q,D q->q<w.heap.size:=fun q h=>by rw[<- dF]at h;exact h.2
 have dz:∀ q,D q->D0 q:=fun q h=>by rw[<- dF]at h;exact h.1
 have dU:=hl.max
 have dG:=(zpy.1 hs).1
 rw[yk]at dG
 have dV:=jz l
 obtain⟨av,nv,rfl⟩:=hl.form
 have dI:=hl
 have hE:=Keep.refl (fun _=>False) w
 refine znl Tryz.func25 O Tryz.ntmps25 O (Gs 2 O (zmr O O (M.alloc (cs:=[.int .i64 0,.int .i64 0,.int .i64 0,.int .i64 0,.int .i64 0,.int .i64 0,.slice none 0 0,.slice none 0 0,.slice none 0 0,.slice none 0 0]) tz72 O) ?_))
 rintro _ dJ ⟨rc,rfl,dl,dH,dm,dr⟩
 have dA:_<=rc:=zpq hE.size (zrS dl.symm)
 replace hE:=Tr1 dr hE
 refine Gs 10 O (zlF O (fun n0=>?_) (fun n0=>?_))
 . exact absurd n0 (by omega)
 refine Gs 9 O (G.loop (σ:=Nat × Nat) (fun⟨i,q⟩=>[(0,.slice av l.length nv),(1,.int .i64 q),(4,.pointer (some ⟨rc,0,none⟩)),(6,.int .i64 i)]) (fun⟨i,q⟩=>fun w'=>i<=l.length/\ssize (l.take i)+q=k/\Ext w w'/\Blk w' rc [.int .i64 0,.int .i64 0,.int .i64 0,.int .i64 0,.int .i64 0,.int .i64 0,.slice none 0 0,.slice none 0 0,.slice none 0 0,.slice none 0 0] 72) (fun⟨i,q⟩=>l.length - i) ((0,k)) (Sub.of O) (⟨zpz _,by simp[ssize],hE,dm⟩) ?_)
 rintro⟨i,q⟩ w1 ⟨hi,hq,hY,dc⟩
 show G _ _ _ _ _ [(0,.slice av l.length nv),(1,.int .i64 q),(4,.pointer (some ⟨rc,0,none⟩)),(6,.int .i64 i)] _
 have dK:=dI.ext zd hY
 refine Gs 9 O (zlF O (fun i1=>?_) (fun i1=>?_))
 .
  obtain⟨x,hx⟩:∃ x,l[i]?=some x:=⟨_,zpk (by omega)⟩
  have dL:=zpl hx
  obtain⟨ih1,ih2⟩:=ih x dL
  have dW:=xm hx
  have dX:=x.size_eq
  have da:=zk5 (k:=q) hx (by rw[hq];exact hs)
  rw[St.pre_eq]at da
  obtain⟨xb,xo,xc,dt,_,db,dB⟩:=dK.at hx
  have dM:=dB.one
  have dC:=dB
  obtain⟨u1,u2,u3,u4,rfl,dY,di,dk,dZ⟩:=dB.get
  refine Gs 11 O (zlF O (fun q0=>?_) (fun q0=>?_))
  .
   obtain rfl:q=0:=by omega
   simp only[zqA,List.getElem?_cons_zero,Option.some.injEq]at da
   subst da
   refine Gs 4 O (zna O O (zmh tR24 ts72 O O dt (by omega)) (zng O tg72 ts72 db O (zmw O (zmx ts72 O O O O dM dc (by simp)) ?_)))
   rintro wf ⟨_,du,de⟩
   refine Gs 10 O (zm6 tr25 O (zn tg72 ts72 O du.cells) O ?_)
   exact⟨_,rfl,⟨_,rfl,rfl,zd D _ _ _ dz (fun q hq dw=>de.block q dw (fun h=>by have:=dy q hq;have h:q=rc:=h;omega)) _ _ dC⟩,hY.trans de (fun q hq h=>by have h:q=rc:=h;omega)⟩
  obtain⟨q',rfl⟩:∃ q',q=q'+1:=⟨q - 1,by omega⟩
  rw[zqA,List.getElem?_cons_succ,zqy]at da
  refine Ga 13 O (by omega) (zna O O (zmh tR24 ts72 O O dt (by omega)) (Gs 1 O (zne O tg24 (db 7 _ O) (G.call O tc56 (jA x.thn _ D _ di (by omega)) ?_))))
  rintro _ wz1 ⟨rfl,dN⟩
  obtain⟨hY,dc,db,di,dk⟩:=Tr5 dN hY dc db di dk
  refine Gs 11 O (zlF O (fun q2=>?_) (fun q2=>?_))
  .
   rw[zpK (by rw[yk];omega)]at da
   refine Gs 4 O (zna O O (zmh tR24 ts72 O O dt (by omega)) (Gs 1 O (zne O tg24 (db 7 _ O) (Gs 1 O ?_))))
   have dO:((q'+1:Nat):Int) - 1=(q':Nat):=by omega
   rw[dO]
   refine G.call O tc25 (ih1 _ D _ q' s di da (by omega)) ?_
   rintro _ w2 ⟨⟨cs,rfl,dQ,df⟩,dx⟩
   have dD:=dx.blk dc (fun h=>h)
   have dE:=hY.ext dx
   have dg:=df
   have dh:=df.one
   obtain⟨y1,y2,y3,y4,rfl,_⟩:=df.get
   refine Gs 2 O (zmw O (zmx ts72 O O O O dh dD (by simp)) ?_)
   rintro wf ⟨_,du,de⟩
   refine Gs 10 O (zm6 tr25 O (zn tg72 ts72 O du.cells) O ?_)
   exact⟨_,rfl,⟨_,rfl,rfl,zd D _ _ _ dz (fun q hq dw=>de.block q dw (fun h=>by have:=dy q hq;have h:q=rc:=h;omega)) _ _ dg⟩,dE.trans de (fun q hq h=>by have h:q=rc:=h;omega)⟩
  rw[zpL (by rw[yk];omega),yk]at da
  refine Ga 14 O (by omega) (zna O O (zmh tR24 ts72 O O dt (by omega)) (Gs 1 O (zne O tg24 (db 8 _ O) (G.call O tc56 (jA x.els _ D _ dk (by omega)) ?_))))
  rintro _ wz2 ⟨rfl,dR⟩
  obtain⟨hY,dc,db,di,dk⟩:=Tr5 dR hY dc db di dk
  refine Gs 11 O (zlF O (fun q3=>?_) (fun q3=>?_))
  .
   rw[zpK (by rw[yk];omega)]at da
   refine Gs 4 O (zna O O (zmh tR24 ts72 O O dt (by omega)) (Gs 1 O (zne O tg24 (db 8 _ O) (Gs 1 O ?_))))
   have dS:((q'+1:Nat):Int) - 1 - (ssize x.thn:Nat)=((q' - ssize x.thn:Nat):Int):=by omega
   rw[dS]
   refine G.call O tc25 (ih2 _ D _ (q' - ssize x.thn) s dk da (by omega)) ?_
   rintro _ w2 ⟨⟨cs,rfl,dQ,df⟩,dx⟩
   have dD:=dx.blk dc (fun h=>h)
   have dE:=hY.ext dx
   have dg:=df
   have dh:=df.one
   obtain⟨y1,y2,y3,y4,rfl,_⟩:=df.get
   refine Gs 2 O (zmw O (zmx ts72 O O O O dh dD (by simp)) ?_)
   rintro wf ⟨_,du,de⟩
   refine Gs 10 O (zm6 tr25 O (zn tg72 ts72 O du.cells) O ?_)
   exact⟨_,rfl,⟨_,rfl,rfl,zd D _ _ _ dz (fun q hq dw=>de.block q dw (fun h=>by have:=dy q hq;have h:q=rc:=h;omega)) _ _ dg⟩,dE.trans de (fun q hq h=>by have h:q=rc:=h;omega)⟩
  refine Ga 15 O (by omega) (G.back ((i+1,q' - ssize x.thn - ssize x.els)) (Sub.cons O (Sub.cons (yC O (by omega)) (Sub.of O))) (⟨by omega,by rw[jy hx];omega,hY,dc⟩) (by first | omega | (dsimp only;omega)))
 exact absurd dG (by rw[show i=l.length by omega,zpp]at hq;omega)
end Go.Proofs.YtckdhgbepmpgiaaGreat
namespace Go.GL
open Go.RowKit Go.ChangeMaps
def lkm:List (Int × Value)->Int->Option (Nat × Value)
 | [],_=>none
 | (a,v)::r,k=>if k=a then some (0,v) else (lkm r k).map fun p=>(p.1+1,p.2)
def zjH (l:List (Int × Value)) (k:Int):Option Value:=(lkm l k).map (·.2)
def zgA (l:List (Int × Value)) (k:Int) (v:Value):List (Int × Value):=match lkm l k with
 | some p=>l.set p.1 (k,v)
 | none=>l++[(k,v)]
theorem zaQ {l:List (Int × Value)} {k:Int} {p:Nat × Value} (h:lkm l k=some p):l[p.1]?=some (k,p.2):=by
 induction l generalizing p with
 | nil=>simp[lkm]at h
 | cons x r ih =>
  obtain⟨a,v⟩:=x
  rw[lkm]at h
  split at h
  . rename_i h1;cases h;rw[h1];rfl
  obtain⟨q,h2,rfl⟩:=zsa.1 h
  simpa using ih h2
theorem ziA {l:List (Int × Value)} {k:Int} (h:lkm l k=none):∀ p ∈ l,p.1 ≠ k:=by
 induction l with
 | nil=>intro p hp;simp at hp
 | cons x r ih =>
  obtain⟨a,v⟩:=x
  rw[lkm]at h
  split at h
  . cases h
  rename_i h1
  intro p hp
  rcases zpA.1 hp with rfl | hp
  . exact fun h2=>h1 h2.symm
  exact ih (by simpa using h) p hp
theorem zgX (l:List (Int × Value)) (k:Int) (v:Value):(zgA l k v).map (·.1)=match lkm l k with
 | some _=>l.map (·.1)
 | none=>l.map (·.1)++[k]:=by
 unfold zgA
 cases h:lkm l k with
 | none=>simp
 | some p =>
  have h1:=zaQ h
  simp only
  rw[zr9]
  apply zqK
  intro j
  rw[List.getElem?_set]
  split
  .
   rename_i hj;subst hj
   rw[zpB,h1]
   split
   . rfl
   rename_i h2;rw[zpE]at h2;exact absurd (zpy.1 h1).1 h2
  rfl
theorem zah {l:List (Int × Value)} (hn:(l.map (·.1)).Nodup) (k:Int) (v:Value):((zgA l k v).map (·.1)).Nodup:=by
 rw[zgX]
 cases h:lkm l k with
 | some p=>exact hn
 | none =>
  simp only
  rw[List.nodup_append]
  refine⟨hn,by simp,fun a ha b hb=>?_⟩
  rw[zpC]at hb
  subst hb
  obtain⟨p,hp,rfl⟩:=zrf.1 ha
  exact ziA h p hp
def MapI (w:World) (m:Nat) (l:List (Int × Value)):Prop :=
 ∃ (es:Array MapEntry) (clock:Nat),w.heap[m]?=some (.map es clock)/\es.toList.map (fun e=>(e.key,e.val))=l.map (fun p=>(Value.int .i64 p.1,p.2))/\(∀ e ∈ es.toList,e.born<clock)/\(es.toList.map (·.born)).Nodup/\(l.map (·.1)).Nodup
theorem MapI.keep {w w':World} {S:Nat->Prop} {m:Nat} {l:List (Int × Value)} (h:MapI w m l) (hk:Keep S w w') (hS:¬ S m):MapI w' m l:=by
 obtain⟨es,c,h1,r⟩:=h
 exact⟨es,c,by rw[hk.block m (Array.getElem?_eq_some_iff.1 h1).1 hS];exact h1,r⟩
theorem MapI.lt {w:World} {m:Nat} {l:List (Int × Value)} (h:MapI w m l):m<w.heap.size:=by
 obtain⟨es,c,h1,r⟩:=h
 exact(Array.getElem?_eq_some_iff.1 h1).1
theorem qS (k:Int):∀ (es:List MapEntry) (l:List (Int × Value)) (i:Nat),es.map (fun e=>(e.key,e.val))=l.map (fun p=>(Value.int .i64 p.1,p.2))->Instr.findNow (.int .i64) (.int .i64 k) es i=some ((lkm l k).map fun p=>(i+p.1,p.2))
 | [],[],i,_=>rfl
 | [],_::_,i,h=>by simp at h
 | _::_,[],i,h=>by simp at h
 | e::es,(a,v)::l,i,h=>by
  simp only[zr5,List.cons.injEq,Prod.mk.injEq]at h
  rw[Instr.findNow,h.1.1,lkm]
  by_cases hk:k=a
  . simp[Instr.sameNow,hk,h.1.2]
  have:(k == a)=false:=by simpa using hk
  simp only[Instr.sameNow,if_true,this,zpu hk]
  rw[qS k es l (i+1) h.2]
  cases lkm l k<;>simp<;>omega
section
variable {P:Program} {w:World} {m:Nat} {l:List (Int × Value)} {t kt et:TypeId}
theorem jm (hk:P.underlying kt=some (.int .i64)) (k:Int) (b:Bool) (w:World):(Instr.checkKey b 10000 kt (.int .i64 k)).run P w=.ok () w:=MapKept.run_checkKey hk (by simp[MapKept.IsKey]) b 9999
theorem zeO (h:MapI w m l) (ht:P.underlying t=some (.map kt et)) (hk:P.underlying kt=some (.int .i64)) {z:Value} (hz:∀ w,(zeroValue et).run P w=.ok z w) (k:Int):(Instr.lookup t (.map (some m)) (.int .i64 k) false).run P w=.ok ((zjH l k).getD z) w:=by
 obtain⟨es,c,h1,h2,r⟩:=h
 have h3:=qS k _ _ 0 h2
 have h5:=MapKept.run_findKey (P:=P) (w:=w) hk h3
 cases h6:lkm l k with
 | none=>rw[h6]at h5;simp[Instr.lookup,run_underlying ht,MapKept.run_getObj_map h1,jm hk,h5,hz,Result.andThen,zjH,h6]
 | some p=>rw[h6]at h5;simp[Instr.lookup,run_underlying ht,MapKept.run_getObj_map h1,jm hk,h5,Result.andThen,zjH,h6]
theorem xT {o o':Obj} (h:w.heap[m]?=some o):Keep (fun q=>q=m) w (setBlock w m o') :=
 ⟨rfl,rfl,rfl,zpJ _,by simp[setBlock],fun k _ hn=>(MapKept.heap_set h).2 k hn⟩
theorem zcf {β:Type} (f:MapEntry->β) (g:MapEntry->MapEntry) (y:β):∀ (es:List MapEntry) (i:Nat),(∀ e,es[i]?=some e->f (g e)=y)->(es.modify i g).map f=(es.map f).set i y:=by
 intro es i h
 apply zqK
 intro j
 rw[zpB,List.getElem?_modify,List.getElem?_set]
 by_cases hj:i=j
 .
  subst hj
  cases h1:es[i]? with
  | none =>
   have:=List.getElem?_eq_none_iff.1 h1
   rw[zpv rfl,zpu (by rw[zpE];omega)]
   simp
  | some e =>
   have:=(zpy.1 h1).1
   rw[zpv rfl,zpv (by rw[zpE];omega)]
   simp[h e h1]
 rw[zpu hj,zpB]
 cases es[j]?<;>simp[hj]
theorem zeP (h:MapI w m l) (ht:P.underlying t=some (.map kt et)) (hk:P.underlying kt=some (.int .i64)) (k:Int) (v:Value) :
  ∃ w',(Instr.mapUpdate t (.map (some m)) (.int .i64 k) v).run P w=.ok () w'/\MapI w' m (zgA l k v)/\Keep (fun q=>q=m) w w'/\w'.heap.size=w.heap.size:=by
 obtain⟨es,c,h1,h2,h3,h4,h5⟩:=h
 have h6:=qS k _ _ 0 h2
 have h7:=MapKept.run_findKey (P:=P) (w:=w) hk h6
 have dc:es.toList.length=l.length:=by have:=congrArg List.length h2;simpa using this
 cases h8:lkm l k with
 | none =>
  rw[h8]at h7
  refine⟨setBlock w m (.map (es.push ⟨.int .i64 k,v,c⟩) (c+1)),by simp[Instr.mapUpdate,run_underlying ht,MapKept.run_getObj_map h1,jm hk,h7,MapKept.run_setObj_map _ h1,Result.andThen,setBlock],?_,xT h1,by simp[setBlock]⟩
  refine⟨_,_,(MapKept.heap_set h1).1,?_,?_,?_,zah h5 k v⟩
  . rw[zgA,h8];simp[h2]
  .
   intro e he
   simp only[Array.toList_push,zpD,zpC]at he
   rcases he with he | rfl
   . have:=h3 e he;omega
   simp
  rw[Array.toList_push,zr3,List.nodup_append]
  refine⟨h4,by simp,fun a ha b hb=>?_⟩
  obtain⟨e,he,rfl⟩:=zrf.1 ha
  simp at hb;subst hb
  have:=h3 e he
  omega
 | some p =>
  rw[h8]at h7
  have h9:=zaQ h8
  have hp:=(zpy.1 h9).1
  obtain⟨e0,db⟩:∃ e0,es.toList[p.1]?=some e0:=⟨_,zpk (by omega)⟩
  have hY:e0.key=.int .i64 k/\e0.val=p.2:=by
   have:=congrArg (fun L=>L[p.1]?) h2
   simp only[zpB,db,h9,zsb,Option.some.injEq,Prod.mk.injEq]at this
   exact this
  have da:es[p.1]?=some e0:=by simpa using db
  refine⟨setBlock w m (.map (es.modify p.1 fun e=>{ e with key:=.int .i64 k,val:=v }) c),by simp[Instr.mapUpdate,run_underlying ht,MapKept.run_getObj_map h1,jm hk,h7,da,hY.1,Instr.keyThatStays,Instr.sameBits,MapKept.run_setObj_map _ h1,Result.andThen,setBlock],?_,xT h1,by simp[setBlock]⟩
  refine⟨_,_,(MapKept.heap_set h1).1,?_,?_,?_,zah h5 k v⟩
  . rw[zgA,h8,zpV,zcf _ _ (.int .i64 k,v) _ _ (fun _ _=>rfl),h2];simp only[zr9]
  .
   intro e he
   rw[zpV]at he
   obtain⟨j,hj⟩:=zre.1 he
   rw[List.getElem?_modify]at hj
   obtain⟨e1,de,rfl⟩:=zsa.1 hj
   have:=h3 e1 (zpl de)
   split<;>exact this
  have:(es.modify p.1 fun e=>{ e with key:=.int .i64 k,val:=v }).toList.map (·.born)=es.toList.map (·.born):=by
   rw[zpV]
   apply zqK
   intro j
   rw[zpB,zpB,List.getElem?_modify]
   cases es.toList[j]?<;>simp
   split<;>rfl
  rw[this];exact h4
end
section
variable {P:Program} {env:Env} {w:World} {dst:Option Tmp} {ty:TypeId} {pos:String} {aft:Array Edge} {g:Option (Nat × Bool)} {t kt et:TypeId} {m:Nat} {l:List (Int × Value)}
theorem M.makeMap:yH P ⟨dst,.makeMap t none,ty,pos,aft,g⟩ env w (fun u w'=>∃ b,u=.map (some b)/\b=w.heap.size/\w'.heap.size=w.heap.size+1/\MapI w' b []/\Ext w w'):=by
 refine⟨.map (some w.heap.size),w.alloc (.map #[] 0),?_,_,rfl,rfl,by simp,⟨#[],0,(MapKept.heap_alloc w _).1,rfl,by simp,by simp,by simp⟩,Keep.alloc w _⟩
 intro n a ha
 have h:(Instr.makeMap t none).run P w=.ok (.map (some w.heap.size)) (w.alloc (.map #[] 0)):=by simp[Instr.makeMap,Result.andThen]
 simp[execOp,h]
theorem zoV {x y:Operand} {k:Int} {z:Value} (h:MapI w m l) (ht:P.underlying t=some (.map kt et)) (hk:P.underlying kt=some (.int .i64)) (hz:∀ w,(zeroValue et).run P w=.ok z w) (hx:ev env x=some (.map (some m))) (hy:ev env y=some (.int .i64 k)) :
  yA P ⟨dst,.lookup t x y false,ty,pos,aft,g⟩ env w ((zjH l k).getD z) w:=by
 intro n a ha
 simp[execOp,ha.eval hx,ha.eval hy,zeO h ht hk hz]
theorem M.insert {x y u:Operand} {k:Int} {v:Value} (h:MapI w m l) (ht:P.underlying t=some (.map kt et)) (hk:P.underlying kt=some (.int .i64)) (hx:ev env x=some (.map (some m))) (hy:ev env y=some (.int .i64 k)) (hu:ev env u=some v) :
  xZ P ⟨dst,.insert t x y u,ty,pos,aft,g⟩ env w (fun w'=>MapI w' m (zgA l k v)/\Keep (fun q=>q=m) w w'/\w'.heap.size=w.heap.size):=by
 obtain⟨w',h1,h2⟩:=zeP (P:=P) h ht hk k v
 refine⟨w',?_,h2⟩
 intro n a ha
 simp[execOp,ha.eval hx,ha.eval hy,ha.eval hu,h1]
end
def MapE (w:World) (m:Nat) (l:List (Int × Value)) (k:Int) (st:Nat):Prop :=
 ∃ (es:Array MapEntry) (clock i:Nat) (e:MapEntry) (v:Value),w.heap[m]?=some (.map es clock)/\es.toList.map (fun e=>(e.key,e.val))=l.map (fun p=>(Value.int .i64 p.1,p.2))/\(∀ e ∈ es.toList,e.born<clock)/\(es.toList.map (·.born)).Nodup/\(l.map (·.1)).Nodup /\
  es.toList[i]?=some e/\e.born=st/\lkm l k=some (i,v)
theorem MapE.keep {w w':World} {S:Nat->Prop} {m st:Nat} {k:Int} {l:List (Int × Value)} (h:MapE w m l k st) (hk:Keep S w w') (hS:¬ S m):MapE w' m l k st:=by
 obtain⟨es,c,i,e,v,h1,r⟩:=h
 exact⟨es,c,i,e,v,by rw[hk.block m (Array.getElem?_eq_some_iff.1 h1).1 hS];exact h1,r⟩
theorem MapE.map {w:World} {m st:Nat} {k:Int} {l:List (Int × Value)} (h:MapE w m l k st):MapI w m l:=by
 obtain⟨es,c,i,e,v,h1,h2,h3,h4,h5,_⟩:=h
 exact⟨es,c,h1,h2,h3,h4,h5⟩
section
variable {P:Program} {env:Env} {w:World} {dst:Option Tmp} {ty:TypeId} {pos:String} {aft:Array Edge} {g:Option (Nat × Bool)} {t kt et:TypeId} {m:Nat} {l:List (Int × Value)}
theorem M.mapEntry {x y:Operand} {k:Int} {v:Value} (h:MapI w m l) (hv:zjH l k=some v) (ht:P.underlying t=some (.map kt et)) (hk:P.underlying kt=some (.int .i64)) (hx:ev env x=some (.map (some m))) (hy:ev env y=some (.int .i64 k)) :
  yH P ⟨dst,.mapEntry t x y,ty,pos,aft,g⟩ env w (fun u w'=>∃ st:Nat,u=.tuple #[v,.int .i64 st]/\MapE w' m l k st/\Keep (fun q=>q=m) w w'/\w'.heap.size=w.heap.size):=by
 obtain⟨es,c,h1,h2,h3,h4,h5⟩:=h
 have h6:=qS k _ _ 0 h2
 have h7:=MapKept.run_findKey (P:=P) (w:=w) hk h6
 have df:es.toList.length=l.length:=by have:=congrArg List.length h2;simpa using this
 obtain⟨p,h8,rfl⟩:=zsa.1 hv
 rw[h8]at h7
 have h9:=zaQ h8
 have hp:=(zpy.1 h9).1
 obtain⟨e0,db⟩:∃ e0,es.toList[p.1]?=some e0:=⟨_,zpk (by omega)⟩
 have da:e0.key=.int .i64 k/\e0.val=p.2:=by
  have:=congrArg (fun L=>L[p.1]?) h2
  simp only[zpB,db,h9,zsb,Option.some.injEq,Prod.mk.injEq]at this
  exact this
 have dc:es[p.1]?=some e0:=by simpa using db
 have de:(Instr.mapEntry t (.map (some m)) (.int .i64 k)).run P w=.ok (.tuple #[p.2,.int .i64 e0.born]) (setBlock w m (.map (es.modify p.1 fun e=>{ e with key:=.int .i64 k }) c)):=by
  simp[Instr.mapEntry,run_underlying ht,MapKept.run_getObj_map h1,jm hk,h7,dc,da.1,Instr.keyThatStays,Instr.sameBits,MapKept.run_setObj_map _ h1,Result.andThen,setBlock,goInt]
 have hY:(es.modify p.1 fun e=>{ e with key:=.int .i64 k }).toList=es.toList:=by
  rw[zpV]
  apply zqK
  intro j
  rw[List.getElem?_modify]
  by_cases hj:p.1=j
  . subst hj;rw[db];simp[<- da.1]
  cases es.toList[j]?<;>simp[hj]
 refine⟨_,_,fun n a ha=>?_,e0.born,rfl,⟨_,c,p.1,e0,p.2,(MapKept.heap_set h1).1,by rw[hY];exact h2,by rw[hY];exact h3,by rw[hY];exact h4,h5,by rw[hY];exact db,rfl,h8⟩,xT h1,by simp[setBlock]⟩
 simp[execOp,ha.eval hx,ha.eval hy,de]
theorem M.entryStore {x y u:Operand} {k:Int} {st:Nat} {v:Value} (h:MapE w m l k st) (hx:ev env x=some (.map (some m))) (hy:ev env y=some (.int .i64 st)) (hu:ev env u=some v) :
  xZ P ⟨dst,.entryStore t x y u,ty,pos,aft,g⟩ env w (fun w'=>MapI w' m (zgA l k v)/\Keep (fun q=>q=m) w w'/\w'.heap.size=w.heap.size):=by
 obtain⟨es,c,i,e,v0,h1,h2,h3,h4,h5,h6,rfl,h8⟩:=h
 have hi:=(zpy.1 h6).1
 have hY:es.findIdx? (fun x=>(x.born:Int) == (e.born:Int))=some i:=by
  rw[show es=es.toList.toArray from by simp,List.findIdx?_toArray,List.findIdx?_eq_some_iff_getElem]
  refine⟨hi,by rw[(zpy.1 h6).2];simp,fun j hj=>?_⟩
  have:=List.nodup_iff_pairwise_ne.1 h4
  rw[zrp]at this
  have h9:=this j i (by rw[zpE];omega) (by rw[zpE];exact hi) hj
  rw[List.getElem_map,List.getElem_map,(zpy.1 h6).2]at h9
  intro de
  have dg:(es.toList[j].born:Int)=e.born:=eq_of_beq de
  exact h9 (by omega)
 have da:(Instr.entryStore t (.map (some m)) (.int .i64 e.born) v).run P w=.ok () (setBlock w m (.map (es.modify i fun x=>{ x with val:=v }) c)):=by
  simp[Instr.entryStore,MapKept.run_getObj_map h1,asInt,asIntOf,hY,MapKept.run_setObj_map _ h1,Result.andThen,setBlock]
 have db:e.key=.int .i64 k:=by
  have h9:=zaQ h8
  have:=congrArg (fun L=>L[i]?) h2
  simp only[zpB,h6,h9,zsb,Option.some.injEq,Prod.mk.injEq]at this
  exact this.1
 refine⟨setBlock w m (.map (es.modify i fun x=>{ x with val:=v }) c),fun n a ha=>?_,⟨_,c,(MapKept.heap_set h1).1,?_,?_,?_,zah h5 k v⟩,xT h1,by simp[setBlock]⟩
 . simp[execOp,ha.eval hx,ha.eval hy,ha.eval hu,da]
 . rw[zgA,h8,zpV,zcf _ _ (.int .i64 k,v) _ _ (fun x hx=>by rw[h6]at hx;cases hx;simp[db]),h2];simp only[zr9]
 .
  intro x dc
  rw[zpV]at dc
  obtain⟨j,hj⟩:=zre.1 dc
  rw[List.getElem?_modify]at hj
  obtain⟨e1,df,rfl⟩:=zsa.1 hj
  have:=h3 e1 (zpl df)
  split<;>exact this
 have:(es.modify i fun x=>{ x with val:=v }).toList.map (·.born)=es.toList.map (·.born):=by
  rw[zpV]
  apply zqK
  intro j
  rw[zpB,zpB,List.getElem?_modify]
  cases es.toList[j]?<;>simp
  split<;>rfl
 rw[this];exact h4
end
end Go.GL
namespace Go.Proofs.YtckdhgbepmpgiaaGreat
open Go.GL
def yE (b:Bool):Int:=if b then 1 else 0
def lki (l:List Int) (i:Nat):Int:=l[i]?.getD 0
theorem zfm {l:List Int} {i:Nat} {x:Int} (h:l[i]?=some x):lki l i=x:=by simp[lki,h]
theorem zbE {l:List Int} {i:Nat} (h:i<l.length):l[i]?=some (lki l i):=by simp[lki,zpk h]
def xU (op a b:Int):Int :=
 if op=8 then a+b else if op=9 then a - b else if op=10 then a*b else if op=11 then a.fdiv b
 else if op=12 then (if b=0 then 0 else a - b*a.fdiv b) else if op=13 then yE (decide (a=b)) else if op=14 then yE (decide (a ≠ b))
 else if op=15 then yE (decide (a<b)) else if op=16 then yE (decide (a<=b)) else if op=17 then yE (decide (b<a)) else if op=18 then yE (decide (b<=a))
 else if op=19 then yE (decide (a ≠ 0)&&decide (b ≠ 0)) else if op=20 then yE (decide (a ≠ 0) || decide (b ≠ 0)) else if op=21 then min a b else max a b
def ql (vals:List Int) (op n:Int) (ks:List Int):Int :=
 if op=0 then n else if op=24 then lki vals n.toNat else if op=6 then -(lki ks 0) else if op=7 then yE (decide (lki ks 0=0))
 else if op=23 then (if lki ks 0 ≠ 0 then lki ks 1 else lki ks 2)
 else if op=25 then lki ks (1+yB (lki ks 0) 0 ((ks.length:Int) - 2)).toNat
 else xU op (lki ks 0) (lki ks 1)
mutual
def xt (vals:List Int):Tm->Int
 | .mk op n ks=>ql vals op n (valL vals ks)
def valL (vals:List Int):List Tm->List Int
 | []=>[]
 | k::r=>xt vals k::valL vals r
end
theorem zbF (vals:List Int) (t:Tm):xt vals t=ql vals t.op t.n (valL vals t.kids):=by cases t;rw[xt];rfl
theorem zaR (vals:List Int) (l:List Tm):valL vals l=l.map (xt vals):=by
 induction l with
 | nil=>rfl
 | cons x r ih=>rw[valL,ih];rfl
theorem zcW (vals:List Int) (l:List Tm):(valL vals l).length=l.length:=by rw[zaR,zpE]
theorem zcX {vals:List Int} {l:List Tm} {i:Nat} {k:Tm} (h:l[i]?=some k):lki (valL vals l) i=xt vals k:=by
 apply zfm;rw[zaR,zpB,h];rfl
structure InV (vs:List Vr) (vals:List Int):Prop where
 len:vals.length=vs.length
 at_:∀ (i:Nat) (v:Vr),vs[i]?=some v->v.low<=lki vals i/\lki vals i<=v.high
theorem ziB (a b:Int) (ha:-1048576<=a/\a<=1048576):(0<=a -> -a<=a.fdiv b/\a.fdiv b<=a)/\(a<=0->a<=a.fdiv b/\a.fdiv b <= -a)/\(0<=a->0<=b->0<=a.fdiv b):=by
 rcases Int.lt_trichotomy b 0 with hb | hb | hb
 .
  have h1:a.fdiv b=(-a).ediv (-b):=by
   rw[<- Int.neg_fdiv_neg,zqh _ (by omega)];rfl
  rw[h1]
  have h2:=Int.mul_ediv_add_emod (-a) (-b)
  have h3:=zqf (-a) (show -b ≠ 0 by omega)
  have h4:=zqe (-a) (show 0 < -b by omega)
  change -b*((-a).ediv (-b))+(-a).emod (-b)=-a at h2
  change 0<=(-a).emod (-b) at h3
  change (-a).emod (-b) < -b at h4
  generalize (-a).ediv (-b)=q at *
  generalize (-a).emod (-b)=r at *
  obtain⟨c,rfl⟩:∃ c,b=-c:=⟨-b,by omega⟩
  simp only[Int.neg_neg]at *
  have hc:0<c:=by omega
  refine⟨fun h=>⟨?_,?_⟩,fun h=>⟨?_,?_⟩,fun h h'=>by omega⟩
  .
   rcases zqk q (-a) with h5 | h5
   .
    have:c*q<=c*(-a - 1):=zqm (by omega) (by omega)
    have:c*(-a - 1)<=1*(-a - 1):=zqp (by omega) (by omega)
    have e:c*(-a - 1)=c*(-a) - c:=by rw[Int.mul_sub,Int.mul_one]
    have:c*(-a)<=1*(-a):=zqp (by omega) (by omega)
    omega
   exact h5
  .
   rcases zqk 0 q with h5 | h5
   .
    have:c*1<=c*q:=zqm (by omega) (by omega)
    omega
   omega
  .
   rcases zqk q 0 with h5 | h5
   .
    have:c*q<=c*(-1):=zqm (by omega) (by omega)
    omega
   omega
  rcases zqk (-a) q with h5 | h5
  .
   have:c*(-a+1)<=c*q:=zqm (by omega) (by omega)
   have:1*(-a+1)<=c*(-a+1):=zqn (by omega) (by omega)
   omega
  exact h5
 .
  subst hb
  simp only[Int.fdiv_zero]
  omega
 have h1:a.fdiv b=a.ediv b:=zqh _ (by omega)
 rw[h1]
 have h2:=Int.mul_ediv_add_emod a b
 have h3:=zqf a (show b ≠ 0 by omega)
 have h4:=zqe a hb
 change b*(a.ediv b)+a.emod b=a at h2
 change 0<=a.emod b at h3
 change a.emod b<b at h4
 generalize a.ediv b=q at *
 generalize a.emod b=r at *
 have hq:0<=a->0<=q:=fun h=>by
  rcases zqk q 0 with h5 | h5
  .
   have:b*q<=b*(-1):=zqm (by omega) (by omega)
   omega
  exact h5
 refine⟨fun h=>⟨by have:=hq h;omega,?_⟩,fun h=>⟨?_,?_⟩,fun h _=>hq h⟩
 .
  rcases zqk a q with h5 | h5
  .
   have:b*(a+1)<=b*q:=zqm (by omega) (by omega)
   have:1*(a+1)<=b*(a+1):=zqn (by omega) (by omega)
   omega
  exact h5
 .
  rcases zqk q a with h5 | h5
  .
   have:b*q<=b*(a - 1):=zqm (by omega) (by omega)
   have:b*(a - 1)<=1*(a - 1):=zqp (by omega) (by omega)
   have e:b*(a - 1)=b*a - b:=by rw[Int.mul_sub,Int.mul_one]
   have:b*a<=1*a:=zqp (by omega) (by omega)
   omega
  exact h5
 rcases zqk 0 q with h5 | h5
 .
  have:b*1<=b*q:=zqm (by omega) (by omega)
  omega
 omega
theorem zcg (a b:Int):(b<0->b<a - b*a.fdiv b/\a - b*a.fdiv b<=0)/\(0<b->0<=a - b*a.fdiv b/\a - b*a.fdiv b<b):=by
 have h2:=Int.mul_fdiv_add_fmod a b
 refine⟨fun hb=>?_,fun hb=>?_⟩
 .
  have h3:a.fmod b=-((-a).emod (-b)):=by
   have:=Int.neg_fmod_neg (-a) (-b)
   simp only[Int.neg_neg]at this
   rw[this,zqi _ (by omega)];rfl
  have h4:=zqf (-a) (show -b ≠ 0 by omega)
  have h5:=zqe (-a) (show 0 < -b by omega)
  change 0<=(-a).emod (-b) at h4
  change (-a).emod (-b) < -b at h5
  omega
 have h3:a.fmod b=a.emod b:=zqi _ (by omega)
 have h4:=zqf a (show b ≠ 0 by omega)
 have h5:=zqe a hb
 change 0<=a.emod b at h4
 change a.emod b<b at h5
 omega
theorem zgY {x y a b c d:Int} (hx:a<=x/\x<=b) (hy:c<=y/\y<=d):min (min (a*c) (a*d)) (min (b*c) (b*d))<=x*y/\x*y<=max (max (a*c) (a*d)) (max (b*c) (b*d)):=by
 have key:∀ (u v p q:Int),p<=v->v<=q->min (u*p) (u*q)<=u*v/\u*v<=max (u*p) (u*q):=by
  intro u v p q h1 h2
  rcases Int.le_total 0 u with hu | hu
  .
   have:=zqm h1 hu
   have:=zqm h2 hu
   omega
  have:=zqo (a:=u) hu h1
  have:=zqo (a:=u) hu h2
  omega
 have h1:=key y x a b hx.1 hx.2
 have h2:=key a y c d hy.1 hy.2
 have h3:=key b y c d hy.1 hy.2
 rw[Int.mul_comm y a,Int.mul_comm y b,Int.mul_comm y x]at h1
 omega
theorem zdN (x:Rg):∀ l:List Rg,((yY x l).1<=x.1/\x.2<=(yY x l).2)/\∀ r ∈ l,(yY x l).1<=r.1/\r.2<=(yY x l).2:=by
 intro l
 induction l generalizing x with
 | nil=>simp[yY]
 | cons y r ih =>
  have h:=ih (min x.1 y.1,max x.2 y.2)
  rw[show yY x (y::r)=yY (min x.1 y.1,max x.2 y.2) r from rfl]
  refine⟨by have:=h.1;dsimp only at this;omega,fun z hz=>?_⟩
  rcases zpA.1 hz with rfl | hz
  . have:=h.1;dsimp only at this;omega
  exact h.2 z hz
theorem zgZ {op a b:Int} (h1:op ≠ 8) (h2:op ≠ 9) (h3:op ≠ 10) (h4:op ≠ 11) (h5:op ≠ 12) (h6:op ≠ 21) (h7:op<=20) (h8:8<=op):xU op a b=0\/xU op a b=1:=by
 have hf:∀ b,yE b=0\/yE b=1:=fun b=>by cases b<;>simp[yE]
 unfold xU
 rw[zpu h1,zpu h2,zpu h3,zpu h4,zpu h5]
 (repeat' split);all_goals first | exact hf _ | omega
theorem qt (n:Int) {lo hi:Int} (h:lo<=hi):lo<=yB n lo hi/\yB n lo hi<=hi:=by
 unfold yB
 (repeat' split);all_goals omega
theorem ziC {vs:List Vr} {vals:List Int} {op n:Int} {ks:List Int} {l:List Rg} (hV:InV vs vals) (hn:NodeOk vs op n l) (hY:ks.length=l.length) (da:op=23->l.length=3) (dc:op=0\/op=24\/op=6\/op=7\/8<=op/\op<=22\/op=23\/op=25)
  (hk:∀ i,i<l.length->(at2 l i).1<=lki ks i/\lki ks i<=(at2 l i).2):(zi vs op n l).1<=ql vals op n ks/\ql vals op n ks<=(zi vs op n l).2:=by
 have hg:∀ i,i<l.length->yr (at2 l i):=fun i hi=>hn.good _ (zgP hi)
 have hf:∀ b,0<=yE b/\yE b<=1:=fun b=>by cases b<;>simp[yE]
 unfold yr at hg
 unfold zi ql
 by_cases c0:op=0
 . rw[zpv c0,zpv c0];exact⟨zqj _,zqj _⟩
 rw[zpu c0,zpu c0]
 by_cases c24:op=24
 .
  rw[zpv c24,zpv c24]
  have h1:=hn.var c24
  obtain⟨v,hv⟩:∃ v,vs[n.toNat]?=some v:=⟨_,zpk (by omega)⟩
  rw[zgO hv]
  exact hV.at_ _ _ hv
 rw[zpu c24,zpu c24]
 by_cases c6:op=6
 .
  have:=hn.k1 (.inl c6);have:=hk 0 (by omega)
  rw[zpv c6,zpv c6];dsimp only;omega
 rw[zpu c6,zpu c6]
 by_cases c7:op=7
 .
  rw[zpv c7]
  repeat rw[zpu (by omega)]
  exact hf _
 rw[zpu c7]
 by_cases c23:op=23
 .
  have h3:=hn.k3 (.inl c23)
  rw[zpv c23]
  repeat rw[zpu (show ¬ op=_ by omega)]
  rw[zpv (.inl c23)]
  have hm:=zdN (at2 l 1) (l.drop 2)
  split
  . have:=hk 1 (by omega);omega
  have h2:2<l.length:=by have:=da c23;omega
  have:=hk 2 (by omega)
  have:=hm.2 (at2 l 2) (by
   unfold at2
   rw[zpk h2]
   exact zre.2 ⟨0,by rw[List.getElem?_drop];exact zpk h2⟩)
  omega
 rw[zpu c23]
 by_cases c25:op=25
 .
  have h3:=hn.k3 (.inr c25)
  rw[zpv c25]
  repeat rw[zpu (show ¬ op=_ by omega)]
  rw[zpv (.inr c25)]
  have hm:=zdN (at2 l 1) (l.drop 2)
  have db:=qt (lki ks 0) (show (0:Int)<=(ks.length:Int) - 2 by omega)
  obtain⟨j,hj⟩:∃ j:Nat,yB (lki ks 0) 0 ((ks.length:Int) - 2)=j:=zqg db.1
  have de:j+2<=l.length:=by omega
  rw[hj,show (1+(j:Int)).toNat=j+1 by omega]
  have:=hk (j+1) (by omega)
  by_cases h2:j=0
  . subst h2;have:=hm.1;rw[zs3]at *;omega
  have:=hm.2 (at2 l (j+1)) (by
   unfold at2
   rw[zpk (show j+1<l.length by omega)]
   exact zre.2 ⟨j - 1,by rw[List.getElem?_drop,show 2+(j - 1)=j+1 by omega];exact zpk (by omega)⟩)
  omega
 rw[zpu c25]
 have hb:8<=op/\op<=22:=by omega
 have df:=hn.k2 hb
 have h0:=hk 0 (by omega)
 have h1:=hk 1 (by omega)
 have g0:=hg 0 (by omega)
 have g1:=hg 1 (by omega)
 generalize lki ks 0=x at *
 generalize lki ks 1=y at *
 generalize at2 l 0=r0 at *
 generalize at2 l 1=r1 at *
 by_cases c8:op=8
 . rw[zpv c8,xU,zpv c8];dsimp only;omega
 rw[zpu c8]
 by_cases c9:op=9
 . rw[zpv c9,xU,zpu c8,zpv c9];dsimp only;omega
 rw[zpu c9]
 by_cases c10:op=10
 .
  rw[zpv c10,xU,zpu c8,zpu c9,zpv c10]
  have:=zgY h0 h1
  unfold xR yY
  simp only[zqU,List.foldl_nil]
  omega
 rw[zpu c10]
 by_cases c11:op=11
 .
  rw[zpv c11,xU,zpu c8,zpu c9,zpu c10,zpv c11]
  have:=ziB x y (by omega)
  dsimp only
  split<;>omega
 rw[zpu c11]
 by_cases c12:op=12
 .
  rw[zpv c12,xU,zpu c8,zpu c9,zpu c10,zpu c11,zpv c12]
  have:=zcg x y
  dsimp only
  generalize x - y*x.fdiv y=m at *
  split<;>split<;>split<;>omega
 rw[zpu c12]
 by_cases c21:op=21
 .
  rw[zpv c21]
  have e:xU op x y=min x y:=by
   unfold xU
   repeat rw[zpu (show ¬ op=_ by omega)]
   rw[zpv c21]
  rw[e];dsimp only;omega
 rw[zpu c21]
 by_cases c22:op=22
 .
  rw[zpv c22]
  have e:xU op x y=max x y:=by
   unfold xU
   repeat rw[zpu (show ¬ op=_ by omega)]
  rw[e];dsimp only;omega
 rw[zpu c22,zpu (by omega)]
 have:=zgZ (a:=x) (b:=y) c8 c9 c10 c11 c12 c21 (by omega) (by omega)
 dsimp only;omega
theorem zk7 {vs:List Vr} {inp:Bool} (hv:∀ v ∈ vs,yr (v.low,v.high)) {vals:List Int} (hV:InV vs vals) (t:Tm):zu vs inp t=true->∀ r,rng vs t=some r->r.1<=xt vals t/\xt vals t<=r.2:=by
 induction t using znv with
 | h t ih =>
  intro hf r hr
  rw[yW,zpW,zpW]at hf
  rw[zbt,zs5]at hr
  obtain⟨l,h1,h2⟩:=hr
  have da:=qr _ _ h1
  have hn:NodeOk vs t.op t.n l:=jl da hf.1.1 hf.1.2 (fun x hx=>by
   obtain⟨k,hk,db⟩:=jE _ _ h1 x hx
   exact kL hv k (yg hf.2 hk) x db) hv
  have hY:=hf.1.1
  have hget:∀ (ks:List Tm) (m:List Rg),rngL vs ks=some m->∀ (i:Nat) k,ks[i]?=some k->rng vs k=some (at2 m i):=by
   intro ks
   induction ks with
   | nil=>intro m _ i k h;simp at h
   | cons y ys ihy =>
    intro m hm i k hk
    simp only[rngL,zs5,zsa]at hm
    obtain⟨z,g1,u,g2,rfl⟩:=hm
    cases i with
    | zero=>simp at hk;subst hk;simpa[at2] using g1
    | succ i=>simp at hk;have:=ihy u g2 i k hk;simpa[at2] using this
  have H:=ziC (n:=t.n) (op:=t.op) (ks:=valL vals t.kids) (l:=l) hV hn (by rw[zcW,da]) (fun h=>by
    unfold yL at hY
    rw[show zq t.op=3 by unfold zq;rw[h];rfl]at hY
    simp at hY;omega) (by
    by_cases h:0<=zq t.op\/zq t.op=-2
    .
     unfold zq at h
     repeat' split at h
     all_goals omega
    .
     exfalso
     have:=jD t.op
     rw[yo (.inl (by omega))]at hY
     cases hY) (fun i hi=>by
    obtain⟨k,hk⟩:∃ k,t.kids[i]?=some k:=⟨_,zpk (by omega)⟩
    rw[zcX hk]
    exact ih k (zpl hk) (yg hf.2 (zpl hk)) _ (hget _ _ h1 i k hk))
  rw[zbF]
  split at h2
  . cases h2;exact H
  cases h2
end Go.Proofs.YtckdhgbepmpgiaaGreat
namespace Go.GL
section
variable {P:Program} {env:Env} {w:World} {dst:Option Tmp} {ty:TypeId} {pos:String} {aft:Array Edge} {g:Option (Nat × Bool)} {t t':TypeId} {x y:Operand} {m j:Int}
theorem R.quo (hx:ev env x=some (.int .i64 m)) (hy:ev env y=some (.int .i64 j)) (hj:j ≠ 0) (hr:-9223372036854775808<m/\m<=9223372036854775807):yA P ⟨dst,.binOp .quo t x y t',ty,pos,aft,g⟩ env w (.int .i64 (m.tdiv j)) w:=by
 intro n a ha
 have h1:(m.tdiv j).natAbs<=m.natAbs:=zqq m j
 have h2:IntKind.i64.wrap (m.tdiv j)=m.tdiv j:=xY (by omega)
 simp[execOp,ha.eval hx,ha.eval hy,eqGuard_quo,binOp_quo,Op.intDiv,hj,h2]
theorem R.rem (hx:ev env x=some (.int .i64 m)) (hy:ev env y=some (.int .i64 j)) (hj:j ≠ 0) (_:-9223372036854775808<m/\m<=9223372036854775807):yA P ⟨dst,.binOp .rem t x y t',ty,pos,aft,g⟩ env w (.int .i64 (m.tmod j)) w:=by
 intro n a ha
 simp[execOp,ha.eval hx,ha.eval hy,eqGuard_rem,binOp_rem,Op.intDiv,hj]
end
theorem zdO (a b:Int) (hb:b ≠ 0):a.fdiv b=if a.tmod b ≠ 0/\(decide (a<0) ≠ decide (b<0)) then a.tdiv b - 1 else a.tdiv b:=by
 rw[Int.fdiv_eq_tdiv]
 have hd:b ∣ a ↔ a.tmod b=0:=⟨Int.tmod_eq_zero_of_dvd,Int.dvd_of_tmod_eq_zero⟩
 by_cases h:b ∣ a
 . rw[zpv h,zpu (fun h2=>h2.1 (hd.1 h))];omega
 have hm:a.tmod b ≠ 0:=fun h2=>h (hd.2 h2)
 rw[zpu h]
 by_cases ha:0<=a
 .
  rw[zpv ha]
  by_cases hY:0<=b
  . rw[zpv hY,zpu (fun h2=>h2.2 (by rw[zpx (by omega),zpx (by omega)]))];omega
  rw[zpu hY,zpv ⟨hm,by rw[zpx (by omega),zpw (by omega)];decide⟩]
 rw[zpu ha]
 by_cases hY:0<=b
 . rw[zpv hY,zpv ⟨hm,by rw[zpw (by omega),zpx (by omega)];decide⟩,Int.sign_eq_one_of_pos (by omega)]
 rw[zpu hY,zpu (fun h2=>h2.2 (by rw[zpw (by omega),zpw (by omega)])),Int.sign_eq_neg_one_of_neg (by omega)];omega
end Go.GL
namespace Go.Proofs.YtckdhgbepmpgiaaGreat
open Go.GL
abbrev zdP (a:Int):Prop := -1048576<=a/\a<=1048576
theorem kQ (a b:Int) (w:World) (ha:zdP a) (hb:zdP b):Calls Tryz.prog 170 #[.int .i64 a,.int .i64 b] w (Ret fun r w'=>r=.int .i64 (a.fdiv b)/\Ext w w'):=by
 have hE:=Keep.refl (fun _=>False) w
 refine znl Tryz.func170 O Tryz.ntmps170 O (Gs 12 O (zlF O (fun h0=>?_) (fun h0=>?_)))
 .
  subst h0
  refine Gs 7 O (zlV tr170 O ⟨_,rfl,by rw[Int.fdiv_zero],hE⟩)
 have hd:=zdO a b h0
 have hq:(a.tdiv b).natAbs<=a.natAbs:=zqq a b
 refine Gs 6 O (zna O O (R.quo O O h0 (by omega)) (Gs 8 O (zna O O (R.rem O O h0 (by omega)) (Gs 2 O (G.sp 15 O (fun h1=>?_) (fun h1=>?_))))))
 .
  refine Gs 8 O (zlF O (fun h2=>?_) (fun h2=>?_))
  . refine Ga 13 O (by omega) (zlV tr170 O ⟨_,rfl,by rw[hd,zpv ⟨h1,h2⟩],hE⟩)
  refine Gs 9 O (zlV tr170 O ⟨_,rfl,by rw[hd,zpu (fun h=>h2 h.2)],hE⟩)
 refine Gs 18 O (zlV tr170 O ⟨_,rfl,by rw[hd,zpu (fun h=>h1 h.1)],hE⟩)
theorem zaD (a b:Int) (w:World) (ha:zdP a) (hb:zdP b):Calls Tryz.prog 205 #[.int .i64 a,.int .i64 b] w (Ret fun r w'=>r=.int .i64 (a.fdiv b)/\Ext w w'):=by
 have hE:=Keep.refl (fun _=>False) w
 refine znl Tryz.func205 O Tryz.ntmps205 O (Gs 12 O (zlF O (fun h0=>?_) (fun h0=>?_)))
 .
  subst h0
  refine Gs 7 O (zlV tr205 O ⟨_,rfl,by rw[Int.fdiv_zero],hE⟩)
 have hd:=zdO a b h0
 have hq:(a.tdiv b).natAbs<=a.natAbs:=zqq a b
 refine Gs 6 O (zna O O (R.quo O O h0 (by omega)) (Gs 8 O (zna O O (R.rem O O h0 (by omega)) (Gs 2 O (G.sp 15 O (fun h1=>?_) (fun h1=>?_))))))
 .
  refine Gs 8 O (zlF O (fun h2=>?_) (fun h2=>?_))
  . refine Ga 13 O (by omega) (zlV tr205 O ⟨_,rfl,by rw[hd,zpv ⟨h1,h2⟩],hE⟩)
  refine Gs 9 O (zlV tr205 O ⟨_,rfl,by rw[hd,zpu (fun h=>h2 h.2)],hE⟩)
 refine Gs 18 O (zlV tr205 O ⟨_,rfl,by rw[hd,zpu (fun h=>h1 h.1)],hE⟩)
theorem zch (a b:Int) (hb:b ≠ 0):-(a.natAbs:Int) - b.natAbs<=b*a.fdiv b/\b*a.fdiv b<=(a.natAbs:Int)+b.natAbs:=by
 have h:=zcg a b
 generalize b*a.fdiv b=q at *
 omega
theorem zcY (a b:Int) (w:World) (ha:zdP a) (hb:zdP b):Calls Tryz.prog 171 #[.int .i64 a,.int .i64 b] w (Ret fun r w'=>r=.int .i64 (if b=0 then 0 else a - b*a.fdiv b)/\Ext w w'):=by
 have hE:=Keep.refl (fun _=>False) w
 refine znl Tryz.func171 O Tryz.ntmps171 O (Gs 12 O (zlF O (fun h0=>?_) (fun h0=>?_)))
 . refine Gs 7 O (zlV Tryz.results171 O ⟨_,rfl,by rw[zpv h0],hE⟩)
 have hm:=zch a b h0
 refine Gs 8 O (G.call O Tryz.call170 (kQ a b _ ha hb) ?_)
 rintro _ wz1 ⟨rfl,hY⟩
 replace hE:=Tr1 hY hE
 refine Ga 6 O (by omega) (zlV Tryz.results171 O ⟨_,rfl,by rw[zpu h0],hE⟩)
theorem zdQ (a b:Int) (w:World) (ha:zdP a) (hb:zdP b):Calls Tryz.prog 206 #[.int .i64 a,.int .i64 b] w (Ret fun r w'=>r=.int .i64 (if b=0 then 0 else a - b*a.fdiv b)/\Ext w w'):=by
 have hE:=Keep.refl (fun _=>False) w
 refine znl Tryz.func206 O Tryz.ntmps206 O (Gs 12 O (zlF O (fun h0=>?_) (fun h0=>?_)))
 . refine Gs 7 O (zlV Tryz.results206 O ⟨_,rfl,by rw[zpv h0],hE⟩)
 have hm:=zch a b h0
 refine Gs 8 O (G.call O Tryz.call205 (zaD a b _ ha hb) ?_)
 rintro _ wz1 ⟨rfl,hY⟩
 replace hE:=Tr1 hY hE
 refine Ga 6 O (by omega) (zlV Tryz.results206 O ⟨_,rfl,by rw[zpu h0],hE⟩)
theorem zcZ (op a b:Int) (w:World) (ha:zdP a) (hb:zdP b):Calls Tryz.prog 133 #[.int .i64 op,.int .i64 a,.int .i64 b] w (Ret fun r w'=>r=.int .i64 (xU op a b)/\Ext w w'):=by
 have hE:=Keep.refl (fun _=>False) w
 have dJ:=zay ha hb
 refine znm Tryz.func133 O Tryz.ntmps133 O (Gs 18 O (zlF O (fun dl=>?_) (fun dl=>?_)))
 . refine Ga 11 O (by omega) (zlV tr133 O ⟨_,rfl,by simp[xU,dl],hE⟩)
 refine Gs 6 O (zlF O (fun dm=>?_) (fun dm=>?_))
 . refine Ga 11 O (by omega) (zlV tr133 O ⟨_,rfl,by simp[xU,dm],hE⟩)
 refine Gs 6 O (zlF O (fun dr=>?_) (fun dr=>?_))
 . refine Ga 11 O (by omega) (zlV tr133 O ⟨_,rfl,by simp[xU,dr],hE⟩)
 refine Gs 6 O (zlF O (fun dt=>?_) (fun dt=>?_))
 .
  refine Gs 4 O (G.call O Tryz.call170 (kQ a b _ ha hb) ?_)
  rintro _ wz5 ⟨rfl,dG⟩
  replace hE:=Tr1 dG hE
  refine Gs 6 O (zlV tr133 O ⟨_,rfl,by simp[xU,dt],hE⟩)
 refine Gs 6 O (zlF O (fun du=>?_) (fun du=>?_))
 .
  refine Gs 4 O (G.call O Tryz.call171 (zcY a b _ ha hb) ?_)
  rintro _ wz7 ⟨rfl,dH⟩
  replace hE:=Tr1 dH hE
  refine Gs 6 O (zlV tr133 O ⟨_,rfl,by simp[xU,du],hE⟩)
 refine Gs 6 O (zlF O (fun dw=>?_) (fun dw=>?_))
 .
  refine Gs 5 O (G.call O tc131 (zN _ _) ?_)
  rintro _ wz9 ⟨rfl,dI⟩
  replace hE:=Tr1 dI hE
  refine Gs 6 O (zlV tr133 O ⟨_,rfl,by simp[xU,yE,dw],hE⟩)
 refine Gs 6 O (zlF O (fun db=>?_) (fun db=>?_))
 .
  refine Gs 5 O (G.call O tc131 (zN _ _) ?_)
  rintro _ wz11 ⟨rfl,dx⟩
  replace hE:=Tr1 dx hE
  refine Gs 6 O (zlV tr133 O ⟨_,rfl,by simp[xU,yE,db],hE⟩)
 refine Gs 6 O (zlF O (fun dc=>?_) (fun dc=>?_))
 .
  refine Gs 5 O (G.call O tc131 (zN _ _) ?_)
  rintro _ wz13 ⟨rfl,dy⟩
  replace hE:=Tr1 dy hE
  refine Gs 6 O (zlV tr133 O ⟨_,rfl,by simp[xU,yE,dc],hE⟩)
 refine Gs 6 O (zlF O (fun de=>?_) (fun de=>?_))
 .
  refine Gs 5 O (G.call O tc131 (zN _ _) ?_)
  rintro _ wz15 ⟨rfl,dz⟩
  replace hE:=Tr1 dz hE
  refine Gs 6 O (zlV tr133 O ⟨_,rfl,by simp[xU,yE,de],hE⟩)
 refine Gs 6 O (zlF O (fun df=>?_) (fun df=>?_))
 .
  refine Gs 5 O (G.call O tc131 (zN _ _) ?_)
  rintro _ wz17 ⟨rfl,dA⟩
  replace hE:=Tr1 dA hE
  refine Gs 6 O (zlV tr133 O ⟨_,rfl,by simp[xU,yE,df],hE⟩)
 refine Gs 6 O (zlF O (fun dg=>?_) (fun dg=>?_))
 .
  refine Gs 5 O (G.call O tc131 (zN _ _) ?_)
  rintro _ wz19 ⟨rfl,dB⟩
  replace hE:=Tr1 dB hE
  refine Gs 6 O (zlV tr133 O ⟨_,rfl,by simp[xU,yE,dg],hE⟩)
 refine Gs 6 O (zlF O (fun hY=>?_) (fun hY=>?_))
 .
  refine Gs 5 O (G.sp 73 O (fun dh=>?_) (fun dh=>?_))
  .
   refine Gs 3 O (G.call O tc131 (zN _ _) ?_)
   rintro _ wz22 ⟨rfl,dC⟩
   replace hE:=Tr1 dC hE
   refine Gs 6 O (zlV tr133 O ⟨_,rfl,by simp[xU,yE,hY,dh],hE⟩)
  refine Gs 3 O (G.call O tc131 (zN _ _) ?_)
  rintro _ wz23 ⟨rfl,dD⟩
  replace hE:=Tr1 dD hE
  refine Gs 6 O (zlV tr133 O ⟨_,rfl,by simp[xU,yE,hY,dh],hE⟩)
 refine Gs 6 O (zlF O (fun da=>?_) (fun da=>?_))
 .
  refine Gs 5 O (G.sp 82 O (fun di=>?_) (fun di=>?_))
  .
   refine Gs 3 O (G.call O tc131 (zN _ _) ?_)
   rintro _ wz26 ⟨rfl,dE⟩
   replace hE:=Tr1 dE hE
   refine Gs 6 O (zlV tr133 O ⟨_,rfl,by simp[xU,yE,da,di],hE⟩)
  refine Gs 3 O (G.call O tc131 (zN _ _) ?_)
  rintro _ wz27 ⟨rfl,dF⟩
  replace hE:=Tr1 dF hE
  refine Gs 6 O (zlV tr133 O ⟨_,rfl,by simp[xU,yE,da,di],hE⟩)
 refine Gs 6 O (zlF O (fun dk=>?_) (fun dk=>?_))
 . refine Gs 11 O (zlV tr133 O ⟨_,rfl,by simp[xU,dk],hE⟩)
 refine Gs 12 O (zlV tr133 O ⟨_,rfl,by simp[xU,dl,dm,dr,dt,du,dw,db,dc,de,df,dg,hY,da,dk],hE⟩)
theorem zdR (op a b:Int) (w:World) (ha:zdP a) (hb:zdP b):Calls Tryz.prog 173 #[.int .i64 op,.int .i64 a,.int .i64 b] w (Ret fun r w'=>r=.int .i64 (xU op a b)/\Ext w w'):=by
 have hE:=Keep.refl (fun _=>False) w
 have dL:=zay ha hb
 refine znm Tryz.func173 O Tryz.ntmps173 O (Gs 18 O (zlF O (fun dl=>?_) (fun dl=>?_)))
 . refine Ga 11 O (by omega) (zlV tr173 O ⟨_,rfl,by simp[xU,dl],hE⟩)
 refine Gs 6 O (zlF O (fun dm=>?_) (fun dm=>?_))
 . refine Ga 11 O (by omega) (zlV tr173 O ⟨_,rfl,by simp[xU,dm],hE⟩)
 refine Gs 6 O (zlF O (fun dr=>?_) (fun dr=>?_))
 . refine Ga 11 O (by omega) (zlV tr173 O ⟨_,rfl,by simp[xU,dr],hE⟩)
 refine Gs 6 O (zlF O (fun dt=>?_) (fun dt=>?_))
 .
  refine Gs 4 O (G.call O Tryz.call205 (zaD a b _ ha hb) ?_)
  rintro _ wz5 ⟨rfl,dI⟩
  replace hE:=Tr1 dI hE
  refine Gs 6 O (zlV tr173 O ⟨_,rfl,by simp[xU,dt],hE⟩)
 refine Gs 6 O (zlF O (fun du=>?_) (fun du=>?_))
 .
  refine Gs 4 O (G.call O Tryz.call206 (zdQ a b _ ha hb) ?_)
  rintro _ wz7 ⟨rfl,dJ⟩
  replace hE:=Tr1 dJ hE
  refine Gs 6 O (zlV tr173 O ⟨_,rfl,by simp[xU,du],hE⟩)
 refine Gs 6 O (zlF O (fun dw=>?_) (fun dw=>?_))
 .
  refine Gs 5 O (G.call O tc172 (yn _ _) ?_)
  rintro _ wz9 ⟨rfl,dK⟩
  replace hE:=Tr1 dK hE
  refine Gs 6 O (zlV tr173 O ⟨_,rfl,by simp[xU,yE,dw],hE⟩)
 refine Gs 6 O (zlF O (fun db=>?_) (fun db=>?_))
 .
  refine Gs 5 O (G.call O tc172 (yn _ _) ?_)
  rintro _ wz11 ⟨rfl,dx⟩
  replace hE:=Tr1 dx hE
  refine Gs 6 O (zlV tr173 O ⟨_,rfl,by simp[xU,yE,db],hE⟩)
 refine Gs 6 O (zlF O (fun dc=>?_) (fun dc=>?_))
 .
  refine Gs 5 O (G.call O tc172 (yn _ _) ?_)
  rintro _ wz13 ⟨rfl,dy⟩
  replace hE:=Tr1 dy hE
  refine Gs 6 O (zlV tr173 O ⟨_,rfl,by simp[xU,yE,dc],hE⟩)
 refine Gs 6 O (zlF O (fun de=>?_) (fun de=>?_))
 .
  refine Gs 5 O (G.call O tc172 (yn _ _) ?_)
  rintro _ wz15 ⟨rfl,dz⟩
  replace hE:=Tr1 dz hE
  refine Gs 6 O (zlV tr173 O ⟨_,rfl,by simp[xU,yE,de],hE⟩)
 refine Gs 6 O (zlF O (fun df=>?_) (fun df=>?_))
 .
  refine Gs 5 O (G.call O tc172 (yn _ _) ?_)
  rintro _ wz17 ⟨rfl,dA⟩
  replace hE:=Tr1 dA hE
  refine Gs 6 O (zlV tr173 O ⟨_,rfl,by simp[xU,yE,df],hE⟩)
 refine Gs 6 O (zlF O (fun dg=>?_) (fun dg=>?_))
 .
  refine Gs 5 O (G.call O tc172 (yn _ _) ?_)
  rintro _ wz19 ⟨rfl,dB⟩
  replace hE:=Tr1 dB hE
  refine Gs 6 O (zlV tr173 O ⟨_,rfl,by simp[xU,yE,dg],hE⟩)
 refine Gs 6 O (zlF O (fun hY=>?_) (fun hY=>?_))
 .
  refine Gs 5 O (G.sp 73 O (fun dh=>?_) (fun dh=>?_))
  .
   refine Gs 3 O (G.call O tc172 (yn _ _) ?_)
   rintro _ wz22 ⟨rfl,dC⟩
   replace hE:=Tr1 dC hE
   refine Gs 6 O (zlV tr173 O ⟨_,rfl,by simp[xU,yE,hY,dh],hE⟩)
  refine Gs 3 O (G.call O tc172 (yn _ _) ?_)
  rintro _ wz23 ⟨rfl,dD⟩
  replace hE:=Tr1 dD hE
  refine Gs 6 O (zlV tr173 O ⟨_,rfl,by simp[xU,yE,hY,dh],hE⟩)
 refine Gs 6 O (zlF O (fun da=>?_) (fun da=>?_))
 .
  refine Gs 5 O (G.sp 82 O (fun di=>?_) (fun di=>?_))
  .
   refine Gs 3 O (G.call O tc172 (yn _ _) ?_)
   rintro _ wz26 ⟨rfl,dE⟩
   replace hE:=Tr1 dE hE
   refine Gs 6 O (zlV tr173 O ⟨_,rfl,by simp[xU,yE,da,di],hE⟩)
  refine Gs 3 O (G.call O tc172 (yn _ _) ?_)
  rintro _ wz27 ⟨rfl,dF⟩
  replace hE:=Tr1 dF hE
  refine Gs 6 O (zlV tr173 O ⟨_,rfl,by simp[xU,yE,da,di],hE⟩)
 refine Gs 6 O (zlF O (fun dk=>?_) (fun dk=>?_))
 .
  refine Gs 4 O (G.call O tc114 (zt a b _) ?_)
  rintro _ wz29 ⟨rfl,dG⟩
  replace hE:=Tr1 dG hE
  refine Gs 6 O (zlV tr173 O ⟨_,rfl,by simp[xU,dk],hE⟩)
 refine Gs 7 O (G.call O tc113 (zL a b _) ?_)
 rintro _ wz30 ⟨rfl,dH⟩
 replace hE:=Tr1 dH hE
 refine Gs 4 O (zlV tr173 O ⟨_,rfl,by simp[xU,dl,dm,dr,dt,du,dw,db,dc,de,df,dg,hY,da,dk],hE⟩)
structure TmOk (vs:List Vr) (vals:List Int) (t:Tm):Prop where
 ops:t.op=0\/t.op=24\/t.op=6\/t.op=7\/8<=t.op/\t.op<=22\/t.op=23\/t.op=25
 k1:t.op=6\/t.op=7->t.kids.length=1
 k2:8<=t.op/\t.op<=22->t.kids.length=2
 k3:t.op=23->t.kids.length=3
 k25:t.op=25->2<=t.kids.length/\t.kids.length<=33
 var:t.op=24->0<=t.n/\t.n<vs.length
 self:zdP (xt vals t)
 kid:∀ k ∈ t.kids,zdP (xt vals k)
theorem zlw {vs:List Vr} {inp:Bool} (hv:∀ v ∈ vs,yr (v.low,v.high)) {vals:List Int} (hV:InV vs vals) {t:Tm} (hf:zu vs inp t=true) (hr:(rng vs t).isSome=true):TmOk vs vals t/\∀ k ∈ t.kids,zu vs inp k=true/\(rng vs k).isSome=true:=by
 obtain⟨r,hr⟩:=zs8.1 hr
 have dc:∀ k,zu vs inp k=true->∀ r,rng vs k=some r->zdP (xt vals k):=fun k h1 r h2=>by
  have h3:=zk7 hv hV k h1 r h2
  have h4:=kL hv k h1 r h2
  unfold yr at h4
  exact⟨by omega,by omega⟩
 have da:=dc t hf r hr
 rw[yW,zpW,zpW]at hf
 rw[zbt,zs5]at hr
 obtain⟨l,h1,h2⟩:=hr
 have hY:=qr _ _ h1
 have de:∀ (ks:List Tm) (m:List Rg),rngL vs ks=some m->∀ k ∈ ks,(rng vs k).isSome=true:=by
  intro ks
  induction ks with
  | nil=>intro m _ k h;simp at h
  | cons y ys ihy =>
   intro m hm k hk
   simp only[rngL,zs5,zsa]at hm
   obtain⟨z,g1,u,g2,rfl⟩:=hm
   rcases zpA.1 hk with rfl | hk
   . rw[g1];rfl
   exact ihy u g2 k hk
 have db:∀ k ∈ t.kids,zu vs inp k=true/\(rng vs k).isSome=true:=fun k hk=>⟨yg hf.2 hk,de _ _ h1 k hk⟩
 have hn:NodeOk vs t.op t.n l:=jl hY hf.1.1 hf.1.2 (fun x hx=>by
  obtain⟨k,hk,df⟩:=jE _ _ h1 x hx
  exact kL hv k (yg hf.2 hk) x df) hv
 refine⟨⟨?_,fun h=>by rw[<- hY];exact hn.k1 h,fun h=>by rw[<- hY];exact hn.k2 h,fun h=>?_,fun h=>by rw[<- hY];exact hn.k3 (.inr h),hn.var,da,fun k hk=>?_⟩,db⟩
 .
  by_cases h:0<=zq t.op\/zq t.op=-2
  .
   unfold zq at h
   repeat' split at h
   all_goals omega
  exfalso
  have:=jD t.op
  have h3:=hf.1.1
  rw[yo (.inl (by omega))]at h3
  cases h3
 .
  have h3:=hf.1.1
  unfold yL at h3
  rw[show zq t.op=3 by unfold zq;rw[h];rfl]at h3
  simp at h3;omega
 obtain⟨h3,h4⟩:=db k hk
 obtain⟨r',h5⟩:=zs8.1 h4
 exact dc k h3 r' h5
def zk8 (vals:List Int) (k:Tm):Prop:=∀ (cs:List Value) (D Dv:Nat->Prop) (w:World) (vv:Value),SlR 1 zC Dv w vv vals->RTm D w k cs->Calls Tryz.prog 90 #[vv,.agg cs.toArray] w (Ret fun r w'=>r=.int .i64 (xt vals k)/\Ext w w')
theorem zkR (vals:List Int) (t:Tm) (i:Nat) (k:Tm) (hk:t.kids[i]?=some k) (b2 b3:Nat) (vv kv:Value) (D Dv:Nat->Prop) (w:World) (db:Blk w b2 [vv] 27) (dc:Blk w b3 [.int .i64 t.op,.int .i64 t.n,kv] 70) (da:SlR 3 RTm D w kv t.kids) (de:SlR 1 zC Dv w vv vals) (ih:zk8 vals k) :
  Calls Tryz.prog 130 #[.int .i64 i,.pointer (some ⟨b2,0,none⟩),.pointer (some ⟨b3,0,none⟩)] w (Ret fun r w'=>r=.int .i64 (xt vals k)/\Ext w w'):=by
 have hE:=Keep.refl (fun _=>False) w
 have hi:=(zpy.1 hk).1
 obtain⟨a3,c3,rfl⟩:=da.form
 obtain⟨bk,ok,ck,df,_,dg,dh⟩:=da.at hk
 obtain⟨kv',rfl,di⟩:=dh.get
 refine znm Tryz.func130 O Tryz.ntmps130 O (Gs 6 O (Dw (fun q=>Ext w q) [] (fun wd1 hD _=>?_)))
 refine WD.take 0 O (by kernel_rfl) O O O hD (fun w1 hY=>R.load tg27 O ((hY.blk db (fun h=>h)).cells 0 _ O)) (Ds [1] (by kernel_rfl) O (WD.take 2 O (by kernel_rfl) O O O hD (fun w1 hY=>R.load tg68 O ((hY.blk dc (fun h=>h)).cells 2 _ O)) (Ds [3] (by kernel_rfl) O (zmI 4 O (by kernel_rfl) O O O (fun w1=>zmh tR68 ts70 O O df (by omega)) (WD.take 5 O (by kernel_rfl) O O O hD (fun w1 hY=>zmj tg70 ts70 O (by rfl) (hY.cells dg (fun h=>h))) (WD.call 6 O (by kernel_rfl) O O O (F.call (vs:=[_,_]) Tryz.call90 O) (ih _ D Dv _ _ (de.ext zb hD) (RTm.put (di.ext zh hD))) ?_))))))
 rintro _ wz2 ⟨rfl,dk⟩
 replace hD:=hD.ext dk
 refine⟨fun _=>hD,?_⟩
 refine Ds [7] (by kernel_rfl) O (G.done (by kernel_rfl) ?_ _)
 replace hE:=Tr1 hD hE
 refine Gs 2 O (zlV Tryz.results130 O ⟨_,rfl,rfl,hE⟩)
theorem ziD {vs:List Vr} {inp:Bool} (hv:∀ v ∈ vs,yr (v.low,v.high)) {vals:List Int} (hV:InV vs vals) (t:Tm):zu vs inp t=true->(rng vs t).isSome=true->zk8 vals t:=by
 induction t using znv with
 | h t ih =>
 intro hf hr cs D Dv w vv db ht
 obtain⟨ok,dG⟩:=zlw hv hV hf hr
 have ihk:∀ k ∈ t.kids,zk8 vals k:=fun k hk=>ih k hk (dG k hk).1 (dG k hk).2
 obtain⟨kv,rfl,dc⟩:=ht.get
 obtain⟨a3,c3,rfl⟩:=dc.form
 obtain⟨av,cv,rfl⟩:=db.form
 have di:=zbF vals t
 have dL:=ok.ops
 have hE:=Keep.refl (fun _=>False) w
 refine znl Tryz.func90 O Tryz.ntmps90 O (Gs 2 O (zmr O O (M.box O O) ?_))
 rintro _ dM ⟨b2,rfl,dk,dH,da,dl⟩
 have dx:_<=b2:=zpq hE.size (zrS dk.symm)
 obtain⟨hE,dc,db⟩:=Tr3 dl hE dc db
 refine zmr O O (M.box O O) ?_
 rintro _ dg ⟨b3,rfl,dm,dI,hY,dr⟩
 have dt:b2 ≠ b3:=by have:=da.lt;omega
 have dy:_<=b3:=zpq hE.size (zrS dm.symm)
 obtain⟨hE,dc,db,da⟩:=Tr4 dr hE dc db da
 refine Gs 13 O (zne O tg67 (hY.cells 0 _ O) (Gs 9 O ?_))
 have de:∀ (i:Int) (j:Nat) (k:Tm),i=(j:Int)->t.kids[j]?=some k->∀ w',Ext dg w'->Calls Tryz.prog 130 #[.int .i64 i,.pointer (some ⟨b2,0,none⟩),.pointer (some ⟨b3,0,none⟩)] w' (Ret fun r w''=>r=.int .i64 (xt vals k)/\Ext w' w''):=fun i j k dJ hk w' dw=>by
  subst dJ
  exact zkR vals t j k hk b2 b3 _ _ D Dv w' (dw.blk da (fun h=>h)) (dw.blk hY (fun h=>h)) (dc.ext zh dw) (db.ext zb dw) (ihk k (zpl hk))
 have hget:∀ i:Nat,i<t.kids.length->∃ k,t.kids[i]?=some k/\lki (valL vals t.kids) i=xt vals k/\zdP (xt vals k):=fun i hi=>by
  obtain⟨k,hk⟩:∃ k,t.kids[i]?=some k:=⟨_,zpk hi⟩
  exact⟨k,hk,zcX hk,ok.kid k (zpl hk)⟩
 have hX:=Keep.refl (fun _=>False) dg
 refine zlF O (fun c0=>?_) (fun c0=>?_)
 . refine Gs 3 O (zne O tg3 (hY.cells 1 _ O) (Gs 6 O (zlV tr90 O ⟨_,rfl,by rw[di,ql,zpv c0],hE⟩)))
 refine Gs 6 O (zlF O (fun c24=>?_) (fun c24=>?_))
 .
  have hn:=ok.var c24
  have d7:=hV.len
  obtain⟨bx,ox,cx,dN,_,dO,rfl⟩:=db.at (zbE (l:=vals) (i:=t.n.toNat) (by omega))
  refine Gs 2 O (zne O tg27 (da.cells 0 _ O) (Gs 1 O (zne O tg3 (hY.cells 1 _ O) (zna O O (zmh tR27 ts3 O O dN (by omega)) (zne O tg3 (dO 0 _ O) (Gs 6 O (zlV tr90 O ⟨_,rfl,by rw[di,ql,zpu c0,zpv c24],hE⟩)))))))
 refine Gs 6 O (zlF O (fun c6=>?_) (fun c6=>?_))
 .
  have h1:=ok.k1 (.inl c6)
  obtain⟨k0,dh,df,du⟩:=hget 0 (by omega)
  refine Gs 3 O (zmo O tc130 (de 0 0 k0 O dh _ hX) ?_)
  rintro _ wz1 ⟨rfl,dQ⟩
  obtain⟨hE,dc,db,da,hY,hX⟩:=Tr6 dQ hE dc db da hY hX
  refine Ga 7 O (by omega) (zlV tr90 O ⟨_,rfl,by rw[di,ql,zpu c0,zpu c24,zpv c6,df],hE⟩)
 refine Gs 6 O (zlF O (fun c7=>?_) (fun c7=>?_))
 .
  have h1:=ok.k1 (.inr c7)
  obtain⟨k0,dh,df,du⟩:=hget 0 (by omega)
  refine Gs 3 O (zmo O tc130 (de 0 0 k0 O dh _ hX) ?_)
  rintro _ wz2 ⟨rfl,dR⟩
  obtain⟨hE,dc,db,da,hY,hX⟩:=Tr6 dR hE dc db da hY hX
  refine Gs 1 O (G.call O tc131 (zN _ _) ?_)
  rintro _ wz3 ⟨rfl,dS⟩
  obtain⟨hE,dc,db,da,hY,hX⟩:=Tr6 dS hE dc db da hY hX
  refine Gs 6 O (zlV tr90 O ⟨_,rfl,by rw[di,ql,zpu c0,zpu c24,zpu c6,zpv c7,df];rfl,hE⟩)
 refine Gs 6 O (zlF O (fun c23=>?_) (fun c23=>?_))
 .
  have h1:=ok.k3 c23
  obtain⟨k0,dh,df,du⟩:=hget 0 (by omega)
  obtain⟨k1,dz,dA,dK⟩:=hget 1 (by omega)
  obtain⟨k2,dT,dU,d8⟩:=hget 2 (by omega)
  refine Gs 4 O (zmo O tc130 (de 0 0 k0 O dh _ hX) ?_)
  rintro _ wz4 ⟨rfl,dV⟩
  obtain⟨hE,dc,db,da,hY,hX⟩:=Tr6 dV hE dc db da hY hX
  refine Gs 3 O (zlF O (fun z=>?_) (fun z=>?_))
  .
   refine Gs 3 O (zmo O tc130 (de 1 1 k1 O dz _ hX) ?_)
   rintro _ wz5 ⟨rfl,dW⟩
   obtain⟨hE,dc,db,da,hY,hX⟩:=Tr6 dW hE dc db da hY hX
   refine Gs 7 O (zlV tr90 O ⟨_,rfl,by rw[di,ql,zpu c0,zpu c24,zpu c6,zpu c7,zpv c23,df,zpv z,dA],hE⟩)
  refine Gs 5 O (zmo O tc130 (de 2 2 k2 O dT _ hX) ?_)
  rintro _ wz6 ⟨rfl,dX⟩
  obtain⟨hE,dc,db,da,hY,hX⟩:=Tr6 dX hE dc db da hY hX
  refine Gs 6 O (zlV tr90 O ⟨_,rfl,by rw[di,ql,zpu c0,zpu c24,zpu c6,zpu c7,zpv c23,df,zpu z,dU],hE⟩)
 refine Gs 6 O (zlF O (fun c25=>?_) (fun c25=>?_))
 .
  have h1:=ok.k25 c25
  obtain⟨k0,dh,df,du⟩:=hget 0 (by omega)
  have d9:=qt (xt vals k0) (show (0:Int)<=(t.kids.length:Int) - 2 by omega)
  obtain⟨kj,dY,dZ,dJ⟩:=hget (1+yB (xt vals k0) 0 ((t.kids.length:Int) - 2)).toNat (by omega)
  refine Gs 1 O (Dw (fun q=>Ext dg q) [] (fun wd7 hD _=>?_))
  refine Ds [0,1,3] (by kernel_rfl) O (WD.take 4 O (by kernel_rfl) O O O hD (fun w1 dB=>R.load tg68 O ((dB.blk hY (fun h=>h)).cells 2 _ O)) (Da [5,6] (by kernel_rfl) O (by omega) (WD.call 2 O (by kernel_rfl) O O O (zmn (vs:=[_]) tc130 O O) (de 0 0 k0 O dh _ (hX.ext hD)) ?_)))
  rintro _ wz8 ⟨rfl,d5⟩
  replace hD:=hD.ext d5
  refine⟨fun _=>hD,?_⟩
  refine WD.call 7 O (by kernel_rfl) O O O (F.call (vs:=[_,_,_]) Tryz.call132 O) (zdw _ _ _ _ (by omega)) ?_
  rintro _ wz9 ⟨rfl,d6⟩
  replace hD:=hD.ext d6
  refine⟨fun _=>hD,?_⟩
  refine Da [8] (by kernel_rfl) O (by omega) (WD.call 9 O (by kernel_rfl) O O O (zmn (vs:=[_]) tc130 O O) (de _ _ kj (by omega) dY _ (hX.ext hD)) ?_)
  rintro _ wz10 ⟨rfl,dC⟩
  replace hD:=hD.ext dC
  refine⟨fun _=>hD,?_⟩
  refine Ds [10] (by kernel_rfl) O (G.done (by kernel_rfl) ?_ _)
  obtain⟨hE,dc,db,da,hY,hX⟩:=Tr6 hD hE dc db da hY hX
  refine Gs 4 O (zlV tr90 O ⟨_,rfl,by rw[di,ql,zpu c0,zpu c24,zpu c6,zpu c7,zpu c23,zpv c25,df,zcW,dZ],hE⟩)
 have h1:=ok.k2 (by omega)
 obtain⟨k0,dh,df,du⟩:=hget 0 (by omega)
 obtain⟨k1,dz,dA,dK⟩:=hget 1 (by omega)
 refine Gs 4 O (Dw (fun q=>Ext dg q) [] (fun wd11 hD _=>?_))
 refine Ds [0] (by kernel_rfl) O (WD.take 1 O (by kernel_rfl) O O O hD (fun w1 dB=>R.load tg67 O ((dB.blk hY (fun h=>h)).cells 0 _ O)) (Ds [2,4] (by kernel_rfl) O (WD.call 3 O (by kernel_rfl) O O O (zmn (vs:=[_]) tc130 O O) (de 0 0 k0 O dh _ (hX.ext hD)) ?_)))
 rintro _ wz12 ⟨rfl,dD⟩
 replace hD:=hD.ext dD
 refine⟨fun _=>hD,?_⟩
 refine WD.call 5 O (by kernel_rfl) O O O (zmn (vs:=[_]) tc130 O O) (de 1 1 k1 O dz _ (hX.ext hD)) ?_
 rintro _ wz13 ⟨rfl,dE⟩
 replace hD:=hD.ext dE
 refine⟨fun _=>hD,?_⟩
 refine WD.call 6 O (by kernel_rfl) O O O (F.call (vs:=[_,_,_]) Tryz.call133 O) (zcZ _ _ _ _ du dK) ?_
 rintro _ wz14 ⟨rfl,dF⟩
 replace hD:=hD.ext dF
 refine⟨fun _=>hD,?_⟩
 refine Ds [7] (by kernel_rfl) O (G.done (by kernel_rfl) ?_ _)
 obtain⟨hE,dc,db,da,hY,hX⟩:=Tr6 hD hE dc db da hY hX
 refine Gs 2 O (zlV tr90 O ⟨_,rfl,by rw[di,ql,zpu c0,zpu c24,zpu c6,zpu c7,zpu c23,zpu c25,df,dA],hE⟩)
theorem zbG {vs:List Vr} (hg:∀ v ∈ vs,yr (v.low,v.high)) {vals:List Int} (hV:InV vs vals) (t:Tm) (hf:zu vs false t=true) (hr:(rng vs t).isSome=true) (dN:t.nodes<=1000000) (cs:List Value) (D Dv Dl:Nat->Prop) (w:World) (vv lv:Value) (da:SlR 5 RVr Dv w vv vs) (dc:SlR 1 zC Dl w lv vals) (ht:RTm D w t cs) :
  Calls Tryz.prog 45 #[vv,lv,.agg cs.toArray] w (Ret fun r w'=>r=.tuple #[.int .i64 (xt vals t),.int .i64 0]/\Ext w w'):=by
 have d5:=hV.len
 have d6:=ht.one
 obtain⟨kv,rfl,db⟩:=ht.get
 obtain⟨a3,c3,rfl⟩:=db.form
 obtain⟨av,cv,rfl⟩:=da.form
 obtain⟨al,cl,rfl⟩:=dc.form
 have d7:=da.max
 have hE:=Keep.refl (fun _=>False) w
 refine znm Tryz.func45 O Tryz.ntmps45 O (Gs 2 O (zmr O O (M.box O O) ?_))
 rintro _ d8 ⟨b,rfl,dy,dO,hY,dz⟩
 have dH:_<=b:=zpq hE.size (zrS dy.symm)
 obtain⟨hE,db,da,dc⟩:=Tr4 dz hE db da dc
 refine Gs 13 O (G.sp 17 O (fun dI=>?_) (fun dI=>?_))
 . exact absurd dI (by omega)
 refine Gs 1 O (zng O tg70 ts70 hY.cells O (G.call O Tryz.call87 (kK vs false _ Dv t _ D _ da (RTm.put db)) ?_))
 rintro _ wz1 ⟨rfl,dQ⟩
 obtain⟨hE,db,da,dc,hY⟩:=Tr5 dQ hE db da dc hY
 rw[hf]
 refine zna O O (zmT O (by first | exact za | rfl)) (Gs 3 O (G.ff O (rfl) (Gs 11 O (G.loop (σ:=Nat) (fun i=>[(0,.slice av vs.length cv),(1,.slice al vals.length cl),(5,.pointer (some ⟨b,0,none⟩)),(23,.slice av vs.length cv),(24,.int .i64 vs.length),(25,.int .i64 i)]) (fun i=>fun w'=>i<=vs.length/\Ext wz1 w') (fun i=>vs.length - i) (0) (Sub.of O) (⟨zpz _,Keep.refl _ _⟩) ?_))))
 rintro i w2 ⟨hi,dh⟩
 obtain⟨hE,db,da,dc,hY⟩:=Tr5 dh hE db da dc hY
 refine Gs 6 O (zlF O (fun d9=>?_) (fun ea=>?_))
 .
  obtain⟨x,dr,dA⟩:=gE_ vs (i) (by omega)
  obtain⟨dR,eb,ec,dB,_,df,dt⟩:=da.at dr
  have dC:=RVr.one dt
  obtain rfl:=dt
  have dJ:dR<_:=zpm _ _ (df 0 _ rfl)
  have dx:=hg x dA
  have dS:zaO x.low x.high=true:=by unfold yr at dx;unfold zaO;exact zpw ⟨dx.2.1,dx.1,dx.2.2⟩
  have ed:=hV.at_ i x dr
  obtain⟨bx,ox,cx,dK,_,dm,dT⟩:=dc.at (zbE (l:=vals) (i:=i) (by omega))
  obtain rfl:=dT
  refine Gs 7 O (zna O O (zmh tR22 ts142 O O dB (by omega)) (zng O tg142 ts142 df O (zmr O O (M.alloc (cs:=_) tz142 O) ?_)))
  rintro _ wa2 ⟨c,rfl,dD,dU,de,di⟩
  refine Gs 1 O (zmw O (zmx ts142 O O O O dC de (by simp)) ?_)
  rintro dV ⟨_,de,du⟩
  replace di:=di.trans du (fun q hq h=>by have h:q=c:=h;omega)
  have dE:b ≠ c:=by have:=hY.lt;omega
  have dL:_<=c:=zpq hE.size (zrS dD.symm)
  obtain⟨hE,db,da,dc,hY,dh,df⟩:=Tr7 di hE db da dc hY dh df
  replace dm:=Tr1 di dm
  refine Gs 3 O (Dw (fun q=>Ext dV q) [] (fun wd3 hD _=>?_))
  refine Ds [0] (by kernel_rfl) O (WD.take 1 O (by kernel_rfl) O O O hD (fun w1 dg=>R.load tg3 O ((dg.blk de (fun h=>h)).cells 2 _ O)) (Ds [2] (by kernel_rfl) O (WD.take 3 O (by kernel_rfl) O O O hD (fun w1 dg=>R.load tg3 O ((dg.blk de (fun h=>h)).cells 3 _ O)) (WD.call 4 O (by kernel_rfl) O O O (F.call (vs:=[_,_]) Tryz.call88 O) (qw x.low x.high _) ?_))))
  rintro _ wz4 ⟨rfl,dW⟩
  replace hD:=hD.ext dW
  refine⟨fun _=>hD,?_⟩
  refine zmI 5 O (by kernel_rfl) O O O (fun w1=>zmT O (by first | exact za | rfl)) (Ds [6] (by kernel_rfl) O (WD.sb 36 O (fun n3=>?_) (fun n3=>?_)))
  . rw[dS]at n3;cases n3
  refine Ds [7,8] (by kernel_rfl) O (zn0 9 O (by kernel_rfl) O O hD (.inl ⟨fun a ha=>xl ha O O O rfl,fun w1 dg=>zmh tR27 ts3 O O dK (by omega)⟩) (zn0 10 O (by kernel_rfl) O O hD (.inl ⟨fun a ha=>xl ha O O O rfl,fun w1 dg=>R.load tg3 O (dg.cells dm (fun h=>h) 0 _ O)⟩) (Ds [11] (by kernel_rfl) O (zn0 12 O (by kernel_rfl) O O hD (.inl ⟨fun a ha=>xl ha O O O rfl,fun w1 dg=>R.load tg3 O ((dg.blk de (fun h=>h)).cells 2 _ O)⟩) (Ds [13,14,15] (by kernel_rfl) O ?_)))))
  refine WD.sp 45 O (fun n4=>?_) (fun n4=>?_)
  . exact absurd n4 (by omega)
  refine Ds [16,17] (by kernel_rfl) O (zn0 18 O (by kernel_rfl) O O hD (.inl ⟨fun a ha=>xl ha O O O rfl,fun w1 dg=>zmh tR27 ts3 O O dK (by omega)⟩) (zn0 19 O (by kernel_rfl) O O hD (.inl ⟨fun a ha=>xl ha O O O rfl,fun w1 dg=>R.load tg3 O (dg.cells dm (fun h=>h) 0 _ O)⟩) (Ds [20] (by kernel_rfl) O (zn0 21 O (by kernel_rfl) O O hD (.inl ⟨fun a ha=>xl ha O O O rfl,fun w1 dg=>R.load tg3 O ((dg.blk de (fun h=>h)).cells 3 _ O)⟩) (Ds [22,23] (by kernel_rfl) O ?_)))))
  refine G.done (by kernel_rfl) ?_ _
  obtain⟨hE,db,da,dc,hY,dh,df⟩:=Tr7 hD hE db da dc hY dh df
  obtain⟨dm,de⟩:=Tr2 hD dm de
  refine Gs 1 O (zlF O (fun n5=>?_) (fun n5=>?_))
  . exact absurd n5 (by omega)
  refine Ga 7 O (by omega) (G.back (i+1) (Sub.of O) (⟨by omega,dh⟩) (by first | omega | (dsimp only;omega)))
 refine Gs 9 O (zng O tg70 ts70 hY.cells O (G.call O Tryz.call89 (zdF vs false _ Dv hg t _ D _ da (RTm.put db) hf dN) ?_))
 rintro _ wz5 ⟨⟨a,b',rfl,ee⟩,dX⟩
 obtain⟨hE,db,da,dc,hY,dh⟩:=Tr6 dX hE db da dc hY dh
 rw[hr]
 refine Gs 3 O (zmr O O (M.alloc (cs:=_) tz159 O) ?_)
 rintro _ wa6 ⟨d,rfl,dF,dY,dk,dl⟩
 refine zmw O (zmx ts159 O O O O (by simp[Value.oneCell']) dk (by simp)) ?_
 rintro ef ⟨_,dk,dw⟩
 replace dl:=dl.trans dw (fun q hq h=>by have h:q=d:=h;omega)
 have dG:b ≠ d:=by have:=hY.lt;omega
 have dM:_<=d:=zpq hE.size (zrS dF.symm)
 obtain⟨hE,db,da,dc,hY,dh⟩:=Tr6 dl hE db da dc hY dh
 refine Gs 6 O (zna O O (zmT O (by first | exact za | rfl)) (Gs 2 O (G.ff O (rfl) (Gs 5 O (zng O tg70 ts70 hY.cells O (G.call O Tryz.call90 (ziD hg hV t hf hr _ D Dl _ _ dc (RTm.put db)) ?_))))))
 rintro _ wz7 ⟨rfl,dZ⟩
 obtain⟨hE,db,da,dc,hY,dh,dk⟩:=Tr7 dZ hE db da dc hY dh dk
 refine Gs 5 O (zlY Tryz.results45 O O ⟨_,rfl,rfl,hE⟩)
def zV (time:Int) (s:Int × Bool) (b:Int):Int × Bool:=if time<=b/\(s.2=false\/b<s.1) then (b,true) else s
def qe (bounds:List Int) (time:Int):Int:=(bounds.foldl (zV time) (time,false)).1
theorem zci {α β:Type} (f:β->α->β) (b:β) {l:List α} {i:Nat} {x:α} (h:l[i]?=some x):(l.take (i+1)).foldl f b=f ((l.take i).foldl f b) x:=by rw[ze h,zqT];rfl
theorem zc6 (l:List Int) (time:Int) (v:Value) (D:Nat->Prop) (w:World) (hl:SlR 1 zC D w v l):Calls Tryz.prog 134 #[v,.int .i64 time] w (Ret fun r w'=>r=.int .i64 (qe l time)/\Ext w w'):=by
 have dg:=hl.max
 obtain⟨al,cl,rfl⟩:=hl.form
 refine znl Tryz.func134 O Tryz.ntmps134 O (Gs 21 O (G.loop (σ:=Nat × Int × Bool) (fun⟨i,b,fd⟩=>[(1,.int .i64 time),(5,.int .i64 b),(6,.bool fd),(10,.slice al l.length cl),(11,.int .i64 l.length),(12,.int .i64 i)]) (fun⟨i,b,fd⟩=>fun w'=>i<=l.length/\(b,fd)=(l.take i).foldl (zV time) (time,false)/\Ext w w') (fun⟨i,b,fd⟩=>l.length - i) ((0,time,false)) (Sub.of O) (⟨zpz _,rfl,Keep.refl _ _⟩) ?_))
 rintro⟨i,b,fd⟩ w1 ⟨hi,hs,hY⟩
 show G _ _ _ _ _ [(1,.int .i64 time),(5,.int .i64 b),(6,.bool fd),(10,.slice al l.length cl),(11,.int .i64 l.length),(12,.int .i64 i)] _
 replace hl:=Tr1 hY hl
 refine Gs 6 O (zlF O (fun dh=>?_) (fun di=>?_))
 .
  obtain⟨x,da⟩:∃ x,l[i]?=some x:=⟨_,zpk (by omega)⟩
  obtain⟨bx,ox,cx,de,_,df,rfl⟩:=hl.at da
  have db:=zci (zV time) (time,false) da
  rw[<- hs,show zV time (b,fd) x=if time<=x/\(fd=false\/x<b) then (x,true) else (b,fd) from rfl]at db
  refine Gs 6 O (zna O O (zmh tR27 ts3 O O de (by omega)) (zne O tg3 (df 0 _ O) (Gs 9 O (G.sp 19 O (fun h1=>?_) (fun h1=>?_)))))
  .
   refine Gs 1 O (zna O O (zmT O (by first | exact za | rfl)) (Gs 1 O (zn8 22 O (fun h2=>?_) (fun h2=>?_))))
   .
    have dc:fd=false:=by simpa using h2
    refine Ga 19 O (by omega) (G.back ((i+1,x,true)) (Sub.cons O (Sub.cons O (Sub.cons (by first | rfl | (show some (Value.bool true)=some (Value.bool _);simp[*])) (Sub.of O)))) (⟨by omega,by rw[db,zpv ⟨h1,.inl dc⟩],hY⟩) (by first | omega | (dsimp only;omega)))
   have dc:fd=true:=by simpa using h2
   refine Gs 7 O (zlF O (fun h3=>?_) (fun h3=>?_))
   . refine Ga 11 O (by omega) (G.back ((i+1,x,true)) (Sub.cons O (Sub.cons O (Sub.cons (by first | rfl | (show some (Value.bool true)=some (Value.bool _);simp[*])) (Sub.of O)))) (⟨by omega,by rw[db,zpv ⟨h1,.inr h3⟩],hY⟩) (by first | omega | (dsimp only;omega)))
   refine Ga 7 O (by omega) (G.back ((i+1,b,fd)) (Sub.of O) (⟨by omega,by rw[db,zpu (fun h=>h.2.elim (fun h4=>by rw[dc]at h4;cases h4) h3)],hY⟩) (by first | omega | (dsimp only;omega)))
  refine Ga 18 O (by omega) (G.back ((i+1,b,fd)) (Sub.of O) (⟨by omega,by rw[db,zpu (fun h=>h1 h.1)],hY⟩) (by first | omega | (dsimp only;omega)))
 have:i=l.length:=by omega
 subst this
 rw[zpp]at hs
 refine Gs 12 O (zlV Tryz.results134 O ⟨_,rfl,by rw[qe,<- hs],hY⟩)
theorem zd0 (l:List Int) (time:Int) (v:Value) (D:Nat->Prop) (w:World) (hl:SlR 1 zC D w v l):Calls Tryz.prog 139 #[v,.int .i64 time] w (Ret fun r w'=>r=.int .i64 (qe l time)/\Ext w w'):=by
 have dg:=hl.max
 obtain⟨al,cl,rfl⟩:=hl.form
 refine znl Tryz.func139 O Tryz.ntmps139 O (Gs 19 O (G.loop (σ:=Nat × Int × Bool) (fun⟨i,b,fd⟩=>[(0,.slice al l.length cl),(1,.int .i64 time),(5,.int .i64 b),(6,.bool fd),(7,.int .i64 i)]) (fun⟨i,b,fd⟩=>fun w'=>i<=l.length/\(b,fd)=(l.take i).foldl (zV time) (time,false)/\Ext w w') (fun⟨i,b,fd⟩=>l.length - i) ((0,time,false)) (Sub.of O) (⟨zpz _,rfl,Keep.refl _ _⟩) ?_))
 rintro⟨i,b,fd⟩ w1 ⟨hi,hs,hY⟩
 show G _ _ _ _ _ [(0,.slice al l.length cl),(1,.int .i64 time),(5,.int .i64 b),(6,.bool fd),(7,.int .i64 i)] _
 replace hl:=Tr1 hY hl
 refine Gs 9 O (zlF O (fun dh=>?_) (fun di=>?_))
 .
  obtain⟨x,da⟩:∃ x,l[i]?=some x:=⟨_,zpk (by omega)⟩
  obtain⟨bx,ox,cx,dc,_,de,rfl⟩:=hl.at da
  have db:=zci (zV time) (time,false) da
  rw[<- hs,show zV time (b,fd) x=if time<=x/\(fd=false\/x<b) then (x,true) else (b,fd) from rfl]at db
  refine Gs 8 O (zna O O (zmh tR27 ts3 O O dc (by omega)) (zne O tg3 (de 0 _ O) (Gs 3 O (G.sp 21 O (fun h1=>?_) (fun h1=>?_)))))
  .
   refine Gs 1 O (zna O O (zmT O (by first | exact za | rfl)) (Gs 1 O (zn8 24 O (fun h2=>?_) (fun h2=>?_))))
   .
    have df:fd=false:=by simpa using h2
    refine Gs 14 O (zna O O (zmh tR27 ts3 O O dc (by omega)) (zne O tg3 (de 0 _ O) (Ga 10 O (by omega) (G.back ((i+1,x,true)) (Sub.cons O (Sub.cons O (Sub.cons O (Sub.cons (by first | rfl | (show some (Value.bool true)=some (Value.bool _);simp[*])) (Sub.of O))))) (⟨by omega,by rw[db,zpv ⟨h1,.inl df⟩],hY⟩) (by first | omega | (dsimp only;omega))))))
   have df:fd=true:=by simpa using h2
   refine Gs 2 O (zna O O (zmh tR27 ts3 O O dc (by omega)) (zne O tg3 (de 0 _ O) (Gs 6 O (zlF O (fun h3=>?_) (fun h3=>?_)))))
   . refine Gs 3 O (zna O O (zmh tR27 ts3 O O dc (by omega)) (zne O tg3 (de 0 _ O) (Ga 10 O (by omega) (G.back ((i+1,x,true)) (Sub.cons O (Sub.cons O (Sub.cons O (Sub.cons (by first | rfl | (show some (Value.bool true)=some (Value.bool _);simp[*])) (Sub.of O))))) (⟨by omega,by rw[db,zpv ⟨h1,.inr h3⟩],hY⟩) (by first | omega | (dsimp only;omega))))))
   refine Ga 8 O (by omega) (G.back ((i+1,b,fd)) (Sub.of O) (⟨by omega,by rw[db,zpu (fun h=>h.2.elim (fun h4=>by rw[df]at h4;cases h4) h3)],hY⟩) (by first | omega | (dsimp only;omega)))
  refine Ga 22 O (by omega) (G.back ((i+1,b,fd)) (Sub.of O) (⟨by omega,by rw[db,zpu (fun h=>h1 h.1)],hY⟩) (by first | omega | (dsimp only;omega)))
 have:i=l.length:=by omega
 subst this
 rw[zpp]at hs
 refine Gs 12 O (zlV Tryz.results139 O ⟨_,rfl,by rw[qe,<- hs],hY⟩)
def zjI (vals:List Int) (k:Tm):Prop:=∀ (cs:List Value) (D Dv:Nat->Prop) (w:World) (vv:Value),SlR 1 zC Dv w vv vals->RTm D w k cs->Calls Tryz.prog 138 #[vv,.agg cs.toArray] w (Ret fun r w'=>r=.int .i64 (xt vals k)/\Ext w w')
theorem qf {vs:List Vr} {inp:Bool} (hv:∀ v ∈ vs,yr (v.low,v.high)) {vals:List Int} (hV:InV vs vals) (t:Tm):zu vs inp t=true->(rng vs t).isSome=true->zjI vals t:=by
 induction t using znv with
 | h t ih =>
 intro hf hr cs D Dv w vv da ht
 obtain⟨ok,dF⟩:=zlw hv hV hf hr
 have ihk:∀ k ∈ t.kids,zjI vals k:=fun k hk=>ih k hk (dF k hk).1 (dF k hk).2
 obtain⟨kv,rfl,db⟩:=ht.get
 obtain⟨a3,c3,rfl⟩:=db.form
 obtain⟨av,cv,rfl⟩:=da.form
 have dl:=zbF vals t
 have dI:=ok.ops
 have hE:=Keep.refl (fun _=>False) w
 refine znl Tryz.func138 O Tryz.ntmps138 O (Gs 2 O (zmr O O (M.box O O) ?_))
 rintro _ de ⟨b3,rfl,dm,dG,hY,dr⟩
 have du:_<=b3:=zpq hE.size (zrS dm.symm)
 obtain⟨hE,db,da⟩:=Tr3 dr hE db da
 refine Gs 7 O (zne O tg67 (hY.cells 0 _ O) (Gs 9 O ?_))
 have hget:∀ i:Nat,i<t.kids.length->∃ k,t.kids[i]?=some k/\lki (valL vals t.kids) i=xt vals k/\zdP (xt vals k)/\∃ b o c v,a3=some ⟨b,o,none⟩/\Cells de b (o+i*3) c/\c=[.int .i64 k.op,.int .i64 k.n,v]/\SlR 3 RTm D de v k.kids:=fun i hi=>by
  obtain⟨k,hk⟩:∃ k,t.kids[i]?=some k:=⟨_,zpk hi⟩
  obtain⟨b,o,c,h1,_,h2,h3⟩:=db.at hk
  obtain⟨v,h4,h5⟩:=h3.get
  exact⟨k,hk,zcX hk,ok.kid k (zpl hk),b,o,c,v,h1,h2,h4,h5⟩
 have hX:=Keep.refl (fun _=>False) de
 refine zlF O (fun c0=>?_) (fun c0=>?_)
 . refine Gs 3 O (zne O tg3 (hY.cells 1 _ O) (Gs 6 O (zlV tr138 O ⟨_,rfl,by rw[dl,ql,zpv c0],hE⟩)))
 refine Gs 6 O (zlF O (fun c24=>?_) (fun c24=>?_))
 .
  have hn:=ok.var c24
  have d9:=hV.len
  obtain⟨bx,ox,cx,dJ,_,dK,rfl⟩:=da.at (zbE (l:=vals) (i:=t.n.toNat) (by omega))
  refine Gs 4 O (zne O tg3 (hY.cells 1 _ O) (zna O O (zmh tR27 ts3 O O dJ (by omega)) (zne O tg3 (dK 0 _ O) (Gs 6 O (zlV tr138 O ⟨_,rfl,by rw[dl,ql,zpu c0,zpv c24],hE⟩)))))
 refine Gs 6 O (zlF O (fun c6=>?_) (fun c6=>?_))
 .
  have h1:=ok.k1 (.inl c6)
  obtain⟨k0,dg,df,dt,b0,o0,_,v0,dh,di,rfl,dk⟩:=hget 0 (by omega)
  refine Gs 4 O (zne O tg68 (hY.cells 2 _ O) (zna O O (zmh tR68 ts70 O O dh (by omega)) (zng O tg70 ts70 (hX.cells di (fun h=>h)) O (G.call O tc138 (ihk k0 (zpl dg) _ D Dv _ _ da (RTm.put (dk.ext zh hX))) ?_))))
  rintro _ wz1 ⟨rfl,dL⟩
  obtain⟨hE,db,da,hY,hX⟩:=Tr5 dL hE db da hY hX
  refine Ga 7 O (by omega) (zlV tr138 O ⟨_,rfl,by rw[dl,ql,zpu c0,zpu c24,zpv c6,df],hE⟩)
 refine Gs 6 O (zlF O (fun c7=>?_) (fun c7=>?_))
 .
  have h1:=ok.k1 (.inr c7)
  obtain⟨k0,dg,df,dt,b0,o0,_,v0,dh,di,rfl,dk⟩:=hget 0 (by omega)
  refine Gs 4 O (zne O tg68 (hY.cells 2 _ O) (zna O O (zmh tR68 ts70 O O dh (by omega)) (zng O tg70 ts70 (hX.cells di (fun h=>h)) O (G.call O tc138 (ihk k0 (zpl dg) _ D Dv _ _ da (RTm.put (dk.ext zh hX))) ?_))))
  rintro _ wz2 ⟨rfl,dM⟩
  obtain⟨hE,db,da,hY,hX⟩:=Tr5 dM hE db da hY hX
  refine Gs 1 O (G.call O tc172 (yn _ _) ?_)
  rintro _ wz3 ⟨rfl,dN⟩
  obtain⟨hE,db,da,hY,hX⟩:=Tr5 dN hE db da hY hX
  refine Gs 6 O (zlV tr138 O ⟨_,rfl,by rw[dl,ql,zpu c0,zpu c24,zpu c6,zpv c7,df];rfl,hE⟩)
 refine Gs 6 O (zlF O (fun c23=>?_) (fun c23=>?_))
 .
  have h1:=ok.k3 c23
  obtain⟨k0,dg,df,dt,b0,o0,_,v0,dh,di,rfl,dk⟩:=hget 0 (by omega)
  obtain⟨k1,dw,dx,dH,b1,o1,_,v1,dy,dz,rfl,dA⟩:=hget 1 (by omega)
  obtain⟨k2,dO,dQ,ea,b2,o2,_,v2,dR,dS,rfl,dT⟩:=hget 2 (by omega)
  refine Gs 5 O (zne O tg68 (hY.cells 2 _ O) (zna O O (zmh tR68 ts70 O O dh (by omega)) (zng O tg70 ts70 (hX.cells di (fun h=>h)) O (G.call O tc138 (ihk k0 (zpl dg) _ D Dv _ _ da (RTm.put (dk.ext zh hX))) ?_))))
  rintro _ wz4 ⟨rfl,dU⟩
  obtain⟨hE,db,da,hY,hX⟩:=Tr5 dU hE db da hY hX
  refine Gs 3 O (zlF O (fun z=>?_) (fun z=>?_))
  .
   refine Gs 4 O (zne O tg68 (hY.cells 2 _ O) (zna O O (zmh tR68 ts70 O O dy (by omega)) (zng O tg70 ts70 (hX.cells dz (fun h=>h)) O (G.call O tc138 (ihk k1 (zpl dw) _ D Dv _ _ da (RTm.put (dA.ext zh hX))) ?_))))
   rintro _ wz5 ⟨rfl,dV⟩
   obtain⟨hE,db,da,hY,hX⟩:=Tr5 dV hE db da hY hX
   refine Gs 7 O (zlV tr138 O ⟨_,rfl,by rw[dl,ql,zpu c0,zpu c24,zpu c6,zpu c7,zpv c23,df,zpv z,dx],hE⟩)
  refine Gs 6 O (zne O tg68 (hY.cells 2 _ O) (zna O O (zmh tR68 ts70 O O dR (by omega)) (zng O tg70 ts70 (hX.cells dS (fun h=>h)) O (G.call O tc138 (ihk k2 (zpl dO) _ D Dv _ _ da (RTm.put (dT.ext zh hX))) ?_))))
  rintro _ wz6 ⟨rfl,dW⟩
  obtain⟨hE,db,da,hY,hX⟩:=Tr5 dW hE db da hY hX
  refine Gs 6 O (zlV tr138 O ⟨_,rfl,by rw[dl,ql,zpu c0,zpu c24,zpu c6,zpu c7,zpv c23,df,zpu z,dQ],hE⟩)
 refine Gs 6 O (zlF O (fun c25=>?_) (fun c25=>?_))
 .
  have h1:=ok.k25 c25
  obtain⟨k0,dg,df,dt,b0,o0,_,v0,dh,di,rfl,dk⟩:=hget 0 (by omega)
  have eb:=qt (xt vals k0) (show (0:Int)<=(t.kids.length:Int) - 2 by omega)
  obtain⟨kj,dX,dY,ec,bj,oj,_,vj,dZ,d5,rfl,d6⟩:=hget (1+yB (xt vals k0) 0 ((t.kids.length:Int) - 2)).toNat (by omega)
  refine Gs 1 O (Dw (fun q=>Ext de q) [] (fun wd7 hD _=>?_))
  refine Ds [0,1] (by kernel_rfl) O (WD.take 2 O (by kernel_rfl) O O O hD (fun w1 dc=>R.load tg68 O ((dc.blk hY (fun h=>h)).cells 2 _ O)) (Ds [3,4] (by kernel_rfl) O (WD.take 5 O (by kernel_rfl) O O O hD (fun w1 dc=>R.load tg68 O ((dc.blk hY (fun h=>h)).cells 2 _ O)) (zmI 6 O (by kernel_rfl) O O O (fun w1=>zmh tR68 ts70 O O dh (by omega)) (WD.take 7 O (by kernel_rfl) O O O hD (fun w1 dc=>zmj tg70 ts70 O (by rfl) ((hX.ext dc).cells di (fun h=>h))) ?_)))))
  refine Ds [9] (by kernel_rfl) O (WD.take 10 O (by kernel_rfl) O O O hD (fun w1 dc=>R.load tg68 O ((dc.blk hY (fun h=>h)).cells 2 _ O)) (Da [11,12] (by kernel_rfl) O (by omega) (WD.call 8 O (by kernel_rfl) O O O (F.call (vs:=[_,_]) tc138 O) (ihk k0 (zpl dg) _ D Dv _ _ (da.ext zb hD) (RTm.put (dk.ext zh (hX.ext hD)))) ?_)))
  rintro _ wz8 ⟨rfl,d7⟩
  replace hD:=hD.ext d7
  refine⟨fun _=>hD,?_⟩
  refine WD.call 13 O (by kernel_rfl) O O O (F.call (vs:=[_,_,_]) Tryz.call140 O) (zaa _ _ _ _) ?_
  rintro _ wz9 ⟨rfl,d8⟩
  replace hD:=hD.ext d8
  refine⟨fun _=>hD,?_⟩
  refine Da [14] (by kernel_rfl) O (by omega) (zmI 15 O (by kernel_rfl) O O O (fun w1=>zmh tR68 ts70 O O dZ (by omega)) (WD.take 16 O (by kernel_rfl) O O O hD (fun w1 dc=>zmj tg70 ts70 O (by rfl) ((hX.ext dc).cells d5 (fun h=>h))) (WD.call 17 O (by kernel_rfl) O O O (F.call (vs:=[_,_]) tc138 O) (ihk kj (zpl dX) _ D Dv _ _ (da.ext zb hD) (RTm.put (d6.ext zh (hX.ext hD)))) ?_)))
  rintro _ wz10 ⟨rfl,dB⟩
  replace hD:=hD.ext dB
  refine⟨fun _=>hD,?_⟩
  refine Ds [18] (by kernel_rfl) O (G.done (by kernel_rfl) ?_ _)
  obtain⟨hE,db,da,hY,hX⟩:=Tr5 hD hE db da hY hX
  refine Gs 4 O (zlV tr138 O ⟨_,rfl,by rw[dl,ql,zpu c0,zpu c24,zpu c6,zpu c7,zpu c23,zpv c25,df,zcW,dY],hE⟩)
 have h1:=ok.k2 (by omega)
 obtain⟨k0,dg,df,dt,b0,o0,_,v0,dh,di,rfl,dk⟩:=hget 0 (by omega)
 obtain⟨k1,dw,dx,dH,b1,o1,_,v1,dy,dz,rfl,dA⟩:=hget 1 (by omega)
 refine Gs 4 O (Dw (fun q=>Ext de q) [] (fun wd11 hD _=>?_))
 refine Ds [0] (by kernel_rfl) O (WD.take 1 O (by kernel_rfl) O O O hD (fun w1 dc=>R.load tg67 O ((dc.blk hY (fun h=>h)).cells 0 _ O)) (Ds [2,3] (by kernel_rfl) O (WD.take 4 O (by kernel_rfl) O O O hD (fun w1 dc=>R.load tg68 O ((dc.blk hY (fun h=>h)).cells 2 _ O)) (zmI 5 O (by kernel_rfl) O O O (fun w1=>zmh tR68 ts70 O O dh (by omega)) (WD.take 6 O (by kernel_rfl) O O O hD (fun w1 dc=>zmj tg70 ts70 O (by rfl) ((hX.ext dc).cells di (fun h=>h))) ?_)))))
 refine Ds [8,9] (by kernel_rfl) O (WD.take 10 O (by kernel_rfl) O O O hD (fun w1 dc=>R.load tg68 O ((dc.blk hY (fun h=>h)).cells 2 _ O)) (zmI 11 O (by kernel_rfl) O O O (fun w1=>zmh tR68 ts70 O O dy (by omega)) (WD.take 12 O (by kernel_rfl) O O O hD (fun w1 dc=>zmj tg70 ts70 O (by rfl) ((hX.ext dc).cells dz (fun h=>h))) (WD.call 7 O (by kernel_rfl) O O O (F.call (vs:=[_,_]) tc138 O) (ihk k0 (zpl dg) _ D Dv _ _ (da.ext zb hD) (RTm.put (dk.ext zh (hX.ext hD)))) ?_))))
 rintro _ wz12 ⟨rfl,dC⟩
 replace hD:=hD.ext dC
 refine⟨fun _=>hD,?_⟩
 refine WD.call 13 O (by kernel_rfl) O O O (F.call (vs:=[_,_]) tc138 O) (ihk k1 (zpl dw) _ D Dv _ _ (da.ext zb hD) (RTm.put (dA.ext zh (hX.ext hD)))) ?_
 rintro _ wz13 ⟨rfl,dD⟩
 replace hD:=hD.ext dD
 refine⟨fun _=>hD,?_⟩
 refine WD.call 14 O (by kernel_rfl) O O O (F.call (vs:=[_,_,_]) Tryz.call173 O) (zdR _ _ _ _ dt dH) ?_
 rintro _ wz14 ⟨rfl,dE⟩
 replace hD:=hD.ext dE
 refine⟨fun _=>hD,?_⟩
 refine Ds [15] (by kernel_rfl) O (G.done (by kernel_rfl) ?_ _)
 obtain⟨hE,db,da,hY,hX⟩:=Tr5 hD hE db da hY hX
 refine Gs 2 O (zlV tr138 O ⟨_,rfl,by rw[dl,ql,zpu c0,zpu c24,zpu c6,zpu c7,zpu c23,zpu c25,df,dx],hE⟩)
end Go.Proofs.YtckdhgbepmpgiaaGreat
namespace Go.GL
def yF (r:Ins) (k:Int):List Int:=if k=1 then r.secret else if k=2 then r.pub else r.random
structure StS where
 vals:List Int
 a:Nat
 b:Nat
 c:Nat
def jb (s:StS) (k:Int):Nat:=if k=1 then s.a else if k=2 then s.b else s.c
def kR (s:StS) (k:Int) (n:Int):StS:=if k=1 then ⟨s.vals++[n],s.a+1,s.b,s.c⟩ else if k=2 then ⟨s.vals++[n],s.a,s.b+1,s.c⟩ else ⟨s.vals++[n],s.a,s.b,s.c+1⟩
def zp (r:Ins) (o:Option StS) (v:Vr):Option StS:=o.bind fun s=>if v.kind=0 then some { s with vals:=s.vals++[v.init] } else ((yF r v.kind)[jb s v.kind]?).map fun n=>kR s v.kind n
def jO (vs:List Vr) (r:Ins):Option StS:=vs.foldl (zp r) (some ⟨[],0,0,0⟩)
def inB (p:Vr × Int):Bool:=decide (p.1.low<=p.2)&&decide (p.2<=p.1.high)
def yK (vs:List Vr) (r:Ins) (s:StS):Int:=if s.a ≠ r.secret.length\/s.b ≠ r.pub.length\/s.c ≠ r.random.length then 1 else if (vs.zip s.vals).all inB then 0 else 3
def zl (vs:List Vr) (r:Ins):Int:=match jO vs r with
 | none=>1
 | some s=>yK vs r s
def zx (vs:List Vr) (r:Ins):List Int:=match jO vs r with
 | none=>[]
 | some s=>s.vals
theorem zg2 (r:Ins) (vs:List Vr):vs.foldl (zp r) none=none:=by
 induction vs with
 | nil=>rfl
 | cons x t ih=>rw[zqU];exact ih
theorem zbH {vs:List Vr} {r:Ins} {i:Nat} (h:(vs.take i).foldl (zp r) (some ⟨[],0,0,0⟩)=none):jO vs r=none:=by
 have:=zrD i vs
 rw[jO,<- this,zqT,h,zg2]
theorem kf {vs:List Vr} {r:Ins} {i:Nat} {x:Vr} (h:vs[i]?=some x) {s:StS} (hs:(vs.take i).foldl (zp r) (some ⟨[],0,0,0⟩)=some s):(vs.take (i+1)).foldl (zp r) (some ⟨[],0,0,0⟩)=if x.kind=0 then some { s with vals:=s.vals++[x.init] } else ((yF r x.kind)[jb s x.kind]?).map fun n=>kR s x.kind n:=by
 rw[ze h,zqT,hs];rfl
theorem zai (s:StS) (k n:Int):(kR s k n).vals=s.vals++[n]:=by
 unfold kR
 (repeat' split);all_goals rfl
theorem zaj {vs:List Vr} {r:Ins}:∀ (i:Nat) (s:StS),i<=vs.length->(vs.take i).foldl (zp r) (some ⟨[],0,0,0⟩)=some s->s.vals.length=i/\s.a<=i/\s.b<=i/\s.c<=i:=by
 intro i
 induction i with
 | zero=>intro s _ h;simp at h;subst h;simp
 | succ i ih =>
  intro s hi h
  obtain⟨x,hx⟩:∃ x,vs[i]?=some x:=⟨_,zpk (by omega)⟩
  cases h1:(vs.take i).foldl (zp r) (some ⟨[],0,0,0⟩) with
  | none=>rw[ze hx,zqT,h1]at h;cases h
  | some s0 =>
   obtain⟨e1,e2,e3,e4⟩:=ih s0 (by omega) h1
   rw[kf hx h1]at h
   split at h
   . cases h;simp;omega
   obtain⟨n,_,rfl⟩:=zsa.1 h
   unfold kR
   (repeat' split);all_goals (simp;omega)
theorem zbI (s:StS) {k k':Int} (hk:1<=k/\k<=3) (hY:1<=k'/\k'<=3) (n:Int):jb (kR s k n) k'=if k'=k then jb s k'+1 else jb s k':=by
 have h1:k=1\/k=2\/k=3:=by omega
 have h2:k'=1\/k'=2\/k'=3:=by omega
 rcases h1 with rfl | rfl | rfl<;>rcases h2 with rfl | rfl | rfl<;>simp[kR,jb]
theorem zh0 {vs:List Vr} {r:Ins} (db:∀ v ∈ vs,0<=v.kind/\v.kind<=3):∀ (i:Nat) (s:StS),i<=vs.length->(vs.take i).foldl (zp r) (some ⟨[],0,0,0⟩)=some s->∀ k,1<=k->k<=3->jb s k<=(yF r k).length:=by
 intro i
 induction i with
 | zero=>intro s _ h k _ _;simp at h;subst h;unfold jb;(repeat' split);all_goals simp
 | succ i ih =>
  intro s hi h k hY da
  obtain⟨x,hx⟩:∃ x,vs[i]?=some x:=⟨_,zpk (by omega)⟩
  have dc:=db x (zpl hx)
  cases h1:(vs.take i).foldl (zp r) (some ⟨[],0,0,0⟩) with
  | none=>rw[ze hx,zqT,h1]at h;cases h
  | some s0 =>
   have e1:=ih s0 (by omega) h1 k hY da
   rw[kf hx h1]at h
   split at h
   . cases h;exact e1
   obtain⟨n,hn,rfl⟩:=zsa.1 h
   have:=(zpy.1 hn).1
   rw[zbI s0 (k:=x.kind) (by omega) ⟨hY,da⟩]
   split
   . rename_i h2;subst h2;omega
   exact e1
theorem zd1 {vs:List Vr} {i:Nat} {x:Vr} (hx:vs[i]?=some x) (vals:List Int) (hv:vals.length=i) (n:Int):((vs.take (i+1)).zip (vals++[n])).all inB=(((vs.take i).zip vals).all inB&&inB (x,n)):=by
 have hi:=(zpy.1 hx).1
 rw[ze hx,List.zip_append (by rw[zpO];omega),List.all_append];simp
structure Sg where
 vals:List Int
 outs:List Int
 time:Int
end Go.GL
namespace Go.Proofs.YtckdhgbepmpgiaaGreat
open Go.GL
abbrev zc:Int->Value:=.int .i64
structure WkV where
 (W m:Nat) (v1 v2 v3 sv vv hv ov:Value) (rm:List (Int × Value))
def zdf (vs:List Vr) (vals:List Int) (v n:Int):List Int:=match vs[v.toNat]? with
 | some x=>vals.set v.toNat (yB n x.low x.high)
 | none=>vals
theorem InV.set {vs:List Vr} {vals:List Int} (hg:∀ v ∈ vs,yr (v.low,v.high)) (h:InV vs vals) (v n:Int):InV vs (zdf vs vals v n):=by
 unfold zdf
 cases hx:vs[v.toNat]? with
 | none=>exact h
 | some x =>
  have hY:=hg x (zpl hx)
  unfold yr at hY
  have hc:=qt n (show x.low<=x.high from hY.2.1)
  refine⟨by simp[h.len],fun i y hy=>?_⟩
  simp only[lki,List.getElem?_set]
  by_cases hi:v.toNat=i
  .
   subst hi
   rw[hx]at hy;cases hy
   have:=(zpy.1 hx).1
   rw[zpv rfl,zpv (by rw[h.len];exact this)]
   exact hc
  rw[zpu hi]
  exact h.at_ i y hy
def xu (f:Fl) (hs:List Int) (s:St) (σ:Sg):Sg :=
 if s.act=0 then { σ with vals:=zdf f.vars σ.vals s.var (xt σ.vals s.term),time:=σ.time+s.cost }
 else if s.act=1 then { σ with outs:=σ.outs++[xt σ.vals s.term],time:=σ.time+s.cost }
 else if s.act=5 then { σ with vals:=zdf f.vars σ.vals s.var (lki hs s.n.toNat),time:=σ.time+s.cost }
 else if s.act=6 then { σ with time:=qe s.bounds (σ.time+s.cost) }
 else { σ with time:=σ.time+s.cost }
structure StepOk (f:Fl) (s:St):Prop where
 formed:zu f.vars false s.term=true
 ranged:(rng f.vars s.term).isSome=true
 small:s.term.nodes<=1000000
 cost:0<=s.cost/\s.cost<=67108864
 var:s.act=0\/s.act=5->0<=s.var/\s.var<f.vars.length
 num:s.act=5->0<=s.n/\s.n<f.hatches.length
def zdg (rd:Int->Int) (k n:Int):Int->Int:=fun j=>if j=k then n else rd j
def yZ (f:Fl) (hs:List Int) (x:Nd) (s:St) (σ:Sg) (rd:Int->Int):Int × Sg × (Int->Int) :=
 if x.kind=0 then (x.next,σ,rd)
 else if x.kind=2 then (x.next,xu f hs s σ,rd)
 else if x.kind=4 then (x.next,σ,zdg rd x.at_ 0)
 else if x.kind=5/\rd x.at_=s.n then (x.other,σ,rd)
 else (if xt σ.vals s.term ≠ 0 then x.next else x.other,{ σ with time:=σ.time+s.cost },if x.kind=5 then zdg rd x.at_ (rd x.at_+1) else rd)
def kg (body:Sg->Sg) (cost:Int) (t:Tm):Nat->Sg->Sg
 | 0,σ=>σ
 | k+1,σ=>if xt σ.vals t=0 then { σ with time:=σ.time+cost } else kg body cost t k (body { σ with time:=σ.time+cost })
section
variable (f:Fl) (hs:List Int)
mutual
def exS:St->Sg->Sg
 | .mk a c v n t th el b,σ =>
  if a=3 then (if xt σ.vals t ≠ 0 then exL th { σ with time:=σ.time+c } else exL el { σ with time:=σ.time+c })
  else if a=4 then kg (fun σ=>exL th σ) c t n.toNat σ
  else xu f hs (.mk a c v n t th el b) σ
def exL:List St->Sg->Sg
 | [],σ=>σ
 | s::r,σ=>exL r (exS s σ)
end
theorem kS (s:St) (σ:Sg):exS f hs s σ=if s.act=3 then (if xt σ.vals s.term ≠ 0 then exL f hs s.thn { σ with time:=σ.time+s.cost } else exL f hs s.els { σ with time:=σ.time+s.cost })
  else if s.act=4 then kg (exL f hs s.thn) s.cost s.term s.n.toNat σ else xu f hs s σ:=by cases s;rw[exS];rfl
structure Mc where
 at_:Int
 σ:Sg
 rd:Int->Int
def zkI:St:=.mk 0 0 0 0 (.mk 0 0 []) [] [] []
def xL (g:List Nd) (k:Int):Nd:=g[k.toNat]?.getD ⟨1,-1,-1,-1⟩
def zW (f:Fl) (k:Int):St:=(preL f.body)[k.toNat]?.getD zkI
def jJ (g:List Nd) (m:Mc):Mc :=
 ⟨(yZ f hs (xL g m.at_) (zW f (xL g m.at_).at_) m.σ m.rd).1,(yZ f hs (xL g m.at_) (zW f (xL g m.at_).at_) m.σ m.rd).2.1,(yZ f hs (xL g m.at_) (zW f (xL g m.at_).at_) m.σ m.rd).2.2⟩
def zc7 (g:List Nd):Nat->Mc->Mc
 | 0,m=>m
 | k+1,m=>zc7 g k (jJ f hs g m)
theorem kT (g:List Nd):∀ (a b:Nat) (m:Mc),zc7 f hs g (a+b) m=zc7 f hs g b (zc7 f hs g a m)
 | 0,b,m=>by rw[zs3];rfl
 | a+1,b,m=>by rw[show a+1+b=(a+b)+1 by omega];exact kT g a b (jJ f hs g m)
theorem zcj (g:List Nd) (k:Nat) (m:Mc):zc7 f hs g (k+1) m=jJ f hs g (zc7 f hs g k m):=by rw[kT];rfl
def Goes (g:List Nd) (lo hi:Int) (k:Nat) (m m':Mc):Prop:=zc7 f hs g k m=m'/\∀ j,j<k->lo<=(zc7 f hs g j m).at_/\(zc7 f hs g j m).at_<hi
end
section
variable {f:Fl} {hs:List Int} {g:List Nd} {lo hi:Int} {k k':Nat} {m m' m'':Mc}
theorem Goes.refl (m:Mc):Goes f hs g lo hi 0 m m:=⟨rfl,fun _ h=>absurd h (zrZ _)⟩
theorem Goes.trans (h:Goes f hs g lo hi k m m') (h':Goes f hs g lo hi k' m' m''):Goes f hs g lo hi (k+k') m m'':=by
 refine⟨by rw[kT,h.1,h'.1],fun j hj=>?_⟩
 by_cases hY:j<k
 . exact h.2 j hY
 obtain⟨i,rfl⟩:∃ i,j=k+i:=⟨j - k,by omega⟩
 rw[kT,h.1]
 exact h'.2 i (by omega)
theorem Goes.widen {lo' hY:Int} (h:Goes f hs g lo hi k m m') (h1:lo'<=lo) (h2:hi<=hY):Goes f hs g lo' hY k m m':=⟨h.1,fun j hj=>by have:=h.2 j hj;omega⟩
theorem Goes.one (h:jJ f hs g m=m') (h1:lo<=m.at_/\m.at_<hi):Goes f hs g lo hi 1 m m':=by
 refine⟨h,fun j hj=>?_⟩
 obtain rfl:j=0:=by omega
 exact h1
end
mutual
def nbS:St->Nat
 | .mk a _ _ n _ th el _=>if a=3 then 1+max (nbL th) (nbL el) else if a=4 then 2+n.toNat*(1+nbL th) else 1
def nbL:List St->Nat
 | []=>0
 | s::r=>nbS s+nbL r
end
theorem zdS (s:St):nbS s=if s.act=3 then 1+max (nbL s.thn) (nbL s.els) else if s.act=4 then 2+s.n.toNat*(1+nbL s.thn) else 1:=by cases s;rw[nbS];rfl
theorem zkS {vs:List Vr} {nh:Nat} (l:List St):∀ top,stepsCodeN vs nh l top=0->(nbL l:Int)<=2*(bds l).1:=by
 induction l using znx with
 | h l ih =>
 intro top h
 have hm:=xK l top h
 have key:∀ r:List St,(∀ x ∈ r,x ∈ l)->(nbL r:Int)<=2*(bds r).1:=by
  intro r
  induction r with
  | nil=>intro _;simp[nbL,bds]
  | cons x r ihr =>
   intro hx
   have h1:=ihr (fun y hy=>hx y (zpn _ hy))
   obtain⟨last,h2⟩:=hm x (hx x (zpo ..))
   obtain⟨h3,_,_,h4,h5⟩:=qx h2
   have h6:=(ih x (hx x (zpo ..))).1 _ h4
   have h7:=(ih x (hx x (zpo ..))).2 _ h5
   have b4:=yX x.thn _ h4
   have b5:=yX x.els _ h5
   rw[nbL,bds]
   have:(nbS x:Int)<=2*(yw x).1:=by
    rw[zdS,yb]
    by_cases a4:x.act=4
    .
     rw[zpu (show ¬ x.act=3 by omega),zpv a4,zpv a4]
     obtain⟨n,hn⟩:=zqg (h3.rep a4).1
     rw[hn,zpG]
     have:((n*(1+nbL x.thn):Nat):Int)<=(n:Int)*(2*(1+(bds x.thn).1)):=by
      rw[zqr]
      exact zqm (by omega) (by omega)
     have e:(n:Int)*(2*(1+(bds x.thn).1))=2*((n:Int)*(1+(bds x.thn).1)):=by rw[Int.mul_left_comm]
     simp only
     omega
    rw[zpu a4,zpu a4]
    by_cases a3:x.act=3
    . rw[zpv a3];simp only;omega
    rw[zpu a3];simp only;omega
   simp only
   omega
 exact key l (fun x h=>h)
def CtxG (g:List Nd) (n:Nat) (ns:List Nd):Prop:=∀ (i:Nat) x,ns[i]?=some x->g[n+i]?=some x
def CtxP (P:List St) (a:Nat) (ps:List St):Prop:=∀ (i:Nat) x,ps[i]?=some x->P[a+i]?=some x
theorem CtxG.left {g:List Nd} {n:Nat} {a b:List Nd} (h:CtxG g n (a++b)):CtxG g n a:=fun i x hx=>h i x (by rw[zpK (zpy.1 hx).1];exact hx)
theorem CtxG.right {g:List Nd} {n m:Nat} {a b:List Nd} (h:CtxG g n (a++b)) (hm:m=n+a.length):CtxG g m b:=fun i x hx=>by
 rw[hm,zrJ];exact h _ x (by rw[zpL (by omega)];simpa using hx)
theorem CtxG.head {g:List Nd} {n:Nat} {x:Nd} {b:List Nd} (h:CtxG g n (x::b)):g[n]?=some x:=h 0 x rfl
theorem CtxG.tail {g:List Nd} {n:Nat} {x:Nd} {b:List Nd} (h:CtxG g n (x::b)):CtxG g (n+1) b:=fun i y hy=>by
 rw[zrJ,zrK 1];exact h (i+1) y (by simpa using hy)
theorem CtxP.left {P:List St} {n:Nat} {a b:List St} (h:CtxP P n (a++b)):CtxP P n a:=fun i x hx=>h i x (by rw[zpK (zpy.1 hx).1];exact hx)
theorem CtxP.right {P:List St} {n m:Nat} {a b:List St} (h:CtxP P n (a++b)) (hm:m=n+a.length):CtxP P m b:=fun i x hx=>by
 rw[hm,zrJ];exact h _ x (by rw[zpL (by omega)];simpa using hx)
theorem CtxP.head {P:List St} {n:Nat} {x:St} {b:List St} (h:CtxP P n (x::b)):P[n]?=some x:=h 0 x rfl
theorem CtxP.tail {P:List St} {n:Nat} {x:St} {b:List St} (h:CtxP P n (x::b)):CtxP P (n+1) b:=fun i y hy=>by
 rw[zrJ,zrK 1];exact h (i+1) y (by simpa using hy)
theorem zbJ {g:List Nd} {n:Nat} {x:Nd} (h:g[n]?=some x):xL g n=x:=by unfold xL;rw[zpG,h];rfl
theorem zh1 {f:Fl} {a:Nat} {s:St} (h:(preL f.body)[a]?=some s):zW f a=s:=by unfold zW;rw[zpG,h];rfl
def SameR (a n:Nat) (rd rd':Int->Int):Prop:=∀ k:Int,¬ ((a:Int)<=k/\k<(a+n:Nat))->rd' k=rd k
theorem SameR.refl (a n:Nat) (rd:Int->Int):SameR a n rd rd:=fun _ _=>rfl
theorem SameR.trans {a n:Nat} {r1 r2 r3:Int->Int} (h:SameR a n r1 r2) (h':SameR a n r2 r3):SameR a n r1 r3:=fun k hk=>(h' k hk).trans (h k hk)
theorem SameR.widen {a n b m:Nat} {r1 r2:Int->Int} (h:SameR a n r1 r2) (h1:b<=a) (h2:a+n<=b+m):SameR b m r1 r2:=fun k hk=>h k (fun h3=>hk ⟨by omega,by omega⟩)
theorem zoL {a n:Nat} {rd:Int->Int} {k v:Int} (h:(a:Int)<=k/\k<(a+n:Nat)):SameR a n rd (zdg rd k v):=fun j hj=>by
 unfold zdg;rw[zpu (fun e=>hj (by rw[e];exact h))]
section
variable {f:Fl} {hs:List Int} {g:List Nd}
def Sim (f:Fl) (hs:List Int) (g:List Nd) (l:List St):Prop:=∀ (a n e:Nat),CtxG g n (layL l a n e)->CtxP (preL f.body) a (preL l)->∀ (σ:Sg) (rd:Int->Int),∃ k rd',Goes f hs g n (n+widL l:Nat) k ⟨((if l.isEmpty then e else n:Nat):Int),σ,rd⟩ ⟨(e:Int),exL f hs l σ,rd'⟩/\k<=nbL l/\SameR a (ssize l) rd rd'
theorem zk9 (s:St) (hp:s.plainB=true) (hn:s.act=4->0<=s.n) (h1:Sim f hs g s.thn) (h2:Sim f hs g s.els):∀ (a n e:Nat),CtxG g n (s.lay a n e)->CtxP (preL f.body) a s.pre->∀ (σ:Sg) (rd:Int->Int),∃ k rd',Goes f hs g n (n+s.wid:Nat) k ⟨(n:Int),σ,rd⟩ ⟨(e:Int),exS f hs s σ,rd'⟩/\k<=nbS s/\SameR a s.size rd rd':=by
 intro a n e hG hP σ rd
 have hw:=s.wid_eq
 have hz:=s.size_eq
 have de:=hp
 rw[s.plainB_eq,zpW,zpW]at de
 rw[s.lay_eq]at hG
 rw[s.pre_eq]at hP
 have hY:zW f a=s:=zh1 hP.head
 rw[zdS,kS]
 by_cases a3:s.act=3
 .
  rw[zpv a3]at hG
  rw[zpu (show ¬ s.act=4 by omega)]at hw
  rw[zpv a3,zpv a3]
  have da:=zbJ hG.head
  have di:=zX s.thn de.1.2 (a+1) (n+1) e
  have dk:=yk s.thn
  obtain⟨k1,r1,g1,b1,s1⟩:=h1 (a+1) (n+1) e hG.tail.left hP.tail.left { σ with time:=σ.time+s.cost } rd
  obtain⟨k2,r2,g2,b2,s2⟩:=h2 (a+1+ssize s.thn) (n+1+widL s.thn) e (hG.tail.right (by omega)) (hP.tail.right (by omega)) { σ with time:=σ.time+s.cost } rd
  by_cases hv:xt σ.vals s.term ≠ 0
  .
   rw[zpv hv]
   refine⟨1+k1,r1,(Goes.one (m':=⟨((if s.thn.isEmpty then e else n+1:Nat):Int),{ σ with time:=σ.time+s.cost },rd⟩) ?_ (by dsimp only;omega)).trans (g1.widen (by omega) (by omega)),by omega,s1.widen (by omega) (by omega)⟩
   unfold jJ
   rw[da,hY]
   simp[yZ,hv,apply_ite (Nat.cast (R:=Int))]
  rw[zpu hv]
  refine⟨1+k2,r2,(Goes.one (m':=⟨((if s.els.isEmpty then e else n+1+widL s.thn:Nat):Int),{ σ with time:=σ.time+s.cost },rd⟩) ?_ (by dsimp only;omega)).trans (g2.widen (by omega) (by omega)),by omega,s2.widen (by omega) (by omega)⟩
  unfold jJ
  rw[da,hY]
  simp[yZ,hv,apply_ite (Nat.cast (R:=Int))]
 by_cases a4:s.act=4
 .
  rw[zpu a3,zpv a4]at hG
  rw[zpv a4]at hw
  rw[zpu a3,zpu a3,zpv a4,zpv a4]
  have da:=zbJ hG.head
  have dc:=zbJ hG.tail.head
  have dg:CtxG g (n+2) (layL s.thn (a+1) (n+2) (n+1)):=hG.tail.tail
  obtain⟨N,hN⟩:=zqg (hn a4)
  have key:∀ (q:Nat),q<=N->∀ (σ:Sg) (rd:Int->Int),rd a=((N - q:Nat):Int)->∃ k rd',Goes f hs g n (n+s.wid:Nat) k ⟨((n+1:Nat):Int),σ,rd⟩ ⟨(e:Int),kg (exL f hs s.thn) s.cost s.term q σ,rd'⟩/\k<=1+q*(1+nbL s.thn)/\SameR a s.size rd rd':=by
   intro q
   induction q with
   | zero =>
    intro _ σ rd db
    refine⟨1,rd,Goes.one ?_ (by dsimp only;omega),by omega,SameR.refl _ _ _⟩
    unfold jJ
    rw[dc,hY]
    simp[yZ,hN,db,kg]
   | succ q ih =>
    intro hq σ rd db
    have df:¬ (rd a=s.n):=by rw[db,hN];omega
    rw[kg]
    by_cases hv:xt σ.vals s.term=0
    .
     rw[zpv hv]
     refine⟨1,zdg rd a (rd a+1),Goes.one ?_ (by dsimp only;omega),by omega,zoL (by omega)⟩
     unfold jJ
     rw[dc,hY]
     simp[yZ,df,hv]
    rw[zpu hv]
    obtain⟨k1,r1,g1,b1,s1⟩:=h1 (a+1) (n+2) (n+1) dg hP.tail.left { σ with time:=σ.time+s.cost } (zdg rd a (rd a+1))
    have dh:r1 a=((N - q:Nat):Int):=by
     rw[s1 a (by omega)];unfold zdg;rw[zpv rfl,db];omega
    obtain⟨k2,r2,g2,b2,s2⟩:=ih (by omega) _ r1 dh
    refine⟨1+(k1+k2),r2,(Goes.one (m':=⟨((if s.thn.isEmpty then n+1 else n+2:Nat):Int),{ σ with time:=σ.time+s.cost },zdg rd a (rd a+1)⟩) ?_ (by dsimp only;omega)).trans ((g1.widen (by omega) (by omega)).trans g2),?_,(zoL (by omega)).trans ((s1.widen (by omega) (by omega)).trans s2)⟩
    .
     unfold jJ
     rw[dc,hY]
     simp[yZ,df,hv,apply_ite (Nat.cast (R:=Int))]
    rw[zs1];omega
  rw[hN,zpG]
  obtain⟨k,r',hg,hb,hr⟩:=key N (zpJ _) σ (zdg rd a 0) (by unfold zdg;rw[zpv rfl,zs0];rfl)
  refine⟨1+k,r',(Goes.one (m':=⟨((n+1:Nat):Int),σ,zdg rd a 0⟩) ?_ (by dsimp only;omega)).trans hg,by omega,(zoL (by omega)).trans hr⟩
  unfold jJ
  rw[da,hY]
  simp[yZ]
 rw[zpu a3,zpu a4]at hG
 rw[zpu a4]at hw
 rw[zpu a3,zpu a4,zpu a3,zpu a4]
 have da:=zbJ hG.head
 refine⟨1,rd,Goes.one ?_ (by dsimp only;omega),by omega,SameR.refl _ _ _⟩
 unfold jJ
 rw[da,hY]
 simp[yZ]
theorem ziE (l:List St):plainL l=true->(∀ s ∈ preL l,s.act=4->0<=s.n)->Sim f hs g l:=by
 induction l using znx with
 | h l ih =>
 intro hp hn
 have key:∀ r:List St,(∀ x ∈ r,x ∈ l)->plainL r=true->(∀ s ∈ preL r,s.act=4->0<=s.n)->Sim f hs g r:=by
  intro r
  induction r with
  | nil =>
   intro _ _ _ a n e _ _ σ rd
   exact⟨0,rd,by rw[exL];exact Goes.refl _,zpz _,SameR.refl _ _ _⟩
  | cons s r ihr =>
   intro hm db de a n e hG hP σ rd
   have df:=hm s (zpo ..)
   have dh:widL (s::r)=s.wid+widL r:=rfl
   rw[plainL,zpW]at db
   have dc:=db.1
   have da:=dc
   rw[s.plainB_eq,zpW,zpW]at da
   rw[layL]at hG
   rw[preL]at hP
   have hY:∀ x ∈ s.pre++preL r,x.act=4->0<=x.n:=de
   rw[s.pre_eq]at hY
   have H1:=zk9 (g:=g) (f:=f) (hs:=hs) s dc (fun h=>hY s (by simp) h) ((ih s df).1 da.1.2 (fun x hx=>hY x (by simp[hx]))) ((ih s df).2 da.2 (fun x hx=>hY x (by simp[hx])))
   have dg:(s.lay a n (if r.isEmpty then e else n+s.wid)).length=s.wid:=by
    have h1:=zX [s] (by rw[plainL,dc];rfl) a n (if r.isEmpty then e else n+s.wid)
    simpa[layL,widL] using h1
   have di:s.pre.length=s.size:=by
    have:=yk [s]
    simpa[preL,ssize] using this
   obtain⟨k1,r1,g1,b1,s1⟩:=H1 a n (if r.isEmpty then e else n+s.wid) hG.left hP.left σ rd
   obtain⟨k2,r2,g2,b2,s2⟩:=ihr (fun y hy=>hm y (zpn _ hy)) db.2 (fun x hx=>de x (by rw[preL];exact zrb _ hx)) (a+s.size) (n+s.wid) e (hG.right (by omega)) (hP.right (by omega)) (exS f hs s σ) r1
   refine⟨k1+k2,r2,?_,by rw[nbL];omega,(s1.widen (zpJ _) (by rw[ssize];omega)).trans (s2.widen (by omega) (by rw[ssize];omega))⟩
   rw[List.isEmpty_cons,zpu (by decide),exL]
   exact Goes.trans (Goes.widen g1 (by omega) (by omega)) (Goes.widen g2 (by omega) (by omega))
 exact key l (fun x h=>h) hp hn
end
open Go.GL
theorem zh2 {vs:List Vr} {nh:Nat} (l:List St):∀ top,stepsCodeN vs nh l top=0->∀ s ∈ preL l,∃ last,zB vs nh s last=0:=by
 induction l using znx with
 | h l ih =>
 intro top h
 have hm:=xK l top h
 have key:∀ r:List St,(∀ x ∈ r,x ∈ l)->∀ s ∈ preL r,∃ last,zB vs nh s last=0:=by
  intro r
  induction r with
  | nil=>intro _ s hs;simp[preL]at hs
  | cons x r ihr =>
   intro hx s hs
   obtain⟨last,h2⟩:=hm x (hx x (zpo ..))
   obtain⟨_,_,_,h4,h5⟩:=qx h2
   rw[preL,x.pre_eq,zpD,zpA,zpD]at hs
   rcases hs with (rfl | hs | hs) | hs
   . exact⟨last,h2⟩
   . exact(ih x (hx x (zpo ..))).1 _ h4 s hs
   . exact(ih x (hx x (zpo ..))).2 _ h5 s hs
   exact ihr (fun y hy=>hx y (zpn _ hy)) s hs
 exact key l (fun x h=>h)
theorem zdT (l:List St):∀ s ∈ preL l,s.nodes<=snodes l:=by
 induction l using znx with
 | h l ih =>
 have key:∀ r:List St,(∀ x ∈ r,x ∈ l)->∀ s ∈ preL r,s.nodes<=snodes r:=by
  intro r
  induction r with
  | nil=>intro _ s hs;simp[preL]at hs
  | cons x r ihr =>
   intro hx s hs
   have h1:=(ih x (hx x (zpo ..))).1
   have h2:=(ih x (hx x (zpo ..))).2
   have h3:=x.nodes_eq
   rw[preL,x.pre_eq,zpD,zpA,zpD]at hs
   rw[snodes]
   rcases hs with (rfl | hs | hs) | hs
   . omega
   . have:=h1 s hs;omega
   . have:=h2 s hs;omega
   have:=ihr (fun y hy=>hx y (zpn _ hy)) s hs;omega
 exact key l (fun x h=>h)
theorem zh3 {f:Fl} {s:St} {last:Bool} (h:zB f.vars f.hatches.length s last=0) (hn:s.nodes<=100000):StepOk f s:=by
 obtain⟨h1,h2,h3,_,_⟩:=qx h
 have hY:=s.nodes_eq
 unfold zD at h2
 split at h2
 .
  rename_i hf
  split at h2
  .
   rename_i hr
   refine⟨hf,hr,by omega,h1.cost,fun ha=>?_,fun ha=>?_⟩
   .
    unfold zg at h3
    rcases ha with ha | ha
    .
     simp[ha,xh]at h3
     omega
    simp[ha,xh]at h3
    omega
   unfold zg at h3
   simp[ha,xh]at h3
   omega
  cases h2
 cases h2
def jF (s:St):Prop:=s.act=6->∀ b ∈ s.bounds,b<=67108864
theorem zh4 {l:List Int} (h:xg l=true):∀ (d i:Nat) x y,l[i]?=some x->l[i+d]?=some y->x<=y:=by
 intro d
 induction d with
 | zero=>intro i x y hx hy;rw[zrN,hx]at hy;cases hy;exact zqj _
 | succ d ih =>
  intro i x y hx hy
  have hY:=(zpy.1 hy).1
  obtain⟨z,hz⟩:∃ z,l[i+d]?=some z:=⟨_,zpk (by omega)⟩
  have h1:=ih i x z hx hz
  have h2:=(xr l).1 h (i+d) z y hz hy
  omega
theorem zeQ {vs:List Vr} {nh:Nat} {s:St} {last:Bool} (h:zB vs nh s last=0):jF s:=by
 intro a6 b hb
 obtain⟨h1,h2,h3,_,_⟩:=qx h
 have h4:zO s=true:=by
  rw[zz]at h
  split at h
  . cases h
  split at h
  . cases h
  rename_i h5;simpa using h5
 unfold zg at h3
 simp[a6,yp]at h3
 unfold zO at h4
 simp[a6]at h4
 have hr:=h3.2.2
 obtain⟨i,hi⟩:=zre.1 hb
 have hY:=(zpy.1 hi).1
 obtain⟨y,hy⟩:∃ y,s.bounds[s.bounds.length - 1]?=some y:=⟨_,zpk (by omega)⟩
 have h5:=zh4 hr (s.bounds.length - 1 - i) i b y hi (by rw[show i+(s.bounds.length - 1 - i)=s.bounds.length - 1 by omega];exact hy)
 rw[hy]at h4
 simp at h4
 omega
theorem zdU (l:List Int) (t:Int):qe l t=t\/(qe l t ∈ l/\t<=qe l t):=by
 have key:∀ (l:List Int) (s:Int × Bool),(l.foldl (zV t) s).1=s.1\/((l.foldl (zV t) s).1 ∈ l/\t<=(l.foldl (zV t) s).1):=by
  intro l
  induction l with
  | nil=>intro s;exact .inl rfl
  | cons b r ih =>
   intro s
   rw[zqU]
   rcases ih (zV t s b) with h | h
   .
    rw[h]
    unfold zV
    split
    . rename_i h1;exact .inr ⟨zpo ..,h1.1⟩
    exact .inl O
   exact .inr ⟨zpn _ h.1,h.2⟩
 exact key l (t,false)
structure Valid (f:Fl):Prop where
 ok:yj f=0
 size:snodes f.body+zA f.hatches<=1024
 bulk:sbulk f.body<=1000000
section
variable {f:Fl} (V:Valid f)
include V
theorem Valid.plain:plainL f.body=true:=zbC V.ok
theorem Valid.good:∀ v ∈ f.vars,yr (v.low,v.high):=zbA (yi V.ok).2.1
theorem Valid.kinds:∀ v ∈ f.vars,0<=v.kind/\v.kind<=3:=by
 have h:=(yi V.ok).2.1
 have h1:∀ j,j<f.vars.length->kN f.vars j=0:=by
  unfold zv at h
  split at h
  . rename_i h2;exact absurd h h2
  rename_i h2
  intro j hj
  exact xJ f.vars.length 0 (by simpa using h2) j (zpz _) (by omega)
 exact fun v hv=>(qs h1 v hv).2
theorem Valid.lens:f.vars.length<=64/\f.hatches.length<=8:=by
 have h:=(yi V.ok).1
 unfold xN at h
 simp at h
 omega
theorem Valid.ssize:ssize f.body<=1024:=zbD V.size
theorem Valid.step:∀ s ∈ preL f.body,StepOk f s/\jF s/\(s.act=4->0<=s.n/\s.n<=4096):=by
 intro s hs
 obtain⟨last,h⟩:=zh2 f.body true (yi V.ok).2.2.2.1 s hs
 have hn:=zdT f.body s hs
 have:=V.size
 exact⟨zh3 h (by omega),zeQ h,fun a4=>⟨((qx h).1.rep a4).1,((qx h).1.rep a4).2.1⟩⟩
theorem Valid.nb:nbL f.body<=8192:=by
 have h1:=zkS f.body true (yi V.ok).2.2.2.1
 have h2:=(yi V.ok).2.2.2.2
 unfold zcU at h2
 simp at h2
 omega
end
theorem kU (l:List St):∀ a n e,∀ x ∈ layL l a n e,x.kind=2\/x.kind=3\/x.kind=4\/x.kind=5:=by
 induction l using znx with
 | h l ih =>
 have key:∀ r:List St,(∀ x ∈ r,x ∈ l)->∀ a n e,∀ x ∈ layL r a n e,x.kind=2\/x.kind=3\/x.kind=4\/x.kind=5:=by
  intro r
  induction r with
  | nil=>intro _ a n e x hx;simp[layL]at hx
  | cons s r ihr =>
   intro hm a n e x hx
   have h1:=(ih s (hm s (zpo ..))).1
   have h2:=(ih s (hm s (zpo ..))).2
   rw[layL,zpD,s.lay_eq]at hx
   rcases hx with hx | hx
   .
    split at hx
    .
     rw[zpA,zpD]at hx
     rcases hx with rfl | hx | hx
     . exact .inr (.inl O)
     . exact h1 _ _ _ x hx
     exact h2 _ _ _ x hx
    split at hx
    .
     rw[zpA,zpA]at hx
     rcases hx with rfl | rfl | hx
     . exact .inr (.inr (.inl O))
     . exact .inr (.inr (.inr O))
     exact h1 _ _ _ x hx
    rw[zpC]at hx
    subst hx;exact .inl rfl
   exact ihr (fun y hy=>hm y (zpn _ hy)) _ _ _ x hx
 exact key l (fun x h=>h)
structure NodeOk' (f:Fl) (x:Nd):Prop where
 kind:x.kind=0\/x.kind=2\/x.kind=3\/x.kind=4\/x.kind=5
 step:x.kind ≠ 0->0<=x.at_/\(preL f.body)[x.at_.toNat]?=some (zW f x.at_)/\StepOk f (zW f x.at_)/\jF (zW f x.at_)
theorem Valid.node {f:Fl} (V:Valid f) {k:Int} (h0:0<=k) (h1:k<(zk f).length - 1):(zk f)[k.toNat]?=some (xL (zk f) k)/\NodeOk' f (xL (zk f) k):=by
 obtain⟨n,rfl⟩:=zqg h0
 have da:=yI f V.plain
 have hget:(zk f)[n]?=some (xL (zk f) n):=by
  unfold xL;rw[zpG,zpk (show n<(zk f).length by omega)];rfl
 refine⟨hget,?_⟩
 generalize xL (zk f) n=x at hget
 unfold zk at hget
 cases n with
 | zero=>simp at hget;subst hget;exact⟨.inl rfl,fun h=>absurd rfl h⟩
 | succ n =>
  rw[List.getElem?_cons_succ,zpK (by rw[zX _ V.plain];omega)]at hget
  have hx:=zpl hget
  have hk:=kU f.body _ _ _ x hx
  have hr:=(jB f.body V.plain 0 1 (1+widL f.body)).range x hx
  refine⟨.inr hk,fun _=>⟨by omega,?_⟩⟩
  obtain⟨s,hs⟩:∃ s,(preL f.body)[x.at_.toNat]?=some s:=⟨_,zpk (by rw[yk];omega)⟩
  have e:zW f x.at_=s:=by unfold zW;rw[hs];rfl
  have hY:=V.step s (zpl hs)
  rw[e]
  exact⟨hs,hY.1,hY.2.1⟩
structure MInv (f:Fl) (j:Nat) (m:Mc):Prop where
 inv:InV f.vars m.σ.vals
 time:0<=m.σ.time/\m.σ.time<=(j:Int)*67108864
 outs:m.σ.outs.length<=j
 rd:∀ k,0<=m.rd k/\m.rd k<=j
theorem zdV {f:Fl} {hs:List Int} {s:St} {σ:Sg} {j:Nat} (hg:∀ v ∈ f.vars,yr (v.low,v.high)) (ho:StepOk f s) (yx:jF s) (hV:InV f.vars σ.vals) (ht:0<=σ.time/\σ.time<=(j:Int)*67108864) (hY:σ.outs.length<=j) :
  InV f.vars (xu f hs s σ).vals/\(0<=(xu f hs s σ).time/\(xu f hs s σ).time<=((j+1:Nat):Int)*67108864)/\(xu f hs s σ).outs.length<=j+1:=by
 have hc:=ho.cost
 unfold xu
 split
 . exact⟨hV.set hg _ _,by dsimp only;omega,by dsimp only;omega⟩
 split
 . exact⟨hV,by dsimp only;omega,by simp;omega⟩
 split
 . exact⟨hV.set hg _ _,by dsimp only;omega,by dsimp only;omega⟩
 split
 .
  rename_i a6
  refine⟨hV,?_,by dsimp only;omega⟩
  dsimp only
  rcases zdU s.bounds (σ.time+s.cost) with h | h
  . rw[h];omega
  have:=yx a6 _ h.1
  omega
 exact⟨hV,by dsimp only;omega,by dsimp only;omega⟩
theorem zh5 {f:Fl} {hs:List Int} {g:List Nd} {j:Nat} {m:Mc} (hg:∀ v ∈ f.vars,yr (v.low,v.high)) (hn:NodeOk' f (xL g m.at_)) (h:MInv f j m):MInv f (j+1) (jJ f hs g m):=by
 obtain⟨h1,h2,h3,h4⟩:=h
 have da:∀ k n,0<=n/\n<=(j:Int)+1->∀ i,0<=zdg m.rd k n i/\zdg m.rd k n i<=((j+1:Nat):Int):=fun k n hn i=>by
  have:=h4 i
  unfold zdg;split<;>omega
 have hY:∀ k,0<=m.rd k/\m.rd k<=((j+1:Nat):Int):=fun k=>by have:=h4 k;omega
 unfold jJ yZ
 generalize hx:xL g m.at_=x at hn ⊢
 split
 . exact⟨h1,by dsimp only;omega,by dsimp only;omega,hY⟩
 rename_i k0
 obtain⟨_,_,ho,yx⟩:=hn.step k0
 have hc:=ho.cost
 split
 .
  obtain⟨e1,e2,e3⟩:=zdV (hs:=hs) hg ho yx h1 h2 h3
  exact⟨e1,e2,e3,hY⟩
 split
 . exact⟨h1,by dsimp only;omega,by dsimp only;omega,da _ _ (by omega)⟩
 split
 . exact⟨h1,by dsimp only;omega,by dsimp only;omega,hY⟩
 refine⟨h1,by dsimp only;omega,by dsimp only;omega,?_⟩
 dsimp only
 split
 . exact da _ _ (by have:=h4 x.at_;omega)
 exact hY
theorem Valid.walk {f:Fl} (V:Valid f) (hs:List Int) (σ:Sg):∃ (K:Nat) (rd':Int->Int),K<=8193/\Goes f hs (zk f) 0 ((zk f).length - 1) K ⟨0,σ,fun _=>0⟩ ⟨((zk f).length:Int) - 1,exL f hs f.body σ,rd'⟩:=by
 have hY:=yI f V.plain
 have hG:CtxG (zk f) 1 (layL f.body 0 1 (1+widL f.body)):=by
  intro i x hx
  have hi:=(zpy.1 hx).1
  unfold zk
  rw[show 1+i=i+1 by omega,List.getElem?_cons_succ,zpK hi];exact hx
 obtain⟨k,rd',da,hk,_⟩:=ziE (hs:=hs) (g:=zk f) f.body V.plain (fun s db a4=>((V.step s db).2.2 a4).1) 0 1 (1+widL f.body) hG (fun i x hx=>by rw[zs3];exact hx) σ (fun _=>0)
 have:=V.nb
 refine⟨1+k,rd',by omega,(Goes.one (m':=⟨((if f.body.isEmpty then 1+widL f.body else 1:Nat):Int),σ,fun _=>0⟩) ?_ (by dsimp only;omega)).trans ?_⟩
 .
  have h2:((if f.body.isEmpty then 1+widL f.body else 1:Nat):Int)=1:=by
   split
   .
    rename_i h
    have:f.body=[]:=by simpa using h
    rw[this];rfl
   rfl
  rw[h2]
  unfold jJ
  have:xL (zk f) 0=⟨0,-1,1,-1⟩:=rfl
  rw[this]
  simp[yZ]
 have e:((1+widL f.body:Nat):Int)=((zk f).length:Int) - 1:=by omega
 rw[<- e]
 exact da.widen (by omega) (by omega)
open Go.GL
def zeR (f:Fl) (x:Nd):Bool:=decide (x.kind=2)&&(decide ((zW f x.at_).act=0) || decide ((zW f x.at_).act=5))
theorem zka (l:List Int) (v:Value) (D:Nat->Prop) (w:World) (i:Nat) (h:SlR 1 zC D w v l) :
  Calls Tryz.prog 135 #[v,.int .i64 i] w (Ret fun r w'=>r=.tuple #[.int .i64 (l[i]?.getD 0),.bool (decide (i<l.length))]/\Ext w w'):=by
 obtain⟨av,cv,rfl⟩:=h.form
 refine znl Tryz.func135 O Tryz.ntmps135 O (znE (Vs 15 O (zlG O (fun de=>?_) (fun de=>?_))))
 . refine Vs 8 O (zlZ Tryz.results135 O O (fun w hI=>⟨_,rfl,by rw[zpx (by omega),zpI (by omega)];rfl,hI.k0⟩))
 refine Vs 6 O ?_
 obtain⟨x,hY,df⟩:=gE_ l (i) (by omega)
 obtain⟨dg,dh,di,da,_,db,dc⟩:=h.at hY
 obtain rfl:=dc
 refine zoa 1000 0 O O db ?_
 refine znN 1000 tR27 ts3 O da (by omega) (_) (rfl) O (Vs 6 O (zlZ Tryz.results135 O O (fun w hI=>⟨_,rfl,by rw[zpw (by omega),hY];rfl,hI.k0⟩)))
theorem zeS (vs:List Vr) (r:Ins) (vv s1 s2 s3:Value) (Dv D1 D2 D3:Nat->Prop) (w:World) (dl:SlR 5 RVr Dv w vv vs) (du:vs.length<=1000000) (dw:∀ v ∈ vs,0<=v.kind/\v.kind<=3) (dm:SlR 1 zC D1 w s1 r.secret) (dr:SlR 1 zC D2 w s2 r.pub) (dt:SlR 1 zC D3 w s3 r.random) :
  Calls Tryz.prog 94 #[vv,.agg #[s1,s2,s3]] w (Ret fun rr w'=>(∃ u,rr=.tuple #[u,.int .i64 (zl vs r)]/\(zl vs r ≠ 0->u=.slice none 0 0)/\(zl vs r=0->w'.ownsRow 0 3 1 u (zx vs r).length ((zx vs r).map zc)/\∀ g,u.ownBlock=some g->w.heap.size<=g))/\Ext w w'):=by
 obtain⟨av,cv,rfl⟩:=dl.form
 obtain⟨a1,c1,rfl⟩:=dm.form
 obtain⟨a2,c2,rfl⟩:=dr.form
 obtain⟨a3,c3,rfl⟩:=dt.form
 refine znl Tryz.func94 O Tryz.ntmps94 O (znE (Vs 2 O (V.box 3 O O (fun b3=>?_))))
 refine Vs 13 O (zoj 15 tR27 ts3 O (fun b15=>?_))
 refine Vs 15 O (zoe (σ:=Nat × StS × Value × Bool) [0,3] [3] [3] O (fun e ⟨i,s,u,b⟩=>(6,.int .i64 s.a)::(7,.int .i64 s.b)::(8,.int .i64 s.c)::(9,u)::(10,.bool b)::(11,.int .i64 i)::e) (fun e ⟨i,s,u,b⟩=>(15,.row 3 1 u s.vals.length (s.vals.map zc))::e) (fun⟨i,s,u,b⟩=>i<=vs.length/\(vs.take i).foldl (zp r) (some ⟨[],0,0,0⟩)=some s/\b=((vs.take i).zip s.vals).all inB) (fun⟨i,s,u,b⟩=>vs.length - i) ((0,⟨[],0,0,0⟩,.slice (some ⟨b15,0,none⟩) 0 0,true)) (Sub.of O) (Has.of O) (fun _=>rfl) (fun _=>rfl) (fun _=>rfl) (⟨zpz _,rfl,rfl⟩) ?_)
 rintro⟨i,s,u,b⟩ ⟨hi,hs,hb⟩
 show V _ _ _ _ _ ((6,.int .i64 s.a)::(7,.int .i64 s.b)::(8,.int .i64 s.c)::(9,u)::(10,.bool b)::(11,.int .i64 i)::_) _ ((15,.row 3 1 u s.vals.length (s.vals.map zc))::_) _
 obtain⟨dx,ha,dA,hc⟩:=zaj i s hi hs
 refine Vs 9 O (zlG O (fun dy=>?_) (fun dy=>?_))
 .
  refine Vs 8 O ?_
  obtain⟨x,da,dc⟩:=gE_ vs (i) (by omega)
  obtain⟨dB,dC,dD,de,_,df,dg⟩:=dl.at da
  obtain rfl:=dg
  refine zoa 1000 0 O O df ?_
  refine znN 1000 tR22 ts142 O de (by omega) (_) (rfl) O ?_
  have hY:=kf da hs
  refine Vs 1 O (V.alloc 12 tz142 O O (fun b12=>?_))
  refine Vs 18 O ?_
  have dE:=dw x dc
  refine zof (σ:=Bool × Int × Nat × Nat × Nat) [0,3,9,10,11,12] [3,12,15] [3,12] O (fun e ⟨ok,n,a',b',c'⟩=>(13,.int .i64 n)::(14,.bool ok)::(6,.int .i64 a')::(7,.int .i64 b')::(8,.int .i64 c')::e) (fun e ⟨ok,n,a',b',c'⟩=>e) (fun⟨ok,n,a',b',c'⟩=>(vs.take (i+1)).foldl (zp r) (some ⟨[],0,0,0⟩)=if ok then some ⟨s.vals++[n],a',b',c'⟩ else none) (fun _=>rfl) (fun _=>rfl) ?_ ?_
  .
   refine Vs 7 O (zlG O (fun k1=>?_) (fun k1=>?_))
   .
    refine Vs 5 O (znZ Tryz.call135 O (fun w hI=>zka r.secret _ D1 w s.a (Tr1 hI.k0 dm)) ?_)
    rw[zpu (by omega),show yF r x.kind=r.secret by unfold yF;rw[zpv k1],show jb s x.kind=s.a by unfold jb;rw[zpv k1]]at hY
    have hq:(vs.take (i+1)).foldl (zp r) (some ⟨[],0,0,0⟩)=if decide (s.a<r.secret.length) then some ⟨s.vals++[r.secret[s.a]?.getD 0],s.a+1,s.b,s.c⟩ else none:=by
     rw[hY]
     by_cases hl:s.a<r.secret.length
     . rw[zpv (zpw hl),zpk hl];simp[kR,k1]
     rw[zpu (by simp[hl]),zpI (by omega)];rfl
    refine Va 13 O (by omega) (zlT (⟨_,_,s.a+1,s.b,s.c⟩) (Sub.of O) (Has.of O) (hq) 0 O O)
   refine Vs 6 O (zlG O (fun k2=>?_) (fun k2=>?_))
   .
    refine Vs 5 O (znZ Tryz.call135 O (fun w hI=>zka r.pub _ D2 w s.b (Tr1 hI.k0 dr)) ?_)
    rw[zpu (by omega),show yF r x.kind=r.pub by unfold yF;rw[zpu k1,zpv k2],show jb s x.kind=s.b by unfold jb;rw[zpu k1,zpv k2]]at hY
    have hq:(vs.take (i+1)).foldl (zp r) (some ⟨[],0,0,0⟩)=if decide (s.b<r.pub.length) then some ⟨s.vals++[r.pub[s.b]?.getD 0],s.a,s.b+1,s.c⟩ else none:=by
     rw[hY]
     by_cases hl:s.b<r.pub.length
     . rw[zpv (zpw hl),zpk hl];simp[kR,k2]
     rw[zpu (by simp[hl]),zpI (by omega)];rfl
    refine Va 13 O (by omega) (zlT (⟨_,_,s.a,s.b+1,s.c⟩) (Sub.of O) (Has.of O) (hq) 0 O O)
   refine Vs 6 O (zlG O (fun k3=>?_) (fun k3=>?_))
   .
    refine Vs 5 O (znZ Tryz.call135 O (fun w hI=>zka r.random _ D3 w s.c (Tr1 hI.k0 dt)) ?_)
    rw[zpu (by omega),show yF r x.kind=r.random by unfold yF;rw[zpu k1,zpu k2],show jb s x.kind=s.c by unfold jb;rw[zpu k1,zpu k2]]at hY
    have hq:(vs.take (i+1)).foldl (zp r) (some ⟨[],0,0,0⟩)=if decide (s.c<r.random.length) then some ⟨s.vals++[r.random[s.c]?.getD 0],s.a,s.b,s.c+1⟩ else none:=by
     rw[hY]
     by_cases hl:s.c<r.random.length
     . rw[zpv (zpw hl),zpk hl];simp[kR,k1,k2]
     rw[zpu (by simp[hl]),zpI (by omega)];rfl
    refine Va 13 O (by omega) (zlT (⟨_,_,s.a,s.b,s.c+1⟩) (Sub.of O) (Has.of O) (hq) 0 O O)
   rw[zpv (by omega)]at hY
   refine Vs 2 O (zlT (⟨true,x.init,s.a,s.b,s.c⟩) (Sub.of O) (Has.of O) (by rw[hY];rfl) 0 O O)
  rintro⟨ok,n,a',b',c'⟩ hq
  show V _ _ _ _ _ ((13,.int .i64 n)::(14,.bool ok)::(6,.int .i64 a')::(7,.int .i64 b')::(8,.int .i64 c')::_) _ (_) _
  dsimp only at hq
  refine Vs 5 O (znb O (fun w hI=>zmT O (by first | exact za | rfl)) (Vs 2 O (V.bool O (fun dh=>?_) (fun dh=>?_))))
  .
   have db:ok=false:=by simpa using dh
   have hN:zl vs r=1:=by unfold zl;rw[zbH (by rw[hq,db];rfl)]
   refine Vs 13 O (zlZ tr94 O O (fun w hI=>⟨_,rfl,⟨_,by rw[hN],fun _=>rfl,fun h=>by omega⟩,hI.k0⟩))
  have db:ok=true:=by simpa using dh
  rw[db,zpv rfl]at hq
  have hz:∀ c,c=inB (x,n)->(b&&c)=((vs.take (i+1)).zip (s.vals++[n])).all inB:=by
   intro c hc
   rw[ze da,List.zip_append (by rw[dx,zpO];omega),List.all_append,<- hb,hc]
   simp
  refine Vs 10 O (V.sp 69 O (fun g1=>?_) (fun g1=>?_))
  .
   refine Vs 15 O (V.bs 77 [(0,_)] tR27 ts3 tz3 (by decide) O O (by kernel_rfl) (fun b77=>?_))
   refine znS 15 77 tu27 Tryz.el3 O (by decide) O O (by omega) (by omega) (fun u15=>(Va 9 O (by omega) (zod 15 O (e':=.row 3 1 u15 (s.vals++[n]).length ((s.vals++[n]).map zc)) (by simp[zc]) (V.back (⟨i+1,⟨s.vals++[n],a',b',c'⟩,u15,false⟩) (Sub.of O) (Has.of O) (⟨by omega,hq,by rw[<- hz false (by unfold inB;rw[zpx (p:=x.low<=n) (by omega)];rfl),zpX]⟩) (by first | omega | (dsimp only;omega)) 0 O O))))
  refine Vs 7 O (zlG O (fun t1=>?_) (fun t1=>?_))
  .
   refine Vs 7 O (V.bs 1077 [(0,_)] tR27 ts3 tz3 (by decide) O O (by kernel_rfl) (fun b1077=>?_))
   refine znS 15 1077 tu27 Tryz.el3 O (by decide) O O (by omega) (by omega) (fun u15=>(Va 9 O (by omega) (zod 15 O (e':=.row 3 1 u15 (s.vals++[n]).length ((s.vals++[n]).map zc)) (by simp[zc]) (V.back (⟨i+1,⟨s.vals++[n],a',b',c'⟩,u15,false⟩) (Sub.of O) (Has.of O) (⟨by omega,hq,by rw[<- hz false (by unfold inB;rw[zpx (p:=n<=x.high) (by omega),zpX]),zpX]⟩) (by first | omega | (dsimp only;omega)) 0 O O))))
  refine Vs 5 O (V.bs 2077 [(0,_)] tR27 ts3 tz3 (by decide) O O (by kernel_rfl) (fun b2077=>?_))
  refine znS 15 2077 tu27 Tryz.el3 O (by decide) O O (by omega) (by omega) (fun u15=>(Va 9 O (by omega) (zod 15 O (e':=.row 3 1 u15 (s.vals++[n]).length ((s.vals++[n]).map zc)) (by simp[zc]) (V.back (⟨i+1,⟨s.vals++[n],a',b',c'⟩,u15,b⟩) (Sub.of O) (Has.of O) (⟨by omega,hq,by rw[<- hz true (by unfold inB;rw[zpw (p:=x.low<=n) (by omega),zpw (p:=n<=x.high) (by omega)];rfl),zpY]⟩) (by first | omega | (dsimp only;omega)) 0 O O))))
 have dz:i=vs.length:=by omega
 rw[dz,zpp]at hs hb
 have hS:jO vs r=some s:=hs
 have hC:zl vs r=yK vs r s:=by unfold zl;rw[hS]
 have hV:zx vs r=s.vals:=by unfold zx;rw[hS]
 rw[hC,hV]
 refine Vs 14 O (V.sp 84 O (fun e1=>?_) (fun e1=>?_))
 .
  have hF:yK vs r s=1:=by unfold yK;rw[zpv (.inl (by omega))]
  rw[hF]
  refine Vs 24 O (zlZ tr94 O O (fun w hI=>⟨_,rfl,⟨_,rfl,fun _=>rfl,fun h=>by omega⟩,hI.k0⟩))
 refine Vs 7 O (V.sp 91 O (fun e2=>?_) (fun e2=>?_))
 .
  have hF:yK vs r s=1:=by unfold yK;rw[zpv (.inr (.inl (by omega)))]
  rw[hF]
  refine Vs 17 O (zlZ tr94 O O (fun w hI=>⟨_,rfl,⟨_,rfl,fun _=>rfl,fun h=>by omega⟩,hI.k0⟩))
 refine Vs 8 O (zlG O (fun e3=>?_) (fun e3=>?_))
 .
  have hF:yK vs r s=1:=by unfold yK;rw[zpv (.inr (.inr (by omega)))]
  rw[hF]
  refine Vs 8 O (zlZ tr94 O O (fun w hI=>⟨_,rfl,⟨_,rfl,fun _=>rfl,fun h=>by omega⟩,hI.k0⟩))
 have hF:yK vs r s=if b=true then 0 else 3:=by unfold yK;rw[zpu (by omega),hb]
 rw[hF]
 refine Vs 6 O (znb O (fun w hI=>zmT O (by first | exact za | rfl)) (Vs 2 O (V.bool O (fun di=>?_) (fun di=>?_))))
 .
  have dk:b=false:=by simpa using di
  rw[dk,zpu (by decide)]
  refine Vs 8 O (zlZ tr94 O O (fun w hI=>⟨_,rfl,⟨_,rfl,fun _=>rfl,fun h=>by omega⟩,hI.k0⟩))
 have dk:b=true:=by simpa using di
 rw[dk,zpv rfl]
 refine Vs 10 O (zlZ tr94 O O (fun w hI=>⟨_,rfl,⟨_,rfl,fun h=>absurd O h,fun _=>⟨hI.at 15 rfl,hI.own 15 0 O rfl⟩⟩,hI.k0⟩))
theorem zeT {vs:List Vr} (t:Tm):zu vs true t=true->zu vs false t=true:=by
 induction t using znv with
 | h t ih =>
  intro h
  rw[yW,zpW,zpW]at h ⊢
  refine⟨⟨h.1.1,?_⟩,?_⟩
  .
   have h2:=h.1.2
   unfold qB at h2 ⊢
   split
   .
    rename_i e
    rw[zpv e,zpW]at h2
    rw[h2.1];rfl
   rename_i e
   rw[zpu e]at h2
   exact h2
  have key:∀ l:List Tm,(∀ k ∈ l,k ∈ t.kids)->formedL vs true l=true->formedL vs false l=true:=by
   intro l
   induction l with
   | nil=>intro _ _;rfl
   | cons x r ihr =>
    intro hm hf
    rw[formedL,zpW]at hf ⊢
    exact⟨ih x (hm x (zpo ..)) hf.1,ihr (fun k hk=>hm k (zpn _ hk)) hf.2⟩
  exact key t.kids (fun k h=>h) h.2
theorem Valid.hatch {f:Fl} (V:Valid f):∀ h ∈ f.hatches,zu f.vars false h.term=true/\(rng f.vars h.term).isSome=true/\h.term.nodes<=1000000/\h.low<=h.high:=by
 intro h hm
 obtain⟨i,hi⟩:=zre.1 hm
 have da:=(zpy.1 hi).1
 have h0:=(yi V.ok).2.2.1
 have h1:=xJ f.hatches.length 0 h0 i (zpz _) (by omega)
 rw[zag hi]at h1
 have hn:=xG hi
 have:=V.size
 unfold zJ at h1
 split at h1
 . cases h1
 split at h1
 . cases h1
 split at h1
 . cases h1
 rename_i hb
 unfold zD at h1
 split at h1
 .
  rename_i hf
  split at h1
  .
   rename_i hr
   refine⟨zeT _ hf,hr,by omega,?_⟩
   have hY:zaO h.low h.high=true:=by simpa using hb
   unfold zaO at hY
   exact(of_decide_eq_true hY).1
  cases h1
 cases h1
def zfn (vals:List Int) (hs:List Ht):List Int:=hs.map fun h=>yB (xt vals h.term) h.low h.high
theorem zdW {vals:List Int} {hs:List Ht} {i:Nat} {x:Ht} (h:hs[i]?=some x):zfn vals (hs.take (i+1))=zfn vals (hs.take i)++[yB (xt vals x.term) x.low x.high]:=by
 unfold zfn;rw[ze h,zr3];rfl
theorem jn {vs:List Vr} {r:Ins} (h:zl vs r=0):InV vs (zx vs r):=by
 unfold zl at h
 cases hs:jO vs r with
 | none=>rw[hs]at h;cases h
 | some s =>
  rw[hs]at h
  have hv:zx vs r=s.vals:=by unfold zx;rw[hs]
  have hl:=zaj (vs:=vs) (r:=r) vs.length s (zpJ _) (by rw[zpp];exact hs)
  simp only at h
  unfold yK at h
  split at h
  . cases h
  split at h
  .
   rename_i ha
   rw[hv]
   refine⟨hl.1,fun i v hi=>?_⟩
   have hY:=(zpy.1 hi).1
   rw[zqv]at ha
   have:=ha (v,lki s.vals i) (zre.2 ⟨i,by
    rw[List.getElem?_zip_eq_some]
    exact⟨hi,zbE (by omega)⟩⟩)
   unfold inB at this
   simp at this
   exact this
  cases h
abbrev yc (f:Fl) (r:Ins):List Int:=zfn (zx f.vars r) f.hatches
abbrev zg3 (f:Fl) (r:Ins):Sg:=⟨zx f.vars r,[],0⟩
abbrev zlx (f:Fl) (r:Ins):Mc:=⟨0,zg3 f r,fun _=>0⟩
def zak (f:Fl) (r:Ins):Sg:=exL f (yc f r) f.body (zg3 f r)
def GoesAll (f:Fl) (r:Ins) (K:Nat):Prop:=∃ rd',Goes f (yc f r) (zk f) 0 ((zk f).length - 1) K (zlx f r) ⟨((zk f).length:Int) - 1,zak f r,rd'⟩
theorem GoesAll.unique {f:Fl} {r:Ins} {K K':Nat} (h:GoesAll f r K) (h':GoesAll f r K'):K=K':=by
 obtain⟨_,h1,h2⟩:=h
 obtain⟨_,h3,h4⟩:=h'
 rcases Nat.lt_trichotomy K K' with hh | hh | hh
 . have:=(h4 K hh).2;rw[h1]at this;dsimp only at this;omega
 . exact hh
 have:=(h2 K' hh).2;rw[h3]at this;dsimp only at this;omega
theorem zck (l:List Int):l.flatMap (fun x=>[zc x])=l.map zc:=(zcC l).symm
theorem kV:∀ (D:Nat->Prop) (w:World) (x:Int) (cs:List Value),zC D w x cs->cs=[zc x]:=fun _ _ _ _ h=>h
theorem zdX (vs:List Vr) (vals:List Int) (n i:Int) (v1 v2 v3 sv:Value) (Dv D:Nat->Prop) (w:World) (df:SlR 5 RVr Dv w v1 vs) (hs:SlR 1 zC D w sv vals) (dg:vals.length=vs.length) (di:vs.length<=1000000) (hi:0<=i/\i<vs.length) :
  Calls Tryz.prog 137 #[.agg #[v1,v2,v3],sv,.int .i64 i,.int .i64 n] w (Ret fun rr w'=>(w'.ownsRow 0 3 1 rr vals.length ((zdf vs vals i n).map zc)/\∀ g,rr.ownBlock=some g->w.heap.size<=g)/\Ext w w'):=by
 obtain⟨av,cv,rfl⟩:=df.form
 obtain⟨asl,csl,rfl⟩:=hs.form
 obtain⟨i,rfl⟩:∃ j:Nat,i=j:=⟨i.toNat,by omega⟩
 refine znn Tryz.func137 O Tryz.ntmps137 O (znE (Vs 2 O (V.box 4 O O (fun b4=>?_))))
 refine Vs 5 O (zoj 10 tR27 ts3 O (fun b10=>?_))
 refine Vs 1 O (zoh 10 (fun x=>[zc x]) (fun _=>rfl) (by simp[Value.oneCell']) kV tu27 Tryz.el3 O (by decide) O (fun w hI=>⟨_,Tr1 hI.k0 hs⟩) (by omega) (by omega) (fun u10=>?_))
 refine zod 10 O (e':=.row 3 1 u10 vals.length (vals.map zc)) (by rw[zck,zs3];rfl) (znU 10 O (by omega) ?_)
 rintro b c rfl db
 refine Vs 4 O ?_
 obtain⟨x,hY,dh⟩:=gE_ vs (i) (by omega)
 obtain⟨dk,dl,dm,da,_,dc,de⟩:=df.at hY
 obtain rfl:=de
 refine zoa 1000 0 O O dc (Vw [4,1000] [] O (Vd [0,1,2,3,4,5,9,10,11] 0 (by kernel_rfl) O O O ?_))
 refine znO 6 1000 tR22 ts142 O (by kernel_rfl) O da (by omega) (_) (rfl) O (Vd [7,8] 0 (by kernel_rfl) O O O ?_)
 refine znO 12 1000 tR22 ts142 O (by kernel_rfl) O da (by omega) (_) (rfl) O (Vd [13,14] 0 (by kernel_rfl) O O O (zo0 15 0 Tryz.call140 O (by kernel_rfl) O O (fun w hI=>zaa n x.low x.high w) (Vb [16] 0 (by kernel_rfl) O O O (by omega) (znY 17 10 0 (i) ts3 O (by kernel_rfl) O O (by omega) (by simp;omega) (VD.done (by kernel_rfl) (Vs 8 O ?_))))))
 have hx:zdf vs vals i n=vals.set i (yB n x.low x.high):=by unfold zdf;rw[zpG,hY]
 refine zod 10 O (e':=.row 3 1 (.slice (some ⟨b,0,none⟩) vals.length c) vals.length ((zdf vs vals i n).map zc)) (by rw[hx,zr9]) (zlW Tryz.results137 O (fun w hI=>⟨_,rfl,⟨hI.at 10 rfl,hI.own 10 0 O rfl⟩,hI.k0⟩))
theorem zd2 (f:Fl) (vals:List Int) (v1 v2 v3 sv:Value) (D Ds:Nat->Prop) (w:World) (hf:RFl D w f v1 v2 v3) (hs:SlR 1 zC Ds w sv vals) (hg:∀ v ∈ f.vars,yr (v.low,v.high)) (hV:InV f.vars vals) (hh:∀ h ∈ f.hatches,zu f.vars false h.term=true/\(rng f.vars h.term).isSome=true) (dr:f.hatches.length<=1000000) :
  Calls Tryz.prog 96 #[.agg #[v1,v2,v3],sv] w (Ret fun rr w'=>(w'.ownsRow 0 3 1 rr f.hatches.length ((zfn vals f.hatches).map zc)/\∀ g,rr.ownBlock=some g->w.heap.size<=g)/\Ext w w'):=by
 obtain⟨dt,dg,du⟩:=hf
 obtain⟨ah,ch,rfl⟩:=dg.form
 refine znl Tryz.func96 O Tryz.ntmps96 O (znE (Vs 2 O (V.box 2 O O (fun b2=>?_))))
 refine Vs 5 O (zoj 8 tR27 ts3 O (fun b8=>?_))
 refine Vs 10 O (zoe (σ:=Nat × Value) [1,2] [2] [2] O (fun e ⟨i,u⟩=>(5,u)::(6,.int .i64 i)::e) (fun e ⟨i,u⟩=>(8,.row 3 1 u i ((zfn vals (f.hatches.take i)).map zc))::e) (fun⟨i,u⟩=>i<=f.hatches.length) (fun⟨i,u⟩=>f.hatches.length - i) ((0,.slice (some ⟨b8,0,none⟩) 0 0)) (Sub.of O) (Has.of O) (fun _=>rfl) (fun _=>rfl) (fun _=>rfl) (zpz _) ?_)
 rintro⟨i,u⟩ hi
 show V _ _ _ _ _ ((5,u)::(6,.int .i64 i)::_) _ ((8,.row 3 1 u i ((zfn vals (f.hatches.take i)).map zc))::_) _
 refine Vs 10 O (zlG O (fun dh=>?_) (fun dh=>?_))
 .
  refine Vs 9 O ?_
  obtain⟨x,hY,db⟩:=gE_ f.hatches (i) (by omega)
  obtain⟨dw,dx,dy,dc,_,de,df⟩:=dg.at hY
  obtain⟨di,rfl,da⟩:=df
  obtain⟨dk,dl,rfl⟩:=da.form
  refine zoa 1000 0 O O de ?_
  refine znN 1000 tR23 ts109 O dc (by omega) (_) (rfl) O ?_
  obtain⟨t1,t2⟩:=hh x db
  refine Vs 1 O (V.alloc 7 tz109 O O (fun b7=>?_))
  refine Vs 3 O (Vw [2,1000,7] [] O (Vd [0,1,2,3,5,6,7,8] 0 (by kernel_rfl) O O O (zo0 4 0 tc138 O (by kernel_rfl) O O (fun w hI=>qf hg hV x.term t1 t2 _ D Ds w _ (Tr1 hI.k0 hs) (RTm.put (Tr1 hI.k0 da))) (zo0 9 0 Tryz.call140 O (by kernel_rfl) O O (fun w hI=>zaa _ x.low x.high w) (VD.bs 10 31 0 [(0,_)] tR27 ts3 tz3 (by decide) O (by kernel_rfl) O O (by kernel_rfl) (fun b31=>?_))))))
  refine znT 11 8 31 0 tu27 Tryz.el3 O (by decide) O (by kernel_rfl) O O O (by omega) (by omega) (fun u8=>(Vd [12] 0 (by kernel_rfl) O O O (VD.done (by kernel_rfl) (Va 7 O (by omega) (zod 8 O (e':=.row 3 1 u8 (i+1) ((zfn vals (f.hatches.take (i+1))).map zc)) (by rw[zdW hY,zr3];rfl) (V.back ((i+1,u8)) (Sub.of O) (Has.of O) (Nat.succ_le_of_lt (by omega)) (by first | omega | (dsimp only;omega)) 0 O O))))))
 have dm:i=f.hatches.length:=by omega
 subst dm
 refine Vs 12 O (zlW Tryz.results96 O (fun w hI=>⟨_,rfl,⟨by have h:=hI.at 8 rfl;rwa [zpp]at h,hI.own 8 0 O rfl⟩,hI.k0⟩))
theorem zfo (vs:List Vr) (vals:List Int) (i n:Int):(zdf vs vals i n).length=vals.length:=by
 unfold zdf;split
 . rw[zr2]
 rfl
structure SgB (f:Fl) (N:Nat) (σ:Sg):Prop where
 inv:InV f.vars σ.vals
 t0:0<=σ.time
 t1:σ.time<=(N:Int)*67108864
 ol:σ.outs.length<=N
theorem SgB.mono {f:Fl} {N M:Nat} {σ:Sg} (h:SgB f N σ) (hm:N<=M):SgB f M σ:=⟨h.inv,h.t0,by have:=h.t1;omega,by have:=h.ol;omega⟩
theorem SgB.cost {f:Fl} {N:Nat} {σ:Sg} {s:St} (h:SgB f N σ) (ho:StepOk f s):SgB f (N+1) { σ with time:=σ.time+s.cost }:=by
 have:=ho.cost
 exact⟨h.inv,by have:=h.t0;dsimp only;omega,by have:=h.t1;dsimp only;omega,by have:=h.ol;dsimp only;omega⟩
abbrev PreOk (f:Fl) (l:List St):Prop:=∀ s ∈ preL l,StepOk f s/\jF s/\(s.act=4->0<=s.n)
theorem PreOk.kids {f:Fl} {l:List St} (h:PreOk f l) {x:St} (hx:x ∈ l):(StepOk f x/\jF x/\(x.act=4->0<=x.n))/\PreOk f x.thn/\PreOk f x.els:=by
 have hm:∀ s ∈ x.pre,s ∈ preL l:=by
  intro s hs
  induction l with
  | nil=>cases hx
  | cons y r ih =>
   rw[preL,zpD]
   rcases zpA.1 hx with rfl | hx
   . exact .inl hs
   refine .inr (ih (fun s hs=>h s ?_) hx)
   rw[preL,zpD];exact .inr hs
 rw[x.pre_eq]at hm
 exact⟨h x (hm x (by simp)),fun s hs=>h s (hm s (by simp[hs])),fun s hs=>h s (hm s (by simp[hs]))⟩
theorem zdY {f:Fl} {body:Sg->Sg} {s:St} (ho:StepOk f s) {b:Nat} (hb:∀ N σ,SgB f N σ->SgB f (N+b) (body σ)):∀ (k N:Nat) (σ:Sg),SgB f N σ->SgB f (N+k*(1+b)) (kg body s.cost s.term k σ)
 | 0,N,σ,h=>by simpa[kg] using h
 | k+1,N,σ,h=>by
  unfold kg
  have h1:=h.cost ho
  rw[zs1]
  split
  . exact h1.mono (by omega)
  exact(zdY ho hb k _ _ (hb _ _ h1)).mono (by omega)
theorem zh6 {f:Fl} {hs:List Int} (hg:∀ v ∈ f.vars,yr (v.low,v.high)) (l:List St):PreOk f l->∀ N σ,SgB f N σ->SgB f (N+nbL l) (exL f hs l σ):=by
 induction l using znx with
 | h l ih =>
 intro hp
 have key:∀ r:List St,(∀ x ∈ r,x ∈ l)->∀ N σ,SgB f N σ->SgB f (N+nbL r) (exL f hs r σ):=by
  intro r
  induction r with
  | nil=>intro _ N σ h;exact h
  | cons x r ihr =>
   intro hm N σ h
   obtain⟨⟨ho,da,dc⟩,hY,db⟩:=hp.kids (hm x (zpo ..))
   obtain⟨i1,i2⟩:=ih x (hm x (zpo ..))
   rw[exL,nbL,<- zrJ]
   refine ihr (fun y hy=>hm y (zpn _ hy)) _ _ ?_
   rw[kS,zdS]
   split
   .
    split
    . exact(i1 hY _ _ (h.cost ho)).mono (by omega)
    exact(i2 db _ _ (h.cost ho)).mono (by omega)
   split
   . exact(zdY ho (i1 hY) _ _ _ h).mono (by omega)
   obtain⟨h1,h2,h3⟩:=zdV (hs:=hs) hg ho da h.inv ⟨h.t0,h.t1⟩ h.ol
   exact⟨h1,h2.1,h2.2,h3⟩
 exact key l (fun x h=>h)
theorem zcl (f:Fl) (hs:List Int):∀ (a b:List St) (σ:Sg),exL f hs (a++b) σ=exL f hs b (exL f hs a σ)
 | [],_,_=>rfl
 | x::r,b,σ=>by rw[zqA,exL,exL,zcl f hs r b]
theorem zal:∀ (a b:List St),nbL (a++b)=nbL a+nbL b
 | [],b=>by rw[zrk];simp[nbL]
 | x::r,b=>by rw[zqA,nbL,nbL,zal r b,zrJ]
theorem ziF (l:List St) (i:Nat):nbL (l.take i)<=nbL l:=by
 have:=zal (l.take i) (l.drop i)
 rw[zrD]at this
 omega
theorem zkb (s:St):1<=nbS s:=by
 rw[zdS]
 split
 . omega
 split<;>omega
abbrev sgV (σ:Sg) (a1:Option Addr) (c1:Nat) (a2:Option Addr) (c2:Nat):Value:=.agg #[.slice a1 σ.vals.length c1,.slice a2 σ.outs.length c2,.int .i64 σ.time]
abbrev SlI (D:Nat->Prop) (w:World) (a:Option Addr) (c:Nat) (l:List Int):Prop:=SlR 1 zC D w (.slice a l.length c) l
def zkT (D:Nat->Prop) (w w':World) (σ:Sg) (r:Value):Prop:=∃ a1 c1 a2 c2,r=sgV σ a1 c1 a2 c2/\SlI (fun b=>D b\/w.heap.size<=b) w' a1 c1 σ.vals/\SlI (fun b=>D b\/w.heap.size<=b) w' a2 c2 σ.outs
def zh7 (f:Fl) (hs:List Int) (l:List St):Prop:=∀ (N:Nat) (σ:Sg),SgB f N σ->N+nbL l<=100000->∀ (D Df Dh:Nat->Prop) (w:World) (v1 v2 v3 hv lv:Value) (a1:Option Addr) (c1:Nat) (a2:Option Addr) (c2:Nat),(∀ b,D b->b<w.heap.size)->RFl Df w f v1 v2 v3->SlR 1 zC Dh w hv hs->SlR 10 RSt Df w lv l->SlI D w a1 c1 σ.vals->SlI D w a2 c2 σ.outs ->
 Calls Tryz.prog 95 #[.agg #[v1,v2,v3],hv,lv,sgV σ a1 c1 a2 c2] w (Ret fun r w'=>zkT D w w' (exL f hs l σ) r/\Ext w w')
theorem zh8 (f:Fl) (hs:List Int) (hg:∀ v ∈ f.vars,yr (v.low,v.high)) (x:St) (ho:StepOk f x) (hn:0<=x.n) (hp:PreOk f x.thn) (ih:zh7 f hs x.thn) (N:Nat) (σ:Sg) (hB:SgB f N σ) (hN:N+x.n.toNat*(1+nbL x.thn)<=100000) (D Df Dh:Nat->Prop) (w:World) (v1 v2 v3 hv:Value) (a1:Option Addr) (c1:Nat) (a2:Option Addr) (c2:Nat) (_:∀ b,D b->b<w.heap.size) (hf:RFl Df w f v1 v2 v3) (hh:SlR 1 zC Dh w hv hs) (ax:Option Addr) (nx:Nat) (bx:Option Addr) (mx:Nat) (ex:Option Addr) (ox:Nat) (fx:Option Addr) (px:Nat)
  (hk:SlR 3 RTm Df w (.slice ax x.term.kids.length nx) x.term.kids) (ht:SlR 10 RSt Df w (.slice bx x.thn.length mx) x.thn) (dl:SlI D w a1 c1 σ.vals) (dm:SlI D w a2 c2 σ.outs) :
  Calls Tryz.prog 136 #[.agg #[v1,v2,v3],hv,.agg #[.int .i64 x.act,.int .i64 x.cost,.int .i64 x.var,.int .i64 x.n,.int .i64 x.term.op,.int .i64 x.term.n,.slice ax x.term.kids.length nx,.slice bx x.thn.length mx,.slice ex x.els.length ox,.slice fx x.bounds.length px],sgV σ a1 c1 a2 c2] w
   (Ret fun r w'=>zkT D w w' (kg (exL f hs x.thn) x.cost x.term x.n.toNat σ) r/\Ext w w'):=by
 refine znn Tryz.func136 O Tryz.ntmps136 O (znE (Vs 2 O (V.box 4 O O (fun b4=>?_))))
 refine V.box 6 O O (fun b6=>(V.box 7 O O (fun b7=>?_)))
 refine V.alloc 8 tz117 O O (fun b8=>(Vs 9 O (V.dat 900 0 O O O (dl) (fun _ _ _ h=>h) (V.dat 901 0 O O O (dm) (fun _ _ _ h=>h) (zoe (σ:=Nat × Sg × Option Addr × Nat × Option Addr × Nat × (Nat->Prop) × (Nat->Prop)) [1,4,6,7,8] [4,6,8] [4,6,7,8] O (fun e ⟨k,s,p1,q1,p2,q2,F1,F2⟩=>(9,.int .i64 k)::e) (fun e ⟨k,s,p1,q1,p2,q2,F1,F2⟩=>(7,.own b7 [.slice p1 s.vals.length q1,.slice p2 s.outs.length q2,.int .i64 s.time] 117)::(900,.dat F1 (fun w=>SlI F1 w p1 q1 s.vals))::(901,.dat F2 (fun w=>SlI F2 w p2 q2 s.outs))::e) (fun⟨k,s,p1,q1,p2,q2,F1,F2⟩=>k<=x.n.toNat/\kg (exL f hs x.thn) x.cost x.term x.n.toNat σ=kg (exL f hs x.thn) x.cost x.term (x.n.toNat - k) s/\SgB f (N+k*(1+nbL x.thn)) s/\(∀ b,F1 b->D b\/w.heap.size<=b)/\(∀ b,F2 b->D b\/w.heap.size<=b)) (fun⟨k,s,p1,q1,p2,q2,F1,F2⟩=>x.n.toNat - k) ((0,σ,a1,c1,a2,c2,fun b=>D b/\b<w.heap.size,fun b=>D b/\b<w.heap.size)) (Sub.of O) (Has.of O) (fun _=>rfl) (fun _=>rfl) (fun _=>rfl) (⟨zpz _,rfl,by simpa using hB,fun b h=>.inl h.1,fun b h=>.inl h.1⟩) ?_)))))
 rintro⟨k,s,p1,q1,p2,q2,F1,F2⟩ ⟨dA,hY,dc,de,df⟩
 show V _ _ _ _ _ ((9,.int .i64 k)::_) _ ((7,.own b7 [.slice p1 s.vals.length q1,.slice p2 s.outs.length q2,.int .i64 s.time] 117)::(900,.dat F1 (fun w=>SlI F1 w p1 q1 s.vals))::(901,.dat F2 (fun w=>SlI F2 w p2 q2 s.outs))::_) _
 have di:=ho.cost
 have dB:=dc.t0
 have dC:=dc.t1
 refine Vs 9 O (zlG O (fun dr=>?_) (fun dr=>?_))
 .
  obtain⟨m,hm⟩:∃ m,x.n.toNat - k=m+1:=⟨x.n.toNat - k - 1,by omega⟩
  have dt:x.n.toNat - (k+1)=m:=by omega
  have du:(k+1)*(1+nbL x.thn)<=x.n.toNat*(1+nbL x.thn):=zrX _ (by omega)
  rw[zs1]at du
  have dD:k<=k*(1+nbL x.thn):=Nat.le_mul_of_pos_right _ (by omega)
  rw[hm,kg]at hY
  have da:=dc.cost ho
  refine Va 22 O (by omega) (znZ tc138 O (fun w hI=>qf hg dc.inv x.term ho.formed ho.ranged _ Df F1 w _ (hI.at 900 O).1 (RTm.put (Tr1 hI.k0 hk))) (Vs 3 O (zlG O (fun z=>?_) (fun z=>?_))))
  .
   rw[zpv z]at hY
   rw[hY]
   refine Vs 13 O (zm4 Tryz.results136 tg117 ts117 O O O (fun w hI=>⟨_,rfl,⟨_,_,_,_,rfl,(hI.at 900 O).1.wide zb de,(hI.at 901 O).1.wide zb df⟩,hI.k0⟩))
  rw[zpu z]at hY
  refine Vs 8 O (zo1 Tryz.call95 O (fun w hI=>ih _ { s with time:=s.time+x.cost } da (by omega) (fun b=>F1 b\/F2 b) Df Dh w v1 v2 v3 hv _ p1 q1 p2 q2 (fun b hb=>hb.elim ((hI.at 900 O).2 b) ((hI.at 901 O).2 b)) (Tr1 hI.k0 hf) (Tr1 hI.k0 hh) (Tr1 hI.k0 ht) ((hI.at 900 O).1.wide zb (fun _ h=>.inl h)) ((hI.at 901 O).1.wide zb (fun _ h=>.inr h))) ?_)
  rintro r w1 w2 dg dw ⟨p1',q1',p2',q2',rfl,dx,dy⟩ dh
  have db:∀ b,((F1 b\/F2 b)\/w1.heap.size<=b)->b<w2.heap.size->¬ HS _ b:=fun b hb _=>hb.elim (fun h=>h.elim (dg.offF 900 rfl b) (dg.offF 901 rfl b)) (fun h hs=>by have:=dh b hs;omega)
  have dE:w.heap.size<=w1.heap.size:=dg.k0.size
  refine Va 9 O (by omega) (V.del 900 O (V.dat 900 0 O O O (dx) (db) (V.del 901 O (V.dat 901 0 O O O (dy) (db) ?_))))
  have dk:∀ b,((F1 b\/F2 b)\/w1.heap.size<=b)/\b<w2.heap.size->D b\/w.heap.size<=b:=fun b hb=>hb.1.elim (fun h=>h.elim (de b) (df b)) (fun h=>.inr (by omega))
  refine V.back (⟨k+1,_,p1',q1',p2',q2',_,_⟩) (Sub.of O) (Has.of O) (⟨by omega,by rw[dt];exact hY,(zh6 hg x.thn hp _ _ da).mono (by rw[zs1];omega),dk,dk⟩) (by first | omega | (dsimp only;omega)) 1 O O
 have dz:k=x.n.toNat:=by omega
 rw[dz,zs0,kg]at hY
 rw[hY]
 refine Vs 12 O (zm4 Tryz.results136 tg117 ts117 O O O (fun w hI=>⟨_,rfl,⟨_,_,_,_,rfl,(hI.at 900 O).1.wide zb de,(hI.at 901 O).1.wide zb df⟩,hI.k0⟩))
theorem ziG (f:Fl) (hs:List Int) (hg:∀ v ∈ f.vars,yr (v.low,v.high)) (dQ:hs.length=f.hatches.length) (ei:f.vars.length<=1000) (l:List St):PreOk f l->zh7 f hs l:=by
 induction l using znx with
 | h l ih =>
 intro hp N σ hB hN D Df Dh w v1 v2 v3 hv lv a1 c1 a2 c2 hD hf hh hl dR dS
 obtain⟨al,cl,rfl⟩:=hl.form
 obtain⟨ahv,chv,rfl⟩:=hh.form
 have ej:=hl.max
 refine znn Tryz.func95 O Tryz.ntmps95 O (znE (Vs 2 O (V.box 4 O O (fun b4=>?_))))
 refine V.box 7 O O (fun b7=>(V.alloc 8 tz117 O O (fun b8=>?_)))
 refine Vs 9 O (V.dat 900 0 O O O (dR) (fun _ _ _ h=>h) (V.dat 901 0 O O O (dS) (fun _ _ _ h=>h) (zoe (σ:=Nat × Sg × Option Addr × Nat × Option Addr × Nat × (Nat->Prop) × (Nat->Prop)) [1,2,4,7,8] [4,8] [4,7,8] O (fun e ⟨i,s,p1,q1,p2,q2,F1,F2⟩=>(9,.int .i64 i)::e) (fun e ⟨i,s,p1,q1,p2,q2,F1,F2⟩=>(7,.own b7 [.slice p1 s.vals.length q1,.slice p2 s.outs.length q2,.int .i64 s.time] 117)::(900,.dat F1 (fun w=>SlI F1 w p1 q1 s.vals))::(901,.dat F2 (fun w=>SlI F2 w p2 q2 s.outs))::e) (fun⟨i,s,p1,q1,p2,q2,F1,F2⟩=>i<=l.length/\s=exL f hs (l.take i) σ/\SgB f (N+nbL (l.take i)) s/\(∀ b,F1 b->D b\/w.heap.size<=b)/\(∀ b,F2 b->D b\/w.heap.size<=b)) (fun⟨i,s,p1,q1,p2,q2,F1,F2⟩=>l.length - i) ((0,σ,a1,c1,a2,c2,fun b=>D b/\b<w.heap.size,fun b=>D b/\b<w.heap.size)) (Sub.of O) (Has.of O) (fun _=>rfl) (fun _=>rfl) (fun _=>rfl) (⟨zpz _,rfl,by simpa[nbL] using hB,fun b h=>.inl h.1,fun b h=>.inl h.1⟩) ?_)))
 rintro⟨i,s,p1,q1,p2,q2,F1,F2⟩ ⟨hi,dt,dg,du,dl⟩
 show V _ _ _ _ _ ((9,.int .i64 i)::_) _ ((7,.own b7 [.slice p1 s.vals.length q1,.slice p2 s.outs.length q2,.int .i64 s.time] 117)::(900,.dat F1 (fun w=>SlI F1 w p1 q1 s.vals))::(901,.dat F2 (fun w=>SlI F2 w p2 q2 s.outs))::_) _
 have ek:=dg.t0
 have em:=dg.t1
 have en:=dg.ol
 refine Vs 9 O (zlG O (fun dT=>?_) (fun dT=>?_))
 .
  refine Vs 8 O ?_
  obtain⟨x,dw,dz⟩:=gE_ l (i) (by omega)
  obtain⟨eo,ep,er,dG,_,dH,dI⟩:=hl.at dw
  obtain⟨dU,dV,dW,dX,rfl,df,dx,dA,dB⟩:=dI.get
  obtain⟨dY,dZ,rfl⟩:=df.form
  obtain⟨d5,d6,rfl⟩:=dx.form
  obtain⟨d7,d8,rfl⟩:=dA.form
  obtain⟨d9,ea,rfl⟩:=dB.form
  refine zoa 1000 0 O O dH ?_
  refine znN 1000 tR24 ts72 O dG (by omega) (_) (rfl) O ?_
  obtain⟨⟨ho,eu,eb⟩,dJ,ec⟩:=hp.kids dz
  obtain⟨i1,i2⟩:=ih x dz
  have dN:=ho.cost
  have ew:nbL (l.take (i+1))=nbL (l.take i)+nbS x:=by rw[ze dw,zal];rfl
  have ey:nbL (l.take (i+1))<=nbL l:=ziF l (i+1)
  have ed:=zkb x
  have dh:exL f hs (l.take (i+1)) σ=exS f hs x s:=by rw[ze dw,zcl,<- dt];rfl
  have dO:=zdS x
  have da:SgB f (N+nbL (l.take (i+1))) (exS f hs x s):=by
   rw[<- dh]
   exact zh6 hg _ (fun s hs=>hp s (by rw[<- zrD (i+1) l,jZ];simp[hs])) N σ hB
  have dC:=dg.cost ho
  have dm:i+1<=l.length:=by omega
  refine Vs 1 O (V.alloc 10 tz72 O O (fun b10=>?_))
  refine Vs 11 O (zlG O (fun a4=>?_) (fun a4=>?_))
  .
   rw[zpu (by omega),zpv a4]at dO
   have hx:exS f hs x s=kg (exL f hs x.thn) x.cost x.term x.n.toNat s:=by rw[kS,zpu (by omega),zpv a4]
   refine Vs 6 O (zo1 Tryz.call136 O (fun w hI=>zh8 f hs hg x ho (eb a4) dJ (i1 dJ) _ s dg (by omega) (fun b=>F1 b\/F2 b) Df Dh w v1 v2 v3 _ p1 q1 p2 q2 (fun b hb=>hb.elim ((hI.at 900 O).2 b) ((hI.at 901 O).2 b)) (Tr1 hI.k0 hf) (Tr1 hI.k0 hh) _ _ _ _ _ _ _ _ (Tr1 hI.k0 df) (Tr1 hI.k0 dx) ((hI.at 900 O).1.wide zb (fun _ h=>.inl h)) ((hI.at 901 O).1.wide zb (fun _ h=>.inr h))) ?_)
   rintro r w1 w2 dc di ⟨p1',q1',p2',q2',rfl,de,dk⟩ hY
   have db:∀ b,((F1 b\/F2 b)\/w1.heap.size<=b)->b<w2.heap.size->¬ HS _ b:=fun b hb _=>hb.elim (fun h=>h.elim (dc.offF 900 rfl b) (dc.offF 901 rfl b)) (fun h hs=>by have:=hY b hs;omega)
   have dE:w.heap.size<=w1.heap.size:=dc.k0.size
   have dr:∀ b,((F1 b\/F2 b)\/w1.heap.size<=b)/\b<w2.heap.size->D b\/w.heap.size<=b:=fun b hb=>hb.1.elim (fun h=>h.elim (du b) (dl b)) (fun h=>.inr (by omega))
   refine Va 12 O (by omega) (V.del 900 O (V.dat 900 0 O O O (de) (db) (V.del 901 O (V.dat 901 0 O O O (dk) (db) (V.back (⟨i+1,_,p1',q1',p2',q2',_,_⟩) (Sub.of O) (Has.of O) (⟨dm,by rw[dh,hx],by rw[<- hx];exact da,dr,dr⟩) (by first | omega | (dsimp only;omega)) 1 O O)))))
  refine Va 26 O (by omega) (zlG O (fun a0=>?_) (fun a0=>?_))
  .
   have hx:exS f hs x s={ s with vals:=zdf f.vars s.vals x.var (xt s.vals x.term),time:=s.time+x.cost }:=by rw[kS,zpu (by omega),zpu a4];unfold xu;rw[zpv a0]
   have dy:=ho.var (.inl a0)
   refine Vw [4,8,7,1000,10] [12] O (Vd [0,1,2,3,4,5,6,7,8] 0 (by kernel_rfl) O O O (zo0 9 0 tc138 O (by kernel_rfl) O O (fun w hI=>qf hg dg.inv x.term ho.formed ho.ranged _ Df F1 w _ (hI.at 900 O).1 (RTm.put (Tr1 hI.k0 df))) (zo2 10 0 Tryz.call137 O (by kernel_rfl) O O (fun w hI=>zdX f.vars s.vals _ x.var v1 v2 v3 _ Df F1 w (Tr1 hI.k0 hf.vars) (hI.at 900 O).1 dg.inv.len (by omega) dy) ?_)))
   rintro r w1 w2 dc di ⟨de,dk⟩ hY
   rw[<- zfo f.vars s.vals x.var (xt s.vals x.term)]at de
   obtain⟨ar,cr,rfl⟩:=xa de
   have dE:w.heap.size<=w1.heap.size:=dc.k0.size
   refine Vd [11] 1 (by kernel_rfl) O O O (Vl 12 O (by kernel_rfl) O (VDx.done (by kernel_rfl) (Va 8 O (by omega) (V.del 900 O (V.dat 900 0 O O O (zmM (R:=zC) (D:=fun b=>w1.heap.size<=b) zc (fun _ _=>rfl) de dk) (fun b hb _ hs=>by have:=hY b hs;omega) (V.back (⟨i+1,{ s with vals:=zdf f.vars s.vals x.var (xt s.vals x.term),time:=s.time+x.cost },ar,cr,p2,q2,_,F2⟩) (Sub.of O) (Has.of O) (⟨dm,by rw[dh,hx],by rw[<- hx];exact da,fun b hb=>.inr (by omega),dl⟩) (by first | omega | (dsimp only;omega)) 1 O O))))))
  refine Vs 6 O (zlG O (fun a1=>?_) (fun a1=>?_))
  .
   have hx:exS f hs x s={ s with outs:=s.outs++[xt s.vals x.term],time:=s.time+x.cost }:=by rw[kS,zpu (by omega),zpu a4];unfold xu;rw[zpu a0,zpv a1]
   refine Vw [4,8,7,1000,10] [12] O (Vd [1,2,4,5,6,7] 0 (by kernel_rfl) O O O (zok 0 53 0 tR27 ts3 O (by kernel_rfl) O (fun b53=>?_)))
   refine zoi 3 53 0 (fun x=>[zc x]) (fun _=>rfl) (by simp[Value.oneCell']) kV tu27 Tryz.el3 O (by decide) O (by kernel_rfl) O O (fun w hI=>⟨_,(hI.at 901 O).1⟩) (by omega) (by omega) (fun u53=>(zo0 8 0 tc138 O (by kernel_rfl) O O (fun w hI=>qf hg dg.inv x.term ho.formed ho.ranged _ Df F1 w _ (hI.at 900 O).1 (RTm.put (Tr1 hI.k0 df))) (VD.bs 9 62 0 [(0,_)] tR27 ts3 tz3 (by decide) O (by kernel_rfl) O O (by kernel_rfl) (fun b62=>?_))))
   refine znT 10 53 62 0 tu27 Tryz.el3 O (by decide) O (by kernel_rfl) O O O (by omega) (by omega) (fun u53=>(Vd [11] 0 (by kernel_rfl) O O O (znV 53 O (by omega) ?_)))
   rintro bo co rfl dF
   refine Vl 12 O (by kernel_rfl) O (VDx.done (by kernel_rfl) (Va 8 O (by omega) (zod 7 O (e':=.own b7 [.slice p1 s.vals.length q1,.slice (some ⟨bo,0,none⟩) (s.outs++[xt s.vals x.term]).length co,.int .i64 (s.time+x.cost)] 117) (by rw[zps,zs3];rfl) (zod 53 O (e':=.row 3 1 (.slice (some ⟨bo,0,none⟩) (s.outs++[xt s.vals x.term]).length co) (s.outs++[xt s.vals x.term]).length ((s.outs++[xt s.vals x.term]).map zc)) (by rw[zps,zs3,zck,zr3];rfl) (znG (p:=w.heap.size<=bo) (fun w hI=>hI.own 53 0 O O bo O) (fun ee=>?_))))))
   refine V.del 901 O (zoc 53 901 (R:=zC) zc (fun _ _ _=>rfl) O O (V.back (⟨i+1,{ s with outs:=s.outs++[xt s.vals x.term],time:=s.time+x.cost },p1,q1,some ⟨bo,0,none⟩,co,F1,_⟩) (Sub.of O) (Has.of O) (⟨dm,by rw[dh,hx],by rw[<- hx];exact da,du,fun b hb=>.inr (by have hb:some bo=some b:=hb;cases hb;exact ee)⟩) (by first | omega | (dsimp only;omega)) 0 O O))
  refine Vs 6 O (zlG O (fun a5=>?_) (fun a5=>?_))
  .
   have hx:exS f hs x s={ s with vals:=zdf f.vars s.vals x.var (lki hs x.n.toNat),time:=s.time+x.cost }:=by rw[kS,zpu (by omega),zpu a4];unfold xu;rw[zpu a0,zpu a1,zpv a5]
   have dy:=ho.var (.inr a5)
   have ef:=ho.num a5
   obtain⟨y,dD,eg⟩:=gE_ hs (x.n.toNat) (by omega)
   obtain⟨ez,eA,eC,dK,_,dL,dM⟩:=hh.at dD
   obtain rfl:=dM
   refine zoa 2000 0 O O dL ?_
   have hy:lki hs x.n.toNat=y:=zfm dD
   rw[hy]at hx
   refine Vw [4,8,7,1000,10,2000] [12] O (Vd [0,1,2,3,4,5,6,7] 0 (by kernel_rfl) O O O (znO 8 2000 tR27 ts3 O (by kernel_rfl) O dK (by omega) (x.n.toNat) (by omega) O (Vd [9] 0 (by kernel_rfl) O O O (zo2 10 0 Tryz.call137 O (by kernel_rfl) O O (fun w hI=>zdX f.vars s.vals y x.var v1 v2 v3 _ Df F1 w (Tr1 hI.k0 hf.vars) (hI.at 900 O).1 dg.inv.len (by omega) dy) ?_))))
   rintro r w1 w2 dc di ⟨de,dk⟩ hY
   rw[<- zfo f.vars s.vals x.var y]at de
   obtain⟨ar,cr,rfl⟩:=xa de
   have dE:w.heap.size<=w1.heap.size:=dc.k0.size
   refine Vd [11] 1 (by kernel_rfl) O O O (Vl 12 O (by kernel_rfl) O (VDx.done (by kernel_rfl) (Va 8 O (by omega) (V.del 900 O (V.dat 900 0 O O O (zmM (R:=zC) (D:=fun b=>w1.heap.size<=b) zc (fun _ _=>rfl) de dk) (fun b hb _ hs=>by have:=hY b hs;omega) (V.back (⟨i+1,{ s with vals:=zdf f.vars s.vals x.var y,time:=s.time+x.cost },ar,cr,p2,q2,_,F2⟩) (Sub.of O) (Has.of O) (⟨dm,by rw[dh,hx],by rw[<- hx];exact da,fun b hb=>.inr (by omega),dl⟩) (by first | omega | (dsimp only;omega)) 1 O O))))))
  refine Vs 6 O (zlG O (fun a3=>?_) (fun a3=>?_))
  .
   have hx:=kS f hs x s
   rw[zpv a3]at hx
   rw[zpv a3]at dO
   refine Vs 6 O (znZ tc138 O (fun w hI=>qf hg dg.inv x.term ho.formed ho.ranged _ Df F1 w _ (hI.at 900 O).1 (RTm.put (Tr1 hI.k0 df))) (Vs 3 O (zlG O (fun z=>?_) (fun z=>?_))))
   .
    rw[zpv z]at hx
    refine Vs 6 O (zo1 Tryz.call95 O (fun w hI=>i1 dJ _ { s with time:=s.time+x.cost } dC (by omega) (fun b=>F1 b\/F2 b) Df Dh w v1 v2 v3 _ _ p1 q1 p2 q2 (fun b hb=>hb.elim ((hI.at 900 O).2 b) ((hI.at 901 O).2 b)) (Tr1 hI.k0 hf) (Tr1 hI.k0 hh) (Tr1 hI.k0 dx) ((hI.at 900 O).1.wide zb (fun _ h=>.inl h)) ((hI.at 901 O).1.wide zb (fun _ h=>.inr h))) ?_)
    rintro r w1 w2 dc di ⟨p1',q1',p2',q2',rfl,de,dk⟩ hY
    have db:∀ b,((F1 b\/F2 b)\/w1.heap.size<=b)->b<w2.heap.size->¬ HS _ b:=fun b hb _=>hb.elim (fun h=>h.elim (dc.offF 900 rfl b) (dc.offF 901 rfl b)) (fun h hs=>by have:=hY b hs;omega)
    have dE:w.heap.size<=w1.heap.size:=dc.k0.size
    have dr:∀ b,((F1 b\/F2 b)\/w1.heap.size<=b)/\b<w2.heap.size->D b\/w.heap.size<=b:=fun b hb=>hb.1.elim (fun h=>h.elim (du b) (dl b)) (fun h=>.inr (by omega))
    refine Va 10 O (by omega) (V.del 900 O (V.dat 900 0 O O O (de) (db) (V.del 901 O (V.dat 901 0 O O O (dk) (db) (V.back (⟨i+1,_,p1',q1',p2',q2',_,_⟩) (Sub.of O) (Has.of O) (⟨dm,by rw[dh,hx],by rw[<- hx];exact da,dr,dr⟩) (by first | omega | (dsimp only;omega)) 1 O O)))))
   rw[zpu z]at hx
   refine Vs 6 O (zo1 Tryz.call95 O (fun w hI=>i2 ec _ { s with time:=s.time+x.cost } dC (by omega) (fun b=>F1 b\/F2 b) Df Dh w v1 v2 v3 _ _ p1 q1 p2 q2 (fun b hb=>hb.elim ((hI.at 900 O).2 b) ((hI.at 901 O).2 b)) (Tr1 hI.k0 hf) (Tr1 hI.k0 hh) (Tr1 hI.k0 dA) ((hI.at 900 O).1.wide zb (fun _ h=>.inl h)) ((hI.at 901 O).1.wide zb (fun _ h=>.inr h))) ?_)
   rintro r w1 w2 dc di ⟨p1',q1',p2',q2',rfl,de,dk⟩ hY
   have db:∀ b,((F1 b\/F2 b)\/w1.heap.size<=b)->b<w2.heap.size->¬ HS _ b:=fun b hb _=>hb.elim (fun h=>h.elim (dc.offF 900 rfl b) (dc.offF 901 rfl b)) (fun h hs=>by have:=hY b hs;omega)
   have dE:w.heap.size<=w1.heap.size:=dc.k0.size
   have dr:∀ b,((F1 b\/F2 b)\/w1.heap.size<=b)/\b<w2.heap.size->D b\/w.heap.size<=b:=fun b hb=>hb.1.elim (fun h=>h.elim (du b) (dl b)) (fun h=>.inr (by omega))
   refine Va 10 O (by omega) (V.del 900 O (V.dat 900 0 O O O (de) (db) (V.del 901 O (V.dat 901 0 O O O (dk) (db) (V.back (⟨i+1,_,p1',q1',p2',q2',_,_⟩) (Sub.of O) (Has.of O) (⟨dm,by rw[dh,hx],by rw[<- hx];exact da,dr,dr⟩) (by first | omega | (dsimp only;omega)) 1 O O)))))
  refine Vs 6 O (zlG O (fun a6=>?_) (fun a6=>?_))
  .
   have hx:exS f hs x s={ s with time:=qe x.bounds (s.time+x.cost) }:=by rw[kS,zpu (by omega),zpu a4];unfold xu;rw[zpu a0,zpu a1,zpu a5,zpv a6]
   refine Vs 5 O (znZ Tryz.call139 O (fun w hI=>zd0 x.bounds (s.time+x.cost) _ Df w (Tr1 hI.k0 dB)) (Va 11 O (by omega) (V.back (⟨i+1,{ s with time:=qe x.bounds (s.time+x.cost) },p1,q1,p2,q2,F1,F2⟩) (Sub.of O) (Has.of O) (⟨dm,by rw[dh,hx],by rw[<- hx];exact da,du,dl⟩) (by first | omega | (dsimp only;omega)) 0 O O)))
  have hx:exS f hs x s={ s with time:=s.time+x.cost }:=by rw[kS,zpu (by omega),zpu a4];unfold xu;rw[zpu a0,zpu a1,zpu a5,zpu a6]
  refine Va 9 O (by omega) (V.back (⟨i+1,{ s with time:=s.time+x.cost },p1,q1,p2,q2,F1,F2⟩) (Sub.of O) (Has.of O) (⟨dm,by rw[dh,hx],by rw[<- hx];exact da,du,dl⟩) (by first | omega | (dsimp only;omega)) 0 O O)
 have eh:i=l.length:=by omega
 subst eh
 rw[zpp]at dt
 subst dt
 refine Vs 12 O (zm4 Tryz.results95 tg117 ts117 O O O (fun w hI=>⟨_,rfl,⟨_,_,_,_,rfl,(hI.at 900 O).1.wide zb du,(hI.at 901 O).1.wide zb dl⟩,hI.k0⟩))
def xi (f:Fl) (r:Ins):Int:=if yj f ≠ 0 then yj f else zl f.vars r
theorem ziH {f:Fl} (vd:Valid f):PreOk f f.body:=fun s hs=>by
 obtain⟨h1,h2,h3⟩:=vd.step s hs
 exact⟨h1,h2,fun h=>(h3 h).1⟩
theorem zh9 {f:Fl} {r:Ins} (h:zl f.vars r=0):SgB f 0 (zg3 f r):=⟨jn h,by dsimp only;omega,by dsimp only;omega,zpJ _⟩
theorem zkc (f:Fl) (r:Ins) (v1 v2 v3 s1 s2 s3:Value) (D D1 D2 D3:Nat->Prop) (W:World) (hf:RFl D W f v1 v2 v3) (dm:SlR 1 zC D1 W s1 r.secret) (dr:SlR 1 zC D2 W s2 r.pub) (dt:SlR 1 zC D3 W s3 r.random) (dg:snodes f.body+zA f.hatches<=1024) (dh:sbulk f.body<=1000000) :
  Calls Tryz.prog 49 #[.agg #[v1,v2,v3],.agg #[s1,s2,s3]] W (Ret fun rr w'=>(∃ st,rr=.tuple #[st,.int .i64 (xi f r)]/\(xi f r ≠ 0->st=.agg #[.slice none 0 0,.slice none 0 0,.int .i64 0])/\(xi f r=0->∃ a1 c1 a2 c2,st=sgV (zak f r) a1 c1 a2 c2/\SlI (fun b=>W.heap.size<=b) w' a1 c1 (zak f r).vals/\SlI (fun b=>W.heap.size<=b) w' a2 c2 (zak f r).outs))/\Ext W w'):=by
 refine znl Tryz.func49 O Tryz.ntmps49 O (znE (Vs 2 O (V.box 2 O O (fun b2=>?_))))
 refine V.box 3 O O (fun b3=>(V.alloc 4 tz117 O O (fun b4=>?_)))
 refine Vs 6 O (znZ Tryz.call29 O (fun w hI=>zbB f v1 v2 v3 D w (Tr1 hI.k0 hf) dg dh) (Vs 10 O (zlG O (fun c0=>?_) (fun c0=>?_))))
 .
  have hc:xi f r=yj f:=zpv c0
  refine Vs 2 O (zol [Value.slice none 0 0,Value.slice none 0 0,Value.int IntKind.i64 0] [(0,1),(1,1),(2,1)] [] O O (fun _=>by kernel_rfl) (Vs 7 O (zm7 Tryz.results49 tg117 ts117 O O O O (fun w hI=>⟨_,rfl,⟨_,by rw[hc],fun _=>rfl,fun h=>absurd (hc ▸ h) c0⟩,hI.k0⟩))))
 have c0':yj f=0:=by omega
 have vd:Valid f:=⟨c0',dg,dh⟩
 have hc:xi f r=zl f.vars r:=zpu c0
 have hl:=vd.lens
 have dF:=vd.nb
 rw[hc]
 refine Vs 7 O (zo1 Tryz.call94 O (fun w hI=>zeS f.vars r v1 s1 s2 s3 D D1 D2 D3 w (Tr1 hI.k0 hf.vars) (by omega) vd.kinds (Tr1 hI.k0 dm) (Tr1 hI.k0 dr) (Tr1 hI.k0 dt)) ?_)
 rintro rr w1 w2 du de ⟨u,rfl,dG,dw⟩ df
 refine Vs 14 O (zlG O (fun e0=>?_) (fun e0=>?_))
 . refine Vs 2 O (zol [Value.slice none 0 0,Value.slice none 0 0,Value.int IntKind.i64 0] [(0,1),(1,1),(2,1)] [] O O (fun _=>by kernel_rfl) (Vs 7 O (zm7 Tryz.results49 tg117 ts117 O O O O (fun w hI=>⟨_,rfl,⟨_,rfl,fun _=>rfl,fun h=>absurd h e0⟩,hI.k1⟩))))
 have e0':zl f.vars r=0:=by omega
 obtain⟨hY,dx⟩:=dw e0'
 obtain⟨au,cu,rfl⟩:=xa hY
 have dy:W.heap.size<=w1.heap.size:=du.k0.size
 refine Vs 3 O (V.dat 900 0 O O O (zmM (R:=zC) (D:=fun b=>w1.heap.size<=b) zc (fun _ _=>rfl) hY dx) (fun b hb _ hs=>by have:=df b hs;omega) (Vw [2,3,4] [9] O (Vd [0,1,2,4,5,6] 0 (by kernel_rfl) O O O (zom 7 [Value.slice none 0 0,Value.slice none 0 0,Value.int IntKind.i64 0] [(0,1),(1,1),(2,1)] [(0,_)] O (by kernel_rfl) O O (fun _=>by kernel_rfl) (zo2 3 0 Tryz.call96 O (by kernel_rfl) O O (fun w hI=>zd2 f (zx f.vars r) v1 v2 v3 _ D _ w (Tr1 hI.k1 hf) (hI.at 900 O).1 vd.good (jn e0') (fun h hh=>⟨(vd.hatch h hh).1,(vd.hatch h hh).2.1⟩) (by omega)) ?_)))))
 rintro hv w3 w4 dH dz ⟨dA,di⟩ da
 refine zo2 8 1 Tryz.call95 O (by kernel_rfl) O O (fun w hI=>ziG f (yc f r) vd.good (by simp[zfn]) (by omega) f.body (ziH vd) 0 (zg3 f r) (zh9 e0') (by omega) (fun b=>w1.heap.size<=b/\b<w2.heap.size) D (fun b=>w3.heap.size<=b) w v1 v2 v3 hv _ au cu none 0 (fun b hb=>by have:w2.heap.size<=w.heap.size:=hI.k1.size;omega) (Tr1 hI.k2 hf) (zmM (R:=zC) zc (fun _ _=>rfl) (zm dA hI.k0 (fun g hg hs=>by have:=da g hs;have:=di g hg;omega)) di) (Tr1 hI.k2 hf.body) (hI.at 900 O).1 SlR.nil) ?_
 rintro rs w5 w6 dk dB ⟨a1,c1,a2,c2,rfl,dC,dD⟩ db
 refine Vl 9 O (by kernel_rfl) O (Vx [10] (by kernel_rfl) O (VDx.done (by kernel_rfl) (Vs 2 O ?_)))
 have dE:w1.heap.size<=w5.heap.size:=by have h1:=de.size;have h2:w2.heap.size<=w5.heap.size:=dk.k1.size;omega
 have dc:∀ b,((w1.heap.size<=b/\b<w2.heap.size)\/w5.heap.size<=b)->b<w6.heap.size->¬ HS _ b:=fun b hb _=>hb.elim (dk.offF 900 rfl b) (fun h hs=>by have:=db b hs;omega)
 refine V.dat 901 0 O O O (dC) (dc) (V.dat 902 0 O O O (dD) (dc) ?_)
 have dl:∀ b,((w1.heap.size<=b/\b<w2.heap.size)\/w5.heap.size<=b)/\b<w6.heap.size->W.heap.size<=b:=fun b hb=>by omega
 refine zm7 Tryz.results49 tg117 ts117 O O O O (fun w hI=>⟨_,rfl,⟨_,by rw[e0'];rfl,fun h=>absurd e0' h,fun _=>⟨_,_,_,_,rfl,(hI.at 901 O).1.wide zb dl,(hI.at 902 O).1.wide zb dl⟩⟩,hI.k3⟩)
theorem zha (f:Fl) (r:Ins) (v1 v2 v3 s1 s2 s3:Value) (D D1 D2 D3:Nat->Prop) (W:World) (hf:RFl D W f v1 v2 v3) (da:SlR 1 zC D1 W s1 r.secret) (db:SlR 1 zC D2 W s2 r.pub) (dc:SlR 1 zC D3 W s3 r.random) (de:snodes f.body+zA f.hatches<=1024) (df:sbulk f.body<=1000000) :
  Calls Tryz.prog 19 #[.agg #[v1,v2,v3],.agg #[s1,s2,s3]] W (Ret fun rr w'=>(∃ ov t,rr=.tuple #[.agg #[ov,.int .i64 t],.int .i64 (xi f r)]/\(xi f r ≠ 0->ov=.slice none 0 0/\t=0)/\(xi f r=0->t=(zak f r).time/\SlR 1 zC (fun b=>W.heap.size<=b) w' ov (zak f r).outs))/\Ext W w'):=by
 refine znl Tryz.func19 O Tryz.ntmps19 O (znE (Vs 2 O (V.box 2 O O (fun b2=>?_))))
 refine V.box 3 O O (fun b3=>(V.alloc 4 tz47 O O (fun b4=>?_)))
 refine Vs 7 O (zo1 Tryz.call49 O (fun w hI=>zkc f r v1 v2 v3 s1 s2 s3 D D1 D2 D3 w (Tr1 hI.k0 hf) (Tr1 hI.k0 da) (Tr1 hI.k0 db) (Tr1 hI.k0 dc) de df) ?_)
 rintro rr w1 w2 dg dh ⟨st,rfl,di,dk⟩ hY
 have dl:W.heap.size<=w1.heap.size:=dg.k0.size
 by_cases c0:xi f r=0
 .
  obtain⟨a1,c1,a2,c2,rfl,dr,dm⟩:=dk c0
  rw[c0]at *
  refine Vs 3 O (V.alloc 6 tz117 O O (fun b6=>?_))
  refine Vs 11 O (zlG O (fun e=>?_) (fun e=>?_))
  . exact absurd O e
  refine V.dat 901 0 O O O (dm) (fun b hb _ hs=>by have:=hY b hs;omega) (Vs 8 O (zol [Value.slice none 0 0,Value.int IntKind.i64 0] [(0,1),(1,1)] [(0,_),(1,_)] O O (fun _=>by kernel_rfl) (Vs 5 O (zm7 Tryz.results19 tg47 ts47 O O O O (fun w hI=>⟨_,rfl,⟨_,_,rfl,fun h=>absurd O h,fun _=>⟨rfl,(hI.at 901 O).1.wide zb (fun b hb=>by omega)⟩⟩,hI.k1⟩)))))
 obtain rfl:=di c0
 refine Vs 3 O (V.alloc 1006 tz117 O O (fun b1006=>?_))
 refine Vs 11 O (zlG O (fun e=>?_) (fun e=>?_))
 . refine Vs 2 O (zol [Value.slice none 0 0,Value.int IntKind.i64 0] [(0,1),(1,1)] [] O O (fun _=>by kernel_rfl) (Vs 7 O (zm7 Tryz.results19 tg47 ts47 O O O O (fun w hI=>⟨_,rfl,⟨_,_,rfl,fun _=>⟨rfl,rfl⟩,fun h=>absurd h c0⟩,hI.k1⟩))))
 omega
def LeftOk (D:Nat->Prop) (W:World) (r:Ins) (s:StS) (q:Int->Value):Prop:=∀ k,1<=k->k<=3->SlR 1 zC D W (q k) ((yF r k).drop (jb s k))
theorem zdZ {prev:List Vr} {v:Vr} (h:zI prev v=0) (hk:v.kind=0):v.low<=v.init/\v.init<=v.high:=by
 unfold zI at h
 split at h
 . cases h
 split at h
 . cases h
 split at h
 . cases h
 split at h
 . cases h
 split at h
 . cases h
 rename_i h5
 omega
theorem ze0 {r:Ins} {s:StS} {x:Vr} (h:x.kind=0):zp r (some s) x=some ⟨s.vals++[x.init],s.a,s.b,s.c⟩:=by simp[zp,h]
theorem ziI {r:Ins} {s:StS} {k:Int} (_:1<=k/\k<=3) {l:List Int} (hl:(yF r k).drop (jb s k)=l):(yF r k)[jb s k]?=l[0]?:=by
 rw[<- hl,List.getElem?_drop,zrN]
theorem zam {f:Fl} {r:Ins} {i:Nat} {x:Vr} {s s1:StS} (he:f.vars[i]?=some x) (hs:(f.vars.take i).foldl (zp r) (some ⟨[],0,0,0⟩)=some s) (h1:zp r (some s) x=some s1):(f.vars.take (i+1)).foldl (zp r) (some ⟨[],0,0,0⟩)=some s1:=by
 rw[ze he,zqT,hs];exact h1
theorem Valid.varAt0 {f:Fl} (V:Valid f) {i:Nat} {x:Vr} (he:f.vars[i]?=some x):zI (f.vars.take i) x=0:=by
 have h:=V.ok
 unfold yj at h
 split at h
 . cases h
 split at h
 . rename_i h2;exact absurd h h2
 rename_i h2
 have h:=zpt.1 h2
 unfold zv at h
 split at h
 . rename_i h2;exact absurd h h2
 rename_i h2
 rw[<- zaP he]
 exact xJ f.vars.length 0 (by simpa using h2) i (zpz _) (by have:=(zpy.1 he).1;omega)
theorem LeftOk.next {D:Nat->Prop} {W:World} {r:Ins} {s:StS} {q:Int->Value} {k y:Int} {aq:Option Addr} {cq:Nat} {rest:List Int} (hL:LeftOk D W r s q) (hk:1<=k/\k<=3) (hr:rest=(yF r k).drop (jb s k)) (hq:SlR 1 zC D W (.slice aq rest.length cq) rest) (h1:1<=rest.length):LeftOk D W r (kR s k y) (fun j=>if j=k then .slice (if cq=1 then aq else aq.map (·.add (1*1))) (rest.length - 1) (cq - 1) else q j):=by
 intro j hY da
 have hc:=zbI s hk ⟨hY,da⟩ y
 dsimp only
 by_cases e:j=k
 .
  subst e
  rw[zpv rfl]at hc
  rw[zpv rfl,hc]
  have:=hq.drop 1 h1
  rw[hr,zqD]at this
  rwa [<- hr]at this
 rw[zpu e]at hc
 rw[zpu e,hc]
 exact hL j hY da
theorem zfp {r:Ins} {s:StS} {x:Vr} {y:Int} (h:1<=x.kind/\x.kind<=3) (hy:(yF r x.kind)[jb s x.kind]?=some y):zp r (some s) x=some (kR s x.kind y):=by
 simp only[zp,Option.bind_some]
 rw[zpu (by omega),hy];rfl
theorem zhb {r:Ins} {s:StS} {x:Vr} (h:1<=x.kind/\x.kind<=3) (hy:(yF r x.kind)[jb s x.kind]?=none):zp r (some s) x=none:=by
 simp only[zp,Option.bind_some]
 rw[zpu (by omega),hy];rfl
theorem zan {f:Fl} {r:Ins} {s:StS} (hS:jO f.vars r=some s) {k:Int} (hk:1<=k/\k<=3) (h:0<((yF r k).drop (jb s k)).length):zl f.vars r=1:=by
 unfold zl
 rw[hS]
 dsimp only
 unfold yK
 rw[zqX]at h
 rw[zpv]
 rcases (show k=1\/k=2\/k=3 by omega) with rfl | rfl | rfl
 .
  have h:0<r.secret.length - s.a:=h
  omega
 .
  have h:0<r.pub.length - s.b:=h
  omega
 have h:0<r.random.length - s.c:=h
 omega
theorem ze1 {f:Fl} {r:Ins} {s:StS} (hS:jO f.vars r=some s) (hY:∀ v ∈ f.vars,0<=v.kind/\v.kind<=3) (hz:∀ k:Int,1<=k->k<=3->((yF r k).drop (jb s k)).length=0):zl f.vars r=if (f.vars.zip s.vals).all inB then 0 else 3:=by
 have da:=zh0 hY f.vars.length s (zpJ _) (by rw[zpp];exact hS)
 have key:∀ k:Int,1<=k->k<=3->jb s k=(yF r k).length:=fun k h1 h3=>by
  have h4:=hz k h1 h3
  rw[zqX]at h4
  have:=da k h1 h3
  omega
 have h1:s.a=r.secret.length:=key 1 (by omega) (by omega)
 have h2:s.b=r.pub.length:=key 2 (by omega) (by omega)
 have h3:s.c=r.random.length:=key 3 (by omega) (by omega)
 unfold zl
 rw[hS]
 dsimp only
 unfold yK
 rw[zpu (by omega)]
theorem zfq {α:Type} {l:List α} {i:Nat} {x:α} (h:l[i]?=some x):l.drop i=x::l.drop (i+1):=by
 obtain⟨h1,h2⟩:=zpy.1 h
 rw[zqE h1,h2]
def zG:List Vr->Int->List Int × Int
 | [],n=>([],n)
 | v::vs,n=>((v.low+(zG vs n).2.tmod (v.high - v.low+1))::(zG vs n).1,(zG vs n).2.tdiv (v.high - v.low+1))
theorem xv:∀ (vs:List Vr) (n:Int),(zG vs n).1.length=vs.length
 | [],_=>rfl
 | v::vs,n=>by simp[zG,xv vs n]
theorem ziJ {k:Int} {vs:List Vr} (hg:∀ v ∈ vs,yr (v.low,v.high)) (h:(zo k vs).isSome=true):(zo k vs).getD 0<=4096:=by
 cases hm:zo k vs with
 | none=>rw[hm]at h;cases h
 | some m=>exact(zU k vs 1 m hg (by omega) (by omega) hm).2
def zK (k:Int) (vs:List Vr) (n:Int):Int :=
 if (zo k vs).isSome then (if n<0\/(zo k vs).getD 0<=n then 3 else 0) else 4
end Go.Proofs.YtckdhgbepmpgiaaGreat
namespace Go.GL
def RQu:Rel (Int × List Int):=fun D w q cs=>∃ v,cs=[.int .i64 q.1,v]/\SlR 1 zC D w v q.2
@[ext] structure Ac where
 mode:Int
 budget:Int
 spent:Int
 left:List Int
 asked:List (Int × List Int)
deriving DecidableEq
structure RAc (D:Nat->Prop) (w:World) (a:Ac) (v1 v2:Value):Prop where
 left:SlR 1 zC D w v1 a.left
 asked:SlR 2 RQu D w v2 a.asked
section
variable {P:Program} {env:Env} {w:World} {dst:Option Tmp} {ty:TypeId} {pos:String} {aft:Array Edge} {g:Option (Nat × Bool)}
theorem M.bs0 {t e:TypeId} {k:Nat} (hu:∀ w,(underlying t).run P w=.ok (.slice e) w) (hs:∀ w,(sizeOf e).run P w=.ok k w) :
  yH P ⟨dst,.buildSlice t 0 #[],ty,pos,aft,g⟩ env w (fun u w'=>∃ b,u=.slice (some ⟨b,0,none⟩) 0 0/\New w [] e b w'):=by
 refine⟨.slice (some ⟨w.heap.size,0,none⟩) 0 0,w.alloc (.cells #[] e),?_,_,rfl,New.mk w [] e⟩
 intro n a ha
 have h0:Array.range 0=#[]:=Array.eq_empty_of_size_eq_zero (by simp)
 simp[execOp,Instr.buildSlice,hu,hs,newRow,Instr.fill,h0]
end
end Go.GL
namespace Go.Proofs.YtckdhgbepmpgiaaGreat
open Go.GL
theorem zfr (vs:List Vr) (k:Int) (vv:Value) (D:Nat->Prop) (w:World) (dm:SlR 5 RVr D w vv vs) (dG:vs.length<=1000000):Calls Tryz.prog 85 #[vv,.int .i64 k] w (Ret fun r w'=>SlR 5 RVr (fun b=>w.heap.size<=b) w' r (zf k vs)/\Ext w w'):=by
 obtain⟨av,nv,rfl⟩:=dm.form
 have dw:=dm
 have hE:=Keep.refl (fun _=>False) w
 refine znl Tryz.func85 O Tryz.ntmps85 O (Gs 7 O (zmr O O (M.bs0 tR22 ts142) ?_))
 rintro _ w0 ⟨b0,rfl,dA,dB,dc,de⟩
 obtain⟨hE,dm⟩:=Tr2 de hE dm
 have dH:w0.ownsRow 0 142 5 (.slice (some ⟨b0,0,none⟩) 0 0) 0 []:=ye (k:=5) (n:=0) (cap:=0) dc (zpJ _) (by decide) rfl
 refine Gs 10 O (G.loop (σ:=Nat × Value) (fun⟨i,vl⟩=>[(0,.slice av vs.length nv),(1,.int .i64 k),(5,vl),(6,.int .i64 i)]) (fun⟨i,vl⟩=>fun w'=>i<=vs.length/\w'.ownsRow 0 142 5 vl (zf k (vs.take i)).length ((zf k (vs.take i)).flatMap zeG)/\(∀ q,vl.ownBlock=some q->w.heap.size<=q)/\Ext w w') (fun⟨i,vl⟩=>vs.length - i) ((0,.slice (some ⟨b0,0,none⟩) 0 0)) (Sub.of O) (⟨zpz _,dH,fun q hq=>by obtain rfl:b0=q:=Option.some.inj hq;omega,hE⟩) ?_)
 rintro⟨i,vl⟩ w2 ⟨hi,hY,dr,dt⟩
 show G _ _ _ _ _ [(0,.slice av vs.length nv),(1,.int .i64 k),(5,vl),(6,.int .i64 i)] _
 have dx:=dw.ext xD dt
 refine Gs 9 O (zlF O (fun dI=>?_) (fun dI=>?_))
 .
  obtain⟨x,df,dJ⟩:=gE_ vs (i) (by omega)
  obtain⟨dK,dO,dQ,dg,_,db,dh⟩:=dx.at df
  have dL:=RVr.one dh
  obtain rfl:=dh
  have dC:dK<_:=zpm _ _ (db 0 _ rfl)
  have du:=qc (k:=k) df
  have dM:=xW k (vs.take i)
  rw[zpO]at dM
  refine Gs 8 O (zna O O (zmh tR22 ts142 O O dg (by omega)) (Gs 1 O (zne O tg100 (db 1 _ O) (Gs 4 O (zlF O (fun dy=>?_) (fun dy=>?_))))))
  .
   rw[zpv dy]at du
   refine Gs 4 O (zna O O (zmh tR22 ts142 O O dg (by omega)) (zng O tg142 ts142 db O (zmr O O (M.buildSlice (cs:=zeG x) [(0,_)] tR22 ts142 tz142 (by decide) O (by kernel_rfl)) ?_)))
   rintro _ w5 ⟨b5,rfl,dD,dE,di,da⟩
   have dk:=zm hY da (fun _ _ h=>h)
   have dF:=dt.ext da
   have dR:=dF.size
   refine zmr O O (M.append Tryz.underlying22 Tryz.el142 O (by decide) O O dk O (Cells.add di.cells) (zfi _) (by omega) (by omega)) ?_
   rintro vl' w6 ⟨dl,dz,dN,_⟩
   refine Ga 9 O (by omega) (G.back ((i+1,vl')) (Sub.of O) (⟨by omega,?_,?_,dF.trans dN (fun q hq h=>by have:=dr q h;omega)⟩) (by first | omega | (dsimp only;omega)))
   .
    rw[du,zps,zqO]
    exact dl
   intro q hq
   rcases dz with h | ⟨q',h,h'⟩
   . exact dr q (by rw[<- h];exact hq)
   rw[h]at hq;cases hq;omega
  rw[zpu dy,zqz]at du
  refine Ga 8 O (by omega) (G.back ((i+1,vl)) (Sub.of O) (⟨by omega,by rw[du];exact hY,dr,dt⟩) (by first | omega | (dsimp only;omega)))
 obtain rfl:i=vs.length:=by omega
 rw[zpp]at hY
 refine Gs 12 O (zlV Tryz.results85 O ⟨_,rfl,zmN (by omega) zeG zfh (fun x _=>rfl) hY dr,dt⟩)
def jo:List Vr->Int
 | []=>1
 | v::vs=>(v.high - v.low+1)*jo vs
theorem kW:∀ {vs:List Vr},(∀ v ∈ vs,1<=v.high - v.low+1)->1<=jo vs
 | [],_=>zqj _
 | v::vs,h=>by
  have h1:=h v (zpo ..)
  have h2:=kW (vs:=vs) fun x hx=>h x (zpn _ hx)
  have:(1:Int)*1<=(v.high - v.low+1)*jo vs:=zql h1 h2 (by omega) (by omega)
  exact this
theorem zbK {k:Int}:∀ (vs:List Vr) (n m:Int),(∀ v ∈ vs,v.kind=k)->zZ k vs n=some m->m=n*jo vs
 | [],n,m,_,h=>by simp only[zZ,Option.some.injEq]at h;rw[<- h,jo,Int.mul_one]
 | v::vs,n,m,hk,h=>by
  simp only[zZ]at h
  rw[zpv (hk v (zpo ..))]at h
  split at h
  . cases h
  rw[zbK vs _ m (fun x hx=>hk x (zpn _ hx)) h,jo,Int.mul_assoc]
theorem zg4 {k:Int} {vs:List Vr} {m:Int} (h:zo k vs=some m):m=jo (zf k vs):=by
 unfold zo at h
 rw[<- xf]at h
 rw[zbK (zf k vs) _ _ (fun v hv=>of_decide_eq_true (zrc.1 hv).2) h,Int.one_mul]
theorem zbL:∀ {vs:List Vr} {r:Int},0<=r->(∀ v ∈ vs,1<=v.high - v.low+1)->(zG vs r).2=r / jo vs
 | [],r,_,_=>by simp[zG,jo]
 | v::vs,r,h0,h=>by
  have h1:=h v (zpo ..)
  have hp:=kW (vs:=vs) fun x hx=>h x (zpn _ hx)
  rw[zG]
  simp only
  rw[zbL h0 fun x hx=>h x (zpn _ hx),zqt (Int.ediv_nonneg h0 (by omega)),Int.ediv_ediv,zpu (by omega),jo,Int.mul_comm (v.high - v.low+1),Int.sub_zero]
theorem zao {r:Int} (h0:0<=r):∀ {vs:List Vr} {i:Nat} {x:Vr},(∀ v ∈ vs,1<=v.high - v.low+1)->vs[i]?=some x->(zG vs r).1[i]?=some (x.low+(r / jo (vs.drop (i+1))).tmod (x.high - x.low+1))
 | [],_,_,_,hx=>by simp at hx
 | v::vs,0,x,h,hx=>by
  simp only[List.getElem?_cons_zero,Option.some.injEq]at hx
  subst hx
  simp only[zG,List.getElem?_cons_zero,zqH,List.drop_zero]
  rw[zbL h0 fun x hx=>h x (zpn _ hx)]
 | v::vs,i+1,x,h,hx=>by
  simp only[List.getElem?_cons_succ]at hx
  simp only[zG,List.getElem?_cons_succ,zqH]
  exact zao h0 (fun x hx=>h x (zpn _ hx)) hx
end Go.Proofs.YtckdhgbepmpgiaaGreat
namespace Go.GL
theorem ziK {p:Prop} [Decidable p] (h:¬ p):some (Value.bool false)=some (Value.bool (decide p)):=by rw[zpx h]
theorem ziL {q p:Prop} [Decidable q] [Decidable p] (h:q ↔ p):some (Value.bool (decide q))=some (Value.bool (decide p)):=by rw[zpM.2 h]
end Go.GL
