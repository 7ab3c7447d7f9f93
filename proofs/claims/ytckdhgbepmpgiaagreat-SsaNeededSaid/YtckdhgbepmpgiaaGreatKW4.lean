/-
  Contracts and the mathematics that the proof needs. Nothing here is a claim.
-/
import Derived.Test.YtckdhgbepmpgiaaGreatKW3
namespace Go.Proofs.YtckdhgbepmpgiaaGreat
open Go.GL
def RNew (cs:List Value) (e:TypeId):World->Value->World->Prop:=fun a v a'=>∃ b,v=.pointer (some ⟨b,0,none⟩)/\New a cs e b a'
theorem RNew.ext {cs:List Value} {e:TypeId} {a a':World} {v:Value} (h:RNew cs e a v a'):Ext a a':=by obtain⟨_,_,h⟩:=h;obtain⟨_,_,_,h⟩:=h;exact h
theorem RNew.apart {cs cs':List Value} {e e':TypeId} {v u:Value} {b c:Nat} (h:zjw (RNew cs e) v (RNew cs' e') u) (hb:v=.pointer (some ⟨b,0,none⟩)) (hc:u=.pointer (some ⟨c,0,none⟩)):b ≠ c:=by
 rcases h with⟨a,a',d,d',⟨b1,e1,g1,s1,_,_⟩,⟨c1,e2,g2,s2,_,_⟩,hk⟩ | ⟨a,a',d,d',⟨b1,e1,g1,s1,_,_⟩,⟨c1,e2,g2,s2,_,_⟩,hk⟩
 . rw[hb]at e1;rw[hc]at e2;cases e1;cases e2;have:=hk.size;omega
 rw[hb]at e1;rw[hc]at e2;cases e1;cases e2;have:=hk.size;omega
theorem zhX (vs:List Vr) (nh:Nat) (l:List St):∀ (v:Value) (D:Nat->Prop) (w:World) (top:Bool),stepsCodeN vs nh l top=0->SlR 10 RSt D w v l->sbulk l<=1000000->Calls Tryz.prog 124 #[v] w (Ret fun r w'=>r=.agg #[.int .i64 (cap 1099511627776 (bds l).1),.int .i64 (cap 1099511627776 (bds l).2.1),.int .i64 (cap 1099511627776 (bds l).2.2)]/\Ext w w'):=by
 induction l using zmB with
 | h l ih =>
 intro v D w top hok hl hb
 have hmx:=hl.max
 obtain⟨av,nv,rfl⟩:=hl.form
 have hl0:=hl
 have hE:=Keep.refl (fun _=>False) w
 refine zn1 Tryz.func124 O Tryz.ntmps124 O (Gs 2 O (zlY O O (M.alloc (cs:=_) tz193 O) ?_))
 rintro _ w_r ⟨r,rfl,hg_r,hs_r,hB_r,hk_r⟩
 have hge_r:_<=r:=zoZ hE.size (zri hg_r.symm)
 obtain⟨hE,hl⟩:=Tr2 hk_r hE hl
 refine Gs 4 O (zlY O O (M.alloc (cs:=_) tz193 O) ?_)
 rintro _ w_o ⟨o,rfl,hg_o,hs_o,hB_o,hk_o⟩
 have hn_r_o:r ≠ o:=by have:=hB_r.lt;omega
 have hge_o:_<=o:=zoZ hE.size (zri hg_o.symm)
 obtain⟨hE,hl,hB_r⟩:=Tr3 hk_o hE hl hB_r
 refine Gs 11 O ?_
 have hk0:=Keep.refl (fun q=>q=o) w_o
 refine G.loop (σ:=Nat) (fun i=>[(2,.pointer (some ⟨r,0,none⟩)),(3,.pointer (some ⟨o,0,none⟩)),(9,.slice av l.length nv),(10,.int .i64 l.length),(11,.int .i64 i)]) (fun i=>fun w'=>i<=l.length/\Blk w' o [.int .i64 (cap 1099511627776 (bds (l.take i)).1),.int .i64 (cap 1099511627776 (bds (l.take i)).2.1),.int .i64 (cap 1099511627776 (bds (l.take i)).2.2)] 193/\Blk w' r [.int .i64 0,.int .i64 0,.int .i64 0] 193/\Ext w w') (fun i=>l.length - i) (0) (Sub.of O) (⟨zp8 _,hB_o,hB_r,hE⟩) ?_
 rintro i w1 ⟨hi,hB_o,hB_r,hE⟩
 have hl:=hl0.ext zc hE
 refine Gs 6 O (zlc O (fun hlt=>?_) (fun hlt=>?_))
 .
  obtain⟨x,he_x,hm_x⟩:=gE_ l (i) (by omega)
  obtain⟨b_x,o_x,c_x,ha_x,_,hc_x,hR_x⟩:=hl.at he_x
  have h1_x:=RSt.one hR_x
  obtain⟨v1_x,v2_x,v3_x,v4_x,rfl,hk_x,ht_x,hs_x,hb_x⟩:=hR_x.get
  obtain⟨a1_x,n1_x,rfl⟩:=hk_x.form
  obtain⟨a2_x,n2_x,rfl⟩:=ht_x.form
  obtain⟨a3_x,n3_x,rfl⟩:=hs_x.form
  obtain⟨a4_x,n4_x,rfl⟩:=hb_x.form
  have hlt_x:b_x<_:=zoV _ _ (hc_x 0 _ rfl)
  have htk:=zeC he_x
  have htk1:(bds (l.take (i+1))).1=(bds (l.take i)).1+(yl x).1:=by rw[htk]
  have htk2:(bds (l.take (i+1))).2.1=(bds (l.take i)).2.1+(yl x).2.1:=by rw[htk]
  have htk3:(bds (l.take (i+1))).2.2=(bds (l.take i)).2.2+(yl x).2.2:=by rw[htk]
  have hpre:0<=(bds (l.take i)).1/\0<=(bds (l.take i)).2.1/\0<=(bds (l.take i)).2.2:=zgj hok i
  obtain⟨last,hx0⟩:=xu l top hok x hm_x
  obtain⟨hS,_,_,hs1,hs2⟩:=qf hx0
  have hcost:=hS.cost
  have n1:=yQ x.thn _ hs1
  have n2:=yQ x.els _ hs2
  have y:=zac hx0
  have hbx:=qR hm_x
  rw[St.bulk_eq]at hbx
  refine Gs 6 O (zmR O O (zlO tR24 ts72 O O ha_x (by omega)) (zmX O tg72 ts72 hc_x O (zlY O O (M.alloc (cs:=_) tz72 O) ?_)))
  rintro _ wa1 ⟨c,rfl,hg_c,hs_c,hB_c,hk_c⟩
  refine zm3 O (zm4 ts72 O O O O h1_x hB_c (by simp)) ?_
  rintro w_c ⟨_,hB_c,hkk_c⟩
  replace hk_c:=hk_c.trans hkk_c (fun q hq h=>by have h:q=c:=h;omega)
  have hn_r_c:r ≠ c:=by have:=hB_r.lt;omega
  have hn_o_c:o ≠ c:=by have:=hB_o.lt;omega
  have hge_c:_<=c:=zoZ hE.size (zri hg_c.symm)
  obtain⟨hE,hl,hB_r,hB_o,hc_x,hk_x,ht_x⟩:=Tr7 hk_c hE hl hB_r hB_o hc_x hk_x ht_x
  obtain⟨hs_x,hb_x⟩:=Tr2 hk_c hs_x hb_x
  refine Gs 5 O (zmV O tg3 (hB_c.cells 1 _ O) (zmR O O (R.build (v:=.agg #[.int .i64 1,.int .i64 0,.int .i64 x.cost]) [(0,_),(2,_)] O (fun _=>by kernel_rfl)) (zlY O O (M.alloc (cs:=_) tz193 O) ?_)))
  rintro _ wa2 ⟨p,rfl,hg_p,hs_p,hB_p,hk_p⟩
  refine zm3 O (zm4 ts193 O O O O (by simp[Value.oneCell']) hB_p (by simp)) ?_
  rintro w_p ⟨_,hB_p,hkk_p⟩
  replace hk_p:=hk_p.trans hkk_p (fun q hq h=>by have h:q=p:=h;omega)
  have hn_r_p:r ≠ p:=by have:=hB_r.lt;omega
  have hn_o_p:o ≠ p:=by have:=hB_o.lt;omega
  have hn_c_p:c ≠ p:=by have:=hB_c.lt;omega
  have hge_p:_<=p:=zoZ hE.size (zri hg_p.symm)
  obtain⟨hE,hl,hB_r,hB_o,hk_x,ht_x,hs_x⟩:=Tr7 hk_p hE hl hB_r hB_o hk_x ht_x hs_x
  obtain⟨hb_x,hB_c⟩:=Tr2 hk_p hb_x hB_c
  refine Gs 3 O ?_
  have hlr:r<w_p.heap.size:=hB_r.lt
  have hlo:o<w_p.heap.size:=hB_o.lt
  have hlc:c<w_p.heap.size:=hB_c.lt
  have hlp:p<w_p.heap.size:=hB_p.lt
  refine Dw (fun q=>Ext w_p q) [] (fun wd0 hD _=>(Ds [0] (by kernel_rfl) O (WD.take 1 O (by kernel_rfl) O O O hD (fun w1 hw1=>R.load tg24 O ((hw1.blk hB_c (fun h=>h)).cells 7 _ O)) (Ds [3] (by kernel_rfl) O (WD.take 4 O (by kernel_rfl) O O O hD (fun w1 hw1=>R.load tg24 O ((hw1.blk hB_c (fun h=>h)).cells 8 _ O)) ?_)))))
  refine znY (fuel:=2) (L3:=#[true,true,true,true,true,true,true,true,false,false]) [⟨2,_,20,fun a v a'=>v=.agg #[.int .i64 (cap 1099511627776 (bds x.thn).1),.int .i64 (cap 1099511627776 (bds x.thn).2.1),.int .i64 (cap 1099511627776 (bds x.thn).2.2)]/\Ext a a'⟩,⟨5,_,23,fun a v a'=>v=.agg #[.int .i64 (cap 1099511627776 (bds x.els).1),.int .i64 (cap 1099511627776 (bds x.els).2.1),.int .i64 (cap 1099511627776 (bds x.els).2.2)]/\Ext a a'⟩,⟨6,_,7,RNew [.int .i64 0,.int .i64 0,.int .i64 0] 193⟩,⟨7,_,8,RNew [.int .i64 0,.int .i64 0,.int .i64 0] 193⟩]
   (zqp.2 ⟨⟨rfl,rfl,rfl,rfl,rfl⟩,zqp.2 ⟨⟨rfl,rfl,rfl,rfl,rfl⟩,zqp.2 ⟨⟨rfl,rfl,rfl,rfl,rfl⟩,zqp.2 ⟨⟨rfl,rfl,rfl,rfl,rfl⟩,by simp⟩⟩⟩⟩)
   (show List.Nodup [20,23,7,8] by decide) (show List.Nodup [2,5,6,7] by decide) (by kernel_rfl) (fun w' h=>hD.ext h) ?_ ?_ ?_
  . refine zqp.2 ⟨fun a v a' h=>h.2,zqp.2 ⟨fun a v a' h=>h.2,zqp.2 ⟨fun a v a' h=>h.ext,zqp.2 ⟨fun a v a' h=>h.ext,by simp⟩⟩⟩⟩
  . refine zqp.2 ⟨fun w' h=>Does.call (F.call (vs:=[_]) Tryz.call124 O) ((ih x hm_x).1 _ _ _ _ hs1 (ht_x.ext zc (hD.ext h)) (by omega)),zqp.2 ⟨fun w' h=>Does.call (F.call (vs:=[_]) Tryz.call124 O) ((ih x hm_x).2 _ _ _ _ hs2 (hs_x.ext zc (hD.ext h)) (by omega)),zqp.2 ⟨fun w' h=>Does.of (M.alloc (cs:=_) tz193 O),zqp.2 ⟨fun w' h=>Does.of (M.alloc (cs:=_) tz193 O),by simp⟩⟩⟩⟩
  intro val wm hEm hmade hap
  obtain⟨_,_,_,⟨e2,_⟩,_⟩:=hmade _ (zoX ..)
  obtain⟨_,_,_,⟨e5,_⟩,_⟩:=hmade _ (zoW _ (zoX ..))
  obtain⟨a6,a6',h61,⟨t,e6,hg6,hs6,hB6,hk6⟩,h62⟩:=hmade _ (zoW _ (zoW _ (zoX ..)))
  obtain⟨a7,a7',h71,⟨u,e7,hg7,hs7,hB7,hk7⟩,h72⟩:=hmade _ (zoW _ (zoW _ (zoW _ (zoX ..))))
  have hn_t_u:t ≠ u:=RNew.apart (hap _ (zoW _ (zoW _ (zoX ..))) _ (zoW _ (zoW _ (zoW _ (zoX ..)))) (show (7:Nat) ≠ 8 by decide)) e6 e7
  have hgt:w_p.heap.size<=t:=by have:=hD.size;have:=h61.size;omega
  have hgu:w_p.heap.size<=u:=by have:=hD.size;have:=h71.size;omega
  have hB_t:=h62.blk hB6 (fun h=>h)
  have hB_u:=h72.blk hB7 (fun h=>h)
  replace hD:=hD.ext hEm
  have hn_r_t:r ≠ t:=by omega
  have hn_r_u:r ≠ u:=by omega
  have hn_o_t:o ≠ t:=by omega
  have hn_o_u:o ≠ u:=by omega
  have hn_c_t:c ≠ t:=by omega
  have hn_c_u:c ≠ u:=by omega
  have hn_p_t:p ≠ t:=by omega
  have hn_p_u:p ≠ u:=by omega
  show WD _ _ _ _ _ _ _ _ ((20,val 20)::(23,val 23)::(7,val 7)::(8,val 8)::_) _
  rw[e2,e5,e6,e7]
  refine zm2 8 O (by kernel_rfl) O O (zm4 ts193 O O O O (by simp[Value.oneCell']) hB_t (by simp)) ?_
  rintro ws1 ⟨_,hB_t,hs1⟩
  replace hB_u:=hs1.blk hB_u (fun h=>hn_t_u h.symm)
  replace hD:=hD.trans hs1 (fun q hq h=>by have h:q=t:=h;omega)
  refine⟨fun _=>hD,?_⟩
  refine zm2 9 O (by kernel_rfl) O O (zm4 ts193 O O O O (by simp[Value.oneCell']) hB_u (by simp)) ?_
  rintro ws2 ⟨_,hB_u,hs2⟩
  replace hB_t:=hs2.blk hB_t hn_t_u
  replace hD:=hD.trans hs2 (fun q hq h=>by have h:q=u:=h;omega)
  refine⟨fun _=>hD,?_⟩
  refine G.done (by kernel_rfl) ?_ _
  obtain⟨hE,hl,hB_r,hB_o,hk_x,ht_x,hs_x⟩:=Tr7 hD hE hl hB_r hB_o hk_x ht_x hs_x
  obtain⟨hb_x,hB_c,hB_p⟩:=Tr3 hD hb_x hB_c hB_p
  have hge_t:w.heap.size<=t:=by have:=hE.size;omega
  have hge_u:w.heap.size<=u:=by have:=hE.size;omega
  have r1:=zE n1.1 (show (0:Int)<=1099511627776 by decide)
  have r2:=zE n1.2.1 (show (0:Int)<=1099511627776 by decide)
  have r3:=zE n1.2.2 (show (0:Int)<=1099511627776 by decide)
  have r4:=zE n2.1 (show (0:Int)<=1099511627776 by decide)
  have r5:=zE n2.2.1 (show (0:Int)<=1099511627776 by decide)
  have r6:=zE n2.2.2 (show (0:Int)<=1099511627776 by decide)
  have t1:=zE hpre.1 (show (0:Int)<=1099511627776 by decide)
  have t2:=zE hpre.2.1 (show (0:Int)<=1099511627776 by decide)
  have t3:=zE hpre.2.2 (show (0:Int)<=1099511627776 by decide)
  refine Gs 5 O (zmV O tg66 (hB_c.cells 0 _ O) (Gs 9 O (zlc O (fun a1=>?_) (fun a1=>?_))))
  .
   obtain⟨g1,g2⟩:=hS.free (by omega) (by omega)
   have eB:yl x=(1,1,x.cost):=by rw[zV,g1,g2,zp3 (by omega)];simp[bds,a1]
   have f1:cap 1099511627776 1=cap 1099511627776 (yl x).1:=by rw[eB]
   have f2:cap 1099511627776 1=cap 1099511627776 (yl x).2.1:=by rw[eB]
   have f3:cap 1099511627776 x.cost=cap 1099511627776 (yl x).2.2:=by rw[eB]
   have z1:(0:Int)<=1:=by decide
   have z2:(0:Int)<=1:=by decide
   have z3:=hcost.1
   refine Gs 2 O (zm3 O (M.store ts3 O O O O hB_p (by simp)) ?_)
   rintro ws3 ⟨_,hB_p,hs3⟩
   replace hE:=hE.trans hs3 (fun q hq h=>by have h:q=p:=h;omega)
   replace hB_r:=hs3.blk hB_r hn_r_p
   replace hB_o:=hs3.blk hB_o hn_o_p
   replace hB_c:=hs3.blk hB_c hn_c_p
   replace hB_t:=hs3.blk hB_t (fun h=>hn_p_t h.symm)
   replace hB_u:=hs3.blk hB_u (fun h=>hn_p_u h.symm)
   refine Gs 6 O (zmV O tg3 (hB_o.cells 0 _ O) (Gs 1 O (zmV O tg3 (hB_p.cells 0 _ O) (Ga 3 O (by omega) (zm3 O (M.store ts3 O O O O hB_o (by simp)) ?_)))))
   rintro ws4 ⟨_,hB_o,hs4⟩
   replace hE:=hE.trans hs4 (fun q hq h=>by have h:q=o:=h;omega)
   replace hB_r:=hs4.blk hB_r hn_r_o
   replace hB_c:=hs4.blk hB_c (fun h=>hn_o_c h.symm)
   replace hB_p:=hs4.blk hB_p (fun h=>hn_o_p h.symm)
   replace hB_t:=hs4.blk hB_t (fun h=>hn_o_t h.symm)
   replace hB_u:=hs4.blk hB_u (fun h=>hn_o_u h.symm)
   refine Gs 5 O (zmV O tg3 (hB_o.cells 1 _ O) (Gs 1 O (zmV O tg3 (hB_p.cells 1 _ O) (Ga 3 O (by omega) (zm3 O (M.store ts3 O O O O hB_o (by simp)) ?_)))))
   rintro ws5 ⟨_,hB_o,hs5⟩
   replace hE:=hE.trans hs5 (fun q hq h=>by have h:q=o:=h;omega)
   replace hB_r:=hs5.blk hB_r hn_r_o
   replace hB_c:=hs5.blk hB_c (fun h=>hn_o_c h.symm)
   replace hB_p:=hs5.blk hB_p (fun h=>hn_o_p h.symm)
   replace hB_t:=hs5.blk hB_t (fun h=>hn_o_t h.symm)
   replace hB_u:=hs5.blk hB_u (fun h=>hn_o_u h.symm)
   refine Gs 4 O (zmV O tg3 (hB_o.cells 2 _ O) (Gs 1 O (zmV O tg3 (hB_p.cells 2 _ O) (Ga 3 O (by omega) (zm3 O (M.store ts3 O O O O hB_o (by simp)) ?_)))))
   rintro ws6 ⟨_,hB_o,hs6⟩
   replace hE:=hE.trans hs6 (fun q hq h=>by have h:q=o:=h;omega)
   replace hB_r:=hs6.blk hB_r hn_r_o
   replace hB_c:=hs6.blk hB_c (fun h=>hn_o_c h.symm)
   replace hB_p:=hs6.blk hB_p (fun h=>hn_o_p h.symm)
   replace hB_t:=hs6.blk hB_t (fun h=>hn_o_t h.symm)
   replace hB_u:=hs6.blk hB_u (fun h=>hn_o_u h.symm)
   refine Ga 7 O (by omega) (G.back (i+1) (Sub.of O) (⟨by omega,by rw[htk1,htk2,htk3,<- zY hpre.1 y.1 z1 f1,<- zY hpre.2.1 y.2.1 z2 f2,<- zY hpre.2.2 y.2.2 z3 f3];exact hB_o,hB_r,hE⟩) (by first | omega | (dsimp only;omega)))
  refine Gs 6 O (zlc O (fun a3=>?_) (fun a3=>?_))
  .
   have n4:¬ x.act=4:=by omega
   have f1:cap 1099511627776 (1+max (cap 1099511627776 (bds x.thn).1) (cap 1099511627776 (bds x.els).1))=cap 1099511627776 (yl x).1:=by rw[zV,zp3 n4];exact zcv (by omega) n1.1 n2.1
   have f2:cap 1099511627776 (max (cap 1099511627776 (bds x.thn).2.1) (cap 1099511627776 (bds x.els).2.1))=cap 1099511627776 (yl x).2.1:=by rw[zV,zp3 n4];simp only[a1,if_false];exact zeD n1.2.1 n2.2.1
   have f3:cap 1099511627776 (x.cost+max (cap 1099511627776 (bds x.thn).2.2) (cap 1099511627776 (bds x.els).2.2))=cap 1099511627776 (yl x).2.2:=by rw[zV,zp3 n4];exact zcv hcost.1 n1.2.2 n2.2.2
   have z1:0<=1+max (cap 1099511627776 (bds x.thn).1) (cap 1099511627776 (bds x.els).1):=by omega
   have z2:0<=max (cap 1099511627776 (bds x.thn).2.1) (cap 1099511627776 (bds x.els).2.1):=by omega
   have z3:0<=x.cost+max (cap 1099511627776 (bds x.thn).2.2) (cap 1099511627776 (bds x.els).2.2):=by omega
   refine Gs 3 O (zmV O tg3 (hB_p.cells 0 _ O) (Gs 1 O (zmV O tg3 (hB_t.cells 0 _ O) (Gs 1 O (zmV O tg3 (hB_u.cells 0 _ O) (Ga 3 O (by omega) (zm3 O (M.store ts3 O O O O hB_p (by simp)) ?_)))))))
   rintro ws7 ⟨_,hB_p,hs7⟩
   replace hE:=hE.trans hs7 (fun q hq h=>by have h:q=p:=h;omega)
   replace hB_r:=hs7.blk hB_r hn_r_p
   replace hB_o:=hs7.blk hB_o hn_o_p
   replace hB_c:=hs7.blk hB_c hn_c_p
   replace hB_t:=hs7.blk hB_t (fun h=>hn_p_t h.symm)
   replace hB_u:=hs7.blk hB_u (fun h=>hn_p_u h.symm)
   refine Gs 5 O (zmV O tg3 (hB_t.cells 1 _ O) (Gs 1 O (zmV O tg3 (hB_u.cells 1 _ O) (Gs 2 O (zm3 O (M.store ts3 O O O O hB_p (by simp)) ?_)))))
   rintro ws8 ⟨_,hB_p,hs8⟩
   replace hE:=hE.trans hs8 (fun q hq h=>by have h:q=p:=h;omega)
   replace hB_r:=hs8.blk hB_r hn_r_p
   replace hB_o:=hs8.blk hB_o hn_o_p
   replace hB_c:=hs8.blk hB_c hn_c_p
   replace hB_t:=hs8.blk hB_t (fun h=>hn_p_t h.symm)
   replace hB_u:=hs8.blk hB_u (fun h=>hn_p_u h.symm)
   refine Gs 4 O (zmV O tg3 (hB_p.cells 2 _ O) (Gs 1 O (zmV O tg3 (hB_t.cells 2 _ O) (Gs 1 O (zmV O tg3 (hB_u.cells 2 _ O) (Ga 3 O (by omega) (zm3 O (M.store ts3 O O O O hB_p (by simp)) ?_)))))))
   rintro ws9 ⟨_,hB_p,hs9⟩
   replace hE:=hE.trans hs9 (fun q hq h=>by have h:q=p:=h;omega)
   replace hB_r:=hs9.blk hB_r hn_r_p
   replace hB_o:=hs9.blk hB_o hn_o_p
   replace hB_c:=hs9.blk hB_c hn_c_p
   replace hB_t:=hs9.blk hB_t (fun h=>hn_p_t h.symm)
   replace hB_u:=hs9.blk hB_u (fun h=>hn_p_u h.symm)
   refine Gs 6 O (zmV O tg3 (hB_o.cells 0 _ O) (Gs 1 O (zmV O tg3 (hB_p.cells 0 _ O) (Ga 3 O (by omega) (zm3 O (M.store ts3 O O O O hB_o (by simp)) ?_)))))
   rintro ws10 ⟨_,hB_o,hs10⟩
   replace hE:=hE.trans hs10 (fun q hq h=>by have h:q=o:=h;omega)
   replace hB_r:=hs10.blk hB_r hn_r_o
   replace hB_c:=hs10.blk hB_c (fun h=>hn_o_c h.symm)
   replace hB_p:=hs10.blk hB_p (fun h=>hn_o_p h.symm)
   replace hB_t:=hs10.blk hB_t (fun h=>hn_o_t h.symm)
   replace hB_u:=hs10.blk hB_u (fun h=>hn_o_u h.symm)
   refine Gs 5 O (zmV O tg3 (hB_o.cells 1 _ O) (Gs 1 O (zmV O tg3 (hB_p.cells 1 _ O) (Ga 3 O (by omega) (zm3 O (M.store ts3 O O O O hB_o (by simp)) ?_)))))
   rintro ws11 ⟨_,hB_o,hs11⟩
   replace hE:=hE.trans hs11 (fun q hq h=>by have h:q=o:=h;omega)
   replace hB_r:=hs11.blk hB_r hn_r_o
   replace hB_c:=hs11.blk hB_c (fun h=>hn_o_c h.symm)
   replace hB_p:=hs11.blk hB_p (fun h=>hn_o_p h.symm)
   replace hB_t:=hs11.blk hB_t (fun h=>hn_o_t h.symm)
   replace hB_u:=hs11.blk hB_u (fun h=>hn_o_u h.symm)
   refine Gs 4 O (zmV O tg3 (hB_o.cells 2 _ O) (Gs 1 O (zmV O tg3 (hB_p.cells 2 _ O) (Ga 3 O (by omega) (zm3 O (M.store ts3 O O O O hB_o (by simp)) ?_)))))
   rintro ws12 ⟨_,hB_o,hs12⟩
   replace hE:=hE.trans hs12 (fun q hq h=>by have h:q=o:=h;omega)
   replace hB_r:=hs12.blk hB_r hn_r_o
   replace hB_c:=hs12.blk hB_c (fun h=>hn_o_c h.symm)
   replace hB_p:=hs12.blk hB_p (fun h=>hn_o_p h.symm)
   replace hB_t:=hs12.blk hB_t (fun h=>hn_o_t h.symm)
   replace hB_u:=hs12.blk hB_u (fun h=>hn_o_u h.symm)
   refine Ga 7 O (by omega) (G.back (i+1) (Sub.of O) (⟨by omega,by rw[htk1,htk2,htk3,<- zY hpre.1 y.1 z1 f1,<- zY hpre.2.1 y.2.1 z2 f2,<- zY hpre.2.2 y.2.2 z3 f3];exact hB_o,hB_r,hE⟩) (by first | omega | (dsimp only;omega)))
  refine Gs 6 O (zlc O (fun a4=>?_) (fun a4=>?_))
  .
   have hr:=hS.rep a4
   have p1:=qn x.n (1+cap 1099511627776 (bds x.thn).1) 4096 1099511627777 hr.1 hr.2.1 (by omega) (by omega)
   have p2:=qn x.n (cap 1099511627776 (bds x.thn).2.1) 4096 1099511627776 hr.1 hr.2.1 (by omega) (by omega)
   have p3:=qn x.n (x.cost+cap 1099511627776 (bds x.thn).2.2) 4096 1099578736640 hr.1 hr.2.1 (by omega) (by omega)
   have q1:=zpo hr.1 (show 0<=1+(bds x.thn).1 by omega)
   have f1:cap 1099511627776 (1+x.n*(1+cap 1099511627776 (bds x.thn).1))=cap 1099511627776 (yl x).1:=by rw[zV,zp4 a4];exact zgi p1.1 q1 (zbc hr.1 (by omega) n1.1 (by omega))
   have f2:cap 1099511627776 (x.n*cap 1099511627776 (bds x.thn).2.1)=cap 1099511627776 (yl x).2.1:=by rw[zV,zp4 a4];exact zeE hr.1 n1.2.1 (by omega)
   have f3:cap 1099511627776 (x.n*(x.cost+cap 1099511627776 (bds x.thn).2.2))=cap 1099511627776 (yl x).2.2:=by rw[zV,zp4 a4];exact zbc hr.1 hcost.1 n1.2.2 (by omega)
   have z1:0<=1+x.n*(1+cap 1099511627776 (bds x.thn).1):=by omega
   have z2:=p2.1
   have z3:=p3.1
   refine Gs 3 O (zmV O tg3 (hB_p.cells 0 _ O) (Gs 1 O (zmV O tg3 (hB_c.cells 3 _ O) (Gs 1 O (zmV O tg3 (hB_t.cells 0 _ O) (Ga 4 O (by omega) (zm3 O (M.store ts3 O O O O hB_p (by simp)) ?_)))))))
   rintro ws13 ⟨_,hB_p,hs13⟩
   replace hE:=hE.trans hs13 (fun q hq h=>by have h:q=p:=h;omega)
   replace hB_r:=hs13.blk hB_r hn_r_p
   replace hB_o:=hs13.blk hB_o hn_o_p
   replace hB_c:=hs13.blk hB_c hn_c_p
   replace hB_t:=hs13.blk hB_t (fun h=>hn_p_t h.symm)
   replace hB_u:=hs13.blk hB_u (fun h=>hn_p_u h.symm)
   refine Gs 5 O (zmV O tg3 (hB_c.cells 3 _ O) (Gs 1 O (zmV O tg3 (hB_t.cells 1 _ O) (Ga 2 O (by omega) (zm3 O (M.store ts3 O O O O hB_p (by simp)) ?_)))))
   rintro ws14 ⟨_,hB_p,hs14⟩
   replace hE:=hE.trans hs14 (fun q hq h=>by have h:q=p:=h;omega)
   replace hB_r:=hs14.blk hB_r hn_r_p
   replace hB_o:=hs14.blk hB_o hn_o_p
   replace hB_c:=hs14.blk hB_c hn_c_p
   replace hB_t:=hs14.blk hB_t (fun h=>hn_p_t h.symm)
   replace hB_u:=hs14.blk hB_u (fun h=>hn_p_u h.symm)
   refine Gs 4 O (zmV O tg3 (hB_c.cells 3 _ O) (Gs 1 O (zmV O tg3 (hB_c.cells 1 _ O) (Gs 1 O (zmV O tg3 (hB_t.cells 2 _ O) (Ga 3 O (by omega) (zm3 O (M.store ts3 O O O O hB_p (by simp)) ?_)))))))
   rintro ws15 ⟨_,hB_p,hs15⟩
   replace hE:=hE.trans hs15 (fun q hq h=>by have h:q=p:=h;omega)
   replace hB_r:=hs15.blk hB_r hn_r_p
   replace hB_o:=hs15.blk hB_o hn_o_p
   replace hB_c:=hs15.blk hB_c hn_c_p
   replace hB_t:=hs15.blk hB_t (fun h=>hn_p_t h.symm)
   replace hB_u:=hs15.blk hB_u (fun h=>hn_p_u h.symm)
   refine Gs 6 O (zmV O tg3 (hB_o.cells 0 _ O) (Gs 1 O (zmV O tg3 (hB_p.cells 0 _ O) (Ga 3 O (by omega) (zm3 O (M.store ts3 O O O O hB_o (by simp)) ?_)))))
   rintro ws16 ⟨_,hB_o,hs16⟩
   replace hE:=hE.trans hs16 (fun q hq h=>by have h:q=o:=h;omega)
   replace hB_r:=hs16.blk hB_r hn_r_o
   replace hB_c:=hs16.blk hB_c (fun h=>hn_o_c h.symm)
   replace hB_p:=hs16.blk hB_p (fun h=>hn_o_p h.symm)
   replace hB_t:=hs16.blk hB_t (fun h=>hn_o_t h.symm)
   replace hB_u:=hs16.blk hB_u (fun h=>hn_o_u h.symm)
   refine Gs 5 O (zmV O tg3 (hB_o.cells 1 _ O) (Gs 1 O (zmV O tg3 (hB_p.cells 1 _ O) (Ga 3 O (by omega) (zm3 O (M.store ts3 O O O O hB_o (by simp)) ?_)))))
   rintro ws17 ⟨_,hB_o,hs17⟩
   replace hE:=hE.trans hs17 (fun q hq h=>by have h:q=o:=h;omega)
   replace hB_r:=hs17.blk hB_r hn_r_o
   replace hB_c:=hs17.blk hB_c (fun h=>hn_o_c h.symm)
   replace hB_p:=hs17.blk hB_p (fun h=>hn_o_p h.symm)
   replace hB_t:=hs17.blk hB_t (fun h=>hn_o_t h.symm)
   replace hB_u:=hs17.blk hB_u (fun h=>hn_o_u h.symm)
   refine Gs 4 O (zmV O tg3 (hB_o.cells 2 _ O) (Gs 1 O (zmV O tg3 (hB_p.cells 2 _ O) (Ga 3 O (by omega) (zm3 O (M.store ts3 O O O O hB_o (by simp)) ?_)))))
   rintro ws18 ⟨_,hB_o,hs18⟩
   replace hE:=hE.trans hs18 (fun q hq h=>by have h:q=o:=h;omega)
   replace hB_r:=hs18.blk hB_r hn_r_o
   replace hB_c:=hs18.blk hB_c (fun h=>hn_o_c h.symm)
   replace hB_p:=hs18.blk hB_p (fun h=>hn_o_p h.symm)
   replace hB_t:=hs18.blk hB_t (fun h=>hn_o_t h.symm)
   replace hB_u:=hs18.blk hB_u (fun h=>hn_o_u h.symm)
   refine Ga 7 O (by omega) (G.back (i+1) (Sub.of O) (⟨by omega,by rw[htk1,htk2,htk3,<- zY hpre.1 y.1 z1 f1,<- zY hpre.2.1 y.2.1 z2 f2,<- zY hpre.2.2 y.2.2 z3 f3];exact hB_o,hB_r,hE⟩) (by first | omega | (dsimp only;omega)))
  obtain⟨g1,g2⟩:=hS.free a3 a4
  have eB:yl x=(1,0,x.cost):=by rw[zV,g1,g2,zp3 a4];simp[bds,a1]
  have f1:cap 1099511627776 1=cap 1099511627776 (yl x).1:=by rw[eB]
  have f2:cap 1099511627776 0=cap 1099511627776 (yl x).2.1:=by rw[eB]
  have f3:cap 1099511627776 x.cost=cap 1099511627776 (yl x).2.2:=by rw[eB]
  have z1:(0:Int)<=1:=by decide
  have z2:(0:Int)<=0:=by decide
  have z3:=hcost.1
  refine Gs 6 O (zmV O tg3 (hB_o.cells 0 _ O) (Gs 1 O (zmV O tg3 (hB_p.cells 0 _ O) (Ga 3 O (by omega) (zm3 O (M.store ts3 O O O O hB_o (by simp)) ?_)))))
  rintro ws19 ⟨_,hB_o,hs19⟩
  replace hE:=hE.trans hs19 (fun q hq h=>by have h:q=o:=h;omega)
  replace hB_r:=hs19.blk hB_r hn_r_o
  replace hB_c:=hs19.blk hB_c (fun h=>hn_o_c h.symm)
  replace hB_p:=hs19.blk hB_p (fun h=>hn_o_p h.symm)
  replace hB_t:=hs19.blk hB_t (fun h=>hn_o_t h.symm)
  replace hB_u:=hs19.blk hB_u (fun h=>hn_o_u h.symm)
  refine Gs 5 O (zmV O tg3 (hB_o.cells 1 _ O) (Gs 1 O (zmV O tg3 (hB_p.cells 1 _ O) (Ga 3 O (by omega) (zm3 O (M.store ts3 O O O O hB_o (by simp)) ?_)))))
  rintro ws20 ⟨_,hB_o,hs20⟩
  replace hE:=hE.trans hs20 (fun q hq h=>by have h:q=o:=h;omega)
  replace hB_r:=hs20.blk hB_r hn_r_o
  replace hB_c:=hs20.blk hB_c (fun h=>hn_o_c h.symm)
  replace hB_p:=hs20.blk hB_p (fun h=>hn_o_p h.symm)
  replace hB_t:=hs20.blk hB_t (fun h=>hn_o_t h.symm)
  replace hB_u:=hs20.blk hB_u (fun h=>hn_o_u h.symm)
  refine Gs 4 O (zmV O tg3 (hB_o.cells 2 _ O) (Gs 1 O (zmV O tg3 (hB_p.cells 2 _ O) (Ga 3 O (by omega) (zm3 O (M.store ts3 O O O O hB_o (by simp)) ?_)))))
  rintro ws21 ⟨_,hB_o,hs21⟩
  replace hE:=hE.trans hs21 (fun q hq h=>by have h:q=o:=h;omega)
  replace hB_r:=hs21.blk hB_r hn_r_o
  replace hB_c:=hs21.blk hB_c (fun h=>hn_o_c h.symm)
  replace hB_p:=hs21.blk hB_p (fun h=>hn_o_p h.symm)
  replace hB_t:=hs21.blk hB_t (fun h=>hn_o_t h.symm)
  replace hB_u:=hs21.blk hB_u (fun h=>hn_o_u h.symm)
  refine Ga 7 O (by omega) (G.back (i+1) (Sub.of O) (⟨by omega,by rw[htk1,htk2,htk3,<- zY hpre.1 y.1 z1 f1,<- zY hpre.2.1 y.2.1 z2 f2,<- zY hpre.2.2 y.2.2 z3 f3];exact hB_o,hB_r,hE⟩) (by first | omega | (dsimp only;omega)))
 have hii:i=l.length:=by omega
 subst hii
 rw[zoY]at hB_o
 refine Gs 7 O (zmX O Tryz.isAgg193 ts193 hB_o.cells O (zm3 O (zm4 ts193 O O O O (by simp[Value.oneCell']) hB_r (by simp)) ?_))
 rintro wf ⟨_,hBf,hkf⟩
 refine Gs 3 O (zlA Tryz.results124 O (zj Tryz.isAgg193 ts193 O hBf.cells) ?_)
 exact⟨_,rfl,rfl,hE.trans hkf (fun q hq h=>by have h:q=r:=h;omega)⟩
def xz (f:Fl):Bool:=decide (f.vars.length<=64)&&decide (f.hatches.length<=8)&&f.hatches.all (fun h=>decide (h.term.depth<=12))&&(decide (sdepth f.body<=12)&&!stdeep f.body)
theorem ze5 (f:Fl) (v1 v2 v3:Value) (D:Nat->Prop) (w:World) (hf:RFl D w f v1 v2 v3) (hsz:snodes f.body+zA f.hatches<=1024):Calls Tryz.prog 59 #[.agg #[v1,v2,v3]] w (Ret fun r w'=>r=.bool (xz f)/\Ext w w'):=by
 obtain⟨hvs,hhs,hbd⟩:=hf
 have hm1:=hvs.max
 have hm2:=hhs.max
 obtain⟨a1,n1,rfl⟩:=hvs.form
 obtain⟨a2,n2,rfl⟩:=hhs.form
 have hE:=Keep.refl (fun _=>False) w
 refine zn1 Tryz.func59 O Tryz.ntmps59 O (Gs 2 O (zlY O O (M.box O O) ?_))
 rintro _ w_b ⟨b,rfl,hg_b,hs_b,hB_b,hk_b⟩
 have hge_b:_<=b:=zoZ hE.size (zri hg_b.symm)
 obtain⟨hE,hvs,hhs,hbd⟩:=Tr4 hk_b hE hvs hhs hbd
 refine Gs 7 O (zmV O tg22 (hB_b.cells 0 _ O) (Gs 3 O (G.sp 9 O (fun g1=>?_) (fun g1=>?_))))
 . refine Gs 15 O (zls tr59 O ⟨_,rfl,by unfold xz;rw[zp6 (show ¬ f.vars.length<=64 by omega)];rfl,hE⟩)
 refine Gs 1 O (zmV O tg23 (hB_b.cells 1 _ O) (Gs 5 O (zlc O (fun g2=>?_) (fun g2=>?_))))
 . refine Gs 7 O (zls tr59 O ⟨_,rfl,by unfold xz;rw[zp6 (show ¬ f.hatches.length<=8 by omega),zpw];rfl,hE⟩)
 have hpre:xz f=(f.hatches.all (fun h=>decide (h.term.depth<=12))&&(decide (sdepth f.body<=12)&&!stdeep f.body)):=by
  unfold xz;rw[zp5 (show f.vars.length<=64 by omega),zp5 (show f.hatches.length<=8 by omega)];rfl
 refine Gs 5 O (zmV O tg24 (hB_b.cells 2 _ O) (G.call O Tryz.call104 (zdV f.body _ D _ hbd (by omega)) ?_))
 rintro _ wz1 ⟨rfl,hz1⟩
 obtain⟨hE,hvs,hhs,hbd,hB_b⟩:=Tr5 hz1 hE hvs hhs hbd hB_b
 refine Gs 10 O (G.loop (σ:=Nat) (fun i=>[(1,.pointer (some ⟨b,0,none⟩)),(3,.int .i64 ((snodes f.body:Int)+zA (f.hatches.take i))),(4,.int .i64 i)]) (fun i=>fun w'=>i<=f.hatches.length/\(f.hatches.take i).all (fun h=>decide (h.term.depth<=12))=true/\Ext wz1 w') (fun i=>f.hatches.length - i) (0) (Sub.of O) (⟨zp8 _,rfl,Keep.refl _ _⟩) ?_)
 rintro i w1 ⟨hi,hall,hL1⟩
 obtain⟨hE,hvs,hhs,hbd,hB_b⟩:=Tr5 hL1 hE hvs hhs hbd hB_b
 refine Gs 5 O (zmV O tg23 (hB_b.cells 1 _ O) (Gs 4 O (zlc O (fun hlt=>?_) (fun hlt=>?_))))
 .
  obtain⟨x,he_x,hm_x⟩:=gE_ f.hatches (i) (by omega)
  obtain⟨b_x,o_x,c_x,ha_x,_,hc_x,hR_x⟩:=hhs.at he_x
  have h1_x:=RHt.one hR_x
  obtain⟨v1_x,rfl,hk_x⟩:=hR_x
  obtain⟨a1_x,n1_x,rfl⟩:=hk_x.form
  have hlt_x:b_x<_:=zoV _ _ (hc_x 0 _ rfl)
  have hsp:=xq he_x
  have htk:=jE he_x
  have hdn:x.term.depth<=x.term.nodes:=by have:=za7 [x.term];simp[tdepth,tnodes]at this;exact this
  refine Gs 8 O (zmV O tg23 (hB_b.cells 1 _ O) (Gs 1 O (zmR O O (zlO tR23 ts109 O O ha_x (by omega)) (Gs 1 O (zmX O tg70 ts70 (hc_x.sub 3 3) O (G.call O Tryz.call105 (qU x.term _ D _ (RTm.put hk_x) (by omega)) ?_))))))
  rintro _ wz2 ⟨rfl,hz2⟩
  obtain⟨hE,hvs,hhs,hbd,hB_b,hL1,hc_x⟩:=Tr7 hz2 hE hvs hhs hbd hB_b hL1 hc_x
  replace hk_x:=Tr1 hz2 hk_x
  refine Ga 7 O (by omega) (zmV O tg23 (hB_b.cells 1 _ O) (Gs 1 O (zmR O O (zlO tR23 ts109 O O ha_x (by omega)) (Gs 1 O (zmX O tg70 ts70 (hc_x.sub 3 3) O (G.call O Tryz.call106 (qV x.term _ D _ (RTm.put hk_x) (by omega)) ?_))))))
  rintro _ wz3 ⟨rfl,hz3⟩
  obtain⟨hE,hvs,hhs,hbd,hB_b,hL1,hc_x⟩:=Tr7 hz3 hE hvs hhs hbd hB_b hL1 hc_x
  replace hk_x:=Tr1 hz3 hk_x
  refine Gs 3 O (zlc O (fun dd=>?_) (fun dd=>?_))
  .
   have hfa:f.hatches.all (fun h=>decide (h.term.depth<=12))=false:=by
    rw[zpy];intro h;have:=zq0.1 h x hm_x;simp at this;omega
   refine Gs 11 O (zls tr59 O ⟨_,rfl,by rw[hpre,hfa,zpA],hE⟩)
  refine Ga 8 O (by omega) (G.back (i+1) (Sub.cons O (Sub.cons (yr O (by rw[htk];omega)) (Sub.of O))) (⟨by omega,by rw[zd he_x,List.all_append,hall];simp;omega,hL1⟩) (by first | omega | (dsimp only;omega)))
 have hii:i=f.hatches.length:=by omega
 subst hii
 rw[zoY]at hall
 rw[hall,zpL]at hpre
 have hsd:=qS f.body
 refine Gs 10 O (G.sp 44 O (fun gn=>?_) (fun gn=>?_))
 .
  refine Gs 1 O (zmV O tg24 (hB_b.cells 2 _ O) (G.call O Tryz.call107 (zaZ f.body _ D _ hbd (by omega)) ?_))
  rintro _ wz4 ⟨rfl,hz4⟩
  obtain⟨hE,hvs,hhs,hbd,hB_b,hL1⟩:=Tr6 hz4 hE hvs hhs hbd hB_b hL1
  refine Gs 3 O (G.sp 50 O (fun gd=>?_) (fun gd=>?_))
  .
   refine Gs 1 O (zmV O tg24 (hB_b.cells 2 _ O) (G.call O Tryz.call108 (zb0 f.body _ D _ hbd (by omega)) ?_))
   rintro _ wz5 ⟨rfl,hz5⟩
   obtain⟨hE,hvs,hhs,hbd,hB_b,hL1⟩:=Tr6 hz5 hE hvs hhs hbd hB_b hL1
   refine zmR O O (zms O (by first | exact za | rfl)) (Gs 5 O (zls tr59 O ⟨_,rfl,by rw[hpre,zp5 (show sdepth f.body<=12 by omega)];rfl,hE⟩))
  refine Gs 9 O (zls tr59 O ⟨_,rfl,by rw[hpre,zp6 (show ¬ sdepth f.body<=12 by omega)];rfl,hE⟩)
 exact absurd (by rw[zoY];omega) gn
def zcw (f:Fl):Bool:=decide (4096<(bds f.body).1) || decide (8<(bds f.body).2.1) || decide (67108864<(bds f.body).2.2)
def yt (f:Fl):Int :=
 if xz f=false then 4
 else if zr f.vars ≠ 0 then zr f.vars
 else if zv f.vars f.hatches ≠ 0 then zv f.vars f.hatches
 else if stepsCodeN f.vars f.hatches.length f.body true ≠ 0 then stepsCodeN f.vars f.hatches.length f.body true
 else if zcw f then 4 else 0
theorem zbe {vs:List Vr} (h:zr vs=0):∀ v ∈ vs,yz (v.low,v.high):=by
 have h1:∀ j,j<vs.length->kq vs j=0:=by
  unfold zr at h
  split at h
  . rename_i h2;exact absurd h h2
  rename_i h2
  intro j hj
  exact qb vs.length 0 (by simpa using h2) j (zp8 _) (by omega)
 exact fun v hv=>(qc h1 v hv).1
theorem zbf (f:Fl) (v1 v2 v3:Value) (D:Nat->Prop) (w:World) (hf:RFl D w f v1 v2 v3) (hsz:snodes f.body+zA f.hatches<=1024) (hbk:sbulk f.body<=1000000):Calls Tryz.prog 29 #[.agg #[v1,v2,v3]] w (Ret fun r w'=>r=.int .i64 (yt f)/\Ext w w'):=by
 obtain⟨hvs,hhs,hbd⟩:=hf
 have hm1:=hvs.max
 have hm2:=hhs.max
 obtain⟨a1,n1,rfl⟩:=hvs.form
 obtain⟨a2,n2,rfl⟩:=hhs.form
 have hE:=Keep.refl (fun _=>False) w
 refine zn1 Tryz.func29 O Tryz.ntmps29 O (Gs 2 O (zlY O O (M.box O O) ?_))
 rintro _ w_b ⟨b,rfl,hg_b,hs_b,hB_b,hk_b⟩
 have hge_b:_<=b:=zoZ hE.size (zri hg_b.symm)
 obtain⟨hE,hvs,hhs,hbd⟩:=Tr4 hk_b hE hvs hhs hbd
 refine Gs 6 O (zmX O tg26 ts26 hB_b.cells O (G.call O Tryz.call59 (ze5 f _ _ _ D _ ⟨hvs,hhs,hbd⟩ hsz) ?_))
 rintro _ wz1 ⟨rfl,hz1⟩
 obtain⟨hE,hvs,hhs,hbd,hB_b⟩:=Tr5 hz1 hE hvs hhs hbd hB_b
 refine zmR O O (zms O (by first | exact za | rfl)) (Gs 2 O (G.bool O (fun s0=>?_) (fun s0=>?_)))
 .
  have s0':xz f=false:=by simpa using s0
  refine Gs 7 O (zls tr29 O ⟨_,rfl,by rw[yt,zp4 s0'],hE⟩)
 have s0':¬ xz f=false:=by simpa using s0
 refine Gs 5 O (zmV O tg22 (hB_b.cells 0 _ O) (G.call O Tryz.call60 (zba f.vars _ D _ hvs) ?_))
 rintro _ wz2 ⟨rfl,hz2⟩
 obtain⟨hE,hvs,hhs,hbd,hB_b⟩:=Tr5 hz2 hE hvs hhs hbd hB_b
 refine Gs 10 O (zlc O (fun vz=>?_) (fun vz=>?_))
 . refine Gs 8 O (zls tr29 O ⟨_,rfl,by rw[yt,zp3 s0',zp4 vz],hE⟩)
 have hg:=zbe (show zr f.vars=0 by omega)
 refine Gs 9 O ?_
 have hch:yt f=if zv f.vars f.hatches ≠ 0 then zv f.vars f.hatches else if stepsCodeN f.vars f.hatches.length f.body true ≠ 0 then stepsCodeN f.vars f.hatches.length f.body true else if zcw f then 4 else 0:=by rw[yt,zp3 s0',zp3 vz]
 refine G.loop (σ:=Nat) (fun i=>[(1,.pointer (some ⟨b,0,none⟩)),(4,.int .i64 i)]) (fun i=>fun w'=>i<=f.hatches.length/\(∀ j,j<i->qD f.vars f.hatches j=0)/\Ext wz2 w') (fun i=>f.hatches.length - i) (0) (Sub.of O) (⟨zp8 _,fun j h=>absurd h (zrn _),Keep.refl _ _⟩) ?_
 rintro i w1 ⟨hi,hall,hL1⟩
 obtain⟨hE,hvs,hhs,hbd,hB_b⟩:=Tr5 hL1 hE hvs hhs hbd hB_b
 refine Gs 5 O (zmV O tg23 (hB_b.cells 1 _ O) (Gs 4 O (zlc O (fun hlt=>?_) (fun hlt=>?_))))
 .
  obtain⟨x,he_x,hm_x⟩:=gE_ f.hatches (i) (by omega)
  obtain⟨b_x,o_x,c_x,ha_x,_,hc_x,hR_x⟩:=hhs.at he_x
  have h1_x:=RHt.one hR_x
  obtain⟨v1_x,rfl,hk_x⟩:=hR_x
  obtain⟨a1_x,n1_x,rfl⟩:=hk_x.form
  have hlt_x:b_x<_:=zoV _ _ (hc_x 0 _ rfl)
  have hat:=kX (vs:=f.vars) he_x
  have hbad:∀ c:Int,zF f.vars (f.hatches.take i) x=c->c ≠ 0->yt f=c:=by
   intro c h1 h2
   have h3:qD f.vars f.hatches i ≠ 0:=by rw[hat,h1];exact h2
   have h4:zv f.vars f.hatches=c:=by rw[zv,qC hall (by omega) h3,hat,h1]
   rw[hch,h4,zp4 h2]
  have hnext:zF f.vars (f.hatches.take i) x=0->∀ j,j<i+1->qD f.vars f.hatches j=0:=by
   intro h j hj
   by_cases e:j=i
   . subst e;rw[hat,h]
   exact hall j (by omega)
  have hxn:=xq he_x
  refine Gs 7 O (zmV O tg23 (hB_b.cells 1 _ O) (Gs 1 O (zmR O O (zlO tR23 ts109 O O ha_x (by omega)) (zmX O tg109 ts109 hc_x O (zlY O O (M.alloc (cs:=_) tz109 O) ?_)))))
  rintro _ wa3 ⟨c,rfl,hg_c,hs_c,hB_c,hk_c⟩
  refine zm3 O (zm4 ts109 O O O O h1_x hB_c (by simp)) ?_
  rintro w_c ⟨_,hB_c,hkk_c⟩
  replace hk_c:=hk_c.trans hkk_c (fun q hq h=>by have h:q=c:=h;omega)
  have hn_b_c:b ≠ c:=by have:=hB_b.lt;omega
  have hge_c:_<=c:=zoZ hE.size (zri hg_c.symm)
  obtain⟨hE,hvs,hhs,hbd,hB_b,hL1,hc_x⟩:=Tr7 hk_c hE hvs hhs hbd hB_b hL1 hc_x
  replace hk_x:=Tr1 hk_c hk_x
  refine Gs 6 O (zmV O tg9 (hB_c.cells 0 _ O) (G.call O Tryz.call61 (za8 x.name _) ?_))
  rintro _ wz4 ⟨rfl,hz4⟩
  obtain⟨hE,hvs,hhs,hbd,hB_b,hL1,hc_x⟩:=Tr7 hz4 hE hvs hhs hbd hB_b hL1 hc_x
  obtain⟨hk_x,hB_c⟩:=Tr2 hz4 hk_x hB_c
  refine zmR O O (zms O (by first | exact za | rfl)) (Gs 2 O (G.bool O (fun n0=>?_) (fun n0=>?_)))
  .
   have n0':zb3 x.name=false:=by simpa using n0
   refine Gs 12 O (zls tr29 O ⟨_,rfl,by rw[hbad 7 (by rw[zF,zp4 n0']) (by decide)],hE⟩)
  have n0':¬ zb3 x.name=false:=by simpa using n0
  refine Gs 9 O (G.loop (σ:=Nat) (fun j=>[(1,.pointer (some ⟨b,0,none⟩)),(4,.int .i64 i),(5,.pointer (some ⟨c,0,none⟩)),(6,.int .i64 j)]) (fun j=>fun w'=>j<=i/\(f.hatches.take j).any (fun u=>zN u.name x.name)=false/\Ext wz4 w') (fun j=>i - j) (0) (Sub.of O) (⟨zp8 _,rfl,Keep.refl _ _⟩) ?_)
  rintro j w2 ⟨hj,hno,hL2⟩
  obtain⟨hE,hvs,hhs,hbd,hB_b,hL1,hc_x⟩:=Tr7 hL2 hE hvs hhs hbd hB_b hL1 hc_x
  obtain⟨hk_x,hB_c⟩:=Tr2 hL2 hk_x hB_c
  refine Gs 8 O (zlc O (fun hjl=>?_) (fun hjl=>?_))
  .
   obtain⟨y,he_y,hm_y⟩:=gE_ f.hatches (j) (by omega)
   obtain⟨b_y,o_y,c_y,ha_y,_,hc_y,hR_y⟩:=hhs.at he_y
   have h1_y:=RHt.one hR_y
   obtain⟨v1_y,rfl,hk_y⟩:=hR_y
   obtain⟨a1_y,n1_y,rfl⟩:=hk_y.form
   have hlt_y:b_y<_:=zoV _ _ (hc_y 0 _ rfl)
   refine Gs 5 O (Qt (by kernel_rfl) (Gs 1 O (zmW O tg23 (fun w1 hw1=>((hw1.blk hB_b (fun h=>h)).cells 1 _ O)) (Gs 1 O (zmU O O (fun w1 hw1=>zlO tR23 ts109 O O ha_y (by omega)) (Gs 1 O (zmW O tg9 (fun w1 hw1=>((hw1.cells hc_y (fun h=>h)) 0 _ O)) (Gs 1 O (zmW O tg9 (fun w1 hw1=>((hw1.blk hB_c (fun h=>h)).cells 0 _ O)) (Gs 1 O (zmY (fun wz5 hz5=>?_))))))))))))
   obtain⟨hE,hvs,hhs,hbd,hB_b,hL1,hc_x⟩:=Tr7 hz5 hE hvs hhs hbd hB_b hL1 hc_x
   obtain⟨hk_x,hB_c,hL2,hc_y,hk_y⟩:=Tr5 hz5 hk_x hB_c hL2 hc_y hk_y
   refine Gs 1 O (zlc O (fun hd=>?_) (fun hd=>?_))
   .
    have hany:(f.hatches.take i).any (fun u=>zN u.name x.name)=true:=by
     rw[zq2]
     refine⟨y,zoU (i:=j) (by rw[zpp,zp4 (by omega)];exact he_y),?_⟩
     unfold zN;exact zp5 hd
    refine Gs 16 O (zls tr29 O ⟨_,rfl,by rw[hbad 8 (by rw[zF,zp3 n0',zp4 hany]) (by decide)],hE⟩)
   refine Ga 8 O (by omega) (G.back (j+1) (Sub.of O) (⟨by omega,by rw[zd he_y,zq1,hno];simp[zN,hd],hL2⟩) (by first | omega | (dsimp only;omega)))
  have hji:j=i:=by omega
  subst hji
  have n1:¬ (f.hatches.take j).any (fun u=>zN u.name x.name)=true:=by rw[hno];decide
  refine Gs 9 O (zmV O tg3 (hB_c.cells 1 _ O) (Gs 1 O (zmV O tg3 (hB_c.cells 2 _ O) (G.call O Tryz.call62 (ki x.low x.high _) ?_))))
  rintro _ wz6 ⟨rfl,hz6⟩
  obtain⟨hE,hvs,hhs,hbd,hB_b,hL1,hc_x⟩:=Tr7 hz6 hE hvs hhs hbd hB_b hL1 hc_x
  obtain⟨hk_x,hB_c,hL2⟩:=Tr3 hz6 hk_x hB_c hL2
  refine zmR O O (zms O (by first | exact za | rfl)) (Gs 2 O (G.bool O (fun n3=>?_) (fun n3=>?_)))
  .
   have n3':zar x.low x.high=false:=by simpa using n3
   refine Gs 12 O (zls tr29 O ⟨_,rfl,by rw[hbad 3 (by rw[zF,zp3 n0',zp3 n1,zp4 n3']) (by decide)],hE⟩)
  have n3':¬ zar x.low x.high=false:=by simpa using n3
  have hcc:zF f.vars (f.hatches.take j) x=zD f.vars true x.term:=by rw[zF,zp3 n0',zp3 n1,zp3 n3']
  refine Gs 5 O (zmV O tg22 (hB_b.cells 0 _ O) (Gs 1 O (zmX O tg70 ts70 (hB_c.cells.sub 3 3) O (G.call O Tryz.call63 (xN f.vars true _ _ D D _ x.term hg hvs (RTm.put hk_x) (by omega)) ?_))))
  rintro _ wz7 ⟨rfl,hz7⟩
  obtain⟨hE,hvs,hhs,hbd,hB_b,hL1,hc_x⟩:=Tr7 hz7 hE hvs hhs hbd hB_b hL1 hc_x
  obtain⟨hk_x,hB_c,hL2⟩:=Tr3 hz7 hk_x hB_c hL2
  refine Gs 9 O (zlc O (fun tz=>?_) (fun tz=>?_))
  . refine Gs 12 O (zls tr29 O ⟨_,rfl,by rw[hbad _ hcc tz],hE⟩)
  refine Ga 8 O (by omega) (G.back (j+1) (Sub.of O) (⟨by omega,hnext (by rw[hcc];omega),hL1⟩) (by first | omega | (dsimp only;omega)))
 have hii:i=f.hatches.length:=by omega
 subst hii
 have hh0:zv f.vars f.hatches=0:=xH hall
 rw[hh0,zp3 (by decide)]at hch
 refine Gs 7 O (zmX O tg26 ts26 hB_b.cells O (Gs 1 O (zmV O tg24 (hB_b.cells 2 _ O) (G.call O tc64 (zcu f _ _ _ hg D f.body _ D _ true ⟨hvs,hhs,hbd⟩ hbd hbk) ?_))))
 rintro _ wz8 ⟨rfl,hz8⟩
 obtain⟨hE,hvs,hhs,hbd,hB_b,hL1⟩:=Tr6 hz8 hE hvs hhs hbd hB_b hL1
 refine Gs 10 O (zlc O (fun sz=>?_) (fun sz=>?_))
 . refine Gs 8 O (zls tr29 O ⟨_,rfl,by rw[hch,zp4 sz],hE⟩)
 have hs0:stepsCodeN f.vars f.hatches.length f.body true=0:=by omega
 rw[zp3 sz]at hch
 refine Gs 5 O (zmV O tg24 (hB_b.cells 2 _ O) (G.call O Tryz.call65 (zad f.vars f.hatches.length f.body _ D _ true hs0 hbd hbk) ?_))
 rintro _ wz9 ⟨rfl,hz9⟩
 obtain⟨hE,hvs,hhs,hbd,hB_b,hL1⟩:=Tr6 hz9 hE hvs hhs hbd hB_b hL1
 have c1:(4096<cap 4097 (bds f.body).1) ↔ 4096<(bds f.body).1:=by unfold cap;omega
 have c2:(8<cap 9 (bds f.body).2.1) ↔ 8<(bds f.body).2.1:=by unfold cap;omega
 have c3:(67108864<cap 67108865 (bds f.body).2.2) ↔ 67108864<(bds f.body).2.2:=by unfold cap;omega
 have ho:zcw f=(decide (4096<cap 4097 (bds f.body).1) || decide (8<cap 9 (bds f.body).2.1) || decide (67108864<cap 67108865 (bds f.body).2.2)):=by
  unfold zcw;rw[zpl.2 c1,zpl.2 c2,zpl.2 c3]
 refine Gs 15 O (G.sp 79 O (fun b1=>?_) (fun b1=>?_))
 . refine Gs 17 O (zls tr29 O ⟨_,rfl,by rw[hch,zp4 (by rw[ho,zp5 b1];rfl)],hE⟩)
 refine Gs 4 O (G.sp 83 O (fun b2=>?_) (fun b2=>?_))
 . refine Gs 13 O (zls tr29 O ⟨_,rfl,by rw[hch,zp4 (by rw[ho,zp5 b2,zpJ];rfl)],hE⟩)
 refine Gs 5 O (zlc O (fun b3=>?_) (fun b3=>?_))
 . refine Gs 7 O (zls tr29 O ⟨_,rfl,by rw[hch,zp4 (by rw[ho,zp5 b3,zpJ])],hE⟩)
 refine Gs 8 O (zls tr29 O ⟨_,rfl,by rw[hch,zp3 (by rw[ho,zp6 b1,zp6 b2,zp6 b3];decide)],hE⟩)
theorem zdi (f:Fl) (v1 v2 v3:Value) (D:Nat->Prop) (w:World) (hf:RFl D w f v1 v2 v3) (hsz:snodes f.body+zA f.hatches<=1024) (hbk:sbulk f.body<=1000000):Calls Tryz.prog 72 #[.agg #[v1,v2,v3]] w (Ret fun r w'=>r=.int .i64 (yt f)/\Ext w w'):=by
 replace hf:=hf.narrow
 generalize hD0:(fun b=>D b/\b<w.heap.size)=E at hf
 have hDw:∀ q,E q->q<w.heap.size:=fun q h=>by rw[<- hD0]at h;exact h.2
 obtain⟨hvs,hhs,hbd⟩:=hf
 have hm1:=hvs.max
 have hm2:=hhs.max
 obtain⟨a1,n1,rfl⟩:=hvs.form
 obtain⟨a2,n2,rfl⟩:=hhs.form
 have hE:=Keep.refl (fun _=>False) w
 refine zn1 Tryz.func72 O Tryz.ntmps72 O (Gs 2 O (zlY O O (M.box O O) ?_))
 rintro _ w_b ⟨b,rfl,hg_b,hs_b,hB_b,hk_b⟩
 have hge_b:_<=b:=zoZ hE.size (zri hg_b.symm)
 replace hE:=Tr1 hk_b hE
 refine Gs 5 O (zlY O O (M.alloc (cs:=_) Tryz.zeroValue189 O) ?_)
 rintro _ w_m ⟨m,rfl,hg_m,hs_m,hB_m,hk_m⟩
 have hn_b_m:b ≠ m:=by have:=hB_b.lt;omega
 have hge_m:_<=m:=zoZ hE.size (zri hg_m.symm)
 obtain⟨hE,hB_b⟩:=Tr2 hk_m hE hB_b
 refine Gs 5 O (zmV O tg24 (hB_b.cells 2 _ O) ?_)
 have hvs0:=hvs
 have hhs0:=hhs
 have hbd0:=hbd
 have DM:∀ q,E q->q ≠ m:=fun q h=>by have:=hDw q h;omega
 refine G.call O Tryz.call118 (zdh f.body _ E _ m 0 false 1 (hbd.ext zc hE) DM hB_m (by omega) (by omega) (by omega) (by omega)) ?_
 rintro _ w2 ⟨rfl,⟨m2,h1,h2,hB_m⟩,hz⟩
 replace hE:=hE.trans hz (fun q hq h=>by have h:q=m:=h;omega)
 replace hB_b:=hz.blk hB_b (hn_b_m)
 refine Gs 6 O (zmV O tg23 (hB_b.cells 1 _ O) (Gs 5 O (G.loop (σ:=Nat) (fun i=>[(1,.pointer (some ⟨b,0,none⟩)),(3,.pointer (some ⟨m,0,none⟩)),(14,.slice a2 f.hatches.length n2),(15,.int .i64 f.hatches.length),(16,.int .i64 i)]) (fun i=>fun w'=>i<=f.hatches.length/\(∃ m':Int,0<=m'/\m'<=snodes f.body+zA (f.hatches.take i)/\Blk w' m [.int .i64 m',.bool (xT 1 f.body || (f.hatches.take i).any (fun h=>decide (12<h.term.depth)))] 189)/\Blk w' b [.slice a1 f.vars.length n1,.slice a2 f.hatches.length n2,v3] 26/\Ext w w') (fun i=>f.hatches.length - i) (0) (Sub.of O) (⟨zp8 _,⟨m2,by omega,by simp[zA];omega,by simpa using hB_m⟩,hB_b,hE⟩) ?_)))
 rintro i w3 ⟨hi,⟨m',hm0,hm'1,hB_m⟩,hB_b,hE⟩
 have hhs:=hhs0.ext xm hE
 refine Gs 6 O (zlc O (fun hlt=>?_) (fun hlt=>?_))
 .
  obtain⟨x,he_x,hm_x⟩:=gE_ f.hatches (i) (by omega)
  obtain⟨b_x,o_x,c_x,ha_x,_,hc_x,hR_x⟩:=hhs.at he_x
  have h1_x:=RHt.one hR_x
  obtain⟨v1_x,rfl,hk_x⟩:=hR_x
  obtain⟨a1_x,n1_x,rfl⟩:=hk_x.form
  have hlt_x:b_x<_:=zoV _ _ (hc_x 0 _ rfl)
  have hxn:=xq he_x
  have htk:=jE he_x
  refine Gs 6 O (zmR O O (zlO tR23 ts109 O O ha_x (by omega)) (zmX O tg109 ts109 hc_x O (zlY O O (M.alloc (cs:=_) tz109 O) ?_)))
  rintro _ wa1 ⟨c,rfl,hg_c,hs_c,hB_c,hk_c⟩
  refine zm3 O (zm4 ts109 O O O O h1_x hB_c (by simp)) ?_
  rintro w_c ⟨_,hB_c,hkk_c⟩
  replace hk_c:=hk_c.trans hkk_c (fun q hq h=>by have h:q=c:=h;omega)
  have hn_b_c:b ≠ c:=by have:=hB_b.lt;omega
  have hn_m_c:m ≠ c:=by have:=hB_m.lt;omega
  have hge_c:_<=c:=zoZ hE.size (zri hg_c.symm)
  obtain⟨hE,hB_b,hB_m,hhs,hc_x,hk_x⟩:=Tr6 hk_c hE hB_b hB_m hhs hc_x hk_x
  refine Gs 4 O (G.call O Tryz.call119 (qE m _ _ _ hB_m) ?_)
  rintro _ wz2 ⟨rfl,hz2⟩
  obtain⟨hE,hB_b,hB_m,hhs,hc_x,hk_x,hB_c⟩:=Tr7 hz2 hE hB_b hB_m hhs hc_x hk_x hB_c
  have ho:decide (1024<m')=false:=zp6 (by omega)
  rw[ho,zpI]
  refine zmR O O (zms O (by first | exact za | rfl)) (Gs 2 O (G.bool O (fun hov=>?_) (fun hov=>?_)))
  .
   have hov':(xT 1 f.body || (f.hatches.take i).any (fun h=>decide (12<h.term.depth)))=false:=by simpa using hov
   rw[hov']at hB_m
   refine Gs 2 O (zmX O tg70 ts70 (hB_c.cells.sub 3 3) O (G.call O Tryz.call120 (zbd x.term _ E _ m _ _ 1 (RTm.put hk_x) DM hB_m (by omega) (by omega) (by omega) (by omega)) ?_))
   rintro _ w6 ⟨rfl,⟨n2',h1',h2',hB2⟩,hz⟩
   replace hE:=hE.trans hz (fun q hq h=>by have h:q=m:=h;omega)
   replace hB_b:=hz.blk hB_b (hn_b_m)
   replace hB_c:=hz.blk hB_c (fun h=>hn_m_c h.symm)
   refine Ga 7 O (by omega) (G.back (i+1) (Sub.of O) (⟨by omega,⟨n2',by omega,by omega,?_⟩,hB_b,hE⟩) (by first | omega | (dsimp only;omega)))
   have hb:(false || decide (12<1+(x.term.depth:Int) - 1))=(xT 1 f.body || (f.hatches.take (i+1)).any (fun h=>decide (12<h.term.depth))):=by
    rw[zd he_x,zq1,<- Bool.or_assoc,hov',zpC,zpC]
    simp;omega
   rw[<- hb];exact hB2
  have hov':(xT 1 f.body || (f.hatches.take i).any (fun h=>decide (12<h.term.depth)))=true:=by rw[<- Bool.not_eq_false];intro h;rw[h]at hov;cases hov
  refine Ga 7 O (by omega) (G.back (i+1) (Sub.of O) (⟨by omega,⟨m',by omega,by omega,?_⟩,hB_b,hE⟩) (by first | omega | (dsimp only;omega)))
  rw[hov']at hB_m
  rw[zd he_x,zq1,<- Bool.or_assoc,hov',zpM]
  exact hB_m
 have hii:i=f.hatches.length:=by omega
 subst hii
 rw[zoY]at hB_m hm'1
 have hsz2:xz f=(decide (f.vars.length<=64)&&decide (f.hatches.length<=8)&&!(xT 1 f.body || f.hatches.any (fun h=>decide (12<h.term.depth)))):=by
  unfold xz xT
  have e1:(f.hatches.all fun h=>decide (h.term.depth<=12))=!(f.hatches.any fun h=>decide (12<h.term.depth)):=by
   rw[List.not_any_eq_all_not];congr 1;funext h;rw[<- decide_not,zpl];omega
  have e2:decide (12<1+(sdepth f.body:Int) - 1)=!decide (sdepth f.body<=12):=by rw[<- decide_not,zpl];omega
  rw[e1,e2]
  generalize decide (f.vars.length<=64)=p1
  generalize decide (f.hatches.length<=8)=p2
  generalize (f.hatches.any fun h=>decide (12<h.term.depth))=p3
  generalize decide (sdepth f.body<=12)=p4
  generalize stdeep f.body=p5
  revert p1 p2 p3 p4 p5;decide
 refine Gs 9 O (zmV O tg22 (hB_b.cells 0 _ O) (Gs 3 O (G.sp 30 O (fun g1=>?_) (fun g1=>?_))))
 .
  have s0:xz f=false:=by rw[hsz2,zp6 (show ¬ f.vars.length<=64 by omega)];rfl
  refine Gs 18 O (zls tr72 O ⟨_,rfl,by rw[yt,zp4 s0],hE⟩)
 refine Gs 1 O (zmV O tg23 (hB_b.cells 1 _ O) (Gs 4 O (G.sp 36 O (fun g2=>?_) (fun g2=>?_))))
 .
  have s0:xz f=false:=by rw[hsz2,zp6 (show ¬ f.hatches.length<=8 by omega),zpw];rfl
  refine Gs 12 O (zls tr72 O ⟨_,rfl,by rw[yt,zp4 s0],hE⟩)
 have hvs:=hvs0.ext xl hE
 have hbd:=hbd0.ext zc hE
 refine G.call O Tryz.call119 (qE m _ _ _ hB_m) ?_
 rintro _ wz3 ⟨rfl,hz3⟩
 obtain⟨hE,hB_b,hB_m,hhs,hvs,hbd⟩:=Tr6 hz3 hE hB_b hB_m hhs hvs hbd
 have ho:decide (1024<m')=false:=zp6 (by omega)
 rw[ho,zpI]
 rw[zp5 (show f.vars.length<=64 by omega),zp5 (show f.hatches.length<=8 by omega),zpL,zpL]at hsz2
 refine Gs 3 O (G.bool O (fun s1=>?_) (fun s1=>?_))
 .
  have s0:xz f=false:=by rw[hsz2,s1];rfl
  refine Gs 7 O (zls tr72 O ⟨_,rfl,by rw[yt,zp4 s0],hE⟩)
 have s0:¬ xz f=false:=by rw[hsz2,s1];decide
 refine Gs 6 O (zmV O tg22 (hB_b.cells 0 _ O) (G.call O Tryz.call121 (ze1 f.vars _ E _ hvs (by omega)) ?_))
 rintro _ wz4 ⟨rfl,hz4⟩
 obtain⟨hE,hB_b,hB_m,hhs,hvs,hbd⟩:=Tr6 hz4 hE hB_b hB_m hhs hvs hbd
 refine Gs 9 O (zlc O (fun vz=>?_) (fun vz=>?_))
 . refine Gs 8 O (zls tr72 O ⟨_,rfl,by rw[yt,zp3 s0,zp4 vz],hE⟩)
 have hg:=zbe (show zr f.vars=0 by omega)
 refine Gs 5 O (zmX O tg26 ts26 hB_b.cells O ?_)
 have hch:yt f=if zv f.vars f.hatches ≠ 0 then zv f.vars f.hatches else if stepsCodeN f.vars f.hatches.length f.body true ≠ 0 then stepsCodeN f.vars f.hatches.length f.body true else if zcw f then 4 else 0:=by rw[yt,zp3 s0,zp3 vz]
 have hhs:=hhs0.ext xm hE
 refine G.call O Tryz.call122 (zbH f _ _ _ E _ ⟨hvs,hhs,hbd⟩ hg (fun h hh=>by obtain⟨i,hi⟩:=zqH.1 hh;have:=xq hi;omega) (by omega)) ?_
 rintro _ wz5 ⟨rfl,hz5⟩
 obtain⟨hE,hB_b,hB_m,hvs,hbd,hhs⟩:=Tr6 hz5 hE hB_b hB_m hvs hbd hhs
 refine Gs 9 O (zlc O (fun hz2=>?_) (fun hz2=>?_))
 . refine Gs 8 O (zls tr72 O ⟨_,rfl,by rw[hch,zp4 hz2],hE⟩)
 rw[zp3 hz2]at hch
 refine Gs 5 O (zmX O tg26 ts26 hB_b.cells O (Gs 1 O (zmV O tg24 (hB_b.cells 2 _ O) (G.call O Tryz.call123 (zdg f _ _ _ hg E f.body _ E _ true ⟨hvs,hhs,hbd⟩ hbd hbk) ?_))))
 rintro _ wz6 ⟨rfl,hz6⟩
 obtain⟨hE,hB_b,hB_m,hvs,hbd,hhs⟩:=Tr6 hz6 hE hB_b hB_m hvs hbd hhs
 refine Gs 9 O (zlc O (fun sz=>?_) (fun sz=>?_))
 . refine Gs 8 O (zls tr72 O ⟨_,rfl,by rw[hch,zp4 sz],hE⟩)
 have hs0:stepsCodeN f.vars f.hatches.length f.body true=0:=by omega
 rw[zp3 sz]at hch
 refine Gs 6 O (zmV O tg24 (hB_b.cells 2 _ O) (G.call O Tryz.call124 (zhX f.vars f.hatches.length f.body _ E _ true hs0 hbd hbk) ?_))
 rintro _ wz7 ⟨rfl,hz7⟩
 obtain⟨hE,hB_b,hB_m,hvs,hbd,hhs⟩:=Tr6 hz7 hE hB_b hB_m hvs hbd hhs
 have c1:(4096<cap 1099511627776 (bds f.body).1) ↔ 4096<(bds f.body).1:=by unfold cap;omega
 have c2:(8<cap 1099511627776 (bds f.body).2.1) ↔ 8<(bds f.body).2.1:=by unfold cap;omega
 have c3:(67108864<cap 1099511627776 (bds f.body).2.2) ↔ 67108864<(bds f.body).2.2:=by unfold cap;omega
 have ho2:zcw f=(decide (4096<cap 1099511627776 (bds f.body).1) || decide (8<cap 1099511627776 (bds f.body).2.1) || decide (67108864<cap 1099511627776 (bds f.body).2.2)):=by
  unfold zcw;rw[zpl.2 c1,zpl.2 c2,zpl.2 c3]
 refine zlY O O (M.alloc (cs:=_) tz193 O) ?_
 rintro _ wa8 ⟨c,rfl,hg_c,hs_c,hB_c,hk_c⟩
 refine zm3 O (zm4 ts193 O O O O (by simp[Value.oneCell']) hB_c (by simp)) ?_
 rintro w_c ⟨_,hB_c,hkk_c⟩
 replace hk_c:=hk_c.trans hkk_c (fun q hq h=>by have h:q=c:=h;omega)
 have hn_b_c:b ≠ c:=by have:=hB_b.lt;omega
 have hn_m_c:m ≠ c:=by have:=hB_m.lt;omega
 have hge_c:_<=c:=zoZ hE.size (zri hg_c.symm)
 obtain⟨hE,hB_b,hB_m,hvs,hbd,hhs⟩:=Tr6 hk_c hE hB_b hB_m hvs hbd hhs
 refine Gs 5 O (zmV O tg3 (hB_c.cells 0 _ O) (Gs 2 O (G.sp 63 O (fun b1=>?_) (fun b1=>?_))))
 . refine Gs 19 O (zls tr72 O ⟨_,rfl,by rw[hch,zp4 (by rw[ho2,zp5 b1];rfl)],hE⟩)
 refine Gs 1 O (zmV O tg3 (hB_c.cells 1 _ O) (Gs 3 O (G.sp 68 O (fun b2=>?_) (fun b2=>?_))))
 . refine Gs 14 O (zls tr72 O ⟨_,rfl,by rw[hch,zp4 (by rw[ho2,zp5 b2,zpJ];rfl)],hE⟩)
 refine Gs 1 O (zmV O tg3 (hB_c.cells 2 _ O) (Gs 4 O (zlc O (fun b3=>?_) (fun b3=>?_))))
 . refine Gs 7 O (zls tr72 O ⟨_,rfl,by rw[hch,zp4 (by rw[ho2,zp5 b3,zpJ])],hE⟩)
 refine Gs 8 O (zls tr72 O ⟨_,rfl,by rw[hch,zp3 (by rw[ho2,zp6 b1,zp6 b2,zp6 b3];decide)],hE⟩)
end Go.Proofs.YtckdhgbepmpgiaaGreat
namespace Go.GL
instance decNd:DecidableEq Nd:=fun a b =>
 if h:a.kind=b.kind/\a.at_=b.at_/\a.next=b.next/\a.other=b.other then isTrue (znR h.1 h.2.1 h.2.2.1 h.2.2.2) else isFalse (fun e=>h (by subst e;exact⟨rfl,rfl,rfl,rfl⟩))
end Go.GL
namespace Go.Proofs.YtckdhgbepmpgiaaGreat
open Go.GL
theorem zcx {vs:List Vr} {nh:Nat} (l:List St):∀ top,stepsCodeN vs nh l top=0->plainL l=true:=by
 induction l using zmB with
 | h l ih =>
 intro top h
 refine zaX (fun s hs=>?_)
 obtain⟨last,h2⟩:=xu l top h s hs
 obtain⟨h3,_,_,h4,h5⟩:=qf h2
 rw[s.plainB_eq,(ih s hs).1 _ h4,(ih s hs).2 _ h5,zpx,zpx]
 split
 . rfl
 split
 . rename_i a4;rw[(h3.rep a4).2.2];rfl
 rename_i a3 a4;rw[(h3.free a3 a4).1,(h3.free a3 a4).2];rfl
theorem zZ {f:Fl} (h:yt f=0):xz f=true/\zr f.vars=0/\zv f.vars f.hatches=0/\stepsCodeN f.vars f.hatches.length f.body true=0/\zcw f=false:=by
 unfold yt at h
 split at h
 . cases h
 split at h
 . rename_i h1;exact absurd h h1
 split at h
 . rename_i h1;exact absurd h h1
 split at h
 . rename_i h1;exact absurd h h1
 split at h
 . cases h
 rename_i h1 h2 h3 h4 h5
 refine⟨by simpa using h1,by omega,by omega,by omega,by simpa using h5⟩
theorem zbg {f:Fl} (h:yt f=0):plainL f.body=true:=zcx _ _ (zZ h).2.2.2.1
theorem zhY (w:World) (dd:Nat) (a b:Nd):(Op.equalIn (dd+2) 65 (.agg (qL a).toArray) (.agg (qL b).toArray)).run Tryz.prog w=.ok (decide (a=b)) w:=by
 have hf:Tryz.prog.fieldsOf 65=#[{ name := "Kind",type:=63,offset:=0,embedded:=false,tag := "",pkgPath := "",byteOffset:=0 },{ name := "At",type:=3,offset:=1,embedded:=false,tag := "",pkgPath := "",byteOffset:=8 },{ name := "Next",type:=3,offset:=2,embedded:=false,tag := "",pkgPath := "",byteOffset:=16 },{ name := "Other",type:=3,offset:=3,embedded:=false,tag := "",pkgPath := "",byteOffset:=24 }]:=by kernel_rfl
 rw[run_equalIn_struct w _ _ _ _ (by rw[hf];exact Tryz.underlying65) (by kernel_rfl),hf]
 simp[Op.eqFields,part,qL,Tryz.isAgg63,run_equalIn_int w _ _ _ _ _ _ Tryz.underlying63,run_equalIn_int w _ _ _ _ _ _ tu3]
 have e:decide (a=b)=(decide (a.kind=b.kind)&&decide (a.at_=b.at_)&&decide (a.next=b.next)&&decide (a.other=b.other)):=by
  rw[zpz]
  simp only[zpv,decide_eq_true_eq]
  exact⟨fun h=>by subst h;exact⟨⟨⟨rfl,rfl⟩,rfl⟩,rfl⟩,fun h=>znR h.1.1.1 h.1.1.2 h.1.2 h.2⟩
 rw[e]
 by_cases h1:a.kind=b.kind
 .
  by_cases h2:a.at_=b.at_
  .
   by_cases h3:a.next=b.next
   . by_cases h4:a.other=b.other<;>simp[h1,h2,h3,h4]
   simp[h1,h2,h3]
  simp[h1,h2]
 simp[h1]
theorem neNd {env:Env} {w:World} {dst:Option Tmp} {ty:TypeId} {pos:String} {aft:Array Edge} {g:Option (Nat × Bool)} {t':TypeId} {x y:Operand} {a b:Nd} (hx:ev env x=some (.agg (qL a).toArray)) (hy:ev env y=some (.agg (qL b).toArray)) :
  yo Tryz.prog ⟨dst,.binOp .neq 65 x y t',ty,pos,aft,g⟩ env w (.bool (decide (a ≠ b))) w:=by
 intro n c hc
 have hm:Tryz.prog.eqGuardType Tryz.prog.depth 65=false:=by kernel_rfl
 simp[execOp,hc.eval hx,hc.eval hy,run_eqGuard_agg,hm,run_neq_struct,zhY]
theorem zfg (a b:List Nd) (va vb:Value) (D D':Nat->Prop) (w:World) (ha:SlR 4 RNd D w va a) (hb:SlR 4 RNd D' w vb b):Calls Tryz.prog 73 #[va,vb] w (Ret fun r w'=>r=.bool (decide (a=b))/\Ext w w'):=by
 have hma:=ha.max
 have hmb:=hb.max
 obtain⟨aa,ca,rfl⟩:=ha.form
 obtain⟨ab,cb,rfl⟩:=hb.form
 refine zn2 Tryz.func73 O Tryz.ntmps73 O (Gs 15 O (zlc O (fun hne=>?_) (fun heq=>?_)))
 . refine Gs 7 O (zls Tryz.results73 O ⟨_,rfl,by rw[zp6 (fun h=>hne (by rw[h]))],Keep.refl _ _⟩)
 have hl:a.length=b.length:=by omega
 refine Gs 11 O (G.loop (σ:=Nat) (fun i=>[(0,.slice aa a.length ca),(1,.slice ab b.length cb),(12,.int .i64 a.length),(13,.int .i64 i)]) (fun i=>fun w'=>i<=a.length/\a.take i=b.take i/\Ext w w') (fun i=>a.length - i) (0) (Sub.of O) (⟨zp8 _,rfl,Keep.refl _ _⟩) ?_)
 rintro i w1 ⟨hi,hpre,hL1⟩
 obtain⟨ha,hb⟩:=Tr2 hL1 ha hb
 refine Gs 6 O (zlc O (fun hlt=>?_) (fun hge=>?_))
 .
  obtain⟨x,he_x⟩:∃ x,a[i]?=some x:=⟨_,zoT (by omega)⟩
  obtain⟨y,he_y⟩:∃ x,b[i]?=some x:=⟨_,zoT (by omega)⟩
  obtain⟨bx,ox,cx,hax,_,hcx,rfl⟩:=ha.at he_x
  obtain⟨by',oy,cy,hay,_,hcy,rfl⟩:=hb.at he_y
  refine Gs 11 O (Qt (by kernel_rfl) (Gs 2 O (zmU O O (fun w1 hw1=>zlO tR34 ts65 O O hax (by omega)) (zmU O O (fun w1 hw1=>zlQ Tryz.isAgg65 ts65 O (by rfl) (hw1.cells hcx (fun h=>h))) (Gs 2 O (zmU O O (fun w1 hw1=>zlO tR34 ts65 O O hay (by omega)) (zmU O O (fun w1 hw1=>zlQ Tryz.isAgg65 ts65 O (by rfl) (hw1.cells hcy (fun h=>h))) (zmU O O (fun w1 hw1=>neNd (a:=x) (b:=y) O O) (zmY (fun wz1 hz1=>?_))))))))))
  obtain⟨ha,hb,hL1⟩:=Tr3 hz1 ha hb hL1
  refine Gs 1 O (zlc O (fun hxy=>?_) (fun hxy=>?_))
  . refine Gs 11 O (zls Tryz.results73 O ⟨_,rfl,by rw[zp6 (fun h=>hxy (by rw[h,he_y]at he_x;exact(Option.some.inj he_x).symm))],hL1⟩)
  have hxy':x=y:=zp2.1 hxy
  refine Ga 7 O (by omega) (G.back (i+1) (Sub.of O) (⟨by omega,by rw[zd he_x,zd he_y,hpre,hxy'],hL1⟩) (by first | omega | (dsimp only;omega)))
 have:i=a.length:=by omega
 subst this
 rw[zoY,hl,zoY]at hpre
 refine Gs 11 O (zls Tryz.results73 O ⟨_,rfl,by rw[zp5 hpre],hL1⟩)
theorem zhZ (f:Fl) (v1 v2 v3:Value) (D:Nat->Prop) (w:World) (hf:RFl D w f v1 v2 v3) (hp:plainL f.body=true) (hsz:ssize f.body<=10000) :
  Calls Tryz.prog 74 #[.agg #[v1,v2,v3]] w (Ret fun r w'=>(∃ nv,r=.agg #[nv]/\SlR 4 RNd (fun b=>w.heap.size<=b) w' nv (zi f))/\Ext w w'):=by
 have hwl:=xd f.body
 have hbd:=hf.narrow.body
 refine zn1 Tryz.func74 O Tryz.ntmps74 O (Gs 2 O (zlY O O (M.box O O) ?_))
 rintro _ w1 ⟨c,rfl,hc,hs1,hBc,hk1⟩
 refine zlY O O (M.alloc (cs:=[.slice none 0 0]) tz36 O) ?_
 rintro _ w2 ⟨r,rfl,hr,hs2,hBr,hk2⟩
 replace hBc:=hk2.blk hBc (fun h=>h)
 refine Gs 4 O (zmR O O (R.build (v:=.agg #[.int .i64 0,.int .i64 (-1),.int .i64 (-1),.int .i64 (-1)]) [(0,_),(1,_),(2,_),(3,_)] O (fun _=>by kernel_rfl)) (zlY O O (M.buildSlice (cs:=qL ⟨0,-1,-1,-1⟩) [(0,_)] tR34 ts65 tz65 (by decide) O (by kernel_rfl)) ?_))
 rintro _ w3 ⟨g3,rfl,hg3,hs3,hB3,hk3⟩
 replace hBc:=hk3.blk hBc (fun h=>h)
 replace hBr:=hk3.blk hBr (fun h=>h)
 refine zmR O O (R.build (v:=.agg #[.slice (some ⟨g3,0,none⟩) 1 1,.int .i64 0]) [(0,_)] O (fun _=>by kernel_rfl)) (zlY O O (M.box O O) ?_)
 rintro _ w4 ⟨B,rfl,hB,hs4,hBB,hk4⟩
 replace hBc:=hk4.blk hBc (fun h=>h)
 replace hBr:=hk4.blk hBr (fun h=>h)
 replace hB3:=hk4.blk hB3 (fun h=>h)
 have hE4:Ext w w4:=((hk1.ext hk2).ext hk3).ext hk4
 have hb4:BdS w.heap.size B w4 { nodes:=[⟨0,-1,-1,-1⟩],step:=0 } (.slice (some ⟨g3,0,none⟩) 1 1) :=
  ⟨hBB,yp (k:=4) (n:=1) (cap:=1) hB3 (zpi _) (by decide) rfl,by omega,fun g hg=>by obtain rfl:g3=g:=Option.some.inj hg;omega⟩
 have hcr:c ≠ r:=by omega
 refine Gs 5 O (Dw (fun q=>Blk q c [v1,v2,v3] 26) [] (fun w5 hk5 _=>?_))
 have hBc5:=hk5.blk hBc (fun h=>h)
 have hBr5:=hk5.blk hBr (fun h=>h)
 have hb5:=hb4.ext hk5
 have hE5:=hE4.ext hk5
 refine Ds [0,1] (by kernel_rfl) O (WD.take 2 O (by kernel_rfl) O O O hBc5 (fun w1 hw1=>R.load tg24 O (hw1.cells 2 _ O)) (Ds [3,8] (by kernel_rfl) O (WD.call 4 O (by kernel_rfl) O O O (F.call (vs:=[_,_]) Tryz.call126 O) (zcm B 0 w5) ?_)))
 rintro x w6 ⟨hx,hk6⟩
 have hBc6:=hk6.blk hBc5 (fun h=>h)
 have hBr6:=hk6.blk hBr5 (fun h=>h)
 have hb6:=hb5.ext hk6
 have hE6:=hE5.ext hk6
 refine⟨fun _=>hBc6,?_⟩
 have hx0:=hx
 obtain⟨bb,ab,rfl,_,_⟩:=hx
 refine zlX 5 O (by kernel_rfl) O O O (M.buildSlice (cs:=[.func (.func 166) #[] #[.pointer (some ⟨bb,0,none⟩),.pointer (some ⟨ab,0,none⟩)]]) [(0,_)] tR198 ts120 tz120 (by decide) O (by kernel_rfl)) ?_
 rintro _ w7 ⟨g7,rfl,hg7,hs7,hB7,hk7⟩
 have hBc7:=hk7.blk hBc6 (fun h=>h)
 have hBr7:=hk7.blk hBr6 (fun h=>h)
 have hb7:=hb6.ext hk7
 have hE7:=hE6.ext hk7
 refine⟨fun _=>hBc7,?_⟩
 have hu7:=Hung.lit hB7 (hx0.ext hk7)
 have hsz7:=hE7.size
 refine WD.call 6 O (by kernel_rfl) O O O (F.call (vs:=[_,_,_]) Tryz.call125 O) (zjx f.body w.heap.size B _ _ _ w7 _ _ _ (hbd.ext zc hE7) (fun q h=>h.2) hb7 hu7 (by simp) (by omega) hp (by simp;omega) (by dsimp only;omega)) ?_
 rintro r9 w9 ⟨⟨nv9,hb9⟩,hu9,_,hK9⟩
 have hBc9:=hK9.blk hBc7 (by decide)
 have hBr9:=hK9.blk hBr7 (by decide)
 have hE9:Ext w w9:=znW (KT.trans (znT hE7) hK9) (zpi _)
 refine⟨fun _=>hBc9,?_⟩
 have hl9:=xf f.body hp { nodes:=[⟨0,-1,-1,-1⟩],step:=0 } [(0,false)] (by simp)
 have hfin:zev f=zi f:=zhN f hp
 unfold zev at hfin
 generalize hX:listB f.body { nodes:=[⟨0,-1,-1,-1⟩],step:=0 } [(0,false)]=X at hb9 hu9 hl9 hfin
 obtain⟨a9,c9,rfl,_⟩:=hu9.form
 have hlen9:=hl9.len
 have hlt9:=hl9.lt
 have hmx9:=hu9.len
 simp only[zpe]at hlen9
 obtain⟨an,cn,rfl,hnc,_⟩:=xM hb9.row
 refine Ds [7] (by kernel_rfl) O (G.done (by kernel_rfl) ?_ _)
 refine Gs 2 O (G.loop (σ:=Nat) (fun j=>[(2,.pointer (some ⟨r,0,none⟩)),(3,.pointer (some ⟨B,0,none⟩)),(16,.slice a9 X.2.length c9),(17,.int .i64 X.2.length),(18,.int .i64 j)]) (fun j=>fun w'=>j<=X.2.length/\BdS w.heap.size B w' { X.1 with nodes:=zq X.1.nodes X.1.nodes.length (X.2.take j) } (.slice an X.1.nodes.length cn)/\Hung B w' (.slice a9 X.2.length c9) X.2/\Blk w' r [.slice none 0 0] 36/\Ext w w') (fun j=>X.2.length - j) (0) (Sub.of O) (⟨zp8 _,hb9,hu9,hBr9,hE9⟩) ?_)
 rintro j y1 ⟨hj,hbj,huj,hBj,hEj⟩
 refine Gs 6 O (zlc O (fun hlt=>?_) (fun hge=>?_))
 .
  obtain⟨e,he⟩:∃ e,X.2[j]?=some e:=⟨_,zoT (by omega)⟩
  obtain⟨ge,x,rfl,hcx,hHx⟩:=huj.at he
  obtain⟨ie,pe⟩:=e
  obtain⟨ff,fcs,rfl,hcf,hcall⟩:=zdU w.heap.size B ie pe (X.1.nodes.length:Nat) _ _ x y1 hbj hHx (by dsimp only;rw[zH];exact hlt9 _ (zoU he))
  refine Ga 7 O (by omega) (zmV O Tryz.isAgg120 (hcx 0 _ O) (Gs 8 O (zmV O tg34 (hbj.blk.cells 0 _ O) (Gs 1 O (zlV O hcf hcall ?_)))))
  rintro _ y2 ⟨hb',hK'⟩
  refine Ga 7 O (by omega) (G.back (j+1) (Sub.of O) (⟨by omega,by rw[jF he];exact hb',huj.kt hK',hK'.blk hBj (by decide),znW (KT.trans (znT hEj) hK') (zpi _)⟩) (by first | omega | (dsimp only;omega)))
 have hjj:j=X.2.length:=by omega
 subst hjj
 rw[zoY]at hbj
 have hrow:=hbj.row
 dsimp only at hrow
 rw[zH]at hrow
 refine Gs 10 O (zmV O tg34 (hbj.blk.cells 0 _ O) (zmR O O (R.build (v:=.agg #[.int .i64 1,.int .i64 (-1),.int .i64 (-1),.int .i64 (-1)]) [(0,_),(1,_),(2,_),(3,_)] O (fun _=>by kernel_rfl)) (zlY O O (M.buildSlice (cs:=qL ⟨1,-1,-1,-1⟩) [(0,_)] tR34 ts65 tz65 (by decide) O (by kernel_rfl)) ?_)))
 rintro _ y2 ⟨g2,rfl,yg2,ys2,yB2,yk2⟩
 replace hrow:=zk hrow yk2 (fun _ _ h=>h)
 replace hBj:=yk2.blk hBj (fun h=>h)
 refine zlY O O (M.append tu34 Tryz.el65 O (by decide) O O hrow O (Cells.add yB2.cells) (jm _) (by omega) (by omega)) ?_
 rintro nv y3 ⟨hown,hfr,yk3,_⟩
 have hne:∀ g,Value.ownBlock (.slice an X.1.nodes.length cn)=some g->g ≠ r:=fun g hg=>by
  obtain⟨cs',hb'⟩:=yF hrow hg
  exact hb'.ne hBj (by decide)
 have hlow:∀ g,Value.ownBlock (.slice an X.1.nodes.length cn)=some g->w.heap.size<=g:=hbj.far
 replace hBj:=yk3.blk hBj (fun h=>hne r h rfl)
 have hEy:Ext w y3:=Keep.trans (hEj.ext yk2) yk3 (fun k hk h=>by have:=hlow k h;omega)
 obtain⟨av,cv,rfl⟩:=xW hown
 have hnv:∀ g,Value.ownBlock (.slice av (X.1.nodes.length+1) cv)=some g->w.heap.size<=g/\g ≠ r:=by
  intro g hg
  refine⟨?_,?_⟩
  .
   rcases hfr with h | ⟨g',h1,h2⟩
   . exact hlow g (by rw[<- h];exact hg)
   rw[h1]at hg;cases hg
   have:=(hEj.ext yk2).size
   omega
  obtain⟨cs',hb'⟩:=yF hown hg
  exact hb'.ne hBj (by decide)
 refine zmR O O (R.build (v:=.agg #[.slice av (X.1.nodes.length+1) cv]) [(0,_)] O (fun _=>by kernel_rfl)) (zm3 O (zm4 ts36 O O O O (by simp[Value.oneCell']) hBj (by simp)) ?_)
 rintro yf ⟨_,hBf,hkf⟩
 have hown':=zk hown hkf (fun g hg h=>(hnv g hg).2 h)
 refine Gs 3 O (zlA Tryz.results74 O (zj tg36 ts36 O hBf.cells) ?_)
 refine⟨_,rfl,⟨_,rfl,?_⟩,hEy.trans hkf (fun q hq h=>by have h:q=r:=h;omega)⟩
 rw[<- hfin]
 refine zmk (by decide) qL zT (fun _ _=>rfl) (n:=X.1.nodes.length+1) (e:=65) ?_ (fun g hg=>(hnv g hg).1)
 rw[zqi]
 simpa using hown'
def yu (f:Fl) (g:List Nd):Int:=if yt f ≠ 0 then yt f else if zi f=g then 0 else 2
theorem zbh {f:Fl} (hsz:snodes f.body+zA f.hatches<=1024):ssize f.body<=1024:=by have:=zd1 f.body;omega
theorem ze6 (f:Fl) (g:List Nd) (v1 v2 v3 gv:Value) (D Dg:Nat->Prop) (w:World) (hf:RFl D w f v1 v2 v3) (hg:SlR 4 RNd Dg w gv g) (hsz:snodes f.body+zA f.hatches<=1024) (hbk:sbulk f.body<=1000000) :
  Calls Tryz.prog 36 #[.agg #[v1,v2,v3],.agg #[gv]] w (Ret fun r w'=>r=.int .i64 (yu f g)/\Ext w w'):=by
 have hss:=zbh hsz
 have hE:=Keep.refl (fun _=>False) w
 obtain⟨ag,cg,rfl⟩:=hg.form
 refine zn2 Tryz.func36 O Tryz.ntmps36 O (Gs 2 O (zlY O O (M.box O O) ?_))
 rintro _ w_b ⟨b,rfl,hg_b,hs_b,hB_b,hk_b⟩
 have hge_b:_<=b:=zoZ hE.size (zri hg_b.symm)
 obtain⟨hE,hf,hg⟩:=Tr3 hk_b hE hf hg
 refine zlY O O (M.box O O) ?_
 rintro _ w_b2 ⟨b2,rfl,hg_b2,hs_b2,hB_b2,hk_b2⟩
 have hn_b_b2:b ≠ b2:=by have:=hB_b.lt;omega
 have hge_b2:_<=b2:=zoZ hE.size (zri hg_b2.symm)
 obtain⟨hE,hf,hg,hB_b⟩:=Tr4 hk_b2 hE hf hg hB_b
 refine Gs 6 O (zmX O tg26 ts26 hB_b.cells O (G.call O Tryz.call72 (zdi f _ _ _ D _ hf hsz hbk) ?_))
 rintro _ wz1 ⟨rfl,hz1⟩
 obtain⟨hE,hf,hg,hB_b,hB_b2⟩:=Tr5 hz1 hE hf hg hB_b hB_b2
 refine Gs 9 O (zlc O (fun h0=>?_) (fun h0=>?_))
 . refine Gs 8 O (zls Tryz.results36 O ⟨_,rfl,by rw[yu,zp4 h0],hE⟩)
 have h0':yt f=0:=by omega
 refine Gs 4 O (Dw (fun q=>Ext wz1 q) [] (fun wd2 hD _=>?_))
 refine WD.take 0 O (by kernel_rfl) O O O hD (fun w1 hw1=>zlQ tg26 ts26 O (by rfl) (hw1.blk hB_b (fun h=>h)).cells) (Ds [3] (by kernel_rfl) O (WD.take 4 O (by kernel_rfl) O O O hD (fun w1 hw1=>R.load tg34 O ((hw1.blk hB_b2 (fun h=>h)).cells 0 _ O)) (WD.call 1 O (by kernel_rfl) O O O (F.call (vs:=[_]) Tryz.call74 O) (zhZ f _ _ _ D _ (hf.ext hD) (zbg h0') (by omega)) ?_)))
 rintro _ wz3 ⟨⟨nv,rfl,hnv⟩,hz3⟩
 replace hD:=hD.ext hz3
 refine⟨fun _=>hD,?_⟩
 refine zmf 2 O (by kernel_rfl) O O O (fun w1=>R.field Tryz.runUnderlying36 O tg34 O O) (WD.call 5 O (by kernel_rfl) O O O (F.call (vs:=[_,_]) Tryz.call73 O) (zfg (zi f) g _ _ _ Dg _ hnv (hg.ext zI hD)) ?_)
 rintro _ wz4 ⟨rfl,hz4⟩
 replace hD:=hD.ext hz4
 refine⟨fun _=>hD,?_⟩
 refine zmf 6 O (by kernel_rfl) O O O (fun w1=>zms O (by first | exact za | rfl)) (G.done (by kernel_rfl) ?_ _)
 obtain⟨hE,hf,hg,hB_b,hB_b2⟩:=Tr5 hD hE hf hg hB_b hB_b2
 refine Gs 1 O (zlc O (fun h1=>?_) (fun h1=>?_))
 . refine Gs 7 O (zls Tryz.results36 O ⟨_,rfl,by rw[yu,zp3 (by omega),zp3 h1],hE⟩)
 refine Gs 8 O (zls Tryz.results36 O ⟨_,rfl,by rw[yu,zp3 (by omega),zp4 (zp2.1 h1)],hE⟩)
end Go.Proofs.YtckdhgbepmpgiaaGreat
namespace Go.GL
open Go.RowKit
def OwnR {α:Type} (e:TypeId) (k:Nat) (R:Rel α) (D:Nat->Prop) (w:World) (v:Value) (l:List α):Prop :=
 ∃ xs:List Value,w.ownsRow 0 e k v l.length xs/\∀ (i:Nat) x,l[i]?=some x->R D w x ((xs.drop (i*k)).take k)
section
variable {α:Type} {e:TypeId} {k:Nat} {R:Rel α} {D:Nat->Prop} {w w':World} {v:Value} {l:List α}
theorem OwnR.sl {D':Nat->Prop} (h:OwnR e k R D w v l) (hk:0<k) (hs:yd R) (hD:∀ q,D q->D' q) (hv:∀ g,v.ownBlock=some g->D' g):SlR k R D' w v l:=by
 obtain⟨xs,h1,h2⟩:=h
 obtain⟨ao,cap,rfl,hc,hm⟩:=xM h1
 refine⟨ao,cap,rfl,hc,hm,fun i x hx=>?_⟩
 have hi:=(zp7.1 hx).1
 have hxl:=h1.1
 obtain⟨a0,rfl⟩:∃ a0,ao=some a0:=by
  cases ao with
  | some a0=>exact⟨a0,rfl⟩
  | none =>
   rcases h1.2 with⟨_,h⟩ | ⟨g,cap,cur,h,_⟩
   . omega
   cases h
 obtain⟨e1,e2,hcl⟩:=jh h1
 obtain⟨b0,o0,s0⟩:=a0
 simp only at e1 e2 hcl
 subst e1;subst e2
 have h5:(i+1)*k<=l.length*k:=zrl _ hi
 rw[zrp]at h5
 refine⟨b0,0,_,rfl,hv b0 rfl,?_,?_,hs D D' w w hD (fun _ _ _=>rfl) x _ (h2 i x hx)⟩
 . rw[zpn,zqr];omega
 intro j u hj
 rw[zpp]at hj
 split at hj
 .
  rw[List.getElem?_drop]at hj
  have:=hcl _ _ hj
  rw[zrq]at this ⊢
  exact this
 cases hj
end
mutual
/-- The steps in preorder. -/
def St.pre:St->List St
 | .mk a c v n t f g b=>.mk a c v n t f g b::(preL f++preL g)
def preL:List St->List St
 | []=>[]
 | s::r=>s.pre++preL r
end
theorem St.pre_eq (s:St):s.pre=s::(preL s.thn++preL s.els):=by cases s;rw[St.pre];rfl
theorem zbi (a b:List St):preL (a++b)=preL a++preL b:=by
 induction a with
 | nil=>rfl
 | cons x r ih=>rw[zq5,preL,ih,preL,zq3]
theorem zgk {l:List St} {i:Nat} {x:St} (h:l[i]?=some x):preL (l.take (i+1))=preL (l.take i)++x.pre:=by rw[zd h,zbi];simp[preL]
theorem yb:∀ l:List St,(preL l).length=ssize l:=by
 intro l
 induction l using zmB with
 | h l ih =>
  have key:∀ r:List St,(∀ s ∈ r,(preL s.thn).length=ssize s.thn/\(preL s.els).length=ssize s.els)->(preL r).length=ssize r:=by
   intro r
   induction r with
   | nil=>intro _;rfl
   | cons x r ih2 =>
    intro h
    have h1:=h x (zoX ..)
    have h2:=ih2 (fun s hs=>h s (zoW _ hs))
    have h4:=x.size_eq
    rw[preL,zp1,x.pre_eq,zpm,zp1,h1.1,h1.2,h2,ssize];omega
  exact key l ih
open Go.RowKit Go.ChangeMaps
def lkm:List (Int × Value)->Int->Option (Nat × Value)
 | [],_=>none
 | (a,v)::r,k=>if k=a then some (0,v) else (lkm r k).map fun p=>(p.1+1,p.2)
def zja (l:List (Int × Value)) (k:Int):Option Value:=(lkm l k).map (·.2)
def zfT (l:List (Int × Value)) (k:Int) (v:Value):List (Int × Value):=match lkm l k with
 | some p=>l.set p.1 (k,v)
 | none=>l++[(k,v)]
theorem zas {l:List (Int × Value)} {k:Int} {p:Nat × Value} (h:lkm l k=some p):l[p.1]?=some (k,p.2):=by
 induction l generalizing p with
 | nil=>simp[lkm]at h
 | cons x r ih =>
  obtain⟨a,v⟩:=x
  rw[lkm]at h
  split at h
  . rename_i h1;cases h;rw[h1];rfl
  obtain⟨q,h2,rfl⟩:=zrv.1 h
  simpa using ih h2
theorem zi0 {l:List (Int × Value)} {k:Int} (h:lkm l k=none):∀ p ∈ l,p.1 ≠ k:=by
 induction l with
 | nil=>intro p hp;simp at hp
 | cons x r ih =>
  obtain⟨a,v⟩:=x
  rw[lkm]at h
  split at h
  . cases h
  rename_i h1
  intro p hp
  rcases zp9.1 hp with rfl | hp
  . exact fun h2=>h1 h2.symm
  exact ih (by simpa using h) p hp
theorem zgl (l:List (Int × Value)) (k:Int) (v:Value):(zfT l k v).map (·.1)=match lkm l k with
 | some _=>l.map (·.1)
 | none=>l.map (·.1)++[k]:=by
 unfold zfT
 cases h:lkm l k with
 | none=>simp
 | some p =>
  have h1:=zas h
  simp only
  rw[zqC]
  apply zqe
  intro j
  rw[List.getElem?_set]
  split
  .
   rename_i hj;subst hj
   rw[zpa,h1]
   split
   . rfl
   rename_i h2;rw[zpd]at h2;exact absurd (zp7.1 h1).1 h2
  rfl
theorem kY {l:List (Int × Value)} (hn:(l.map (·.1)).Nodup) (k:Int) (v:Value):((zfT l k v).map (·.1)).Nodup:=by
 rw[zgl]
 cases h:lkm l k with
 | some p=>exact hn
 | none =>
  simp only
  rw[List.nodup_append]
  refine⟨hn,by simp,fun a ha b hb=>?_⟩
  rw[zpb]at hb
  subst hb
  obtain⟨p,hp,rfl⟩:=zqI.1 ha
  exact zi0 h p hp
def MapI (w:World) (m:Nat) (l:List (Int × Value)):Prop :=
 ∃ (es:Array MapEntry) (clock:Nat),w.heap[m]?=some (.map es clock)/\es.toList.map (fun e=>(e.key,e.val))=l.map (fun p=>(Value.int .i64 p.1,p.2))/\(∀ e ∈ es.toList,e.born<clock)/\(es.toList.map (·.born)).Nodup/\(l.map (·.1)).Nodup
theorem MapI.keep {w w':World} {S:Nat->Prop} {m:Nat} {l:List (Int × Value)} (h:MapI w m l) (hk:Keep S w w') (hS:¬ S m):MapI w' m l:=by
 obtain⟨es,c,h1,r⟩:=h
 exact⟨es,c,by rw[hk.block m (Array.getElem?_eq_some_iff.1 h1).1 hS];exact h1,r⟩
theorem MapI.lt {w:World} {m:Nat} {l:List (Int × Value)} (h:MapI w m l):m<w.heap.size:=by
 obtain⟨es,c,h1,r⟩:=h
 exact(Array.getElem?_eq_some_iff.1 h1).1
theorem qF (k:Int):∀ (es:List MapEntry) (l:List (Int × Value)) (i:Nat),es.map (fun e=>(e.key,e.val))=l.map (fun p=>(Value.int .i64 p.1,p.2))->Instr.findNow (.int .i64) (.int .i64 k) es i=some ((lkm l k).map fun p=>(i+p.1,p.2))
 | [],[],i,_=>rfl
 | [],_::_,i,h=>by simp at h
 | _::_,[],i,h=>by simp at h
 | e::es,(a,v)::l,i,h=>by
  simp only[zqy,List.cons.injEq,Prod.mk.injEq]at h
  rw[Instr.findNow,h.1.1,lkm]
  by_cases hk:k=a
  . simp[Instr.sameNow,hk,h.1.2]
  have:(k == a)=false:=by simpa using hk
  simp only[Instr.sameNow,if_true,this,zp3 hk]
  rw[qF k es l (i+1) h.2]
  cases lkm l k<;>simp<;>omega
section
variable {P:Program} {w:World} {m:Nat} {l:List (Int × Value)} {t kt et:TypeId}
theorem qX (hk:P.underlying kt=some (.int .i64)) (k:Int) (b:Bool) (w:World):(Instr.checkKey b 10000 kt (.int .i64 k)).run P w=.ok () w:=MapKept.run_checkKey hk (by simp[MapKept.IsKey]) b 9999
theorem ze7 (h:MapI w m l) (ht:P.underlying t=some (.map kt et)) (hk:P.underlying kt=some (.int .i64)) {z:Value} (hz:∀ w,(zeroValue et).run P w=.ok z w) (k:Int):(Instr.lookup t (.map (some m)) (.int .i64 k) false).run P w=.ok ((zja l k).getD z) w:=by
 obtain⟨es,c,h1,h2,r⟩:=h
 have h3:=qF k _ _ 0 h2
 have h5:=MapKept.run_findKey (P:=P) (w:=w) hk h3
 cases h6:lkm l k with
 | none=>rw[h6]at h5;simp[Instr.lookup,run_underlying ht,MapKept.run_getObj_map h1,qX hk,h5,hz,Result.andThen,zja,h6]
 | some p=>rw[h6]at h5;simp[Instr.lookup,run_underlying ht,MapKept.run_getObj_map h1,qX hk,h5,Result.andThen,zja,h6]
theorem xI {o o':Obj} (h:w.heap[m]?=some o):Keep (fun q=>q=m) w (setBlock w m o') :=
 ⟨rfl,rfl,rfl,zpi _,by simp[setBlock],fun k _ hn=>(MapKept.heap_set h).2 k hn⟩
theorem zbS {β:Type} (f:MapEntry->β) (g:MapEntry->MapEntry) (y:β):∀ (es:List MapEntry) (i:Nat),(∀ e,es[i]?=some e->f (g e)=y)->(es.modify i g).map f=(es.map f).set i y:=by
 intro es i h
 apply zqe
 intro j
 rw[zpa,List.getElem?_modify,List.getElem?_set]
 by_cases hj:i=j
 .
  subst hj
  cases h1:es[i]? with
  | none =>
   have:=List.getElem?_eq_none_iff.1 h1
   rw[zp4 rfl,zp3 (by rw[zpd];omega)]
   simp
  | some e =>
   have:=(zp7.1 h1).1
   rw[zp4 rfl,zp4 (by rw[zpd];omega)]
   simp[h e h1]
 rw[zp3 hj,zpa]
 cases es[j]?<;>simp[hj]
theorem ze8 (h:MapI w m l) (ht:P.underlying t=some (.map kt et)) (hk:P.underlying kt=some (.int .i64)) (k:Int) (v:Value) :
  ∃ w',(Instr.mapUpdate t (.map (some m)) (.int .i64 k) v).run P w=.ok () w'/\MapI w' m (zfT l k v)/\Keep (fun q=>q=m) w w'/\w'.heap.size=w.heap.size:=by
 obtain⟨es,c,h1,h2,h3,h4,h5⟩:=h
 have h6:=qF k _ _ 0 h2
 have h7:=MapKept.run_findKey (P:=P) (w:=w) hk h6
 have hlen:es.toList.length=l.length:=by have:=congrArg List.length h2;simpa using this
 cases h8:lkm l k with
 | none =>
  rw[h8]at h7
  refine⟨setBlock w m (.map (es.push ⟨.int .i64 k,v,c⟩) (c+1)),by simp[Instr.mapUpdate,run_underlying ht,MapKept.run_getObj_map h1,qX hk,h7,MapKept.run_setObj_map _ h1,Result.andThen,setBlock],?_,xI h1,by simp[setBlock]⟩
  refine⟨_,_,(MapKept.heap_set h1).1,?_,?_,?_,kY h5 k v⟩
  . rw[zfT,h8];simp[h2]
  .
   intro e he
   simp only[Array.toList_push,zpc,zpb]at he
   rcases he with he | rfl
   . have:=h3 e he;omega
   simp
  rw[Array.toList_push,zqw,List.nodup_append]
  refine⟨h4,by simp,fun a ha b hb=>?_⟩
  obtain⟨e,he,rfl⟩:=zqI.1 ha
  simp at hb;subst hb
  have:=h3 e he
  omega
 | some p =>
  rw[h8]at h7
  have h9:=zas h8
  have hp:=(zp7.1 h9).1
  obtain⟨e0,he0⟩:∃ e0,es.toList[p.1]?=some e0:=⟨_,zoT (by omega)⟩
  have hkey:e0.key=.int .i64 k/\e0.val=p.2:=by
   have:=congrArg (fun L=>L[p.1]?) h2
   simp only[zpa,he0,h9,zrw,Option.some.injEq,Prod.mk.injEq]at this
   exact this
  have he0':es[p.1]?=some e0:=by simpa using he0
  refine⟨setBlock w m (.map (es.modify p.1 fun e=>{ e with key:=.int .i64 k,val:=v }) c),by simp[Instr.mapUpdate,run_underlying ht,MapKept.run_getObj_map h1,qX hk,h7,he0',hkey.1,Instr.keyThatStays,Instr.sameBits,MapKept.run_setObj_map _ h1,Result.andThen,setBlock],?_,xI h1,by simp[setBlock]⟩
  refine⟨_,_,(MapKept.heap_set h1).1,?_,?_,?_,kY h5 k v⟩
  . rw[zfT,h8,zpu,zbS _ _ (.int .i64 k,v) _ _ (fun _ _=>rfl),h2];simp only[zqC]
  .
   intro e he
   rw[zpu]at he
   obtain⟨j,hj⟩:=zqH.1 he
   rw[List.getElem?_modify]at hj
   obtain⟨e1,he1,rfl⟩:=zrv.1 hj
   have:=h3 e1 (zoU he1)
   split<;>exact this
  have:(es.modify p.1 fun e=>{ e with key:=.int .i64 k,val:=v }).toList.map (·.born)=es.toList.map (·.born):=by
   rw[zpu]
   apply zqe
   intro j
   rw[zpa,zpa,List.getElem?_modify]
   cases es.toList[j]?<;>simp
   split<;>rfl
  rw[this];exact h4
end
section
variable {P:Program} {env:Env} {w:World} {dst:Option Tmp} {ty:TypeId} {pos:String} {aft:Array Edge} {g:Option (Nat × Bool)} {t kt et:TypeId} {m:Nat} {l:List (Int × Value)}
theorem M.makeMap:yK P ⟨dst,.makeMap t none,ty,pos,aft,g⟩ env w (fun u w'=>∃ b,u=.map (some b)/\b=w.heap.size/\w'.heap.size=w.heap.size+1/\MapI w' b []/\Ext w w'):=by
 refine⟨.map (some w.heap.size),w.alloc (.map #[] 0),?_,_,rfl,rfl,by simp,⟨#[],0,(MapKept.heap_alloc w _).1,rfl,by simp,by simp,by simp⟩,Keep.alloc w _⟩
 intro n a ha
 have h:(Instr.makeMap t none).run P w=.ok (.map (some w.heap.size)) (w.alloc (.map #[] 0)):=by simp[Instr.makeMap,Result.andThen]
 simp[execOp,h]
theorem zo0 {x y:Operand} {k:Int} {z:Value} (h:MapI w m l) (ht:P.underlying t=some (.map kt et)) (hk:P.underlying kt=some (.int .i64)) (hz:∀ w,(zeroValue et).run P w=.ok z w) (hx:ev env x=some (.map (some m))) (hy:ev env y=some (.int .i64 k)) :
  yo P ⟨dst,.lookup t x y false,ty,pos,aft,g⟩ env w ((zja l k).getD z) w:=by
 intro n a ha
 simp[execOp,ha.eval hx,ha.eval hy,ze7 h ht hk hz]
theorem M.insert {x y u:Operand} {k:Int} {v:Value} (h:MapI w m l) (ht:P.underlying t=some (.map kt et)) (hk:P.underlying kt=some (.int .i64)) (hx:ev env x=some (.map (some m))) (hy:ev env y=some (.int .i64 k)) (hu:ev env u=some v) :
  xL P ⟨dst,.insert t x y u,ty,pos,aft,g⟩ env w (fun w'=>MapI w' m (zfT l k v)/\Keep (fun q=>q=m) w w'/\w'.heap.size=w.heap.size):=by
 obtain⟨w',h1,h2⟩:=ze8 (P:=P) h ht hk k v
 refine⟨w',?_,h2⟩
 intro n a ha
 simp[execOp,ha.eval hx,ha.eval hy,ha.eval hu,h1]
end
def MapE (w:World) (m:Nat) (l:List (Int × Value)) (k:Int) (st:Nat):Prop :=
 ∃ (es:Array MapEntry) (clock i:Nat) (e:MapEntry) (v:Value),w.heap[m]?=some (.map es clock)/\es.toList.map (fun e=>(e.key,e.val))=l.map (fun p=>(Value.int .i64 p.1,p.2))/\(∀ e ∈ es.toList,e.born<clock)/\(es.toList.map (·.born)).Nodup/\(l.map (·.1)).Nodup /\
  es.toList[i]?=some e/\e.born=st/\lkm l k=some (i,v)
theorem MapE.keep {w w':World} {S:Nat->Prop} {m st:Nat} {k:Int} {l:List (Int × Value)} (h:MapE w m l k st) (hk:Keep S w w') (hS:¬ S m):MapE w' m l k st:=by
 obtain⟨es,c,i,e,v,h1,r⟩:=h
 exact⟨es,c,i,e,v,by rw[hk.block m (Array.getElem?_eq_some_iff.1 h1).1 hS];exact h1,r⟩
theorem MapE.map {w:World} {m st:Nat} {k:Int} {l:List (Int × Value)} (h:MapE w m l k st):MapI w m l:=by
 obtain⟨es,c,i,e,v,h1,h2,h3,h4,h5,_⟩:=h
 exact⟨es,c,h1,h2,h3,h4,h5⟩
section
variable {P:Program} {env:Env} {w:World} {dst:Option Tmp} {ty:TypeId} {pos:String} {aft:Array Edge} {g:Option (Nat × Bool)} {t kt et:TypeId} {m:Nat} {l:List (Int × Value)}
theorem M.mapEntry {x y:Operand} {k:Int} {v:Value} (h:MapI w m l) (hv:zja l k=some v) (ht:P.underlying t=some (.map kt et)) (hk:P.underlying kt=some (.int .i64)) (hx:ev env x=some (.map (some m))) (hy:ev env y=some (.int .i64 k)) :
  yK P ⟨dst,.mapEntry t x y,ty,pos,aft,g⟩ env w (fun u w'=>∃ st:Nat,u=.tuple #[v,.int .i64 st]/\MapE w' m l k st/\Keep (fun q=>q=m) w w'/\w'.heap.size=w.heap.size):=by
 obtain⟨es,c,h1,h2,h3,h4,h5⟩:=h
 have h6:=qF k _ _ 0 h2
 have h7:=MapKept.run_findKey (P:=P) (w:=w) hk h6
 have hlen:es.toList.length=l.length:=by have:=congrArg List.length h2;simpa using this
 obtain⟨p,h8,rfl⟩:=zrv.1 hv
 rw[h8]at h7
 have h9:=zas h8
 have hp:=(zp7.1 h9).1
 obtain⟨e0,he0⟩:∃ e0,es.toList[p.1]?=some e0:=⟨_,zoT (by omega)⟩
 have hkey:e0.key=.int .i64 k/\e0.val=p.2:=by
  have:=congrArg (fun L=>L[p.1]?) h2
  simp only[zpa,he0,h9,zrw,Option.some.injEq,Prod.mk.injEq]at this
  exact this
 have he0':es[p.1]?=some e0:=by simpa using he0
 have hrun:(Instr.mapEntry t (.map (some m)) (.int .i64 k)).run P w=.ok (.tuple #[p.2,.int .i64 e0.born]) (setBlock w m (.map (es.modify p.1 fun e=>{ e with key:=.int .i64 k }) c)):=by
  simp[Instr.mapEntry,run_underlying ht,MapKept.run_getObj_map h1,qX hk,h7,he0',hkey.1,Instr.keyThatStays,Instr.sameBits,MapKept.run_setObj_map _ h1,Result.andThen,setBlock,goInt]
 have hmod:(es.modify p.1 fun e=>{ e with key:=.int .i64 k }).toList=es.toList:=by
  rw[zpu]
  apply zqe
  intro j
  rw[List.getElem?_modify]
  by_cases hj:p.1=j
  . subst hj;rw[he0];simp[<- hkey.1]
  cases es.toList[j]?<;>simp[hj]
 refine⟨_,_,fun n a ha=>?_,e0.born,rfl,⟨_,c,p.1,e0,p.2,(MapKept.heap_set h1).1,by rw[hmod];exact h2,by rw[hmod];exact h3,by rw[hmod];exact h4,h5,by rw[hmod];exact he0,rfl,h8⟩,xI h1,by simp[setBlock]⟩
 simp[execOp,ha.eval hx,ha.eval hy,hrun]
theorem M.entryStore {x y u:Operand} {k:Int} {st:Nat} {v:Value} (h:MapE w m l k st) (hx:ev env x=some (.map (some m))) (hy:ev env y=some (.int .i64 st)) (hu:ev env u=some v) :
  xL P ⟨dst,.entryStore t x y u,ty,pos,aft,g⟩ env w (fun w'=>MapI w' m (zfT l k v)/\Keep (fun q=>q=m) w w'/\w'.heap.size=w.heap.size):=by
 obtain⟨es,c,i,e,v0,h1,h2,h3,h4,h5,h6,rfl,h8⟩:=h
 have hi:=(zp7.1 h6).1
 have hfind:es.findIdx? (fun x=>(x.born:Int) == (e.born:Int))=some i:=by
  rw[show es=es.toList.toArray from by simp,List.findIdx?_toArray,List.findIdx?_eq_some_iff_getElem]
  refine⟨hi,by rw[(zp7.1 h6).2];simp,fun j hj=>?_⟩
  have:=List.nodup_iff_pairwise_ne.1 h4
  rw[zqR]at this
  have h9:=this j i (by rw[zpd];omega) (by rw[zpd];exact hi) hj
  rw[List.getElem_map,List.getElem_map,(zp7.1 h6).2]at h9
  intro h10
  have h11:(es.toList[j].born:Int)=e.born:=eq_of_beq h10
  exact h9 (by omega)
 have hrun:(Instr.entryStore t (.map (some m)) (.int .i64 e.born) v).run P w=.ok () (setBlock w m (.map (es.modify i fun x=>{ x with val:=v }) c)):=by
  simp[Instr.entryStore,MapKept.run_getObj_map h1,asInt,asIntOf,hfind,MapKept.run_setObj_map _ h1,Result.andThen,setBlock]
 have hkey:e.key=.int .i64 k:=by
  have h9:=zas h8
  have:=congrArg (fun L=>L[i]?) h2
  simp only[zpa,h6,h9,zrw,Option.some.injEq,Prod.mk.injEq]at this
  exact this.1
 refine⟨setBlock w m (.map (es.modify i fun x=>{ x with val:=v }) c),fun n a ha=>?_,⟨_,c,(MapKept.heap_set h1).1,?_,?_,?_,kY h5 k v⟩,xI h1,by simp[setBlock]⟩
 . simp[execOp,ha.eval hx,ha.eval hy,ha.eval hu,hrun]
 . rw[zfT,h8,zpu,zbS _ _ (.int .i64 k,v) _ _ (fun x hx=>by rw[h6]at hx;cases hx;simp[hkey]),h2];simp only[zqC]
 .
  intro x hx'
  rw[zpu]at hx'
  obtain⟨j,hj⟩:=zqH.1 hx'
  rw[List.getElem?_modify]at hj
  obtain⟨e1,he1,rfl⟩:=zrv.1 hj
  have:=h3 e1 (zoU he1)
  split<;>exact this
 have:(es.modify i fun x=>{ x with val:=v }).toList.map (·.born)=es.toList.map (·.born):=by
  rw[zpu]
  apply zqe
  intro j
  rw[zpa,zpa,List.getElem?_modify]
  cases es.toList[j]?<;>simp
  split<;>rfl
 rw[this];exact h4
end
end Go.GL
namespace Go.Proofs.YtckdhgbepmpgiaaGreat
open Go.GL
def xw (b:Bool):Int:=if b then 1 else 0
def lki (l:List Int) (i:Nat):Int:=l[i]?.getD 0
theorem zgm {l:List Int} {i:Nat} {x:Int} (h:l[i]?=some x):lki l i=x:=by simp[lki,h]
theorem zbT {l:List Int} {i:Nat} (h:i<l.length):l[i]?=some (lki l i):=by simp[lki,zoT h]
def jI (op a b:Int):Int :=
 if op=8 then a+b else if op=9 then a - b else if op=10 then a*b else if op=11 then a.fdiv b
 else if op=12 then (if b=0 then 0 else a - b*a.fdiv b) else if op=13 then xw (decide (a=b)) else if op=14 then xw (decide (a ≠ b))
 else if op=15 then xw (decide (a<b)) else if op=16 then xw (decide (a<=b)) else if op=17 then xw (decide (b<a)) else if op=18 then xw (decide (b<=a))
 else if op=19 then xw (decide (a ≠ 0)&&decide (b ≠ 0)) else if op=20 then xw (decide (a ≠ 0) || decide (b ≠ 0)) else if op=21 then min a b else max a b
def kw (vals:List Int) (op n:Int) (ks:List Int):Int :=
 if op=0 then n else if op=24 then lki vals n.toNat else if op=6 then -(lki ks 0) else if op=7 then xw (decide (lki ks 0=0))
 else if op=23 then (if lki ks 0 ≠ 0 then lki ks 1 else lki ks 2)
 else if op=25 then lki ks (1+yY (lki ks 0) 0 ((ks.length:Int) - 2)).toNat
 else jI op (lki ks 0) (lki ks 1)
mutual
def qp (vals:List Int):Tm->Int
 | .mk op n ks=>kw vals op n (valL vals ks)
def valL (vals:List Int):List Tm->List Int
 | []=>[]
 | k::r=>qp vals k::valL vals r
end
theorem zcy (vals:List Int) (t:Tm):qp vals t=kw vals t.op t.n (valL vals t.kids):=by cases t;rw[qp];rfl
theorem zat (vals:List Int) (l:List Tm):valL vals l=l.map (qp vals):=by
 induction l with
 | nil=>rfl
 | cons x r ih=>rw[valL,ih];rfl
theorem zeF (vals:List Int) (l:List Tm):(valL vals l).length=l.length:=by rw[zat,zpd]
theorem zeG {vals:List Int} {l:List Tm} {i:Nat} {k:Tm} (h:l[i]?=some k):lki (valL vals l) i=qp vals k:=by
 apply zgm;rw[zat,zpa,h];rfl
structure InV (vs:List Vr) (vals:List Int):Prop where
 len:vals.length=vs.length
 at_:∀ (i:Nat) (v:Vr),vs[i]?=some v->v.low<=lki vals i/\lki vals i<=v.high
theorem zi1 (a b:Int) (ha:-1048576<=a/\a<=1048576):(0<=a -> -a<=a.fdiv b/\a.fdiv b<=a)/\(a<=0->a<=a.fdiv b/\a.fdiv b <= -a)/\(0<=a->0<=b->0<=a.fdiv b):=by
 rcases Int.lt_trichotomy b 0 with hb | hb | hb
 .
  have h1:a.fdiv b=(-a).ediv (-b):=by
   rw[<- Int.neg_fdiv_neg,zpQ _ (by omega)];rfl
  rw[h1]
  have h2:=Int.mul_ediv_add_emod (-a) (-b)
  have h3:=zpO (-a) (show -b ≠ 0 by omega)
  have h4:=zpN (-a) (show 0 < -b by omega)
  change -b*((-a).ediv (-b))+(-a).emod (-b)=-a at h2
  change 0<=(-a).emod (-b) at h3
  change (-a).emod (-b) < -b at h4
  generalize (-a).ediv (-b)=q at *
  generalize (-a).emod (-b)=r at *
  obtain⟨c,rfl⟩:∃ c,b=-c:=⟨-b,by omega⟩
  simp only[Int.neg_neg]at *
  have hc:0<c:=by omega
  refine⟨fun h=>⟨?_,?_⟩,fun h=>⟨?_,?_⟩,fun h h'=>by omega⟩
  .
   rcases zpT q (-a) with h5 | h5
   .
    have:c*q<=c*(-a - 1):=zpV (by omega) (by omega)
    have:c*(-a - 1)<=1*(-a - 1):=zpY (by omega) (by omega)
    have e:c*(-a - 1)=c*(-a) - c:=by rw[Int.mul_sub,Int.mul_one]
    have:c*(-a)<=1*(-a):=zpY (by omega) (by omega)
    omega
   exact h5
  .
   rcases zpT 0 q with h5 | h5
   .
    have:c*1<=c*q:=zpV (by omega) (by omega)
    omega
   omega
  .
   rcases zpT q 0 with h5 | h5
   .
    have:c*q<=c*(-1):=zpV (by omega) (by omega)
    omega
   omega
  rcases zpT (-a) q with h5 | h5
  .
   have:c*(-a+1)<=c*q:=zpV (by omega) (by omega)
   have:1*(-a+1)<=c*(-a+1):=zpW (by omega) (by omega)
   omega
  exact h5
 .
  subst hb
  simp only[Int.fdiv_zero]
  omega
 have h1:a.fdiv b=a.ediv b:=zpQ _ (by omega)
 rw[h1]
 have h2:=Int.mul_ediv_add_emod a b
 have h3:=zpO a (show b ≠ 0 by omega)
 have h4:=zpN a hb
 change b*(a.ediv b)+a.emod b=a at h2
 change 0<=a.emod b at h3
 change a.emod b<b at h4
 generalize a.ediv b=q at *
 generalize a.emod b=r at *
 have hq:0<=a->0<=q:=fun h=>by
  rcases zpT q 0 with h5 | h5
  .
   have:b*q<=b*(-1):=zpV (by omega) (by omega)
   omega
  exact h5
 refine⟨fun h=>⟨by have:=hq h;omega,?_⟩,fun h=>⟨?_,?_⟩,fun h _=>hq h⟩
 .
  rcases zpT a q with h5 | h5
  .
   have:b*(a+1)<=b*q:=zpV (by omega) (by omega)
   have:1*(a+1)<=b*(a+1):=zpW (by omega) (by omega)
   omega
  exact h5
 .
  rcases zpT q a with h5 | h5
  .
   have:b*q<=b*(a - 1):=zpV (by omega) (by omega)
   have:b*(a - 1)<=1*(a - 1):=zpY (by omega) (by omega)
   have e:b*(a - 1)=b*a - b:=by rw[Int.mul_sub,Int.mul_one]
   have:b*a<=1*a:=zpY (by omega) (by omega)
   omega
  exact h5
 rcases zpT 0 q with h5 | h5
 .
  have:b*1<=b*q:=zpV (by omega) (by omega)
  omega
 omega
theorem zbU (a b:Int):(b<0->b<a - b*a.fdiv b/\a - b*a.fdiv b<=0)/\(0<b->0<=a - b*a.fdiv b/\a - b*a.fdiv b<b):=by
 have h2:=Int.mul_fdiv_add_fmod a b
 refine⟨fun hb=>?_,fun hb=>?_⟩
 .
  have h3:a.fmod b=-((-a).emod (-b)):=by
   have:=Int.neg_fmod_neg (-a) (-b)
   simp only[Int.neg_neg]at this
   rw[this,zpR _ (by omega)];rfl
  have h4:=zpO (-a) (show -b ≠ 0 by omega)
  have h5:=zpN (-a) (show 0 < -b by omega)
  change 0<=(-a).emod (-b) at h4
  change (-a).emod (-b) < -b at h5
  omega
 have h3:a.fmod b=a.emod b:=zpR _ (by omega)
 have h4:=zpO a (show b ≠ 0 by omega)
 have h5:=zpN a hb
 change 0<=a.emod b at h4
 change a.emod b<b at h5
 omega
theorem zgn {x y a b c d:Int} (hx:a<=x/\x<=b) (hy:c<=y/\y<=d):min (min (a*c) (a*d)) (min (b*c) (b*d))<=x*y/\x*y<=max (max (a*c) (a*d)) (max (b*c) (b*d)):=by
 have key:∀ (u v p q:Int),p<=v->v<=q->min (u*p) (u*q)<=u*v/\u*v<=max (u*p) (u*q):=by
  intro u v p q h1 h2
  rcases Int.le_total 0 u with hu | hu
  .
   have:=zpV h1 hu
   have:=zpV h2 hu
   omega
  have:=zpX (a:=u) hu h1
  have:=zpX (a:=u) hu h2
  omega
 have h1:=key y x a b hx.1 hx.2
 have h2:=key a y c d hy.1 hy.2
 have h3:=key b y c d hy.1 hy.2
 rw[Int.mul_comm y a,Int.mul_comm y b,Int.mul_comm y x]at h1
 omega
theorem zdj (x:Rg):∀ l:List Rg,((yR x l).1<=x.1/\x.2<=(yR x l).2)/\∀ r ∈ l,(yR x l).1<=r.1/\r.2<=(yR x l).2:=by
 intro l
 induction l generalizing x with
 | nil=>simp[yR]
 | cons y r ih =>
  have h:=ih (min x.1 y.1,max x.2 y.2)
  rw[show yR x (y::r)=yR (min x.1 y.1,max x.2 y.2) r from rfl]
  refine⟨by have:=h.1;dsimp only at this;omega,fun z hz=>?_⟩
  rcases zp9.1 hz with rfl | hz
  . have:=h.1;dsimp only at this;omega
  exact h.2 z hz
theorem zgo {op a b:Int} (h1:op ≠ 8) (h2:op ≠ 9) (h3:op ≠ 10) (h4:op ≠ 11) (h5:op ≠ 12) (h6:op ≠ 21) (h7:op<=20) (h8:8<=op):jI op a b=0\/jI op a b=1:=by
 have hf:∀ b,xw b=0\/xw b=1:=fun b=>by cases b<;>simp[xw]
 unfold jI
 rw[zp3 h1,zp3 h2,zp3 h3,zp3 h4,zp3 h5]
 (repeat' split);all_goals first | exact hf _ | omega
theorem qY (n:Int) {lo hi:Int} (h:lo<=hi):lo<=yY n lo hi/\yY n lo hi<=hi:=by
 unfold yY
 (repeat' split);all_goals omega
theorem zi2 {vs:List Vr} {vals:List Int} {op n:Int} {ks:List Int} {l:List Rg} (hV:InV vs vals) (hn:NodeOk vs op n l) (hlen:ks.length=l.length) (h23:op=23->l.length=3) (hop:op=0\/op=24\/op=6\/op=7\/8<=op/\op<=22\/op=23\/op=25)
  (hk:∀ i,i<l.length->(at2 l i).1<=lki ks i/\lki ks i<=(at2 l i).2):(zh vs op n l).1<=kw vals op n ks/\kw vals op n ks<=(zh vs op n l).2:=by
 have hg:∀ i,i<l.length->yz (at2 l i):=fun i hi=>hn.good _ (zgd hi)
 have hf:∀ b,0<=xw b/\xw b<=1:=fun b=>by cases b<;>simp[xw]
 unfold yz at hg
 unfold zh kw
 by_cases c0:op=0
 . rw[zp4 c0,zp4 c0];exact⟨zpS _,zpS _⟩
 rw[zp3 c0,zp3 c0]
 by_cases c24:op=24
 .
  rw[zp4 c24,zp4 c24]
  have h1:=hn.var c24
  obtain⟨v,hv⟩:∃ v,vs[n.toNat]?=some v:=⟨_,zoT (by omega)⟩
  rw[zgc hv]
  exact hV.at_ _ _ hv
 rw[zp3 c24,zp3 c24]
 by_cases c6:op=6
 .
  have:=hn.k1 (.inl c6);have:=hk 0 (by omega)
  rw[zp4 c6,zp4 c6];dsimp only;omega
 rw[zp3 c6,zp3 c6]
 by_cases c7:op=7
 .
  rw[zp4 c7]
  repeat rw[zp3 (by omega)]
  exact hf _
 rw[zp3 c7]
 by_cases c23:op=23
 .
  have h3:=hn.k3 (.inl c23)
  rw[zp4 c23]
  repeat rw[zp3 (show ¬ op=_ by omega)]
  rw[zp4 (.inl c23)]
  have hm:=zdj (at2 l 1) (l.drop 2)
  split
  . have:=hk 1 (by omega);omega
  have h2:2<l.length:=by have:=h23 c23;omega
  have:=hk 2 (by omega)
  have:=hm.2 (at2 l 2) (by
   unfold at2
   rw[zoT h2]
   exact zqH.2 ⟨0,by rw[List.getElem?_drop];exact zoT h2⟩)
  omega
 rw[zp3 c23]
 by_cases c25:op=25
 .
  have h3:=hn.k3 (.inr c25)
  rw[zp4 c25]
  repeat rw[zp3 (show ¬ op=_ by omega)]
  rw[zp4 (.inr c25)]
  have hm:=zdj (at2 l 1) (l.drop 2)
  have hcl:=qY (lki ks 0) (show (0:Int)<=(ks.length:Int) - 2 by omega)
  obtain⟨j,hj⟩:∃ j:Nat,yY (lki ks 0) 0 ((ks.length:Int) - 2)=j:=zpP hcl.1
  have hj2:j+2<=l.length:=by omega
  rw[hj,show (1+(j:Int)).toNat=j+1 by omega]
  have:=hk (j+1) (by omega)
  by_cases h2:j=0
  . subst h2;have:=hm.1;rw[zrq]at *;omega
  have:=hm.2 (at2 l (j+1)) (by
   unfold at2
   rw[zoT (show j+1<l.length by omega)]
   exact zqH.2 ⟨j - 1,by rw[List.getElem?_drop,show 2+(j - 1)=j+1 by omega];exact zoT (by omega)⟩)
  omega
 rw[zp3 c25]
 have hb:8<=op/\op<=22:=by omega
 have hl2:=hn.k2 hb
 have h0:=hk 0 (by omega)
 have h1:=hk 1 (by omega)
 have g0:=hg 0 (by omega)
 have g1:=hg 1 (by omega)
 generalize lki ks 0=x at *
 generalize lki ks 1=y at *
 generalize at2 l 0=r0 at *
 generalize at2 l 1=r1 at *
 by_cases c8:op=8
 . rw[zp4 c8,jI,zp4 c8];dsimp only;omega
 rw[zp3 c8]
 by_cases c9:op=9
 . rw[zp4 c9,jI,zp3 c8,zp4 c9];dsimp only;omega
 rw[zp3 c9]
 by_cases c10:op=10
 .
  rw[zp4 c10,jI,zp3 c8,zp3 c9,zp4 c10]
  have:=zgn h0 h1
  unfold xF yR
  simp only[zqo,List.foldl_nil]
  omega
 rw[zp3 c10]
 by_cases c11:op=11
 .
  rw[zp4 c11,jI,zp3 c8,zp3 c9,zp3 c10,zp4 c11]
  have:=zi1 x y (by omega)
  dsimp only
  split<;>omega
 rw[zp3 c11]
 by_cases c12:op=12
 .
  rw[zp4 c12,jI,zp3 c8,zp3 c9,zp3 c10,zp3 c11,zp4 c12]
  have:=zbU x y
  dsimp only
  generalize x - y*x.fdiv y=m at *
  split<;>split<;>split<;>omega
 rw[zp3 c12]
 by_cases c21:op=21
 .
  rw[zp4 c21]
  have e:jI op x y=min x y:=by
   unfold jI
   repeat rw[zp3 (show ¬ op=_ by omega)]
   rw[zp4 c21]
  rw[e];dsimp only;omega
 rw[zp3 c21]
 by_cases c22:op=22
 .
  rw[zp4 c22]
  have e:jI op x y=max x y:=by
   unfold jI
   repeat rw[zp3 (show ¬ op=_ by omega)]
  rw[e];dsimp only;omega
 rw[zp3 c22,zp3 (by omega)]
 have:=zgo (a:=x) (b:=y) c8 c9 c10 c11 c12 c21 (by omega) (by omega)
 dsimp only;omega
theorem zjz {vs:List Vr} {inp:Bool} (hv:∀ v ∈ vs,yz (v.low,v.high)) {vals:List Int} (hV:InV vs vals) (t:Tm):zu vs inp t=true->∀ r,rng vs t=some r->r.1<=qp vals t/\qp vals t<=r.2:=by
 induction t using zmz with
 | h t ih =>
  intro hf r hr
  rw[yO,zpv,zpv]at hf
  rw[zb6,zrr]at hr
  obtain⟨l,h1,h2⟩:=hr
  have hlen:=qa _ _ h1
  have hn:NodeOk vs t.op t.n l:=qW hlen hf.1.1 hf.1.2 (fun x hx=>by
   obtain⟨k,hk,hkx⟩:=jp _ _ h1 x hx
   exact kn hv k (zX hf.2 hk) x hkx) hv
  have hfit:=hf.1.1
  have hget:∀ (ks:List Tm) (m:List Rg),rngL vs ks=some m->∀ (i:Nat) k,ks[i]?=some k->rng vs k=some (at2 m i):=by
   intro ks
   induction ks with
   | nil=>intro m _ i k h;simp at h
   | cons y ys ihy =>
    intro m hm i k hk
    simp only[rngL,zrr,zrv]at hm
    obtain⟨z,g1,u,g2,rfl⟩:=hm
    cases i with
    | zero=>simp at hk;subst hk;simpa[at2] using g1
    | succ i=>simp at hk;have:=ihy u g2 i k hk;simpa[at2] using this
  have H:=zi2 (n:=t.n) (op:=t.op) (ks:=valL vals t.kids) (l:=l) hV hn (by rw[zeF,hlen]) (fun h=>by
    unfold yE at hfit
    rw[show zm t.op=3 by unfold zm;rw[h];rfl]at hfit
    simp at hfit;omega) (by
    by_cases h:0<=zm t.op\/zm t.op=-2
    .
     unfold zm at h
     repeat' split at h
     all_goals omega
    .
     exfalso
     have:=jo t.op
     rw[ye (.inl (by omega))]at hfit
     cases hfit) (fun i hi=>by
    obtain⟨k,hk⟩:∃ k,t.kids[i]?=some k:=⟨_,zoT (by omega)⟩
    rw[zeG hk]
    exact ih k (zoU hk) (zX hf.2 (zoU hk)) _ (hget _ _ h1 i k hk))
  rw[zcy]
  split at h2
  . cases h2;exact H
  cases h2
end Go.Proofs.YtckdhgbepmpgiaaGreat
namespace Go.GL
section
variable {P:Program} {env:Env} {w:World} {dst:Option Tmp} {ty:TypeId} {pos:String} {aft:Array Edge} {g:Option (Nat × Bool)} {t t':TypeId} {x y:Operand} {m j:Int}
theorem R.quo (hx:ev env x=some (.int .i64 m)) (hy:ev env y=some (.int .i64 j)) (hj:j ≠ 0) (hr:-9223372036854775808<m/\m<=9223372036854775807):yo P ⟨dst,.binOp .quo t x y t',ty,pos,aft,g⟩ env w (.int .i64 (m.tdiv j)) w:=by
 intro n a ha
 have h1:(m.tdiv j).natAbs<=m.natAbs:=zpZ m j
 have h2:IntKind.i64.wrap (m.tdiv j)=m.tdiv j:=xK (by omega)
 simp[execOp,ha.eval hx,ha.eval hy,eqGuard_quo,binOp_quo,Op.intDiv,hj,h2]
theorem R.rem (hx:ev env x=some (.int .i64 m)) (hy:ev env y=some (.int .i64 j)) (hj:j ≠ 0) (_:-9223372036854775808<m/\m<=9223372036854775807):yo P ⟨dst,.binOp .rem t x y t',ty,pos,aft,g⟩ env w (.int .i64 (m.tmod j)) w:=by
 intro n a ha
 simp[execOp,ha.eval hx,ha.eval hy,eqGuard_rem,binOp_rem,Op.intDiv,hj]
end
theorem zgp (a b:Int) (hb:b ≠ 0):a.fdiv b=if a.tmod b ≠ 0/\(decide (a<0) ≠ decide (b<0)) then a.tdiv b - 1 else a.tdiv b:=by
 rw[Int.fdiv_eq_tdiv]
 have hd:b ∣ a ↔ a.tmod b=0:=⟨Int.tmod_eq_zero_of_dvd,Int.dvd_of_tmod_eq_zero⟩
 by_cases h:b ∣ a
 . rw[zp4 h,zp3 (fun h2=>h2.1 (hd.1 h))];omega
 have hm:a.tmod b ≠ 0:=fun h2=>h (hd.2 h2)
 rw[zp3 h]
 by_cases ha:0<=a
 .
  rw[zp4 ha]
  by_cases hb2:0<=b
  . rw[zp4 hb2,zp3 (fun h2=>h2.2 (by rw[zp6 (by omega),zp6 (by omega)]))];omega
  rw[zp3 hb2,zp4 ⟨hm,by rw[zp6 (by omega),zp5 (by omega)];decide⟩]
 rw[zp3 ha]
 by_cases hb2:0<=b
 . rw[zp4 hb2,zp4 ⟨hm,by rw[zp5 (by omega),zp6 (by omega)];decide⟩,Int.sign_eq_one_of_pos (by omega)]
 rw[zp3 hb2,zp3 (fun h2=>h2.2 (by rw[zp5 (by omega),zp5 (by omega)])),Int.sign_eq_neg_one_of_neg (by omega)];omega
end Go.GL
namespace Go.Proofs.YtckdhgbepmpgiaaGreat
open Go.GL
abbrev zhE (a:Int):Prop := -1048576<=a/\a<=1048576
theorem kz (a b:Int) (w:World) (ha:zhE a) (hb:zhE b):Calls Tryz.prog 170 #[.int .i64 a,.int .i64 b] w (Ret fun r w'=>r=.int .i64 (a.fdiv b)/\Ext w w'):=by
 have hE:=Keep.refl (fun _=>False) w
 refine zn2 Tryz.func170 O Tryz.ntmps170 O (Gs 12 O (zlc O (fun h0=>?_) (fun h0=>?_)))
 .
  subst h0
  refine Gs 7 O (zls tr170 O ⟨_,rfl,by rw[Int.fdiv_zero],hE⟩)
 have hd:=zgp a b h0
 have hq:(a.tdiv b).natAbs<=a.natAbs:=zpZ a b
 refine Gs 6 O (zmR O O (R.quo O O h0 (by omega)) (Gs 8 O (zmR O O (R.rem O O h0 (by omega)) (Gs 2 O (G.sp 15 O (fun h1=>?_) (fun h1=>?_))))))
 .
  refine Gs 8 O (zlc O (fun h2=>?_) (fun h2=>?_))
  . refine Ga 13 O (by omega) (zls tr170 O ⟨_,rfl,by rw[hd,zp4 ⟨h1,h2⟩],hE⟩)
  refine Gs 9 O (zls tr170 O ⟨_,rfl,by rw[hd,zp3 (fun h=>h2 h.2)],hE⟩)
 refine Gs 18 O (zls tr170 O ⟨_,rfl,by rw[hd,zp3 (fun h=>h1 h.1)],hE⟩)
theorem zfh (a b:Int) (hb:b ≠ 0):-(a.natAbs:Int) - b.natAbs<=b*a.fdiv b/\b*a.fdiv b<=(a.natAbs:Int)+b.natAbs:=by
 have h:=zbU a b
 generalize b*a.fdiv b=q at *
 omega
theorem zcz (a b:Int) (w:World) (ha:zhE a) (hb:zhE b):Calls Tryz.prog 171 #[.int .i64 a,.int .i64 b] w (Ret fun r w'=>r=.int .i64 (if b=0 then 0 else a - b*a.fdiv b)/\Ext w w'):=by
 have hE:=Keep.refl (fun _=>False) w
 refine zn2 Tryz.func171 O Tryz.ntmps171 O (Gs 12 O (zlc O (fun h0=>?_) (fun h0=>?_)))
 . refine Gs 7 O (zls Tryz.results171 O ⟨_,rfl,by rw[zp4 h0],hE⟩)
 have hm:=zfh a b h0
 refine Gs 8 O (G.call O Tryz.call170 (kz a b _ ha hb) ?_)
 rintro _ wz1 ⟨rfl,hz1⟩
 replace hE:=Tr1 hz1 hE
 refine Ga 6 O (by omega) (zls Tryz.results171 O ⟨_,rfl,by rw[zp3 h0],hE⟩)
theorem zcA (op a b:Int) (w:World) (ha:zhE a) (hb:zhE b):Calls Tryz.prog 133 #[.int .i64 op,.int .i64 a,.int .i64 b] w (Ret fun r w'=>r=.int .i64 (jI op a b)/\Ext w w'):=by
 have hE:=Keep.refl (fun _=>False) w
 have hml:=zb5 ha hb
 refine zn3 Tryz.func133 O Tryz.ntmps133 O (Gs 18 O (zlc O (fun hh1=>?_) (fun hh1=>?_)))
 . refine Ga 11 O (by omega) (zls tr133 O ⟨_,rfl,by simp[jI,hh1],hE⟩)
 refine Gs 6 O (zlc O (fun hh2=>?_) (fun hh2=>?_))
 . refine Ga 11 O (by omega) (zls tr133 O ⟨_,rfl,by simp[jI,hh2],hE⟩)
 refine Gs 6 O (zlc O (fun hh3=>?_) (fun hh3=>?_))
 . refine Ga 11 O (by omega) (zls tr133 O ⟨_,rfl,by simp[jI,hh3],hE⟩)
 refine Gs 6 O (zlc O (fun hh4=>?_) (fun hh4=>?_))
 .
  refine Gs 4 O (G.call O Tryz.call170 (kz a b _ ha hb) ?_)
  rintro _ wz5 ⟨rfl,hz5⟩
  replace hE:=Tr1 hz5 hE
  refine Gs 6 O (zls tr133 O ⟨_,rfl,by simp[jI,hh4],hE⟩)
 refine Gs 6 O (zlc O (fun hh6=>?_) (fun hh6=>?_))
 .
  refine Gs 4 O (G.call O Tryz.call171 (zcz a b _ ha hb) ?_)
  rintro _ wz7 ⟨rfl,hz7⟩
  replace hE:=Tr1 hz7 hE
  refine Gs 6 O (zls tr133 O ⟨_,rfl,by simp[jI,hh6],hE⟩)
 refine Gs 6 O (zlc O (fun hh8=>?_) (fun hh8=>?_))
 .
  refine Gs 5 O (G.call O tc131 (zJ _ _) ?_)
  rintro _ wz9 ⟨rfl,hz9⟩
  replace hE:=Tr1 hz9 hE
  refine Gs 6 O (zls tr133 O ⟨_,rfl,by simp[jI,xw,hh8],hE⟩)
 refine Gs 6 O (zlc O (fun hh10=>?_) (fun hh10=>?_))
 .
  refine Gs 5 O (G.call O tc131 (zJ _ _) ?_)
  rintro _ wz11 ⟨rfl,hz11⟩
  replace hE:=Tr1 hz11 hE
  refine Gs 6 O (zls tr133 O ⟨_,rfl,by simp[jI,xw,hh10],hE⟩)
 refine Gs 6 O (zlc O (fun hh12=>?_) (fun hh12=>?_))
 .
  refine Gs 5 O (G.call O tc131 (zJ _ _) ?_)
  rintro _ wz13 ⟨rfl,hz13⟩
  replace hE:=Tr1 hz13 hE
  refine Gs 6 O (zls tr133 O ⟨_,rfl,by simp[jI,xw,hh12],hE⟩)
 refine Gs 6 O (zlc O (fun hh14=>?_) (fun hh14=>?_))
 .
  refine Gs 5 O (G.call O tc131 (zJ _ _) ?_)
  rintro _ wz15 ⟨rfl,hz15⟩
  replace hE:=Tr1 hz15 hE
  refine Gs 6 O (zls tr133 O ⟨_,rfl,by simp[jI,xw,hh14],hE⟩)
 refine Gs 6 O (zlc O (fun hh16=>?_) (fun hh16=>?_))
 .
  refine Gs 5 O (G.call O tc131 (zJ _ _) ?_)
  rintro _ wz17 ⟨rfl,hz17⟩
  replace hE:=Tr1 hz17 hE
  refine Gs 6 O (zls tr133 O ⟨_,rfl,by simp[jI,xw,hh16],hE⟩)
 refine Gs 6 O (zlc O (fun hh18=>?_) (fun hh18=>?_))
 .
  refine Gs 5 O (G.call O tc131 (zJ _ _) ?_)
  rintro _ wz19 ⟨rfl,hz19⟩
  replace hE:=Tr1 hz19 hE
  refine Gs 6 O (zls tr133 O ⟨_,rfl,by simp[jI,xw,hh18],hE⟩)
 refine Gs 6 O (zlc O (fun hh20=>?_) (fun hh20=>?_))
 .
  refine Gs 5 O (G.sp 73 O (fun hh21=>?_) (fun hh21=>?_))
  .
   refine Gs 3 O (G.call O tc131 (zJ _ _) ?_)
   rintro _ wz22 ⟨rfl,hz22⟩
   replace hE:=Tr1 hz22 hE
   refine Gs 6 O (zls tr133 O ⟨_,rfl,by simp[jI,xw,hh20,hh21],hE⟩)
  refine Gs 3 O (G.call O tc131 (zJ _ _) ?_)
  rintro _ wz23 ⟨rfl,hz23⟩
  replace hE:=Tr1 hz23 hE
  refine Gs 6 O (zls tr133 O ⟨_,rfl,by simp[jI,xw,hh20,hh21],hE⟩)
 refine Gs 6 O (zlc O (fun hh24=>?_) (fun hh24=>?_))
 .
  refine Gs 5 O (G.sp 82 O (fun hh25=>?_) (fun hh25=>?_))
  .
   refine Gs 3 O (G.call O tc131 (zJ _ _) ?_)
   rintro _ wz26 ⟨rfl,hz26⟩
   replace hE:=Tr1 hz26 hE
   refine Gs 6 O (zls tr133 O ⟨_,rfl,by simp[jI,xw,hh24,hh25],hE⟩)
  refine Gs 3 O (G.call O tc131 (zJ _ _) ?_)
  rintro _ wz27 ⟨rfl,hz27⟩
  replace hE:=Tr1 hz27 hE
  refine Gs 6 O (zls tr133 O ⟨_,rfl,by simp[jI,xw,hh24,hh25],hE⟩)
 refine Gs 6 O (zlc O (fun hh28=>?_) (fun hh28=>?_))
 . refine Gs 11 O (zls tr133 O ⟨_,rfl,by simp[jI,hh28],hE⟩)
 refine Gs 12 O (zls tr133 O ⟨_,rfl,by simp[jI,hh1,hh2,hh3,hh4,hh6,hh8,hh10,hh12,hh14,hh16,hh18,hh20,hh24,hh28],hE⟩)
structure TmOk (vs:List Vr) (vals:List Int) (t:Tm):Prop where
 ops:t.op=0\/t.op=24\/t.op=6\/t.op=7\/8<=t.op/\t.op<=22\/t.op=23\/t.op=25
 k1:t.op=6\/t.op=7->t.kids.length=1
 k2:8<=t.op/\t.op<=22->t.kids.length=2
 k3:t.op=23->t.kids.length=3
 k25:t.op=25->2<=t.kids.length/\t.kids.length<=33
 var:t.op=24->0<=t.n/\t.n<vs.length
 self:zhE (qp vals t)
 kid:∀ k ∈ t.kids,zhE (qp vals k)
theorem tmOk {vs:List Vr} {inp:Bool} (hv:∀ v ∈ vs,yz (v.low,v.high)) {vals:List Int} (hV:InV vs vals) {t:Tm} (hf:zu vs inp t=true) (hr:(rng vs t).isSome=true):TmOk vs vals t/\∀ k ∈ t.kids,zu vs inp k=true/\(rng vs k).isSome=true:=by
 obtain⟨r,hr⟩:=zru.1 hr
 have hin:∀ k,zu vs inp k=true->∀ r,rng vs k=some r->zhE (qp vals k):=fun k h1 r h2=>by
  have h3:=zjz hv hV k h1 r h2
  have h4:=kn hv k h1 r h2
  unfold yz at h4
  exact⟨by omega,by omega⟩
 have hself:=hin t hf r hr
 rw[yO,zpv,zpv]at hf
 rw[zb6,zrr]at hr
 obtain⟨l,h1,h2⟩:=hr
 have hlen:=qa _ _ h1
 have hgr:∀ (ks:List Tm) (m:List Rg),rngL vs ks=some m->∀ k ∈ ks,(rng vs k).isSome=true:=by
  intro ks
  induction ks with
  | nil=>intro m _ k h;simp at h
  | cons y ys ihy =>
   intro m hm k hk
   simp only[rngL,zrr,zrv]at hm
   obtain⟨z,g1,u,g2,rfl⟩:=hm
   rcases zp9.1 hk with rfl | hk
   . rw[g1];rfl
   exact ihy u g2 k hk
 have hkid:∀ k ∈ t.kids,zu vs inp k=true/\(rng vs k).isSome=true:=fun k hk=>⟨zX hf.2 hk,hgr _ _ h1 k hk⟩
 have hn:NodeOk vs t.op t.n l:=qW hlen hf.1.1 hf.1.2 (fun x hx=>by
  obtain⟨k,hk,hkx⟩:=jp _ _ h1 x hx
  exact kn hv k (zX hf.2 hk) x hkx) hv
 refine⟨⟨?_,fun h=>by rw[<- hlen];exact hn.k1 h,fun h=>by rw[<- hlen];exact hn.k2 h,fun h=>?_,fun h=>by rw[<- hlen];exact hn.k3 (.inr h),hn.var,hself,fun k hk=>?_⟩,hkid⟩
 .
  by_cases h:0<=zm t.op\/zm t.op=-2
  .
   unfold zm at h
   repeat' split at h
   all_goals omega
  exfalso
  have:=jo t.op
  have h3:=hf.1.1
  rw[ye (.inl (by omega))]at h3
  cases h3
 .
  have h3:=hf.1.1
  unfold yE at h3
  rw[show zm t.op=3 by unfold zm;rw[h];rfl]at h3
  simp at h3;omega
 obtain⟨h3,h4⟩:=hkid k hk
 obtain⟨r',h5⟩:=zru.1 h4
 exact hin k h3 r' h5
def zjA (vals:List Int) (k:Tm):Prop:=∀ (cs:List Value) (D Dv:Nat->Prop) (w:World) (vv:Value),SlR 1 yc Dv w vv vals->RTm D w k cs->Calls Tryz.prog 90 #[vv,.agg cs.toArray] w (Ret fun r w'=>r=.int .i64 (qp vals k)/\Ext w w')
theorem zkl (vals:List Int) (t:Tm) (i:Nat) (k:Tm) (hk:t.kids[i]?=some k) (b2 b3:Nat) (vv kv:Value) (D Dv:Nat->Prop) (w:World) (hB2:Blk w b2 [vv] 27) (hB3:Blk w b3 [.int .i64 t.op,.int .i64 t.n,kv] 70) (hks:SlR 3 RTm D w kv t.kids) (hvv:SlR 1 yc Dv w vv vals) (ih:zjA vals k) :
  Calls Tryz.prog 130 #[.int .i64 i,.pointer (some ⟨b2,0,none⟩),.pointer (some ⟨b3,0,none⟩)] w (Ret fun r w'=>r=.int .i64 (qp vals k)/\Ext w w'):=by
 have hE:=Keep.refl (fun _=>False) w
 have hi:=(zp7.1 hk).1
 obtain⟨a3,c3,rfl⟩:=hks.form
 obtain⟨bk,ok,ck,hak,_,hck,hRk⟩:=hks.at hk
 obtain⟨kv',rfl,hkk⟩:=hRk.get
 refine zn3 Tryz.func130 O Tryz.ntmps130 O (Gs 6 O (Dw (fun q=>Ext w q) [] (fun wd1 hD _=>?_)))
 refine WD.take 0 O (by kernel_rfl) O O O hD (fun w1 hw1=>R.load tg27 O ((hw1.blk hB2 (fun h=>h)).cells 0 _ O)) (Ds [1] (by kernel_rfl) O (WD.take 2 O (by kernel_rfl) O O O hD (fun w1 hw1=>R.load tg68 O ((hw1.blk hB3 (fun h=>h)).cells 2 _ O)) (Ds [3] (by kernel_rfl) O (zmf 4 O (by kernel_rfl) O O O (fun w1=>zlO tR68 ts70 O O hak (by omega)) (WD.take 5 O (by kernel_rfl) O O O hD (fun w1 hw1=>zlQ tg70 ts70 O (by rfl) (hw1.cells hck (fun h=>h))) (WD.call 6 O (by kernel_rfl) O O O (F.call (vs:=[_,_]) Tryz.call90 O) (ih _ D Dv _ _ (hvv.ext ze hD) (RTm.put (hkk.ext zl hD))) ?_))))))
 rintro _ wz2 ⟨rfl,hz2⟩
 replace hD:=hD.ext hz2
 refine⟨fun _=>hD,?_⟩
 refine Ds [7] (by kernel_rfl) O (G.done (by kernel_rfl) ?_ _)
 replace hE:=Tr1 hD hE
 refine Gs 2 O (zls Tryz.results130 O ⟨_,rfl,rfl,hE⟩)
theorem zi3 {vs:List Vr} {inp:Bool} (hv:∀ v ∈ vs,yz (v.low,v.high)) {vals:List Int} (hV:InV vs vals) (t:Tm):zu vs inp t=true->(rng vs t).isSome=true->zjA vals t:=by
 induction t using zmz with
 | h t ih =>
 intro hf hr cs D Dv w vv hvv ht
 obtain⟨ok,hkf⟩:=tmOk hv hV hf hr
 have ihk:∀ k ∈ t.kids,zjA vals k:=fun k hk=>ih k hk (hkf k hk).1 (hkf k hk).2
 obtain⟨kv,rfl,hks⟩:=ht.get
 obtain⟨a3,c3,rfl⟩:=hks.form
 obtain⟨av,cv,rfl⟩:=hvv.form
 have hve:=zcy vals t
 have hops:=ok.ops
 have hE:=Keep.refl (fun _=>False) w
 refine zn2 Tryz.func90 O Tryz.ntmps90 O (Gs 2 O (zlY O O (M.box O O) ?_))
 rintro _ w_b2 ⟨b2,rfl,hg_b2,hs_b2,hB_b2,hk_b2⟩
 have hge_b2:_<=b2:=zoZ hE.size (zri hg_b2.symm)
 obtain⟨hE,hks,hvv⟩:=Tr3 hk_b2 hE hks hvv
 refine zlY O O (M.box O O) ?_
 rintro _ w_b3 ⟨b3,rfl,hg_b3,hs_b3,hB_b3,hk_b3⟩
 have hn_b2_b3:b2 ≠ b3:=by have:=hB_b2.lt;omega
 have hge_b3:_<=b3:=zoZ hE.size (zri hg_b3.symm)
 obtain⟨hE,hks,hvv,hB_b2⟩:=Tr4 hk_b3 hE hks hvv hB_b2
 refine Gs 13 O (zmV O tg67 (hB_b3.cells 0 _ O) (Gs 9 O ?_))
 have hkid:∀ (i:Int) (j:Nat) (k:Tm),i=(j:Int)->t.kids[j]?=some k->∀ w',Ext w_b3 w'->Calls Tryz.prog 130 #[.int .i64 i,.pointer (some ⟨b2,0,none⟩),.pointer (some ⟨b3,0,none⟩)] w' (Ret fun r w''=>r=.int .i64 (qp vals k)/\Ext w' w''):=fun i j k hij hk w' hw'=>by
  subst hij
  exact zkl vals t j k hk b2 b3 _ _ D Dv w' (hw'.blk hB_b2 (fun h=>h)) (hw'.blk hB_b3 (fun h=>h)) (hks.ext zl hw') (hvv.ext ze hw') (ihk k (zoU hk))
 have hget:∀ i:Nat,i<t.kids.length->∃ k,t.kids[i]?=some k/\lki (valL vals t.kids) i=qp vals k/\zhE (qp vals k):=fun i hi=>by
  obtain⟨k,hk⟩:∃ k,t.kids[i]?=some k:=⟨_,zoT hi⟩
  exact⟨k,hk,zeG hk,ok.kid k (zoU hk)⟩
 have hX:=Keep.refl (fun _=>False) w_b3
 refine zlc O (fun c0=>?_) (fun c0=>?_)
 . refine Gs 3 O (zmV O tg3 (hB_b3.cells 1 _ O) (Gs 6 O (zls tr90 O ⟨_,rfl,by rw[hve,kw,zp4 c0],hE⟩)))
 refine Gs 6 O (zlc O (fun c24=>?_) (fun c24=>?_))
 .
  have hn:=ok.var c24
  have hln:=hV.len
  obtain⟨bx,ox,cx,hax,_,hcx,rfl⟩:=hvv.at (zbT (l:=vals) (i:=t.n.toNat) (by omega))
  refine Gs 2 O (zmV O tg27 (hB_b2.cells 0 _ O) (Gs 1 O (zmV O tg3 (hB_b3.cells 1 _ O) (zmR O O (zlO tR27 ts3 O O hax (by omega)) (zmV O tg3 (hcx 0 _ O) (Gs 6 O (zls tr90 O ⟨_,rfl,by rw[hve,kw,zp3 c0,zp4 c24],hE⟩)))))))
 refine Gs 6 O (zlc O (fun c6=>?_) (fun c6=>?_))
 .
  have h1:=ok.k1 (.inl c6)
  obtain⟨k0,hk0,hl0,hi0⟩:=hget 0 (by omega)
  refine Gs 3 O (zlV O tc130 (hkid 0 0 k0 O hk0 _ hX) ?_)
  rintro _ wz1 ⟨rfl,hz1⟩
  obtain⟨hE,hks,hvv,hB_b2,hB_b3,hX⟩:=Tr6 hz1 hE hks hvv hB_b2 hB_b3 hX
  refine Ga 7 O (by omega) (zls tr90 O ⟨_,rfl,by rw[hve,kw,zp3 c0,zp3 c24,zp4 c6,hl0],hE⟩)
 refine Gs 6 O (zlc O (fun c7=>?_) (fun c7=>?_))
 .
  have h1:=ok.k1 (.inr c7)
  obtain⟨k0,hk0,hl0,hi0⟩:=hget 0 (by omega)
  refine Gs 3 O (zlV O tc130 (hkid 0 0 k0 O hk0 _ hX) ?_)
  rintro _ wz2 ⟨rfl,hz2⟩
  obtain⟨hE,hks,hvv,hB_b2,hB_b3,hX⟩:=Tr6 hz2 hE hks hvv hB_b2 hB_b3 hX
  refine Gs 1 O (G.call O tc131 (zJ _ _) ?_)
  rintro _ wz3 ⟨rfl,hz3⟩
  obtain⟨hE,hks,hvv,hB_b2,hB_b3,hX⟩:=Tr6 hz3 hE hks hvv hB_b2 hB_b3 hX
  refine Gs 6 O (zls tr90 O ⟨_,rfl,by rw[hve,kw,zp3 c0,zp3 c24,zp3 c6,zp4 c7,hl0];rfl,hE⟩)
 refine Gs 6 O (zlc O (fun c23=>?_) (fun c23=>?_))
 .
  have h1:=ok.k3 c23
  obtain⟨k0,hk0,hl0,hi0⟩:=hget 0 (by omega)
  obtain⟨k1,hk1,hl1,hi1⟩:=hget 1 (by omega)
  obtain⟨k2,hk2,hl2,hi2⟩:=hget 2 (by omega)
  refine Gs 4 O (zlV O tc130 (hkid 0 0 k0 O hk0 _ hX) ?_)
  rintro _ wz4 ⟨rfl,hz4⟩
  obtain⟨hE,hks,hvv,hB_b2,hB_b3,hX⟩:=Tr6 hz4 hE hks hvv hB_b2 hB_b3 hX
  refine Gs 3 O (zlc O (fun z=>?_) (fun z=>?_))
  .
   refine Gs 3 O (zlV O tc130 (hkid 1 1 k1 O hk1 _ hX) ?_)
   rintro _ wz5 ⟨rfl,hz5⟩
   obtain⟨hE,hks,hvv,hB_b2,hB_b3,hX⟩:=Tr6 hz5 hE hks hvv hB_b2 hB_b3 hX
   refine Gs 7 O (zls tr90 O ⟨_,rfl,by rw[hve,kw,zp3 c0,zp3 c24,zp3 c6,zp3 c7,zp4 c23,hl0,zp4 z,hl1],hE⟩)
  refine Gs 5 O (zlV O tc130 (hkid 2 2 k2 O hk2 _ hX) ?_)
  rintro _ wz6 ⟨rfl,hz6⟩
  obtain⟨hE,hks,hvv,hB_b2,hB_b3,hX⟩:=Tr6 hz6 hE hks hvv hB_b2 hB_b3 hX
  refine Gs 6 O (zls tr90 O ⟨_,rfl,by rw[hve,kw,zp3 c0,zp3 c24,zp3 c6,zp3 c7,zp4 c23,hl0,zp3 z,hl2],hE⟩)
 refine Gs 6 O (zlc O (fun c25=>?_) (fun c25=>?_))
 .
  have h1:=ok.k25 c25
  obtain⟨k0,hk0,hl0,hi0⟩:=hget 0 (by omega)
  have hcl:=qY (qp vals k0) (show (0:Int)<=(t.kids.length:Int) - 2 by omega)
  obtain⟨kj,hkj,hlj,hij⟩:=hget (1+yY (qp vals k0) 0 ((t.kids.length:Int) - 2)).toNat (by omega)
  refine Gs 1 O (Dw (fun q=>Ext w_b3 q) [] (fun wd7 hD _=>?_))
  refine Ds [0,1,3] (by kernel_rfl) O (WD.take 4 O (by kernel_rfl) O O O hD (fun w1 hw1=>R.load tg68 O ((hw1.blk hB_b3 (fun h=>h)).cells 2 _ O)) (Da [5,6] (by kernel_rfl) O (by omega) (WD.call 2 O (by kernel_rfl) O O O (zlU (vs:=[_]) tc130 O O) (hkid 0 0 k0 O hk0 _ (hX.ext hD)) ?_)))
  rintro _ wz8 ⟨rfl,hz8⟩
  replace hD:=hD.ext hz8
  refine⟨fun _=>hD,?_⟩
  refine WD.call 7 O (by kernel_rfl) O O O (F.call (vs:=[_,_,_]) Tryz.call132 O) (zd6 _ _ _ _ (by omega)) ?_
  rintro _ wz9 ⟨rfl,hz9⟩
  replace hD:=hD.ext hz9
  refine⟨fun _=>hD,?_⟩
  refine Da [8] (by kernel_rfl) O (by omega) (WD.call 9 O (by kernel_rfl) O O O (zlU (vs:=[_]) tc130 O O) (hkid _ _ kj (by omega) hkj _ (hX.ext hD)) ?_)
  rintro _ wz10 ⟨rfl,hz10⟩
  replace hD:=hD.ext hz10
  refine⟨fun _=>hD,?_⟩
  refine Ds [10] (by kernel_rfl) O (G.done (by kernel_rfl) ?_ _)
  obtain⟨hE,hks,hvv,hB_b2,hB_b3,hX⟩:=Tr6 hD hE hks hvv hB_b2 hB_b3 hX
  refine Gs 4 O (zls tr90 O ⟨_,rfl,by rw[hve,kw,zp3 c0,zp3 c24,zp3 c6,zp3 c7,zp3 c23,zp4 c25,hl0,zeF,hlj],hE⟩)
 have h1:=ok.k2 (by omega)
 obtain⟨k0,hk0,hl0,hi0⟩:=hget 0 (by omega)
 obtain⟨k1,hk1,hl1,hi1⟩:=hget 1 (by omega)
 refine Gs 4 O (Dw (fun q=>Ext w_b3 q) [] (fun wd11 hD _=>?_))
 refine Ds [0] (by kernel_rfl) O (WD.take 1 O (by kernel_rfl) O O O hD (fun w1 hw1=>R.load tg67 O ((hw1.blk hB_b3 (fun h=>h)).cells 0 _ O)) (Ds [2,4] (by kernel_rfl) O (WD.call 3 O (by kernel_rfl) O O O (zlU (vs:=[_]) tc130 O O) (hkid 0 0 k0 O hk0 _ (hX.ext hD)) ?_)))
 rintro _ wz12 ⟨rfl,hz12⟩
 replace hD:=hD.ext hz12
 refine⟨fun _=>hD,?_⟩
 refine WD.call 5 O (by kernel_rfl) O O O (zlU (vs:=[_]) tc130 O O) (hkid 1 1 k1 O hk1 _ (hX.ext hD)) ?_
 rintro _ wz13 ⟨rfl,hz13⟩
 replace hD:=hD.ext hz13
 refine⟨fun _=>hD,?_⟩
 refine WD.call 6 O (by kernel_rfl) O O O (F.call (vs:=[_,_,_]) Tryz.call133 O) (zcA _ _ _ _ hi0 hi1) ?_
 rintro _ wz14 ⟨rfl,hz14⟩
 replace hD:=hD.ext hz14
 refine⟨fun _=>hD,?_⟩
 refine Ds [7] (by kernel_rfl) O (G.done (by kernel_rfl) ?_ _)
 obtain⟨hE,hks,hvv,hB_b2,hB_b3,hX⟩:=Tr6 hD hE hks hvv hB_b2 hB_b3 hX
 refine Gs 2 O (zls tr90 O ⟨_,rfl,by rw[hve,kw,zp3 c0,zp3 c24,zp3 c6,zp3 c7,zp3 c23,zp3 c25,hl0,hl1],hE⟩)
theorem zbj {vs:List Vr} (hg:∀ v ∈ vs,yz (v.low,v.high)) {vals:List Int} (hV:InV vs vals) (t:Tm) (hf:zu vs false t=true) (hr:(rng vs t).isSome=true) (hsz:t.nodes<=1000000) (cs:List Value) (D Dv Dl:Nat->Prop) (w:World) (vv lv:Value) (hvs:SlR 5 RVr Dv w vv vs) (hvv:SlR 1 yc Dl w lv vals) (ht:RTm D w t cs) :
  Calls Tryz.prog 45 #[vv,lv,.agg cs.toArray] w (Ret fun r w'=>r=.tuple #[.int .i64 (qp vals t),.int .i64 0]/\Ext w w'):=by
 have hln:=hV.len
 have h1t:=ht.one
 obtain⟨kv,rfl,hks⟩:=ht.get
 obtain⟨a3,c3,rfl⟩:=hks.form
 obtain⟨av,cv,rfl⟩:=hvs.form
 obtain⟨al,cl,rfl⟩:=hvv.form
 have hmx:=hvs.max
 have hE:=Keep.refl (fun _=>False) w
 refine zn3 Tryz.func45 O Tryz.ntmps45 O (Gs 2 O (zlY O O (M.box O O) ?_))
 rintro _ w_b ⟨b,rfl,hg_b,hs_b,hB_b,hk_b⟩
 have hge_b:_<=b:=zoZ hE.size (zri hg_b.symm)
 obtain⟨hE,hks,hvs,hvv⟩:=Tr4 hk_b hE hks hvs hvv
 refine Gs 13 O (G.sp 17 O (fun hne=>?_) (fun hne=>?_))
 . exact absurd hne (by omega)
 refine Gs 1 O (zmX O tg70 ts70 hB_b.cells O (G.call O Tryz.call87 (km vs false _ Dv t _ D _ hvs (RTm.put hks)) ?_))
 rintro _ wz1 ⟨rfl,hz1⟩
 obtain⟨hE,hks,hvs,hvv,hB_b⟩:=Tr5 hz1 hE hks hvs hvv hB_b
 rw[hf]
 refine zmR O O (zms O (by first | exact za | rfl)) (Gs 3 O (G.ff O (rfl) (Gs 11 O (G.loop (σ:=Nat) (fun i=>[(0,.slice av vs.length cv),(1,.slice al vals.length cl),(5,.pointer (some ⟨b,0,none⟩)),(23,.slice av vs.length cv),(24,.int .i64 vs.length),(25,.int .i64 i)]) (fun i=>fun w'=>i<=vs.length/\Ext wz1 w') (fun i=>vs.length - i) (0) (Sub.of O) (⟨zp8 _,Keep.refl _ _⟩) ?_))))
 rintro i w2 ⟨hi,hL1⟩
 obtain⟨hE,hks,hvs,hvv,hB_b⟩:=Tr5 hL1 hE hks hvs hvv hB_b
 refine Gs 6 O (zlc O (fun hlt=>?_) (fun hge=>?_))
 .
  obtain⟨x,he_x,hm_x⟩:=gE_ vs (i) (by omega)
  obtain⟨b_x,o_x,c_x,ha_x,_,hc_x,hR_x⟩:=hvs.at he_x
  have h1_x:=RVr.one hR_x
  obtain rfl:=hR_x
  have hlt_x:b_x<_:=zoV _ _ (hc_x 0 _ rfl)
  have hgx:=hg x hm_x
  have hbb:zar x.low x.high=true:=by unfold yz at hgx;unfold zar;exact zp5 ⟨hgx.2.1,hgx.1,hgx.2.2⟩
  have hin:=hV.at_ i x he_x
  obtain⟨bx,ox,cx,hax,_,hcx,hrx⟩:=hvv.at (zbT (l:=vals) (i:=i) (by omega))
  obtain rfl:=hrx
  refine Gs 7 O (zmR O O (zlO tR22 ts142 O O ha_x (by omega)) (zmX O tg142 ts142 hc_x O (zlY O O (M.alloc (cs:=_) tz142 O) ?_)))
  rintro _ wa2 ⟨c,rfl,hg_c,hs_c,hB_c,hk_c⟩
  refine Gs 1 O (zm3 O (zm4 ts142 O O O O h1_x hB_c (by simp)) ?_)
  rintro w_c ⟨_,hB_c,hkk_c⟩
  replace hk_c:=hk_c.trans hkk_c (fun q hq h=>by have h:q=c:=h;omega)
  have hn_b_c:b ≠ c:=by have:=hB_b.lt;omega
  have hge_c:_<=c:=zoZ hE.size (zri hg_c.symm)
  obtain⟨hE,hks,hvs,hvv,hB_b,hL1,hc_x⟩:=Tr7 hk_c hE hks hvs hvv hB_b hL1 hc_x
  replace hcx:=Tr1 hk_c hcx
  refine Gs 3 O (Dw (fun q=>Ext w_c q) [] (fun wd3 hD _=>?_))
  refine Ds [0] (by kernel_rfl) O (WD.take 1 O (by kernel_rfl) O O O hD (fun w1 hw1=>R.load tg3 O ((hw1.blk hB_c (fun h=>h)).cells 2 _ O)) (Ds [2] (by kernel_rfl) O (WD.take 3 O (by kernel_rfl) O O O hD (fun w1 hw1=>R.load tg3 O ((hw1.blk hB_c (fun h=>h)).cells 3 _ O)) (WD.call 4 O (by kernel_rfl) O O O (F.call (vs:=[_,_]) Tryz.call88 O) (qe x.low x.high _) ?_))))
  rintro _ wz4 ⟨rfl,hz4⟩
  replace hD:=hD.ext hz4
  refine⟨fun _=>hD,?_⟩
  refine zmf 5 O (by kernel_rfl) O O O (fun w1=>zms O (by first | exact za | rfl)) (Ds [6] (by kernel_rfl) O (WD.sb 36 O (fun n3=>?_) (fun n3=>?_)))
  . rw[hbb]at n3;cases n3
  refine Ds [7,8] (by kernel_rfl) O (zmH 9 O (by kernel_rfl) O O hD (.inl ⟨fun a ha=>yZ ha O O O rfl,fun w1 hw1=>zlO tR27 ts3 O O hax (by omega)⟩) (zmH 10 O (by kernel_rfl) O O hD (.inl ⟨fun a ha=>yZ ha O O O rfl,fun w1 hw1=>R.load tg3 O (hw1.cells hcx (fun h=>h) 0 _ O)⟩) (Ds [11] (by kernel_rfl) O (zmH 12 O (by kernel_rfl) O O hD (.inl ⟨fun a ha=>yZ ha O O O rfl,fun w1 hw1=>R.load tg3 O ((hw1.blk hB_c (fun h=>h)).cells 2 _ O)⟩) (Ds [13,14,15] (by kernel_rfl) O ?_)))))
  refine WD.sp 45 O (fun n4=>?_) (fun n4=>?_)
  . exact absurd n4 (by omega)
  refine Ds [16,17] (by kernel_rfl) O (zmH 18 O (by kernel_rfl) O O hD (.inl ⟨fun a ha=>yZ ha O O O rfl,fun w1 hw1=>zlO tR27 ts3 O O hax (by omega)⟩) (zmH 19 O (by kernel_rfl) O O hD (.inl ⟨fun a ha=>yZ ha O O O rfl,fun w1 hw1=>R.load tg3 O (hw1.cells hcx (fun h=>h) 0 _ O)⟩) (Ds [20] (by kernel_rfl) O (zmH 21 O (by kernel_rfl) O O hD (.inl ⟨fun a ha=>yZ ha O O O rfl,fun w1 hw1=>R.load tg3 O ((hw1.blk hB_c (fun h=>h)).cells 3 _ O)⟩) (Ds [22,23] (by kernel_rfl) O ?_)))))
  refine G.done (by kernel_rfl) ?_ _
  obtain⟨hE,hks,hvs,hvv,hB_b,hL1,hc_x⟩:=Tr7 hD hE hks hvs hvv hB_b hL1 hc_x
  obtain⟨hcx,hB_c⟩:=Tr2 hD hcx hB_c
  refine Gs 1 O (zlc O (fun n5=>?_) (fun n5=>?_))
  . exact absurd n5 (by omega)
  refine Ga 7 O (by omega) (G.back (i+1) (Sub.of O) (⟨by omega,hL1⟩) (by first | omega | (dsimp only;omega)))
 refine Gs 9 O (zmX O tg70 ts70 hB_b.cells O (G.call O Tryz.call89 (zdb vs false _ Dv hg t _ D _ hvs (RTm.put hks) hf hsz) ?_))
 rintro _ wz5 ⟨⟨a,b',rfl,hab⟩,hz5⟩
 obtain⟨hE,hks,hvs,hvv,hB_b,hL1⟩:=Tr6 hz5 hE hks hvs hvv hB_b hL1
 rw[hr]
 refine Gs 3 O (zlY O O (M.alloc (cs:=_) tz159 O) ?_)
 rintro _ wa6 ⟨d,rfl,hg_d,hs_d,hB_d,hk_d⟩
 refine zm3 O (zm4 ts159 O O O O (by simp[Value.oneCell']) hB_d (by simp)) ?_
 rintro w_d ⟨_,hB_d,hkk_d⟩
 replace hk_d:=hk_d.trans hkk_d (fun q hq h=>by have h:q=d:=h;omega)
 have hn_b_d:b ≠ d:=by have:=hB_b.lt;omega
 have hge_d:_<=d:=zoZ hE.size (zri hg_d.symm)
 obtain⟨hE,hks,hvs,hvv,hB_b,hL1⟩:=Tr6 hk_d hE hks hvs hvv hB_b hL1
 refine Gs 6 O (zmR O O (zms O (by first | exact za | rfl)) (Gs 2 O (G.ff O (rfl) (Gs 5 O (zmX O tg70 ts70 hB_b.cells O (G.call O Tryz.call90 (zi3 hg hV t hf hr _ D Dl _ _ hvv (RTm.put hks)) ?_))))))
 rintro _ wz7 ⟨rfl,hz7⟩
 obtain⟨hE,hks,hvs,hvv,hB_b,hL1,hB_d⟩:=Tr7 hz7 hE hks hvs hvv hB_b hL1 hB_d
 refine Gs 5 O (zlv Tryz.results45 O O ⟨_,rfl,rfl,hE⟩)
def yB (time:Int) (s:Int × Bool) (b:Int):Int × Bool:=if time<=b/\(s.2=false\/b<s.1) then (b,true) else s
def jJ (bounds:List Int) (time:Int):Int:=(bounds.foldl (yB time) (time,false)).1
theorem zfi {α β:Type} (f:β->α->β) (b:β) {l:List α} {i:Nat} {x:α} (h:l[i]?=some x):(l.take (i+1)).foldl f b=f ((l.take i).foldl f b) x:=by rw[zd h,zqn];rfl
theorem zbI (l:List Int) (time:Int) (v:Value) (D:Nat->Prop) (w:World) (hl:SlR 1 yc D w v l):Calls Tryz.prog 134 #[v,.int .i64 time] w (Ret fun r w'=>r=.int .i64 (jJ l time)/\Ext w w'):=by
 have hmx:=hl.max
 obtain⟨al,cl,rfl⟩:=hl.form
 refine zn2 Tryz.func134 O Tryz.ntmps134 O (Gs 21 O (G.loop (σ:=Nat × Int × Bool) (fun⟨i,b,fd⟩=>[(1,.int .i64 time),(5,.int .i64 b),(6,.bool fd),(10,.slice al l.length cl),(11,.int .i64 l.length),(12,.int .i64 i)]) (fun⟨i,b,fd⟩=>fun w'=>i<=l.length/\(b,fd)=(l.take i).foldl (yB time) (time,false)/\Ext w w') (fun⟨i,b,fd⟩=>l.length - i) ((0,time,false)) (Sub.of O) (⟨zp8 _,rfl,Keep.refl _ _⟩) ?_))
 rintro⟨i,b,fd⟩ w1 ⟨hi,hs,hL1⟩
 show G _ _ _ _ _ [(1,.int .i64 time),(5,.int .i64 b),(6,.bool fd),(10,.slice al l.length cl),(11,.int .i64 l.length),(12,.int .i64 i)] _
 replace hl:=Tr1 hL1 hl
 refine Gs 6 O (zlc O (fun hlt=>?_) (fun hge=>?_))
 .
  obtain⟨x,he_x⟩:∃ x,l[i]?=some x:=⟨_,zoT (by omega)⟩
  obtain⟨bx,ox,cx,hax,_,hcx,rfl⟩:=hl.at he_x
  have hst:=zfi (yB time) (time,false) he_x
  rw[<- hs,show yB time (b,fd) x=if time<=x/\(fd=false\/x<b) then (x,true) else (b,fd) from rfl]at hst
  refine Gs 6 O (zmR O O (zlO tR27 ts3 O O hax (by omega)) (zmV O tg3 (hcx 0 _ O) (Gs 9 O (G.sp 19 O (fun h1=>?_) (fun h1=>?_)))))
  .
   refine Gs 1 O (zmR O O (zms O (by first | exact za | rfl)) (Gs 1 O (zmP 22 O (fun h2=>?_) (fun h2=>?_))))
   .
    have h2':fd=false:=by simpa using h2
    refine Ga 19 O (by omega) (G.back ((i+1,x,true)) (Sub.cons O (Sub.cons O (Sub.cons (by first | rfl | (show some (Value.bool true)=some (Value.bool _);simp[*])) (Sub.of O)))) (⟨by omega,by rw[hst,zp4 ⟨h1,.inl h2'⟩],hL1⟩) (by first | omega | (dsimp only;omega)))
   have h2':fd=true:=by simpa using h2
   refine Gs 7 O (zlc O (fun h3=>?_) (fun h3=>?_))
   . refine Ga 11 O (by omega) (G.back ((i+1,x,true)) (Sub.cons O (Sub.cons O (Sub.cons (by first | rfl | (show some (Value.bool true)=some (Value.bool _);simp[*])) (Sub.of O)))) (⟨by omega,by rw[hst,zp4 ⟨h1,.inr h3⟩],hL1⟩) (by first | omega | (dsimp only;omega)))
   refine Ga 7 O (by omega) (G.back ((i+1,b,fd)) (Sub.of O) (⟨by omega,by rw[hst,zp3 (fun h=>h.2.elim (fun h4=>by rw[h2']at h4;cases h4) h3)],hL1⟩) (by first | omega | (dsimp only;omega)))
  refine Ga 18 O (by omega) (G.back ((i+1,b,fd)) (Sub.of O) (⟨by omega,by rw[hst,zp3 (fun h=>h1 h.1)],hL1⟩) (by first | omega | (dsimp only;omega)))
 have:i=l.length:=by omega
 subst this
 rw[zoY]at hs
 refine Gs 12 O (zls Tryz.results134 O ⟨_,rfl,by rw[jJ,<- hs],hL1⟩)
end Go.Proofs.YtckdhgbepmpgiaaGreat
namespace Go.GL
def xy (r:Ins) (k:Int):List Int:=if k=1 then r.secret else if k=2 then r.pub else r.random
structure StS where
 vals:List Int
 a:Nat
 b:Nat
 c:Nat
def zae (s:StS) (k:Int):Nat:=if k=1 then s.a else if k=2 then s.b else s.c
def zbJ (s:StS) (k:Int) (n:Int):StS:=if k=1 then ⟨s.vals++[n],s.a+1,s.b,s.c⟩ else if k=2 then ⟨s.vals++[n],s.a,s.b+1,s.c⟩ else ⟨s.vals++[n],s.a,s.b,s.c+1⟩
def zw (r:Ins) (o:Option StS) (v:Vr):Option StS:=o.bind fun s=>if v.kind=0 then some { s with vals:=s.vals++[v.init] } else ((xy r v.kind)[zae s v.kind]?).map fun n=>zbJ s v.kind n
def zaf (vs:List Vr) (r:Ins):Option StS:=vs.foldl (zw r) (some ⟨[],0,0,0⟩)
def inB (p:Vr × Int):Bool:=decide (p.1.low<=p.2)&&decide (p.2<=p.1.high)
def zau (vs:List Vr) (r:Ins) (s:StS):Int:=if s.a ≠ r.secret.length\/s.b ≠ r.pub.length\/s.c ≠ r.random.length then 1 else if (vs.zip s.vals).all inB then 0 else 3
def zB (vs:List Vr) (r:Ins):Int:=match zaf vs r with
 | none=>1
 | some s=>zau vs r s
def zG (vs:List Vr) (r:Ins):List Int:=match zaf vs r with
 | none=>[]
 | some s=>s.vals
theorem zfj (r:Ins) (vs:List Vr):vs.foldl (zw r) none=none:=by
 induction vs with
 | nil=>rfl
 | cons x t ih=>rw[zqo];exact ih
theorem ze9 {vs:List Vr} {r:Ins} {i:Nat} (h:(vs.take i).foldl (zw r) (some ⟨[],0,0,0⟩)=none):zaf vs r=none:=by
 have:=zr5 i vs
 rw[zaf,<- this,zqn,h,zfj]
theorem zbk {vs:List Vr} {r:Ins} {i:Nat} {x:Vr} (h:vs[i]?=some x) {s:StS} (hs:(vs.take i).foldl (zw r) (some ⟨[],0,0,0⟩)=some s):(vs.take (i+1)).foldl (zw r) (some ⟨[],0,0,0⟩)=if x.kind=0 then some { s with vals:=s.vals++[x.init] } else ((xy r x.kind)[zae s x.kind]?).map fun n=>zbJ s x.kind n:=by
 rw[zd h,zqn,hs];rfl
theorem zfk (s:StS) (k n:Int):(zbJ s k n).vals=s.vals++[n]:=by
 unfold zbJ
 (repeat' split);all_goals rfl
theorem zbV {vs:List Vr} {r:Ins}:∀ (i:Nat) (s:StS),i<=vs.length->(vs.take i).foldl (zw r) (some ⟨[],0,0,0⟩)=some s->s.vals.length=i/\s.a<=i/\s.b<=i/\s.c<=i:=by
 intro i
 induction i with
 | zero=>intro s _ h;simp at h;subst h;simp
 | succ i ih =>
  intro s hi h
  obtain⟨x,hx⟩:∃ x,vs[i]?=some x:=⟨_,zoT (by omega)⟩
  cases h1:(vs.take i).foldl (zw r) (some ⟨[],0,0,0⟩) with
  | none=>rw[zd hx,zqn,h1]at h;cases h
  | some s0 =>
   obtain⟨e1,e2,e3,e4⟩:=ih s0 (by omega) h1
   rw[zbk hx h1]at h
   split at h
   . cases h;simp;omega
   obtain⟨n,_,rfl⟩:=zrv.1 h
   unfold zbJ
   (repeat' split);all_goals (simp;omega)
theorem zdk (s:StS) {k k':Int} (hk:1<=k/\k<=3) (hk':1<=k'/\k'<=3) (n:Int):zae (zbJ s k n) k'=if k'=k then zae s k'+1 else zae s k':=by
 have h1:k=1\/k=2\/k=3:=by omega
 have h2:k'=1\/k'=2\/k'=3:=by omega
 rcases h1 with rfl | rfl | rfl<;>rcases h2 with rfl | rfl | rfl<;>simp[zbJ,zae]
theorem zgq {vs:List Vr} {r:Ins} (hkd:∀ v ∈ vs,0<=v.kind/\v.kind<=3):∀ (i:Nat) (s:StS),i<=vs.length->(vs.take i).foldl (zw r) (some ⟨[],0,0,0⟩)=some s->∀ k,1<=k->k<=3->zae s k<=(xy r k).length:=by
 intro i
 induction i with
 | zero=>intro s _ h k _ _;simp at h;subst h;unfold zae;(repeat' split);all_goals simp
 | succ i ih =>
  intro s hi h k hk1 hk3
  obtain⟨x,hx⟩:∃ x,vs[i]?=some x:=⟨_,zoT (by omega)⟩
  have hkx:=hkd x (zoU hx)
  cases h1:(vs.take i).foldl (zw r) (some ⟨[],0,0,0⟩) with
  | none=>rw[zd hx,zqn,h1]at h;cases h
  | some s0 =>
   have e1:=ih s0 (by omega) h1 k hk1 hk3
   rw[zbk hx h1]at h
   split at h
   . cases h;exact e1
   obtain⟨n,hn,rfl⟩:=zrv.1 h
   have:=(zp7.1 hn).1
   rw[zdk s0 (k:=x.kind) (by omega) ⟨hk1,hk3⟩]
   split
   . rename_i h2;subst h2;omega
   exact e1
theorem zi4 {vs:List Vr} {i:Nat} {x:Vr} (hx:vs[i]?=some x) (vals:List Int) (hv:vals.length=i) (n:Int):((vs.take (i+1)).zip (vals++[n])).all inB=(((vs.take i).zip vals).all inB&&inB (x,n)):=by
 have hi:=(zp7.1 hx).1
 rw[zd hx,List.zip_append (by rw[zpn];omega),List.all_append];simp
structure Sg where
 vals:List Int
 outs:List Int
 time:Int
end Go.GL
namespace Go.Proofs.YtckdhgbepmpgiaaGreat
open Go.GL
abbrev zb:Int->Value:=.int .i64
structure WkV where
 (W m:Nat) (v1 v2 v3 sv vv hv ov:Value) (rm:List (Int × Value))
def zjb (vs:List Vr) (vals:List Int) (v n:Int):List Int:=match vs[v.toNat]? with
 | some x=>vals.set v.toNat (yY n x.low x.high)
 | none=>vals
theorem InV.set {vs:List Vr} {vals:List Int} (hg:∀ v ∈ vs,yz (v.low,v.high)) (h:InV vs vals) (v n:Int):InV vs (zjb vs vals v n):=by
 unfold zjb
 cases hx:vs[v.toNat]? with
 | none=>exact h
 | some x =>
  have hgx:=hg x (zoU hx)
  unfold yz at hgx
  have hc:=qY n (show x.low<=x.high from hgx.2.1)
  refine⟨by simp[h.len],fun i y hy=>?_⟩
  simp only[lki,List.getElem?_set]
  by_cases hi:v.toNat=i
  .
   subst hi
   rw[hx]at hy;cases hy
   have:=(zp7.1 hx).1
   rw[zp4 rfl,zp4 (by rw[h.len];exact this)]
   exact hc
  rw[zp3 hi]
  exact h.at_ i y hy
def xU (f:Fl) (hs:List Int) (s:St) (σ:Sg):Sg :=
 if s.act=0 then { σ with vals:=zjb f.vars σ.vals s.var (qp σ.vals s.term),time:=σ.time+s.cost }
 else if s.act=1 then { σ with outs:=σ.outs++[qp σ.vals s.term],time:=σ.time+s.cost }
 else if s.act=5 then { σ with vals:=zjb f.vars σ.vals s.var (lki hs s.n.toNat),time:=σ.time+s.cost }
 else if s.act=6 then { σ with time:=jJ s.bounds (σ.time+s.cost) }
 else { σ with time:=σ.time+s.cost }
structure StepOk (f:Fl) (s:St):Prop where
 formed:zu f.vars false s.term=true
 ranged:(rng f.vars s.term).isSome=true
 small:s.term.nodes<=1000000
 cost:0<=s.cost/\s.cost<=67108864
 var:s.act=0\/s.act=5->0<=s.var/\s.var<f.vars.length
 num:s.act=5->0<=s.n/\s.n<f.hatches.length
def zcO (rd:Int->Int) (k n:Int):Int->Int:=fun j=>if j=k then n else rd j
def yS (f:Fl) (hs:List Int) (x:Nd) (s:St) (σ:Sg) (rd:Int->Int):Int × Sg × (Int->Int) :=
 if x.kind=0 then (x.next,σ,rd)
 else if x.kind=2 then (x.next,xU f hs s σ,rd)
 else if x.kind=4 then (x.next,σ,zcO rd x.at_ 0)
 else if x.kind=5/\rd x.at_=s.n then (x.other,σ,rd)
 else (if qp σ.vals s.term ≠ 0 then x.next else x.other,{ σ with time:=σ.time+s.cost },if x.kind=5 then zcO rd x.at_ (rd x.at_+1) else rd)
def zfl (body:Sg->Sg) (cost:Int) (t:Tm):Nat->Sg->Sg
 | 0,σ=>σ
 | k+1,σ=>if qp σ.vals t=0 then { σ with time:=σ.time+cost } else zfl body cost t k (body { σ with time:=σ.time+cost })
section
variable (f:Fl) (hs:List Int)
mutual
def exS:St->Sg->Sg
 | .mk a c v n t th el b,σ =>
  if a=3 then (if qp σ.vals t ≠ 0 then exL th { σ with time:=σ.time+c } else exL el { σ with time:=σ.time+c })
  else if a=4 then zfl (fun σ=>exL th σ) c t n.toNat σ
  else xU f hs (.mk a c v n t th el b) σ
def exL:List St->Sg->Sg
 | [],σ=>σ
 | s::r,σ=>exL r (exS s σ)
end
theorem zkm (s:St) (σ:Sg):exS f hs s σ=if s.act=3 then (if qp σ.vals s.term ≠ 0 then exL f hs s.thn { σ with time:=σ.time+s.cost } else exL f hs s.els { σ with time:=σ.time+s.cost })
  else if s.act=4 then zfl (exL f hs s.thn) s.cost s.term s.n.toNat σ else xU f hs s σ:=by cases s;rw[exS];rfl
structure Mc where
 at_:Int
 σ:Sg
 rd:Int->Int
def zjB:St:=.mk 0 0 0 0 (.mk 0 0 []) [] [] []
def xk (g:List Nd) (k:Int):Nd:=g[k.toNat]?.getD ⟨1,-1,-1,-1⟩
def zO (f:Fl) (k:Int):St:=(preL f.body)[k.toNat]?.getD zjB
def jt (g:List Nd) (m:Mc):Mc :=
 ⟨(yS f hs (xk g m.at_) (zO f (xk g m.at_).at_) m.σ m.rd).1,(yS f hs (xk g m.at_) (zO f (xk g m.at_).at_) m.σ m.rd).2.1,(yS f hs (xk g m.at_) (zO f (xk g m.at_).at_) m.σ m.rd).2.2⟩
def zbK (g:List Nd):Nat->Mc->Mc
 | 0,m=>m
 | k+1,m=>zbK g k (jt f hs g m)
theorem kB (g:List Nd):∀ (a b:Nat) (m:Mc),zbK f hs g (a+b) m=zbK f hs g b (zbK f hs g a m)
 | 0,b,m=>by rw[zrq];rfl
 | a+1,b,m=>by rw[show a+1+b=(a+b)+1 by omega];exact kB g a b (jt f hs g m)
theorem zbW (g:List Nd) (k:Nat) (m:Mc):zbK f hs g (k+1) m=jt f hs g (zbK f hs g k m):=by rw[kB];rfl
def Goes (g:List Nd) (lo hi:Int) (k:Nat) (m m':Mc):Prop:=zbK f hs g k m=m'/\∀ j,j<k->lo<=(zbK f hs g j m).at_/\(zbK f hs g j m).at_<hi
end
section
variable {f:Fl} {hs:List Int} {g:List Nd} {lo hi:Int} {k k':Nat} {m m' m'':Mc}
theorem Goes.refl (m:Mc):Goes f hs g lo hi 0 m m:=⟨rfl,fun _ h=>absurd h (zrn _)⟩
theorem Goes.trans (h:Goes f hs g lo hi k m m') (h':Goes f hs g lo hi k' m' m''):Goes f hs g lo hi (k+k') m m'':=by
 refine⟨by rw[kB,h.1,h'.1],fun j hj=>?_⟩
 by_cases hjk:j<k
 . exact h.2 j hjk
 obtain⟨i,rfl⟩:∃ i,j=k+i:=⟨j - k,by omega⟩
 rw[kB,h.1]
 exact h'.2 i (by omega)
theorem Goes.widen {lo' hi':Int} (h:Goes f hs g lo hi k m m') (h1:lo'<=lo) (h2:hi<=hi'):Goes f hs g lo' hi' k m m':=⟨h.1,fun j hj=>by have:=h.2 j hj;omega⟩
theorem Goes.one (h:jt f hs g m=m') (h1:lo<=m.at_/\m.at_<hi):Goes f hs g lo hi 1 m m':=by
 refine⟨h,fun j hj=>?_⟩
 obtain rfl:j=0:=by omega
 exact h1
end
mutual
def nbS:St->Nat
 | .mk a _ _ n _ th el _=>if a=3 then 1+max (nbL th) (nbL el) else if a=4 then 2+n.toNat*(1+nbL th) else 1
def nbL:List St->Nat
 | []=>0
 | s::r=>nbS s+nbL r
end
theorem zjc (s:St):nbS s=if s.act=3 then 1+max (nbL s.thn) (nbL s.els) else if s.act=4 then 2+s.n.toNat*(1+nbL s.thn) else 1:=by cases s;rw[nbS];rfl
theorem zkn {vs:List Vr} {nh:Nat} (l:List St):∀ top,stepsCodeN vs nh l top=0->(nbL l:Int)<=2*(bds l).1:=by
 induction l using zmB with
 | h l ih =>
 intro top h
 have hm:=xu l top h
 have key:∀ r:List St,(∀ x ∈ r,x ∈ l)->(nbL r:Int)<=2*(bds r).1:=by
  intro r
  induction r with
  | nil=>intro _;simp[nbL,bds]
  | cons x r ihr =>
   intro hx
   have h1:=ihr (fun y hy=>hx y (zoW _ hy))
   obtain⟨last,h2⟩:=hm x (hx x (zoX ..))
   obtain⟨h3,_,_,h4,h5⟩:=qf h2
   have h6:=(ih x (hx x (zoX ..))).1 _ h4
   have h7:=(ih x (hx x (zoX ..))).2 _ h5
   have b4:=yQ x.thn _ h4
   have b5:=yQ x.els _ h5
   rw[nbL,bds]
   have:(nbS x:Int)<=2*(yl x).1:=by
    rw[zjc,zV]
    by_cases a4:x.act=4
    .
     rw[zp3 (show ¬ x.act=3 by omega),zp4 a4,zp4 a4]
     obtain⟨n,hn⟩:=zpP (h3.rep a4).1
     rw[hn,zpf]
     have:((n*(1+nbL x.thn):Nat):Int)<=(n:Int)*(2*(1+(bds x.thn).1)):=by
      rw[Int.natCast_mul]
      exact zpV (by omega) (by omega)
     have e:(n:Int)*(2*(1+(bds x.thn).1))=2*((n:Int)*(1+(bds x.thn).1)):=by rw[Int.mul_left_comm]
     simp only
     omega
    rw[zp3 a4,zp3 a4]
    by_cases a3:x.act=3
    . rw[zp4 a3];simp only;omega
    rw[zp3 a3];simp only;omega
   simp only
   omega
 exact key l (fun x h=>h)
def CtxG (g:List Nd) (n:Nat) (ns:List Nd):Prop:=∀ (i:Nat) x,ns[i]?=some x->g[n+i]?=some x
def CtxP (P:List St) (a:Nat) (ps:List St):Prop:=∀ (i:Nat) x,ps[i]?=some x->P[a+i]?=some x
theorem CtxG.left {g:List Nd} {n:Nat} {a b:List Nd} (h:CtxG g n (a++b)):CtxG g n a:=fun i x hx=>h i x (by rw[zpj (zp7.1 hx).1];exact hx)
theorem CtxG.right {g:List Nd} {n m:Nat} {a b:List Nd} (h:CtxG g n (a++b)) (hm:m=n+a.length):CtxG g m b:=fun i x hx=>by
 rw[hm,zrb];exact h _ x (by rw[zpk (by omega)];simpa using hx)
theorem CtxG.head {g:List Nd} {n:Nat} {x:Nd} {b:List Nd} (h:CtxG g n (x::b)):g[n]?=some x:=h 0 x rfl
theorem CtxG.tail {g:List Nd} {n:Nat} {x:Nd} {b:List Nd} (h:CtxG g n (x::b)):CtxG g (n+1) b:=fun i y hy=>by
 rw[zrb,zrc 1];exact h (i+1) y (by simpa using hy)
theorem CtxP.left {P:List St} {n:Nat} {a b:List St} (h:CtxP P n (a++b)):CtxP P n a:=fun i x hx=>h i x (by rw[zpj (zp7.1 hx).1];exact hx)
theorem CtxP.right {P:List St} {n m:Nat} {a b:List St} (h:CtxP P n (a++b)) (hm:m=n+a.length):CtxP P m b:=fun i x hx=>by
 rw[hm,zrb];exact h _ x (by rw[zpk (by omega)];simpa using hx)
theorem CtxP.head {P:List St} {n:Nat} {x:St} {b:List St} (h:CtxP P n (x::b)):P[n]?=some x:=h 0 x rfl
theorem CtxP.tail {P:List St} {n:Nat} {x:St} {b:List St} (h:CtxP P n (x::b)):CtxP P (n+1) b:=fun i y hy=>by
 rw[zrb,zrc 1];exact h (i+1) y (by simpa using hy)
theorem zbl {g:List Nd} {n:Nat} {x:Nd} (h:g[n]?=some x):xk g n=x:=by unfold xk;rw[zpf,h];rfl
theorem zgr {f:Fl} {a:Nat} {s:St} (h:(preL f.body)[a]?=some s):zO f a=s:=by unfold zO;rw[zpf,h];rfl
def SameR (a n:Nat) (rd rd':Int->Int):Prop:=∀ k:Int,¬ ((a:Int)<=k/\k<(a+n:Nat))->rd' k=rd k
theorem SameR.refl (a n:Nat) (rd:Int->Int):SameR a n rd rd:=fun _ _=>rfl
theorem SameR.trans {a n:Nat} {r1 r2 r3:Int->Int} (h:SameR a n r1 r2) (h':SameR a n r2 r3):SameR a n r1 r3:=fun k hk=>(h' k hk).trans (h k hk)
theorem SameR.widen {a n b m:Nat} {r1 r2:Int->Int} (h:SameR a n r1 r2) (h1:b<=a) (h2:a+n<=b+m):SameR b m r1 r2:=fun k hk=>h k (fun h3=>hk ⟨by omega,by omega⟩)
theorem zo1 {a n:Nat} {rd:Int->Int} {k v:Int} (h:(a:Int)<=k/\k<(a+n:Nat)):SameR a n rd (zcO rd k v):=fun j hj=>by
 unfold zcO;rw[zp3 (fun e=>hj (by rw[e];exact h))]
section
variable {f:Fl} {hs:List Int} {g:List Nd}
def Sim (f:Fl) (hs:List Int) (g:List Nd) (l:List St):Prop:=∀ (a n e:Nat),CtxG g n (layL l a n e)->CtxP (preL f.body) a (preL l)->∀ (σ:Sg) (rd:Int->Int),∃ k rd',Goes f hs g n (n+widL l:Nat) k ⟨((if l.isEmpty then e else n:Nat):Int),σ,rd⟩ ⟨(e:Int),exL f hs l σ,rd'⟩/\k<=nbL l/\SameR a (ssize l) rd rd'
theorem zjC (s:St) (hp:s.plainB=true) (hn:s.act=4->0<=s.n) (h1:Sim f hs g s.thn) (h2:Sim f hs g s.els):∀ (a n e:Nat),CtxG g n (s.lay a n e)->CtxP (preL f.body) a s.pre->∀ (σ:Sg) (rd:Int->Int),∃ k rd',Goes f hs g n (n+s.wid:Nat) k ⟨(n:Int),σ,rd⟩ ⟨(e:Int),exS f hs s σ,rd'⟩/\k<=nbS s/\SameR a s.size rd rd':=by
 intro a n e hG hP σ rd
 have hw:=s.wid_eq
 have hz:=s.size_eq
 have hp':=hp
 rw[s.plainB_eq,zpv,zpv]at hp'
 rw[s.lay_eq]at hG
 rw[s.pre_eq]at hP
 have hst:zO f a=s:=zgr hP.head
 rw[zjc,zkm]
 by_cases a3:s.act=3
 .
  rw[zp4 a3]at hG
  rw[zp3 (show ¬ s.act=4 by omega)]at hw
  rw[zp4 a3,zp4 a3]
  have hnd:=zbl hG.head
  have hl1:=zS s.thn hp'.1.2 (a+1) (n+1) e
  have hpl:=yb s.thn
  obtain⟨k1,r1,g1,b1,s1⟩:=h1 (a+1) (n+1) e hG.tail.left hP.tail.left { σ with time:=σ.time+s.cost } rd
  obtain⟨k2,r2,g2,b2,s2⟩:=h2 (a+1+ssize s.thn) (n+1+widL s.thn) e (hG.tail.right (by omega)) (hP.tail.right (by omega)) { σ with time:=σ.time+s.cost } rd
  by_cases hv:qp σ.vals s.term ≠ 0
  .
   rw[zp4 hv]
   refine⟨1+k1,r1,(Goes.one (m':=⟨((if s.thn.isEmpty then e else n+1:Nat):Int),{ σ with time:=σ.time+s.cost },rd⟩) ?_ (by dsimp only;omega)).trans (g1.widen (by omega) (by omega)),by omega,s1.widen (by omega) (by omega)⟩
   unfold jt
   rw[hnd,hst]
   simp[yS,hv,apply_ite (Nat.cast (R:=Int))]
  rw[zp3 hv]
  refine⟨1+k2,r2,(Goes.one (m':=⟨((if s.els.isEmpty then e else n+1+widL s.thn:Nat):Int),{ σ with time:=σ.time+s.cost },rd⟩) ?_ (by dsimp only;omega)).trans (g2.widen (by omega) (by omega)),by omega,s2.widen (by omega) (by omega)⟩
  unfold jt
  rw[hnd,hst]
  simp[yS,hv,apply_ite (Nat.cast (R:=Int))]
 by_cases a4:s.act=4
 .
  rw[zp3 a3,zp4 a4]at hG
  rw[zp4 a4]at hw
  rw[zp3 a3,zp3 a3,zp4 a4,zp4 a4]
  have hnd:=zbl hG.head
  have hnh:=zbl hG.tail.head
  have hG2:CtxG g (n+2) (layL s.thn (a+1) (n+2) (n+1)):=hG.tail.tail
  obtain⟨N,hN⟩:=zpP (hn a4)
  have key:∀ (q:Nat),q<=N->∀ (σ:Sg) (rd:Int->Int),rd a=((N - q:Nat):Int)->∃ k rd',Goes f hs g n (n+s.wid:Nat) k ⟨((n+1:Nat):Int),σ,rd⟩ ⟨(e:Int),zfl (exL f hs s.thn) s.cost s.term q σ,rd'⟩/\k<=1+q*(1+nbL s.thn)/\SameR a s.size rd rd':=by
   intro q
   induction q with
   | zero =>
    intro _ σ rd hrd
    refine⟨1,rd,Goes.one ?_ (by dsimp only;omega),by omega,SameR.refl _ _ _⟩
    unfold jt
    rw[hnh,hst]
    simp[yS,hN,hrd,zfl]
   | succ q ih =>
    intro hq σ rd hrd
    have hne:¬ (rd a=s.n):=by rw[hrd,hN];omega
    rw[zfl]
    by_cases hv:qp σ.vals s.term=0
    .
     rw[zp4 hv]
     refine⟨1,zcO rd a (rd a+1),Goes.one ?_ (by dsimp only;omega),by omega,zo1 (by omega)⟩
     unfold jt
     rw[hnh,hst]
     simp[yS,hne,hv]
    rw[zp3 hv]
    obtain⟨k1,r1,g1,b1,s1⟩:=h1 (a+1) (n+2) (n+1) hG2 hP.tail.left { σ with time:=σ.time+s.cost } (zcO rd a (rd a+1))
    have hr1:r1 a=((N - q:Nat):Int):=by
     rw[s1 a (by omega)];unfold zcO;rw[zp4 rfl,hrd];omega
    obtain⟨k2,r2,g2,b2,s2⟩:=ih (by omega) _ r1 hr1
    refine⟨1+(k1+k2),r2,(Goes.one (m':=⟨((if s.thn.isEmpty then n+1 else n+2:Nat):Int),{ σ with time:=σ.time+s.cost },zcO rd a (rd a+1)⟩) ?_ (by dsimp only;omega)).trans ((g1.widen (by omega) (by omega)).trans g2),?_,(zo1 (by omega)).trans ((s1.widen (by omega) (by omega)).trans s2)⟩
    .
     unfold jt
     rw[hnh,hst]
     simp[yS,hne,hv,apply_ite (Nat.cast (R:=Int))]
    rw[zrp];omega
  rw[hN,zpf]
  obtain⟨k,r',hg,hb,hr⟩:=key N (zpi _) σ (zcO rd a 0) (by unfold zcO;rw[zp4 rfl,zro];rfl)
  refine⟨1+k,r',(Goes.one (m':=⟨((n+1:Nat):Int),σ,zcO rd a 0⟩) ?_ (by dsimp only;omega)).trans hg,by omega,(zo1 (by omega)).trans hr⟩
  unfold jt
  rw[hnd,hst]
  simp[yS]
 rw[zp3 a3,zp3 a4]at hG
 rw[zp3 a4]at hw
 rw[zp3 a3,zp3 a4,zp3 a3,zp3 a4]
 have hnd:=zbl hG.head
 refine⟨1,rd,Goes.one ?_ (by dsimp only;omega),by omega,SameR.refl _ _ _⟩
 unfold jt
 rw[hnd,hst]
 simp[yS]
theorem zi5 (l:List St):plainL l=true->(∀ s ∈ preL l,s.act=4->0<=s.n)->Sim f hs g l:=by
 induction l using zmB with
 | h l ih =>
 intro hp hn
 have key:∀ r:List St,(∀ x ∈ r,x ∈ l)->plainL r=true->(∀ s ∈ preL r,s.act=4->0<=s.n)->Sim f hs g r:=by
  intro r
  induction r with
  | nil =>
   intro _ _ _ a n e _ _ σ rd
   exact⟨0,rd,by rw[exL];exact Goes.refl _,zp8 _,SameR.refl _ _ _⟩
  | cons s r ihr =>
   intro hm hpr hnr a n e hG hP σ rd
   have hms:=hm s (zoX ..)
   have hw2:widL (s::r)=s.wid+widL r:=rfl
   rw[plainL,zpv]at hpr
   have hps:=hpr.1
   have hps':=hps
   rw[s.plainB_eq,zpv,zpv]at hps'
   rw[layL]at hG
   rw[preL]at hP
   have hnr':∀ x ∈ s.pre++preL r,x.act=4->0<=x.n:=hnr
   rw[s.pre_eq]at hnr'
   have H1:=zjC (g:=g) (f:=f) (hs:=hs) s hps (fun h=>hnr' s (by simp) h) ((ih s hms).1 hps'.1.2 (fun x hx=>hnr' x (by simp[hx]))) ((ih s hms).2 hps'.2 (fun x hx=>hnr' x (by simp[hx])))
   have hlen:(s.lay a n (if r.isEmpty then e else n+s.wid)).length=s.wid:=by
    have h1:=zS [s] (by rw[plainL,hps];rfl) a n (if r.isEmpty then e else n+s.wid)
    simpa[layL,widL] using h1
   have hpl:s.pre.length=s.size:=by
    have:=yb [s]
    simpa[preL,ssize] using this
   obtain⟨k1,r1,g1,b1,s1⟩:=H1 a n (if r.isEmpty then e else n+s.wid) hG.left hP.left σ rd
   obtain⟨k2,r2,g2,b2,s2⟩:=ihr (fun y hy=>hm y (zoW _ hy)) hpr.2 (fun x hx=>hnr x (by rw[preL];exact zqE _ hx)) (a+s.size) (n+s.wid) e (hG.right (by omega)) (hP.right (by omega)) (exS f hs s σ) r1
   refine⟨k1+k2,r2,?_,by rw[nbL];omega,(s1.widen (zpi _) (by rw[ssize];omega)).trans (s2.widen (by omega) (by rw[ssize];omega))⟩
   rw[List.isEmpty_cons,zp3 (by decide),exL]
   exact Goes.trans (Goes.widen g1 (by omega) (by omega)) (Goes.widen g2 (by omega) (by omega))
 exact key l (fun x h=>h) hp hn
end
open Go.GL
theorem zgs {vs:List Vr} {nh:Nat} (l:List St):∀ top,stepsCodeN vs nh l top=0->∀ s ∈ preL l,∃ last,zz vs nh s last=0:=by
 induction l using zmB with
 | h l ih =>
 intro top h
 have hm:=xu l top h
 have key:∀ r:List St,(∀ x ∈ r,x ∈ l)->∀ s ∈ preL r,∃ last,zz vs nh s last=0:=by
  intro r
  induction r with
  | nil=>intro _ s hs;simp[preL]at hs
  | cons x r ihr =>
   intro hx s hs
   obtain⟨last,h2⟩:=hm x (hx x (zoX ..))
   obtain⟨_,_,_,h4,h5⟩:=qf h2
   rw[preL,x.pre_eq,zpc,zp9,zpc]at hs
   rcases hs with (rfl | hs | hs) | hs
   . exact⟨last,h2⟩
   . exact(ih x (hx x (zoX ..))).1 _ h4 s hs
   . exact(ih x (hx x (zoX ..))).2 _ h5 s hs
   exact ihr (fun y hy=>hx y (zoW _ hy)) s hs
 exact key l (fun x h=>h)
theorem zdl (l:List St):∀ s ∈ preL l,s.nodes<=snodes l:=by
 induction l using zmB with
 | h l ih =>
 have key:∀ r:List St,(∀ x ∈ r,x ∈ l)->∀ s ∈ preL r,s.nodes<=snodes r:=by
  intro r
  induction r with
  | nil=>intro _ s hs;simp[preL]at hs
  | cons x r ihr =>
   intro hx s hs
   have h1:=(ih x (hx x (zoX ..))).1
   have h2:=(ih x (hx x (zoX ..))).2
   have h3:=x.nodes_eq
   rw[preL,x.pre_eq,zpc,zp9,zpc]at hs
   rw[snodes]
   rcases hs with (rfl | hs | hs) | hs
   . omega
   . have:=h1 s hs;omega
   . have:=h2 s hs;omega
   have:=ihr (fun y hy=>hx y (zoW _ hy)) s hs;omega
 exact key l (fun x h=>h)
theorem zgt {f:Fl} {s:St} {last:Bool} (h:zz f.vars f.hatches.length s last=0) (hn:s.nodes<=100000):StepOk f s:=by
 obtain⟨h1,h2,h3,_,_⟩:=qf h
 have hse:=s.nodes_eq
 unfold zD at h2
 split at h2
 .
  rename_i hf
  split at h2
  .
   rename_i hr
   refine⟨hf,hr,by omega,h1.cost,fun ha=>?_,fun ha=>?_⟩
   .
    unfold zf at h3
    rcases ha with ha | ha
    .
     simp[ha,yV]at h3
     omega
    simp[ha,yV]at h3
    omega
   unfold zf at h3
   simp[ha,yV]at h3
   omega
  cases h2
 cases h2
def zav (s:St):Prop:=s.act=6->∀ b ∈ s.bounds,b<=67108864
theorem zgu {l:List Int} (h:yU l=true):∀ (d i:Nat) x y,l[i]?=some x->l[i+d]?=some y->x<=y:=by
 intro d
 induction d with
 | zero=>intro i x y hx hy;rw[zrf,hx]at hy;cases hy;exact zpS _
 | succ d ih =>
  intro i x y hx hy
  have hlt:=(zp7.1 hy).1
  obtain⟨z,hz⟩:∃ z,l[i+d]?=some z:=⟨_,zoT (by omega)⟩
  have h1:=ih i x z hx hz
  have h2:=(xg l).1 h (i+d) z y hz hy
  omega
theorem zea {vs:List Vr} {nh:Nat} {s:St} {last:Bool} (h:zz vs nh s last=0):zav s:=by
 intro a6 b hb
 obtain⟨h1,h2,h3,_,_⟩:=qf h
 have h4:zL s=true:=by
  rw[zy]at h
  split at h
  . cases h
  split at h
  . cases h
  rename_i h5;simpa using h5
 unfold zf at h3
 simp[a6,yg]at h3
 unfold zL at h4
 simp[a6]at h4
 have hr:=h3.2.2
 obtain⟨i,hi⟩:=zqH.1 hb
 have hlt:=(zp7.1 hi).1
 obtain⟨y,hy⟩:∃ y,s.bounds[s.bounds.length - 1]?=some y:=⟨_,zoT (by omega)⟩
 have h5:=zgu hr (s.bounds.length - 1 - i) i b y hi (by rw[show i+(s.bounds.length - 1 - i)=s.bounds.length - 1 by omega];exact hy)
 rw[hy]at h4
 simp at h4
 omega
theorem zdm (l:List Int) (t:Int):jJ l t=t\/(jJ l t ∈ l/\t<=jJ l t):=by
 have key:∀ (l:List Int) (s:Int × Bool),(l.foldl (yB t) s).1=s.1\/((l.foldl (yB t) s).1 ∈ l/\t<=(l.foldl (yB t) s).1):=by
  intro l
  induction l with
  | nil=>intro s;exact .inl rfl
  | cons b r ih =>
   intro s
   rw[zqo]
   rcases ih (yB t s b) with h | h
   .
    rw[h]
    unfold yB
    split
    . rename_i h1;exact .inr ⟨zoX ..,h1.1⟩
    exact .inl O
   exact .inr ⟨zoW _ h.1,h.2⟩
 exact key l (t,false)
structure Valid (f:Fl):Prop where
 ok:yt f=0
 size:snodes f.body+zA f.hatches<=1024
 bulk:sbulk f.body<=1000000
section
variable {f:Fl} (V:Valid f)
include V
theorem Valid.plain:plainL f.body=true:=zbg V.ok
theorem Valid.good:∀ v ∈ f.vars,yz (v.low,v.high):=zbe (zZ V.ok).2.1
theorem Valid.kinds:∀ v ∈ f.vars,0<=v.kind/\v.kind<=3:=by
 have h:=(zZ V.ok).2.1
 have h1:∀ j,j<f.vars.length->kq f.vars j=0:=by
  unfold zr at h
  split at h
  . rename_i h2;exact absurd h h2
  rename_i h2
  intro j hj
  exact qb f.vars.length 0 (by simpa using h2) j (zp8 _) (by omega)
 exact fun v hv=>(qc h1 v hv).2
theorem Valid.lens:f.vars.length<=64/\f.hatches.length<=8:=by
 have h:=(zZ V.ok).1
 unfold xz at h
 simp at h
 omega
theorem Valid.ssize:ssize f.body<=1024:=zbh V.size
theorem Valid.step:∀ s ∈ preL f.body,StepOk f s/\zav s/\(s.act=4->0<=s.n/\s.n<=4096):=by
 intro s hs
 obtain⟨last,h⟩:=zgs f.body true (zZ V.ok).2.2.2.1 s hs
 have hn:=zdl f.body s hs
 have:=V.size
 exact⟨zgt h (by omega),zea h,fun a4=>⟨((qf h).1.rep a4).1,((qf h).1.rep a4).2.1⟩⟩
theorem Valid.nb:nbL f.body<=8192:=by
 have h1:=zkn f.body true (zZ V.ok).2.2.2.1
 have h2:=(zZ V.ok).2.2.2.2
 unfold zcw at h2
 simp at h2
 omega
end
theorem kC (l:List St):∀ a n e,∀ x ∈ layL l a n e,x.kind=2\/x.kind=3\/x.kind=4\/x.kind=5:=by
 induction l using zmB with
 | h l ih =>
 have key:∀ r:List St,(∀ x ∈ r,x ∈ l)->∀ a n e,∀ x ∈ layL r a n e,x.kind=2\/x.kind=3\/x.kind=4\/x.kind=5:=by
  intro r
  induction r with
  | nil=>intro _ a n e x hx;simp[layL]at hx
  | cons s r ihr =>
   intro hm a n e x hx
   have h1:=(ih s (hm s (zoX ..))).1
   have h2:=(ih s (hm s (zoX ..))).2
   rw[layL,zpc,s.lay_eq]at hx
   rcases hx with hx | hx
   .
    split at hx
    .
     rw[zp9,zpc]at hx
     rcases hx with rfl | hx | hx
     . exact .inr (.inl O)
     . exact h1 _ _ _ x hx
     exact h2 _ _ _ x hx
    split at hx
    .
     rw[zp9,zp9]at hx
     rcases hx with rfl | rfl | hx
     . exact .inr (.inr (.inl O))
     . exact .inr (.inr (.inr O))
     exact h1 _ _ _ x hx
    rw[zpb]at hx
    subst hx;exact .inl rfl
   exact ihr (fun y hy=>hm y (zoW _ hy)) _ _ _ x hx
 exact key l (fun x h=>h)
structure NodeOk' (f:Fl) (x:Nd):Prop where
 kind:x.kind=0\/x.kind=2\/x.kind=3\/x.kind=4\/x.kind=5
 step:x.kind ≠ 0->0<=x.at_/\(preL f.body)[x.at_.toNat]?=some (zO f x.at_)/\StepOk f (zO f x.at_)/\zav (zO f x.at_)
theorem Valid.node {f:Fl} (V:Valid f) {k:Int} (h0:0<=k) (h1:k<(zi f).length - 1):(zi f)[k.toNat]?=some (xk (zi f) k)/\NodeOk' f (xk (zi f) k):=by
 obtain⟨n,rfl⟩:=zpP h0
 have hlen:=yH f V.plain
 have hget:(zi f)[n]?=some (xk (zi f) n):=by
  unfold xk;rw[zpf,zoT (show n<(zi f).length by omega)];rfl
 refine⟨hget,?_⟩
 generalize xk (zi f) n=x at hget
 unfold zi at hget
 cases n with
 | zero=>simp at hget;subst hget;exact⟨.inl rfl,fun h=>absurd rfl h⟩
 | succ n =>
  rw[List.getElem?_cons_succ,zpj (by rw[zS _ V.plain];omega)]at hget
  have hx:=zoU hget
  have hk:=kC f.body _ _ _ x hx
  have hr:=(jl f.body V.plain 0 1 (1+widL f.body)).range x hx
  refine⟨.inr hk,fun _=>⟨by omega,?_⟩⟩
  obtain⟨s,hs⟩:∃ s,(preL f.body)[x.at_.toNat]?=some s:=⟨_,zoT (by rw[yb];omega)⟩
  have e:zO f x.at_=s:=by unfold zO;rw[hs];rfl
  have hst:=V.step s (zoU hs)
  rw[e]
  exact⟨hs,hst.1,hst.2.1⟩
structure MInv (f:Fl) (j:Nat) (m:Mc):Prop where
 inv:InV f.vars m.σ.vals
 time:0<=m.σ.time/\m.σ.time<=(j:Int)*67108864
 outs:m.σ.outs.length<=j
 rd:∀ k,0<=m.rd k/\m.rd k<=j
theorem zgv {f:Fl} {hs:List Int} {s:St} {σ:Sg} {j:Nat} (hg:∀ v ∈ f.vars,yz (v.low,v.high)) (ho:StepOk f s) (yx:zav s) (hV:InV f.vars σ.vals) (ht:0<=σ.time/\σ.time<=(j:Int)*67108864) (hol:σ.outs.length<=j) :
  InV f.vars (xU f hs s σ).vals/\(0<=(xU f hs s σ).time/\(xU f hs s σ).time<=((j+1:Nat):Int)*67108864)/\(xU f hs s σ).outs.length<=j+1:=by
 have hc:=ho.cost
 unfold xU
 split
 . exact⟨hV.set hg _ _,by dsimp only;omega,by dsimp only;omega⟩
 split
 . exact⟨hV,by dsimp only;omega,by simp;omega⟩
 split
 . exact⟨hV.set hg _ _,by dsimp only;omega,by dsimp only;omega⟩
 split
 .
  rename_i a6
  refine⟨hV,?_,by dsimp only;omega⟩
  dsimp only
  rcases zdm s.bounds (σ.time+s.cost) with h | h
  . rw[h];omega
  have:=yx a6 _ h.1
  omega
 exact⟨hV,by dsimp only;omega,by dsimp only;omega⟩
theorem zgw {f:Fl} {hs:List Int} {g:List Nd} {j:Nat} {m:Mc} (hg:∀ v ∈ f.vars,yz (v.low,v.high)) (hn:NodeOk' f (xk g m.at_)) (h:MInv f j m):MInv f (j+1) (jt f hs g m):=by
 obtain⟨h1,h2,h3,h4⟩:=h
 have hup:∀ k n,0<=n/\n<=(j:Int)+1->∀ i,0<=zcO m.rd k n i/\zcO m.rd k n i<=((j+1:Nat):Int):=fun k n hn i=>by
  have:=h4 i
  unfold zcO;split<;>omega
 have hrd:∀ k,0<=m.rd k/\m.rd k<=((j+1:Nat):Int):=fun k=>by have:=h4 k;omega
 unfold jt yS
 generalize hx:xk g m.at_=x at hn ⊢
 split
 . exact⟨h1,by dsimp only;omega,by dsimp only;omega,hrd⟩
 rename_i k0
 obtain⟨_,_,ho,yx⟩:=hn.step k0
 have hc:=ho.cost
 split
 .
  obtain⟨e1,e2,e3⟩:=zgv (hs:=hs) hg ho yx h1 h2 h3
  exact⟨e1,e2,e3,hrd⟩
 split
 . exact⟨h1,by dsimp only;omega,by dsimp only;omega,hup _ _ (by omega)⟩
 split
 . exact⟨h1,by dsimp only;omega,by dsimp only;omega,hrd⟩
 refine⟨h1,by dsimp only;omega,by dsimp only;omega,?_⟩
 dsimp only
 split
 . exact hup _ _ (by have:=h4 x.at_;omega)
 exact hrd
theorem Valid.walk {f:Fl} (V:Valid f) (hs:List Int) (σ:Sg):∃ (K:Nat) (rd':Int->Int),K<=8193/\Goes f hs (zi f) 0 ((zi f).length - 1) K ⟨0,σ,fun _=>0⟩ ⟨((zi f).length:Int) - 1,exL f hs f.body σ,rd'⟩:=by
 have hlen:=yH f V.plain
 have hG:CtxG (zi f) 1 (layL f.body 0 1 (1+widL f.body)):=by
  intro i x hx
  have hi:=(zp7.1 hx).1
  unfold zi
  rw[show 1+i=i+1 by omega,List.getElem?_cons_succ,zpj hi];exact hx
 obtain⟨k,rd',hgo,hk,_⟩:=zi5 (hs:=hs) (g:=zi f) f.body V.plain (fun s hs' a4=>((V.step s hs').2.2 a4).1) 0 1 (1+widL f.body) hG (fun i x hx=>by rw[zrq];exact hx) σ (fun _=>0)
 have:=V.nb
 refine⟨1+k,rd',by omega,(Goes.one (m':=⟨((if f.body.isEmpty then 1+widL f.body else 1:Nat):Int),σ,fun _=>0⟩) ?_ (by dsimp only;omega)).trans ?_⟩
 .
  have h2:((if f.body.isEmpty then 1+widL f.body else 1:Nat):Int)=1:=by
   split
   .
    rename_i h
    have:f.body=[]:=by simpa using h
    rw[this];rfl
   rfl
  rw[h2]
  unfold jt
  have:xk (zi f) 0=⟨0,-1,1,-1⟩:=rfl
  rw[this]
  simp[yS]
 have e:((1+widL f.body:Nat):Int)=((zi f).length:Int) - 1:=by omega
 rw[<- e]
 exact hgo.widen (by omega) (by omega)
open Go.GL
def zdn (f:Fl) (x:Nd):Bool:=decide (x.kind=2)&&(decide ((zO f x.at_).act=0) || decide ((zO f x.at_).act=5))
structure Phn where
 var:Int
 ver:Int
 frm:List Int
 args:List Int
structure Sn where
 phis:List Phn
 uses:List (Int × Int)
 dfn:Int
structure Sf where
 of_:List Int
 nodes:List Sn
def yX (x y:Int):Int:=if y=-1\/y=x then x else if x=-1 then y else -2
def LeV (x y:Int):Prop:=x=-1\/x=y\/y=-2
theorem LeV.refl (x:Int):LeV x x:=.inr (.inl rfl)
theorem LeV.trans {x y z:Int} (h:LeV x y) (h':LeV y z):LeV x z:=by unfold LeV at *;omega
theorem zgx {a b c d:Int} (h:LeV a c) (h':LeV b d):LeV (yX a b) (yX c d):=by
 unfold LeV yX at *
 split<;>split<;>(try split)<;>(try split)<;>omega
theorem zgy (x y:Int):LeV x (yX x y):=by
 unfold LeV yX
 split<;>(try split)<;>omega
theorem zfm (x y:Int):LeV y (yX x y):=by
 unfold LeV yX
 split<;>(try split)<;>omega
def qO (l:List Int):Int:=l.foldl yX (-1)
theorem zgz (l:List Int):∀ a,LeV a (l.foldl yX a):=by
 induction l with
 | nil=>exact fun a=>LeV.refl a
 | cons x l ih=>exact fun a=>(zgy a x).trans (ih _)
theorem zi6 {l:List Int} {y:Int} (h:y ∈ l):∀ a,LeV y (l.foldl yX a):=by
 induction l with
 | nil=>cases h
 | cons x l ih =>
  intro a
  rcases zp9.1 h with rfl | h
  . exact(zfm a y).trans (zgz l _)
  exact ih h _
theorem zeH {l:List Int} {y:Int} (h:y ∈ l):LeV y (qO l):=zi6 h _
theorem zgA {α:Type} {F G:α->Int} {l:List α}:∀ {a b:Int},LeV a b->(∀ x ∈ l,LeV (F x) (G x))->LeV ((l.map F).foldl yX a) ((l.map G).foldl yX b):=by
 induction l with
 | nil=>exact fun h _=>h
 | cons x l ih=>exact fun h hl=>ih (zgx h (hl x (zoX ..))) fun y hy=>hl y (zoW _ hy)
theorem zgB {α:Type} {F G:α->Int} {l:List α} (h:∀ x ∈ l,LeV (F x) (G x)):LeV (qO (l.map F)) (qO (l.map G)):=zgA (LeV.refl _) h
theorem zdo (l:List Int) (x:Int):qO (l++[x])=yX (qO l) x:=by unfold qO;rw[zqn];rfl
def SndV (P:Int->Prop) (x:Int):Prop:=x=-1\/(0<=x/\P x)\/(x=-2/\∃ a b,P a/\P b/\a ≠ b)
theorem SndV.imp {P Q:Int->Prop} {x:Int} (h:SndV P x) (hi:∀ k,P k->Q k):SndV Q x:=by
 rcases h with h | ⟨h0,h⟩ | ⟨h0,a,b,ha,hb,hn⟩
 . exact .inl h
 . exact .inr (.inl ⟨h0,hi _ h⟩)
 exact .inr (.inr ⟨h0,a,b,hi _ ha,hi _ hb,hn⟩)
theorem zi7 {P:Int->Prop} {x y:Int} (hx:SndV P x) (hy:SndV P y):SndV P (yX x y):=by
 unfold yX
 split
 . exact hx
 rename_i h1
 split
 . exact hy
 rename_i h2
 refine .inr (.inr ⟨rfl,?_⟩)
 rcases hx with hx | ⟨_,hx⟩ | ⟨_,hx⟩
 . exact absurd hx h2
 .
  rcases hy with hy | ⟨_,hy⟩ | ⟨_,hy⟩
  . exact absurd (.inl hy) h1
  . exact⟨x,y,hx,hy,fun e=>h1 (.inr e.symm)⟩
  exact hy
 exact hx
theorem zeI {P:Int->Prop} {l:List Int} (h:∀ x ∈ l,SndV P x):SndV P (qO l):=by
 suffices ∀ a,SndV P a->SndV P (l.foldl yX a) from this _ (.inl rfl)
 induction l with
 | nil=>exact fun a ha=>ha
 | cons x l ih=>exact fun a ha=>ih (fun y hy=>h y (zoW _ hy)) _ (zi7 ha (h x (zoX ..)))
def SumV (P:Int->Prop) (x:Int):Prop:=SndV P x/\∀ k,P k->LeV k x
theorem SumV.unique {P:Int->Prop} (hP:∀ k,P k->0<=k) {x y:Int} (hx:SumV P x) (hy:SumV P y):x=y:=by
 have main:∀ {x y:Int},SumV P x->SumV P y->LeV x y:=by
  intro x y hx hy
  rcases hx.1 with h | ⟨_,h⟩ | ⟨_,a,b,ha,hb,hn⟩
  . exact .inl h
  . exact hy.2 x h
  have h1:=hy.2 a ha
  have h2:=hy.2 b hb
  have h3:=hP a ha
  have h4:=hP b hb
  unfold LeV at *
  omega
 have h1:=main hx hy
 have h2:=main hy hx
 unfold LeV at h1 h2
 omega
section
variable (f:Fl) (g:List Nd) (s:Sf)
def zg (i:Nat):Sn:=s.nodes[i]?.getD ⟨[],[],-1⟩
def xA (i:Nat):Int:=if zdn f (xk g i)=true then (zO f (xk g i).at_).var else -1
def zdp (l:List Phn) (v:Int):Option Int:=(l.find? fun p=>decide (p.var=v)).map (·.ver)
def zfn (i:Nat) (v:Int):Option Int:=zdp (zg s i).phis v
def yw (B:Nat->Int->Int) (i:Nat) (v:Int):Int:=if xA f g i=v then (zg s i).dfn else B i v
def yW (i:Nat):List Nat:=(List.range g.length).filter fun y=>decide ((xk g y).next=(i:Int)\/(xk g y).other=(i:Int))
def eqV (O:Nat->Int->Int) (i:Nat) (v:Int):Int:=if i=0 then v else match zfn s i v with
 | some k=>k
 | none=>qO ((yW g i).map fun y=>O y v)
inductive RV (v:Int):Nat->Int->Prop
 | ini:RV v 0 v
 | phi {i:Nat} {k:Int}:i ≠ 0->zfn s i v=some k->RV v i k
 | dfn {i y:Nat}:i ≠ 0->zfn s i v=none->y ∈ yW g i->xA f g y=v->RV v i (zg s y).dfn
 | pass {i y:Nat} {k:Int}:i ≠ 0->zfn s i v=none->y ∈ yW g i->xA f g y ≠ v->RV v y k->RV v i k
end
section
variable {f:Fl} {g:List Nd} {s:Sf}
theorem xh {i y:Nat} (h:y ∈ yW g i):y<g.length:=zqL.1 (zqF.1 h).1
structure NnS (f:Fl) (g:List Nd) (s:Sf):Prop where
 dfn:∀ y,y<g.length->0<=xA f g y->0<=(zg s y).dfn
 phi:∀ i v k,zfn s i v=some k->0<=k
theorem RV.nn (hs:NnS f g s) {v:Int} (hv:0<=v) {i:Nat} {k:Int} (h:RV f g s v i k):0<=k:=by
 induction h with
 | ini=>exact hv
 | phi _ h=>exact hs.phi _ _ _ h
 | dfn _ _ hy hd=>exact hs.dfn _ (xh hy) (by omega)
 | pass _ _ _ _ _ ih=>exact ih
theorem zko {B:Nat->Int->Int} (hs:NnS f g s) {v:Int} (hv:0<=v) {i:Nat} (h:∀ y,y<g.length->SndV (RV f g s v y) (B y v)):SndV (RV f g s v i) (eqV g s (yw f g s B) i v):=by
 unfold eqV
 split
 .
  rename_i h0
  subst h0
  exact .inr (.inl ⟨hv,.ini⟩)
 rename_i h0
 split
 .
  rename_i k hk
  exact .inr (.inl ⟨hs.phi _ _ _ hk,.phi h0 hk⟩)
 rename_i hk
 refine zeI fun x hx=>?_
 obtain⟨y,hy,rfl⟩:=zqI.1 hx
 unfold yw
 split
 .
  rename_i hd
  exact .inr (.inl ⟨hs.dfn _ (xh hy) (by omega),.dfn h0 hk hy hd⟩)
 rename_i hd
 exact(h y (xh hy)).imp fun k hk2=>.pass h0 hk hy hd hk2
theorem zi8 {B C:Nat->Int->Int} {y:Nat} {v:Int} (h:LeV (B y v) (C y v)):LeV (yw f g s B y v) (yw f g s C y v):=by
 unfold yw
 split
 . exact LeV.refl _
 exact h
theorem zgC {O O':Nat->Int->Int} {i:Nat} {v:Int} (h:∀ y,y<g.length->LeV (O y v) (O' y v)):LeV (eqV g s O i v) (eqV g s O' i v):=by
 unfold eqV
 split
 . exact LeV.refl _
 split
 . exact LeV.refl _
 exact zgB fun y hy=>h y (xh hy)
structure SolV (f:Fl) (g:List Nd) (s:Sf) (nv:Nat) (B:Nat->Int->Int):Prop where
 snd:∀ i,i<g.length->∀ v:Int,0<=v->v<(nv:Int)->SndV (RV f g s v i) (B i v)
 eq:∀ i,i<g.length->∀ v:Int,0<=v->v<(nv:Int)->B i v=eqV g s (yw f g s B) i v
theorem SolV.all {nv:Nat} {B:Nat->Int->Int} (h:SolV f g s nv B) {v:Int} (hv:0<=v) (hn:v<(nv:Int)) {i:Nat} (hi:i<g.length):SumV (RV f g s v i) (B i v):=by
 refine⟨h.snd i hi v hv hn,fun k hk=>?_⟩
 induction hk with
 | ini=>rw[h.eq 0 hi v hv hn];exact LeV.refl _
 | @phi i k h0 hk=>rw[h.eq i hi v hv hn];unfold eqV;rw[zp3 h0,hk];exact LeV.refl _
 | @dfn i y h0 hk hy hd =>
  rw[h.eq i hi v hv hn];unfold eqV;rw[zp3 h0,hk]
  refine zeH (zqI.2 ⟨y,hy,?_⟩)
  unfold yw
  rw[zp4 hd]
 | @pass i y k h0 hk hy hd _ ih =>
  rw[h.eq i hi v hv hn];unfold eqV;rw[zp3 h0,hk]
  refine(ih (xh hy)).trans (zeH (zqI.2 ⟨y,hy,?_⟩))
  unfold yw
  rw[zp3 hd]
noncomputable def zkQ (P:Int->Prop):Int:=by
 classical
 exact if ∃ a b,P a/\P b/\a ≠ b then -2 else if h:∃ a,P a then Classical.choose h else -1
theorem zgD {P:Int->Prop} (hP:∀ k,P k->0<=k):SumV P (zkQ P):=by
 classical
 unfold zkQ
 split
 .
  rename_i h
  exact⟨.inr (.inr ⟨rfl,h⟩),fun k _=>.inr (.inr O)⟩
 rename_i h
 split
 .
  rename_i h2
  have h3:=Classical.choose_spec h2
  refine⟨.inr (.inl ⟨hP _ h3,h3⟩),fun k hk=>?_⟩
  by_cases e:k=Classical.choose h2
  . exact .inr (.inl e)
  exact absurd ⟨k,_,hk,h3,e⟩ h
 rename_i h2
 exact⟨.inl rfl,fun k hk=>absurd ⟨k,hk⟩ h2⟩
noncomputable def inV (f:Fl) (g:List Nd) (s:Sf) (i:Nat) (v:Int):Int:=zkQ (RV f g s v i)
noncomputable def kZ (f:Fl) (g:List Nd) (s:Sf) (i:Nat) (v:Int):Int:=yw f g s (inV f g s) i v
theorem SolV.is {nv:Nat} {B:Nat->Int->Int} (hs:NnS f g s) (h:SolV f g s nv B) {v:Int} (hv:0<=v) (hn:v<(nv:Int)) {i:Nat} (hi:i<g.length):B i v=inV f g s i v :=
 SumV.unique (fun _ hk=>hk.nn hs hv) (h.all hv hn hi) (zgD fun _ hk=>hk.nn hs hv)
structure RunV (f:Fl) (g:List Nd) (s:Sf) (nv:Nat) (B:Nat->Int->Int):Prop where
 snd:∀ i,i<g.length->∀ v:Int,0<=v->v<(nv:Int)->SndV (RV f g s v i) (B i v)
 le:∀ i,i<g.length->∀ v:Int,0<=v->v<(nv:Int)->LeV (B i v) (eqV g s (yw f g s B) i v)
def zbF (B:Nat->Int->Int) (i:Nat) (v x:Int):Nat->Int->Int:=fun j u=>if j=i/\u=v then x else B j u
theorem zo4 {nv:Nat} {B:Nat->Int->Int} (h:∀ i v,B i v=if i=0 then v else -1):RunV f g s nv B:=by
 refine⟨fun i _ v hv _=>?_,fun i _ v _ _=>?_⟩
 .
  rw[h]
  split
  . rename_i e;subst e;exact .inr (.inl ⟨hv,.ini⟩)
  exact .inl O
 rw[h]
 split
 . rename_i e;unfold eqV;rw[zp4 e];exact LeV.refl _
 exact .inl O
theorem RunV.next {nv:Nat} {B:Nat->Int->Int} (hs:NnS f g s) (h:RunV f g s nv B) {i:Nat} (hi:i<g.length) {v:Int} (hv:0<=v) (hn:v<(nv:Int)):RunV f g s nv (zbF B i v (eqV g s (yw f g s B) i v)):=by
 have hB:∀ j,j<g.length->∀ u:Int,0<=u->u<(nv:Int)->LeV (B j u) (zbF B i v (eqV g s (yw f g s B) i v) j u):=fun j hj u hu hun=>by
  unfold zbF
  split
  . rename_i e;obtain⟨rfl,rfl⟩:=e;exact h.le j hj u hu hun
  exact LeV.refl _
 refine⟨fun j hj u hu hun=>?_,fun j hj u hu hun=>?_⟩
 .
  unfold zbF
  split
  .
   rename_i e;obtain⟨rfl,rfl⟩:=e
   exact zko hs hu fun y hy=>h.snd y hy u hu hun
  exact h.snd j hj u hu hun
 have hm:LeV (eqV g s (yw f g s B) j u) (eqV g s (yw f g s (zbF B i v (eqV g s (yw f g s B) i v))) j u):=zgC fun y hy=>zi8 (hB y hy u hu hun)
 by_cases e:j=i/\u=v
 .
  obtain⟨rfl,rfl⟩:=e
  rw[show zbF B j u (eqV g s (yw f g s B) j u) j u=eqV g s (yw f g s B) j u from zp4 ⟨rfl,rfl⟩]
  exact hm
 rw[show zbF B i v (eqV g s (yw f g s B) i v) j u=B j u from zp3 e]
 exact(h.le j hj u hu hun).trans hm
theorem RunV.done {nv:Nat} {B:Nat->Int->Int} (h:RunV f g s nv B) (hd:∀ i,i<g.length->∀ v:Int,0<=v->v<(nv:Int)->B i v=-2\/eqV g s (yw f g s B) i v=B i v\/eqV g s (yw f g s B) i v=-1):SolV f g s nv B:=by
 refine⟨h.snd,fun i hi v hv hn=>?_⟩
 have h1:=h.le i hi v hv hn
 have h2:=hd i hi v hv hn
 unfold LeV at h1
 omega
def qZ (x:Int):Nat:=if x=-1 then 0 else if x=-2 then 2 else 1
theorem zcB {x y:Int} (h:LeV x y) (hn:y ≠ x):qZ x<qZ y:=by
 unfold LeV at h
 unfold qZ
 split<;>split<;>(try split)<;>(try split)<;>omega
theorem zjD (x:Int):qZ x<=2:=by
 unfold qZ
 split<;>(try split)<;>omega
end
open Go.GL
def jO (f:Fl) (s:Sf) (k v:Int) (fresh:Bool):Prop:=0<=k/\s.of_[k.toNat]?=some v/\(fresh=true->(f.vars.length:Int)<=k)
instance (f:Fl) (s:Sf) (k v:Int) (b:Bool):Decidable (jO f s k v b):=by unfold jO;infer_instance
def qG (g:List Nd) (n:Nat):List Int:=(yW g n).map fun i:Nat=>(i:Int)
def dfL (f:Fl) (g:List Nd) (s:Sf) (n:Nat):List Int:=(zg s n).phis.map (·.ver)++if 0<=xA f g n then [(zg s n).dfn] else []
def qg (f:Fl) (g:List Nd) (s:Sf):List Int:=(List.range g.length).flatMap (dfL f g s)
section
variable (f:Fl) (g:List Nd) (s:Sf) (rd:Nat->List Int)
structure PhiF (n:Nat) (l:List Phn):Prop where
 zero:n=0->l=[]
 asc:l.Pairwise fun p q=>p.var<q.var
 ver:∀ p ∈ l,jO f s p.ver p.var true
 frm:∀ p ∈ l,p.frm=qG g n
 len:∀ p ∈ l,p.args.length=p.frm.length
 args:∀ p ∈ l,∀ a ∈ p.args,jO f s a p.var false
structure NodF (n:Nat) (x:Sn):Prop where
 phi:PhiF f g s n x.phis
 no:xA f g n<0->x.dfn=-1
 yes:0<=xA f g n->jO f s x.dfn (xA f g n) true
 use:x.uses.map (·.1)=rd n
 ver:∀ u ∈ x.uses,jO f s u.2 u.1 false
structure OfF:Prop where
 len:f.vars.length<=s.of_.length
 ini:∀ (k:Nat) v,s.of_[k]?=some v->k<f.vars.length->v=(k:Int)
 new:∀ (k:Nat) v,s.of_[k]?=some v->f.vars.length<=k->0<=v/\∃ x,f.vars[v.toNat]?=some x/\x.kind=0
structure FormF:Prop where
 of_:OfF f s
 len:s.nodes.length=g.length
 nod:∀ (n:Nat) x,s.nodes[n]?=some x->NodF f g s rd n x
 one:∀ k:Nat,f.vars.length<=k->k<s.of_.length->(qg f g s).count (k:Int)=1
structure RightF:Prop extends FormF f g s rd where
 use:∀ (n:Nat) x,s.nodes[n]?=some x->∀ u ∈ x.uses,inV f g s n u.1=u.2
 arg:∀ (n:Nat) x,s.nodes[n]?=some x->∀ p ∈ x.phis,∀ (i:Nat) y a,p.frm[i]?=some y->p.args[i]?=some a->kZ f g s y.toNat p.var=a
end
section
variable {f:Fl} {g:List Nd} {s:Sf} {rd:Nat->List Int}
theorem yC {n:Nat} {x:Sn} (h:s.nodes[n]?=some x):zg s n=x:=by unfold zg;rw[h];rfl
theorem za0 {n:Nat} (h:¬ n<s.nodes.length):zg s n=⟨[],[],-1⟩:=by unfold zg;rw[zph (by omega)];rfl
theorem FormF.at (h:FormF f g s rd) {n:Nat} (hn:n<g.length):NodF f g s rd n (zg s n):=by
 have hl:=h.len
 have e:=zoT (show n<s.nodes.length by omega)
 rw[yC e]
 exact h.nod n _ e
theorem FormF.nn (h:FormF f g s rd):NnS f g s:=by
 refine⟨fun y hy hd=>((h.at hy).yes hd).1,fun i v k hk=>?_⟩
 unfold zfn zdp at hk
 obtain⟨p,hp,rfl⟩:=zrv.1 hk
 have hm:=zqJ hp
 by_cases hi:i<g.length
 . exact((h.at hi).phi.ver p hm).1
 have hl:=h.len
 rw[za0 (by omega)]at hm
 cases hm
theorem zi9 {l:List Phn} (h:l.Pairwise fun p q=>p.var<q.var) {p:Phn} (hp:p ∈ l):zdp l p.var=some p.ver:=by
 unfold zdp
 induction l with
 | nil=>cases hp
 | cons q l ih =>
  rw[zqQ]at h
  rcases zp9.1 hp with rfl | hp
  . rw[List.find?_cons_of_pos (by simp)];rfl
  have:=h.1 p hp
  rw[List.find?_cons_of_neg (by simp;omega)]
  exact ih h.2 hp
theorem zia {l:List Phn} {v:Int} (h:zdp l v=none):∀ p ∈ l,p.var ≠ v:=fun p hp e=>by
 unfold zdp at h
 rw[Option.map_eq_none_iff,List.find?_eq_none]at h
 exact h p hp (by simpa using e)
theorem zeJ {l:List Phn} {v k:Int} (h:zdp l v=some k):∃ p ∈ l,p.var=v/\p.ver=k:=by
 unfold zdp at h
 obtain⟨p,hp,rfl⟩:=zrv.1 h
 exact⟨p,zqJ hp,by simpa using List.find?_some hp,rfl⟩
theorem zdq (h:FormF f g s rd) {n:Nat} (hn:n<g.length) {k:Int} (hk:k ∈ dfL f g s n):(f.vars.length:Int)<=k/\k<(s.of_.length:Int):=by
 have main:∀ {k v:Int},jO f s k v true->(f.vars.length:Int)<=k/\k<(s.of_.length:Int):=fun {k v} hv=>by
  obtain⟨h0,h1,h2⟩:=hv
  have:=(zp7.1 h1).1
  have:=h2 rfl
  omega
 unfold dfL at hk
 rcases zpc.1 hk with hk | hk
 .
  obtain⟨p,hp,rfl⟩:=zqI.1 hk
  exact main ((h.at hn).phi.ver p hp)
 split at hk
 .
  rename_i hd
  rw[zpb]at hk
  subst hk
  exact main ((h.at hn).yes hd)
 cases hk
theorem xP (h:FormF f g s rd) {k:Int} (hk:k ∈ qg f g s):(f.vars.length:Int)<=k/\k<(s.of_.length:Int):=by
 obtain⟨n,hn,hk⟩:=zqG.1 hk
 exact zdq h (zqL.1 hn) hk
end
open Go.GL
section
variable {f:Fl} {g:List Nd} {s:Sf} {rd:Nat->List Int}
theorem SumV.le {P Q:Int->Prop} (hi:∀ k,P k->Q k) {x y:Int} (hx:SumV P x) (hy:SumV Q y) (hP:∀ k,P k->0<=k):LeV x y:=by
 rcases hx.1 with h | ⟨_,h⟩ | ⟨_,a,b,ha,hb,hn⟩
 . exact .inl h
 . exact hy.2 x (hi x h)
 have h1:=hy.2 a (hi a ha)
 have h2:=hy.2 b (hi b hb)
 have h3:=hP a ha
 have h4:=hP b hb
 unfold LeV at *
 omega
theorem zbX (hs:NnS f g s) {v:Int} (hv:0<=v) (i:Nat):SumV (RV f g s v i) (inV f g s i v):=zgD fun _ hk=>hk.nn hs hv
theorem zib (hs:NnS f g s) {v:Int} (hv:0<=v):inV f g s 0 v=v :=
 SumV.unique (P:=RV f g s v 0) (fun _ hk=>hk.nn hs hv) (zbX hs hv 0) ⟨.inr (.inl ⟨hv,.ini⟩),fun k hk=>by
  cases hk with
  | ini=>exact LeV.refl _
  | phi h _=>exact absurd rfl h
  | dfn h _ _ _=>exact absurd rfl h
  | pass h _ _ _ _=>exact absurd rfl h⟩
theorem zjE (hs:NnS f g s) {v k:Int} (hv:0<=v) {i:Nat} (hi:i ≠ 0) (hk:zfn s i v=some k):inV f g s i v=k :=
 SumV.unique (P:=RV f g s v i) (fun _ hk=>hk.nn hs hv) (zbX hs hv i) ⟨.inr (.inl ⟨hs.phi _ _ _ hk,.phi hi hk⟩),fun k' hk'=>by
  cases hk' with
  | ini=>exact absurd rfl hi
  | phi _ h=>rw[hk]at h;cases h;exact LeV.refl _
  | dfn _ h _ _=>rw[hk]at h;cases h
  | pass _ h _ _ _=>rw[hk]at h;cases h⟩
theorem zic (hs:NnS f g s) {v:Int} (hv:0<=v) {i y:Nat} (hi:i ≠ 0) (hk:zfn s i v=none) (hy:y ∈ yW g i):LeV (kZ f g s y v) (inV f g s i v):=by
 unfold kZ yw
 split
 .
  rename_i hd
  exact(zbX hs hv i).2 _ (.dfn hi hk hy hd)
 rename_i hd
 exact(zbX hs hv y).le (fun k hk2=>.pass hi hk hy hd hk2) (zbX hs hv i) fun _ h=>h.nn hs hv
theorem RV.of (h:FormF f g s rd) {v:Int} (hv:0<=v/\v<(f.vars.length:Int)) {i:Nat} {k:Int} (hi:i<g.length) (hr:RV f g s v i k):0<=k/\s.of_[k.toNat]?=some v:=by
 induction hr with
 | ini =>
  have hl:=h.of_.len
  have e:=zoT (show v.toNat<s.of_.length by omega)
  have:=h.of_.ini _ _ e (by omega)
  exact⟨hv.1,by rw[e,this];congr 1;omega⟩
 | @phi i k h0 hk =>
  obtain⟨p,hp,rfl,rfl⟩:=zeJ hk
  have:=(h.at hi).phi.ver p hp
  exact⟨this.1,this.2.1⟩
 | @dfn i y h0 hk hy hd =>
  have:=(h.at (xh hy)).yes (by omega)
  rw[hd]at this
  exact⟨this.1,this.2.1⟩
 | @pass i y k h0 hk hy hd _ ih=>exact ih (xh hy)
theorem zjd (h:FormF f g s rd) {v:Int} (hv:0<=v/\v<(f.vars.length:Int)) {i:Nat} (hi:i<g.length) (h0:0<=inV f g s i v):s.of_[(inV f g s i v).toNat]?=some v:=by
 rcases (zbX h.nn hv.1 i).1 with h1 | ⟨_,h1⟩ | ⟨h1,_⟩
 . omega
 . exact(h1.of h hv hi).2
 omega
def InvV (f:Fl) (g:List Nd) (s:Sf) (i:Nat) (vl vals:List Int):Prop:=∀ v:Nat,v<f.vars.length->inV f g s i v ≠ -1/\(0<=inV f g s i v->vl[(inV f g s i v).toNat]?=vals[v]?)
def zgE (f:Fl) (g:List Nd) (s:Sf) (i:Nat) (vl vals:List Int):Prop:=∀ v:Nat,v<f.vars.length->kZ f g s i v ≠ -1/\(0<=kZ f g s i v->vl[(kZ f g s i v).toNat]?=vals[v]?)
theorem zo5 (h:FormF f g s rd) {vl vals:List Int} (he:∀ v:Nat,v<f.vars.length->vl[v]?=vals[v]?):InvV f g s 0 vl vals:=fun v hv=>by
 rw[zib h.nn (by omega)]
 exact⟨by omega,fun _=>by rw[zpf];exact he v hv⟩
theorem zod (h:RightF f g s rd) {i y:Nat} (h0:i ≠ 0) (hi:i<g.length) (hy:y ∈ yW g i) {vl vl' vals:List Int} (hp:zgE f g s y vl vals)
  (h1:∀ p ∈ (zg s i).phis,vl'[p.ver.toNat]?=vl[(kZ f g s y p.var).toNat]?) (h2:∀ k:Nat,(∀ p ∈ (zg s i).phis,p.ver ≠ (k:Int))->vl'[k]?=vl[k]?) (h3:∀ p ∈ (zg s i).phis,0<=kZ f g s y p.var):InvV f g s i vl' vals:=fun v hv=>by
 have hf:=h.toFormF
 have hn:=hf.at hi
 obtain⟨g1,g2⟩:=hp v hv
 cases hk:zfn s i v with
 | some k =>
  rw[zjE hf.nn (by omega) h0 hk]
  obtain⟨p,hpm,hpv,rfl⟩:=zeJ hk
  have hver:=hn.phi.ver p hpm
  have h4:=h1 p hpm
  have h5:=h3 p hpm
  rw[hpv]at h4 h5
  exact⟨by have:=hver.1;omega,fun _=>h4.trans (g2 h5)⟩
 | none =>
  have hle:=zic hf.nn (show (0:Int)<=(v:Int) by omega) h0 hk hy
  have hne:inV f g s i v ≠ -1:=by unfold LeV at hle;omega
  refine⟨hne,fun hz=>?_⟩
  have he:kZ f g s y v=inV f g s i v:=by unfold LeV at hle;omega
  have hofv:=zjd hf (v:=(v:Int)) ⟨by omega,by omega⟩ hi hz
  rw[h2 _ fun p hpm e=>?_,<- he]
  . exact g2 (by omega)
  have hver:=(hn.phi.ver p hpm).2.1
  have e2:p.ver.toNat=(inV f g s i v).toNat:=by omega
  rw[e2,hofv]at hver
  exact zia hk p hpm (Option.some.inj hver).symm
theorem InvV.pass (_:RightF f g s rd) {i:Nat} {vl vals:List Int} (hI:InvV f g s i vl vals) (hd:xA f g i<0):zgE f g s i vl vals:=fun v hv=>by
 have e:kZ f g s i v=inV f g s i v:=by unfold kZ yw;rw[zp3 (by omega)]
 rw[e]
 exact hI v hv
theorem InvV.set (h:RightF f g s rd) {i:Nat} (hi:i<g.length) {vl vals:List Int} (hI:InvV f g s i vl vals) {k:Nat} (hd:xA f g i=(k:Int)) (hk:k<f.vars.length) (hkv:k<vals.length) (hlen:(s.of_.length:Nat)<=vl.length) (x:Int):zgE f g s i (vl.set (zg s i).dfn.toNat x) (vals.set k x):=fun v hv=>by
 have hf:=h.toFormF
 have hy:=(hf.at hi).yes (by omega)
 have hl:(zg s i).dfn.toNat<s.of_.length:=(zp7.1 hy.2.1).1
 by_cases e:v=k
 .
  subst e
  have e2:kZ f g s i v=(zg s i).dfn:=by unfold kZ yw;rw[zp4 hd]
  rw[e2]
  exact⟨by have:=hy.1;omega,fun _=>by rw[List.getElem?_set_self (by omega),List.getElem?_set_self hkv]⟩
 have e2:kZ f g s i v=inV f g s i v:=by unfold kZ yw;rw[zp3 (by omega)]
 rw[e2]
 obtain⟨g1,g2⟩:=hI v hv
 refine⟨g1,fun hz=>?_⟩
 have hofv:=zjd hf (v:=(v:Int)) ⟨by omega,by omega⟩ hi hz
 rw[List.getElem?_set_ne (fun e3=>?_),List.getElem?_set_ne (fun e3=>e e3.symm)]
 . exact g2 hz
 have:=hy.2.1
 rw[e3,hofv,hd]at this
 have:=Option.some.inj this
 omega
end
end Go.Proofs.YtckdhgbepmpgiaaGreat
namespace Go.Proofs
open Go.Shelf
def Tryz.lays189_ren:Go.Shelf.Ren:=⟨fun | 189=>116 | 125=>155 | 257=>154 | 128=>193 | 129=>194 | 294=>184 | 295=>185 | 296=>186 | 297=>187 | 298=>188 | 299=>189 | 216=>190 | 300=>191 | 301=>192 | 328=>208 | 329=>209 | 330=>210 | 331=>211 | 332=>212 | 215=>213 | 343=>224 | n=>n,fun | 28=>27 | 3=>3 | 46=>222 | 0=>0 | 51=>252 | 53=>254 | 4=>4 | 183=>246 | 182=>245 | 131=>207 | 5=>5 | 9=>9 | 218=>262 | 222=>266 | 228=>274 | 229=>201 | n=>n,fun | n=>n⟩
theorem Tryz.lays189:Go.Proofs.Lays.n189 Tryz.prog Tryz.lays189_ren:={
  mixed:=by kernel_rfl
  f125:=Tryz.func155.trans (congrArg some (by kernel_rfl))
  f128:=Tryz.func193.trans (congrArg some (by kernel_rfl))
  f129:=Tryz.func194.trans (congrArg some (by kernel_rfl))
  f189:=Tryz.func116.trans (congrArg some (by kernel_rfl))
  f215:=Tryz.func213.trans (congrArg some (by kernel_rfl))
  f216:=Tryz.func190.trans (congrArg some (by kernel_rfl))
  f257:=Tryz.func154.trans (congrArg some (by kernel_rfl))
  f294:=Tryz.func184.trans (congrArg some (by kernel_rfl))
  f295:=Tryz.func185.trans (congrArg some (by kernel_rfl))
  f296:=Tryz.func186.trans (congrArg some (by kernel_rfl))
  f297:=Tryz.func187.trans (congrArg some (by kernel_rfl))
  f298:=Tryz.func188.trans (congrArg some (by kernel_rfl))
  f299:=Tryz.func189.trans (congrArg some (by kernel_rfl))
  f300:=Tryz.func191.trans (congrArg some (by kernel_rfl))
  f301:=Tryz.func192.trans (congrArg some (by kernel_rfl))
  f328:=Tryz.func208.trans (congrArg some (by kernel_rfl))
  f329:=Tryz.func209.trans (congrArg some (by kernel_rfl))
  f330:=Tryz.func210.trans (congrArg some (by kernel_rfl))
  f331:=Tryz.func211.trans (congrArg some (by kernel_rfl))
  f332:=Tryz.func212.trans (congrArg some (by kernel_rfl))
  f343:=Tryz.func224.trans (congrArg some (by kernel_rfl))
  t0:=Tryz.underlying0
  a0:=Tryz.isAgg0
  z0:=Tryz.sizeOf0
  v0:=Tryz.zeroValue0
  t3:=tu3
  a3:=tg3
  z3:=ts3
  v3:=tz3
  t4:=Tryz.underlying4
  a4:=tg4
  z4:=ts4
  v4:=tz4
  t5:=Tryz.underlying5
  a5:=Tryz.isAgg5
  z5:=Tryz.sizeOf5
  v5:=Tryz.zeroValue5
  t9:=tu9
  a9:=tg9
  z9:=ts9
  v9:=Tryz.zeroValue9
  t28:=tu27
  a28:=tg27
  z28:=ts27
  v28:=tz27
  t46:=Tryz.underlying222
  a46:=Tryz.isAgg222
  z46:=Tryz.sizeOf222
  v46:=Tryz.zeroValue222
  t51:=Tryz.underlying252
  a51:=Tryz.isAgg252
  z51:=Tryz.sizeOf252
  v51:=Tryz.zeroValue252
  t53:=Tryz.underlying254
  a53:=Tryz.isAgg254
  z53:=Tryz.sizeOf254
  v53:=Tryz.zeroValue254
  t131:=Tryz.underlying207
  a131:=Tryz.isAgg207
  z131:=Tryz.sizeOf207
  v131:=Tryz.zeroValue207
  t182:=Tryz.underlying245
  a182:=Tryz.isAgg245
  z182:=Tryz.sizeOf245
  v182:=Tryz.zeroValue245
  t183:=Tryz.underlying246
  a183:=Tryz.isAgg246
  z183:=Tryz.sizeOf246
  v183:=Tryz.zeroValue246
  t218:=Tryz.underlying262
  a218:=Tryz.isAgg262
  z218:=Tryz.sizeOf262
  v218:=Tryz.zeroValue262
  t222:=Tryz.underlying266
  a222:=Tryz.isAgg266
  z222:=Tryz.sizeOf266
  v222:=Tryz.zeroValue266
  t228:=Tryz.underlying274
  a228:=Tryz.isAgg274
  z228:=Tryz.sizeOf274
  v228:=Tryz.zeroValue274
  t229:=Tryz.underlying201
  a229:=Tryz.isAgg201
  z229:=Tryz.sizeOf201
  v229:=Tryz.zeroValue201 }
open Go.Sort Go.RowKit in
theorem Tryz.slices_Sort_int (blk off cap:Nat) (zs:List Int) (w:World) (hH:Holds (Value.int .i64) w blk off zs.toArray) (hblk:blk<w.heap.size) (hsz:zs.length<4611686018427387904) :
    Calls Tryz.prog 116 #[.slice (some ⟨blk,off,none⟩) zs.length cap] w fun e w' =>
      e=.returned (.tuple #[])/\∃ n os,w'=grow (putRow (Value.int .i64) (Sort.ahead w n) blk off (zs.mergeSort fun x y=>decide (x<=y)).toArray) os:=Any.slices_Sort_int Tryz.lays189 blk off cap zs w hH hblk hsz
open Go.RowKit Go.Sort in
theorem Tryz.slices_Sort_int_none (p:Option Addr) (cap:Nat) (w:World) :
    Calls Tryz.prog 116 #[.slice p 0 cap] w fun e w'=>e=.returned (.tuple #[])/\w'=w:=Any.slices_Sort_int_none Tryz.lays189 p cap w
end Go.Proofs
namespace Go.Proofs.YtckdhgbepmpgiaaGreat
open Go.GL
theorem zcC {w:World} {b:Nat} {l:List Int} {sp:List Value} {e:TypeId} (hb:Blk w b (l.map (.int .i64)++sp) e) (d:List Int) (hs:d.length=l.length) (m:Nat) (os:Array Obj) :
  Blk (Go.Sort.grow (Go.Sort.putRow (Value.int .i64) (Go.Sort.ahead w m) b 0 d.toArray) os) b (d.map (.int .i64)++sp) e/\Keep (fun q=>q=b) w (Go.Sort.grow (Go.Sort.putRow (Value.int .i64) (Go.Sort.ahead w m) b 0 d.toArray) os):=by
 have hblk:=hb.lt
 have hsz:(Go.Sort.putRow (Value.int .i64) (Go.Sort.ahead w m) b 0 d.toArray).heap.size=w.heap.size:=by simp[Go.Sort.ahead]
 have hat:∀ i,i<w.heap.size->(Go.Sort.grow (Go.Sort.putRow (Value.int .i64) (Go.Sort.ahead w m) b 0 d.toArray) os).heap[i]?=(Go.Sort.putRow (Value.int .i64) (Go.Sort.ahead w m) b 0 d.toArray).heap[i]?:=by
  intro i hi
  show ((Go.Sort.putRow (Value.int .i64) (Go.Sort.ahead w m) b 0 d.toArray).heap++os)[i]?=_
  rw[Array.getElem?_append_left (by rw[hsz];exact hi)]
 refine⟨?_,rfl,rfl,rfl,Nat.le_add_right _ _,?_,?_⟩
 .
  unfold Blk at *
  rw[hat b hblk]
  show (w.heap.modify b _)[b]?=_
  rw[Array.getElem?_modify,zp4 rfl,hb]
  simp only[zrw,Go.Sort.onCells]
  congr 2
  apply Array.ext_getElem?
  intro j
  simp only[Go.Sort.putCells,Array.getElem?_mapIdx,List.getElem?_toArray]
  by_cases hj:j<d.length
  .
   rw[zpj (by simpa[<- hs] using hj),zpj (by simpa using hj)]
   rw[zoT (by simpa[<- hs] using hj)]
   simp[hj]
  rw[zpk (by simp;omega),zpk (by simp;omega)]
  have hj':¬ j<l.length:=by omega
  simp[hs,hj']
 .
  show w.heap.size<=((Go.Sort.putRow (Value.int .i64) (Go.Sort.ahead w m) b 0 d.toArray).heap++os).size
  rw[Array.size_append,hsz];omega
 intro i hi hne
 rw[hat i hi]
 show (w.heap.modify b _)[i]?=_
 rw[Array.getElem?_modify,zp3 (fun h=>hne h.symm)]
def ja (l:List Int):List Int:=l.mergeSort fun x y=>decide (x<=y)
theorem zgF (l:List Int) (x:Int):x ∈ ja l ↔ x ∈ l:=List.mem_mergeSort
theorem qq (l:List Int):(ja l).length=l.length:=List.length_mergeSort _
theorem zid (l:List Int) (v:Value) (n:Nat) (w:World) (hown:w.ownsRow 0 3 1 v n (l.map (.int .i64))) (hlen:l.length<=1048576):Calls Tryz.prog 116 #[v] w (Ret fun u w'=>u=.tuple #[]/\w'.ownsRow 0 3 1 v n ((ja l).map (.int .i64))/\Keep (fun q=>v.ownBlock=some q) w w'):=by
 have hn:=zhH hown
 subst hn
 by_cases h0:l=[]
 .
  subst h0
  obtain⟨ao,c,rfl⟩:=xW hown
  refine(Tryz.slices_Sort_int_none ao c w).mono ?_
  rintro e w' ⟨rfl,rfl⟩
  exact⟨_,rfl,rfl,by simpa[ja] using hown,Keep.refl _ _⟩
 obtain⟨g,cap,sp,rfl,_,hnc,hcm,hB,hcl⟩:=zfV hown h0
 have hH:Go.Sort.Holds (Value.int .i64) w g 0 l.toArray:=by
  intro j hj
  have hj':j<l.length:=by simpa using hj
  refine⟨?_,hB.frozen⟩
  refine hB.cells j _ ?_
  rw[zpj (by simpa using hj'),zpa,zoT hj']
  simp[hj']
 refine(Tryz.slices_Sort_int g 0 cap l w hH hB.lt (by omega)).mono ?_
 rintro e w' ⟨rfl,q,os,rfl⟩
 have hw:=zcC hB (ja l) (qq l) q os
 refine⟨_,rfl,rfl,?_,hw.2.mono (fun q _ h=>by rw[h];rfl)⟩
 have:=zfW hw.1 (cap:=cap) (by rw[<- hcl];simp[qq]) hcm
 rw[qq]at this
 exact this
mutual
/-- The variables that a term mentions, in order. -/
def yn:Tm->List Int
 | .mk op n ks=>(if op=24 then [n] else [])++mentL ks
def mentL:List Tm->List Int
 | []=>[]
 | k::r=>yn k++mentL r
end
theorem zaw (t:Tm):yn t=(if t.op=24 then [t.n] else [])++mentL t.kids:=by cases t;rw[yn];rfl
theorem mentL_mem {l:List Tm} {v:Int}:v ∈ mentL l ↔ ∃ k ∈ l,v ∈ yn k:=by
 induction l with
 | nil=>simp[mentL]
 | cons k r ih=>rw[mentL,zpc,ih];simp
theorem zfo (l:List Tm) (k:Tm):mentL (l++[k])=mentL l++yn k:=by
 induction l with
 | nil=>simp[mentL]
 | cons x r ih=>rw[zq5,mentL,mentL,ih,zq3]
theorem zie {a b:List Int} (t:Tm):(∀ v ∈ yn t,lki a v.toNat=lki b v.toNat)->qp a t=qp b t:=by
 induction t using zmz with
 | h t ih =>
  intro h
  rw[zcy,zcy]
  have hk:valL a t.kids=valL b t.kids:=by
   rw[zat,zat]
   exact zqx fun k hk=>ih k hk fun v hv=>h v (by rw[zaw];exact zqE _ (mentL_mem.2 ⟨k,hk,hv⟩))
  rw[hk]
  unfold kw
  split
  . rfl
  split
  .
   rename_i e
   exact h t.n (by rw[zaw,zp4 e];simp)
  rfl
def rdB (f:Fl) (x:Nd):Bool:=decide (x.kind=3\/x.kind=5\/(x.kind=2/\((zO f x.at_).act=0\/(zO f x.at_).act=1)))
def rdN (f:Fl) (x:Nd):List Int:=if rdB f x=true then Gr.compactL (ja (yn (zO f x.at_).term)) else []
def rdV (f:Fl) (g:List Nd) (n:Nat):List Int:=rdN f (xk g n)
theorem zkp {f:Fl} {x:Nd} (h:rdB f x=true) {v:Int}:v ∈ rdN f x ↔ v ∈ yn (zO f x.at_).term:=by
 unfold rdN
 rw[zp4 h,Gr.compactL_mem,zgF]
section
variable (f:Fl) (g:List Nd) (s:Sf)
def xV (n:Nat):Bool:=decide (¬ 0<=(zg s n).dfn/\((xk g n).kind ≠ 2\/(zO f (xk g n).at_).act=1))
inductive NeedV:Int->Prop
 | sink {n:Nat} {u:Int × Int}:n<g.length->xV f g s n=true->u ∈ (zg s n).uses->NeedV u.2
 | use {n:Nat} {u:Int × Int}:n<g.length->0<=(zg s n).dfn->NeedV (zg s n).dfn->u ∈ (zg s n).uses->NeedV u.2
 | arg {n:Nat} {p:Phn} {a:Int}:n<g.length->p ∈ (zg s n).phis->NeedV p.ver->a ∈ p.args->NeedV a
theorem NeedV.all {P:Int->Prop} (h1:∀ n,n<g.length->xV f g s n=true->∀ u ∈ (zg s n).uses,P u.2)
  (h2:∀ n,n<g.length->0<=(zg s n).dfn->P (zg s n).dfn->∀ u ∈ (zg s n).uses,P u.2) (h3:∀ n,n<g.length->∀ p ∈ (zg s n).phis,P p.ver->∀ a ∈ p.args,P a) {k:Int} (h:NeedV f g s k):P k:=by
 induction h with
 | sink hn hs hu=>exact h1 _ hn hs _ hu
 | use hn hd _ hu ih=>exact h2 _ hn hd ih _ hu
 | arg hn hp _ ha ih=>exact h3 _ hn _ hp ih _ ha
end
end Go.Proofs.YtckdhgbepmpgiaaGreat
namespace Go.GL
open Go.RowKit
theorem zoe (w:World) (S:Nat->Prop):VI [(w,S)] [] w where
 holds:=fun _ h=>by cases h
 loc:=fun _ h=>by cases h
 apart:=List.Pairwise.nil
 froz:=fun _ h=>by cases h
 low:=fun _ h=>by cases h
 base:=fun p hp=>by
  rw[zpb]at hp
  subst hp
  exact⟨Keep.refl _ _,fun _ h=>by cases h⟩
theorem VI.add {Bs:zC} {H:Hp} {w:World} {e:HE} (h:VI Bs H w) (k:Nat) (he:e.holds w) (hl:e.loc) (hz:∀ b,¬ e.fz b) (hS:∀ q,e.S q->q<w.heap.size/\(∀ p ∈ Bs,p.2 q\/p.1.heap.size<=q)/\∀ x ∈ H,¬ x.2.S q/\¬ x.2.fz q):VI Bs ((k,e)::H) w:=by
 refine⟨?_,?_,?_,?_,?_,?_⟩
 .
  intro x hx
  rcases zp9.1 hx with rfl | hx
  . exact he
  exact h.holds x hx
 .
  intro x hx
  rcases zp9.1 hx with rfl | hx
  . exact hl
  exact h.loc x hx
 . exact zqQ.2 ⟨fun x hx q hq hs=>((hS q hq).2.2 x hx).1 hs,h.apart⟩
 .
  intro x hx y hy b hb
  rcases zp9.1 hx with rfl | hx
  . exact absurd hb (hz b)
  rcases zp9.1 hy with rfl | hy
  . exact fun hs=>((hS b hs).2.2 x hx).2 hb
  exact h.froz x hx y hy b hb
 .
  intro x hx q hq
  rcases zp9.1 hx with rfl | hx
  . exact(hS q hq).1
  exact h.low x hx q hq
 intro p hp
 refine⟨(h.base p hp).1,fun x hx q hq=>?_⟩
 rcases zp9.1 hx with rfl | hx
 . exact(hS q hq).2.1 p hp
 exact(h.base p hp).2 x hx q hq
structure RowsOk {α:Type} (enc:α->Value) (e:TypeId) (w:World) (rv:List Value) (rows:List (List α)):Prop where
 len:rv.length=rows.length
 row:∀ (i:Nat) (v:Value) (r:List α),rv[i]?=some v->rows[i]?=some r->w.ownsRow 0 e 1 v r.length (r.map enc)
 apart:∀ (i j:Nat) (vi vj:Value) (g:Nat),i ≠ j->rv[i]?=some vi->rv[j]?=some vj->vi.ownBlock=some g->vj.ownBlock ≠ some g
section
variable {α:Type} {enc:α->Value} {e:TypeId} {w w1:World} {rv:List Value} {rows:List (List α)}
theorem RowsOk.blk (h:RowsOk enc e w rv rows) {i:Nat} {v:Value} {g:Nat} (hv:rv[i]?=some v) (hg:v.ownBlock=some g):g<w.heap.size:=by
 have hi:i<rows.length:=by rw[<- h.len];exact(zp7.1 hv).1
 exact qj (h.row i v _ hv (zoT hi)) hg
theorem RowsOk.keep {S:Nat->Prop} (h:RowsOk enc e w rv rows) (hk:Keep S w w1) (hS:∀ (i:Nat) v g,rv[i]?=some v->v.ownBlock=some g->¬ S g):RowsOk enc e w1 rv rows :=
 ⟨h.len,fun i v r hv hr=>zk (h.row i v r hv hr) hk (fun g hg=>hS i v g hv hg),h.apart⟩
theorem RowsOk.put (h:RowsOk enc e w rv rows) {i:Nat} {v v':Value} {r':List α} (hv:rv[i]?=some v) (hown:w1.ownsRow 0 e 1 v' r'.length (r'.map enc)) (hfr:v'.ownBlock=v.ownBlock\/∃ g,v'.ownBlock=some g/\w.heap.size<=g) (hk:Keep (fun q=>v.ownBlock=some q) w w1):RowsOk enc e w1 (rv.set i v') (rows.set i r'):=by
 have hil:=(zp7.1 hv).1
 have hne:∀ (j:Nat) u g,i ≠ j->rv[j]?=some u->v'.ownBlock=some g->u.ownBlock ≠ some g:=by
  intro j u g hij hu hg hug
  rcases hfr with hf | ⟨g',hf,hg'⟩
  . exact h.apart i j v u g hij hv hu (hf ▸ hg) hug
  rw[hf]at hg;cases hg
  have:=h.blk hu hug
  omega
 refine⟨by simp[h.len],fun j u r hu hr=>?_,fun a b va vb g hab ha hb hg=>?_⟩
 .
  by_cases hij:i=j
  .
   subst hij
   rw[List.getElem?_set_self hil]at hu
   rw[List.getElem?_set_self (by rw[<- h.len];exact hil)]at hr
   cases hu;cases hr
   exact hown
  rw[List.getElem?_set_ne hij]at hu hr
  exact zk (h.row j u r hu hr) hk fun g hg hq=>h.apart i j v u g hij hv hu hq hg
 by_cases hia:i=a
 .
  subst hia
  rw[List.getElem?_set_self hil]at ha
  rw[List.getElem?_set_ne hab]at hb
  cases ha
  exact hne b vb g hab hb hg
 rw[List.getElem?_set_ne hia]at ha
 by_cases hib:i=b
 .
  subst hib
  rw[List.getElem?_set_self hil]at hb
  cases hb
  exact fun hg'=>hne a va g hia ha hg' hg
 rw[List.getElem?_set_ne hib]at hb
 exact h.apart a b va vb g hab ha hb hg
end
abbrev RowsP {α:Type} (enc:α->Value) (e:TypeId) (rv:List Value) (rows:List (List α)):HE:=.res (fun q=>∃ (i:Nat) (v:Value),rv[i]?=some v/\v.ownBlock=some q) (fun w=>RowsOk enc e w rv rows)
theorem RowsP.loc {α:Type} {enc:α->Value} {e:TypeId} {rv:List Value} {rows:List (List α)}:(RowsP enc e rv rows).loc:=fun _ _ _ h hk hT=>h.keep hk fun i v g hv hg=>hT g (h.blk hv hg) ⟨i,v,hv,hg⟩
theorem znm {w:World} {b:Nat} {cs:List Value} {e:TypeId} {i:Nat} {v:Value} (h:Blk w b cs e) (hv:cs[i]?=some v):w.cell? ⟨b,0+(i:Int).toNat*1,none⟩=some v:=by
 have:=Blk.cells h i v hv
 simpa using this
section
variable {P:Program} {T:Tab} {Z:Szs} {n:Nat} {Q:Exit->Act->World->Prop} {ks:List Fr} {pos:Pos} {env:Env} {A:Tgs} {H Hs:Hp} {Bs B0:zC} {ops:Array Oper} {rest:List Oper} {v:Value} {L:List Nat} {fuel:Nat} {listed:Array Bool}
variable {d:Nat} {op:Op} {ty:TypeId} {ps:String} {aft:Array Edge} {g:Option (Nat × Bool)}
theorem zof {w:World} (k:Nat) (e:HE) (he:e.holds w) (hl:e.loc) (hz:∀ b,¬ e.fz b) (hS:∀ q,e.S q->q<w.heap.size) (h:V P n Q ks pos env [] [(k,e)] [(w,e.S)]):G P n Q ks pos env w :=
 h TgOk.nil w ((zoe w e.S).add k he hl hz fun q hq=>⟨hS q hq,fun p hp=>by rw[zpb]at hp;subst hp;exact .inl hq,fun x hx=>by cases hx⟩)
theorem zog (k:Nat) {e e':HE} (hn:(hget H k,ji H k)=(some e,none)) (he:∀ w,VI Bs H w->e'.holds w) (hl:e'.loc) (hz:∀ b,¬ e'.fz b) (hS:∀ q,e'.S q->e.S q) (h:V P n Q ks pos env A (yx H k e') Bs):V P n Q ks pos env A H Bs:=by
 simp only[Prod.mk.injEq]at hn
 exact fun hA w hI=>h (hA.res hn.1 hn.2) w (hI.set hn.1 (Keep.refl _ _) (he w hI) hl hz fun q hq=>⟨.inl (hS q hq),hI.low _ (zx hn.1) q (hS q hq)⟩)
theorem zoh (i:Nat) (hi:ops[i]?=some ⟨some d,op,ty,ps,aft,g⟩) (hc:(Region.noSelect ops&&Region.free .any ops listed i&&(Region.ready .any ops listed).contains i&&L.all (jf .any ops i)&&!L.contains i)=true) (hn:(Nat.blt d n,gd ops env g)=(true,some true)) (j:Nat) (hB:Bs.drop j=B0) (hu:qu (Hs.map (·.1))=true) (hr:∀ w,VI B0 Hs w->yo P ⟨some d,op,ty,ps,aft,g⟩ env w v w)
  (h:VD P n Q ks ops Hs B0 L fuel (listed.setIfInBounds i true) ((d,v)::env) ((d,none)::A) H Bs):VD P n Q ks ops Hs B0 L (fuel+1) listed env A H Bs:=by
 simp only[Prod.mk.injEq]at hn
 subst hB
 exact fun hH hA w hI=>zmH i hi hc O hn.1 ((hI.drop j).pick hH hu) (.inl ⟨qs hn.2,hr⟩) (h hH hA.none w hI)
theorem zoi (i:Nat) {S:World->Prop} {Q:Exit->Act->World->Prop} {op:Op} {w:World} {R:World->Prop} (hi:ops[i]?=some ⟨none,op,ty,ps,aft,g⟩) (hr:Region.ready .any ops listed=[i]) (hg:gd ops env g=some true) (hL:L.contains i=true) (hm:xL P ⟨none,op,ty,ps,aft,g⟩ env w R)
  (h:∀ w',R w'->WD P n ops Q S L fuel (listed.setIfInBounds i true) env w'):WD P n ops Q S L (fuel+1) listed env w:=by
 intro a ha
 refine⟨fun h0=>(by rw[hr]at h0;cases h0),fun k hk=>?_⟩
 rw[hr]at hk
 have:k=i:=by simpa using hk
 subst this
 unfold wpOp
 simp only[hi]
 rw[zp4 (qs hg a ha)]
 refine .inl ?_
 obtain⟨w',hrun,hR⟩:=hm
 unfold Oper.wp
 rw[hrun n a ha,Oper.upon_skip]
 exact⟨fun hc _=>absurd (by simpa using hL) hc,h w' hR _ ha.put0⟩
theorem zoj {α:Type} {enc:α->Value} (ia k kb j i:Nat) {t e:TypeId} {by':Nat} {z:Value} {x y:Operand} {b c:Nat} {rv:List Value} {rows:List (List α)} {r:List α} {xx:α} {tb:TypeId}
  (hu:P.underlying t=some (.slice e)) (he:(P.info? e).map (fun i=>(i.zero,i.size,i.bytes))=some (some z,1,by')) (hzs:z.cells.size=1)
  (hi:ops[ia]?=some ⟨some d,.call ⟨.builtin .append,#[x,y],#[t,t]⟩,ty,ps,aft,g⟩) (hr:Region.ready .any ops listed=[ia]) (hB:Bs.drop j=B0)
  (hn:(Nat.blt d n,gd ops env g,hget H k,ji H k,hget H kb,ev env x,ev env y,Go.GL.one (enc xx),qu (Hs.map (·.1)),ql k (Hs.map (·.1)))=(true,some true,some (RowsP enc e rv rows),none,some (.own b [enc xx] tb),some v,some (.slice (some ⟨b,0,none⟩) 1 c),true,true,true))
  (hv:rv[i]?=some v) (hrow:rows[i]?=some r) (hb:r.length+1<=9223372036854775807/\(r.length+1)*by'<=140737488355328)
  (h:∀ u,Go.GL.one u=true->VD P n Q ks ops Hs B0 L fuel (listed.setIfInBounds ia true) ((d,u)::env) ((d,none)::A) (yx H k (RowsP enc e (rv.set i u) (rows.set i (r++[xx])))) Bs):VD P n Q ks ops Hs B0 L (fuel+1) listed env A H Bs:=by
 simp only[Prod.mk.injEq]at hn
 subst hB
 obtain⟨h1,h2,h3,h4,h5,h6,h7,h8,h9,h10⟩:=hn
 intro hH hA w hI
 have hM:RowsOk enc e w rv rows:=hI.at k h3
 have hil:=(zp7.1 hv).1
 refine znD ia hi hr h1 h2 (.inl (M.append (news:=[enc xx]) hu he hzs Nat.one_pos h6 h7 (hM.row i v r hv hrow) O (Cells.add (Blk.cells (hI.at kb h5))) (fun u hu=>by rw[zpb]at hu;rw[hu];exact(xE h8).1) hb.1 hb.2)) ?_
 rintro u w1 ⟨ho,hf,hkp,_⟩
 have hM2:=hM.put hv (r':=r++[xx]) (by simpa using ho) hf hkp
 have hI':VI Bs (yx H k (RowsP enc e (rv.set i u) (rows.set i (r++[xx])))) w1:=hI.set h3 (hkp.mono fun q _ hq=>⟨i,v,hv,hq⟩) hM2 RowsP.loc (fun _ h=>h) fun q hq=>by
  refine⟨?_,?_⟩
  .
   obtain⟨j,vj,hj,hq⟩:=hq
   by_cases hij:i=j
   .
    subst hij
    rw[List.getElem?_set_self hil]at hj
    cases hj
    rcases hf with hf | ⟨g',hf,hg'⟩
    . exact .inl ⟨i,v,hv,hf ▸ hq⟩
    rw[hf]at hq;cases hq;exact .inr hg'
   rw[List.getElem?_set_ne hij]at hj
   exact .inl ⟨j,vj,hj,hq⟩
  obtain⟨j,vj,hj,hq⟩:=hq
  exact hM2.blk hj hq
 have hH':Has Hs (yx H k (RowsP enc e (rv.set i u) (rows.set i (r++[xx])))):=hH.set h3 h10
 obtain⟨au,cu,rfl,_,_⟩:=xM ho
 exact⟨(hI'.drop j).pick hH' h9,h _ O hH' (TgOk.none (hA.res h3 h4)) w1 hI'⟩
theorem zok (is k j:Nat) {ts:TypeId} {x y:Operand} {b o:Nat} {cs:List Value} {e:TypeId} (hss:∀ w,(sizeOf ts).run P w=.ok 1 w) (hi:ops[is]?=some ⟨none,.store ts x y,ty,ps,aft,g⟩) (hr:Region.ready .any ops listed=[is])
  (hn:(gd ops env g,hget H k,ev env x,ev env y,L.contains is)=(some true,some (.own b cs e),some (.pointer (some ⟨b,o,none⟩)),some v,true)) (h1:Go.GL.one v=true) (hj:o=j) (hl:j<cs.length)
  (h:VDx P n Q ks ops (VI B0 Hs) L fuel (listed.setIfInBounds is true) env A (yx H k (.own b (cs.set j v) e)) Bs):VD P n Q ks ops Hs B0 L (fuel+1) listed env A H Bs:=by
 simp only[Prod.mk.injEq]at hn
 subst hj
 obtain⟨h2,h3,h4,h5,h6⟩:=hn
 intro hH hA w hI
 have hB:Blk w b cs e:=hI.at k h3
 obtain⟨c1,c2⟩:=xE h1
 refine zoi is hi hr h2 h6 (M.store hss h4 h5 c1 c2 hB hl) ?_
 rintro w2 ⟨_,hB2,hk2⟩
 exact h (hA.set h3) w2 (hI.set h3 hk2 hB2 trivial (fun _ h=>h) fun q hq=>⟨.inl hq,by have hq:q=b:=hq;rw[hq];exact hB2.lt⟩)
theorem VI.row {e:TypeId} {kk m b:Nat} {zs:List Value} {w w':World} (k:Nat) (hI:VI Bs H w) (hm:m<=9223372036854775807) (hl:zs.length=m*kk) (hN:New w zs e b w'):VI Bs ((k,.row e kk (.slice (some ⟨b,0,none⟩) m m) m zs)::H) w':=by
 obtain⟨h1,h2,h3,h4⟩:=hN
 refine hI.new h4 k ?_ trivial (fun _ h=>h) (fun q hq=>?_)
 .
  have:=yp (k:=kk) (n:=m) (cap:=m) h3 (zpi _) hm hl
  rw[<- hl,zoY]at this
  exact this
 have hq:some b=some q:=hq
 cases hq
 omega
theorem zm7 (i k j:Nat) {t e:TypeId} {kk by' m:Nat} {z:Value} {x y:Operand} {kl kc:IntKind} {zs:List Value} (hu:P.underlying t=some (.slice e)) (he:(P.info? e).map (fun i=>(i.zero,i.size,i.bytes))=some (some z,kk,by'))
  (hi:ops[i]?=some ⟨some d,.makeSlice t x y,ty,ps,aft,g⟩) (hr:Region.ready .any ops listed=[i]) (hn:(Nat.blt d n,gd ops env g,(hget H k).isNone,ev env x,ev env y,qu (Hs.map (·.1)))=(true,some true,true,some (.int kl (m:Int)),some (.int kc (m:Int)),true)) (hB:Bs.drop j=B0)
  (hb:by'*m<=281474976710656) (hm:m<=9223372036854775807) (hz:madeCells z.cells (m*kk)=zs.toArray) (hl:zs.length=m*kk)
  (h:∀ b,VD P n Q ks ops Hs B0 L fuel (listed.setIfInBounds i true) ((d,.slice (some ⟨b,0,none⟩) m m)::env) ((d,none)::A) ((k,.row e kk (.slice (some ⟨b,0,none⟩) m m) m zs)::H) Bs):VD P n Q ks ops Hs B0 L (fuel+1) listed env A H Bs:=by
 simp only[Prod.mk.injEq,zrt]at hn
 subst hB
 obtain⟨h1,h2,h3,h4,h5,h6⟩:=hn
 intro hH hA w hI
 refine znD i hi hr h1 h2 (.inl (zm5 hu he h4 h5 hb hm hz)) ?_
 rintro _ w1 ⟨b,rfl,hN⟩
 have hI1:=hI.row k hm hl hN
 have hH1:Has Hs ((k,.row e kk (.slice (some ⟨b,0,none⟩) m m) m zs)::H):=hH.new h3
 exact⟨(hI1.drop j).pick hH1 h6,h b hH1 (TgOk.none (hA.new h3)) w1 hI1⟩
theorem zol (i i2 k k2 j:Nat) {t e t2 e2:TypeId} {kk by' kk2 by2 m m2 d2:Nat} {z z2:Value} {x y x2 y2:Operand} {kl kc kl2 kc2:IntKind} {zs zs2:List Value} {ty2:TypeId} {ps2:String} {aft2:Array Edge}
  (hu:P.underlying t=some (.slice e)) (he:(P.info? e).map (fun i=>(i.zero,i.size,i.bytes))=some (some z,kk,by')) (hu2:P.underlying t2=some (.slice e2)) (he2:(P.info? e2).map (fun i=>(i.zero,i.size,i.bytes))=some (some z2,kk2,by2))
  (hi:(ops[i]?,ops[i2]?)=(some ⟨some d,.makeSlice t x y,ty,ps,aft,none⟩,some ⟨some d2,.makeSlice t2 x2 y2,ty2,ps2,aft2,none⟩)) (hr:Region.ready .any ops listed=[i,i2])
  (hn:(Nat.blt d n,Nat.blt d2 n,(hget H k).isNone,(hget H k2).isNone)=(true,true,true,true)) (hu0:qu (Hs.map (·.1))=true) (hB:Bs.drop j=B0)
  (hv:(ev env x,ev env y,ev env x2,ev env y2)=(some (.int kl (m:Int)),some (.int kc (m:Int)),some (.int kl2 (m2:Int)),some (.int kc2 (m2:Int))))
  (hb:by'*m<=281474976710656/\m<=9223372036854775807/\by2*m2<=281474976710656/\m2<=9223372036854775807) (hz:madeCells z.cells (m*kk)=zs.toArray) (hz2:madeCells z2.cells (m2*kk2)=zs2.toArray) (hl:zs.length=m*kk/\zs2.length=m2*kk2)
  (h:∀ b,VD P n Q ks ops Hs B0 L fuel (listed.setIfInBounds i true) ((d,.slice (some ⟨b,0,none⟩) m m)::env) ((d,none)::A) ((k,.row e kk (.slice (some ⟨b,0,none⟩) m m) m zs)::H) Bs)
  (h2:∀ b,VD P n Q ks ops Hs B0 L fuel (listed.setIfInBounds i2 true) ((d2,.slice (some ⟨b,0,none⟩) m2 m2)::env) ((d2,none)::A) ((k2,.row e2 kk2 (.slice (some ⟨b,0,none⟩) m2 m2) m2 zs2)::H) Bs):VD P n Q ks ops Hs B0 L (fuel+1) listed env A H Bs:=by
 simp only[Prod.mk.injEq,zrt]at hi hn hv
 subst hB
 obtain⟨hi1,hi2⟩:=hi
 obtain⟨hb1,hb2,hk,hk2⟩:=hn
 obtain⟨g1,g2,g3,g4⟩:=hb
 intro hH hA w hI
 refine zmg i i2 (R:=fun r w'=>∃ b,r=.slice (some ⟨b,0,none⟩) m m/\New w zs e b w') (Rj:=fun r w'=>∃ b,r=.slice (some ⟨b,0,none⟩) m2 m2/\New w zs2 e2 b w') hi1 hi2 hr O O hb1 O O hb2 (.inl (zm5 hu he hv.1 hv.2.1 g1 g2 hz)) (.inl (zm5 hu2 he2 hv.2.2.1 hv.2.2.2 g3 g4 hz2)) ?_ ?_
 .
  rintro _ w1 ⟨b,rfl,hN⟩
  have hI1:=hI.row k g2 hl.1 hN
  have hH1:Has Hs ((k,.row e kk (.slice (some ⟨b,0,none⟩) m m) m zs)::H):=hH.new hk
  exact⟨fun _=>(hI1.drop j).pick hH1 hu0,h b hH1 (TgOk.none (hA.new hk)) w1 hI1⟩
 rintro _ w1 ⟨b,rfl,hN⟩
 have hI1:=hI.row k2 g4 hl.2 hN
 have hH1:Has Hs ((k2,.row e2 kk2 (.slice (some ⟨b,0,none⟩) m2 m2) m2 zs2)::H):=hH.new hk2
 exact⟨fun _=>(hI1.drop j).pick hH1 hu0,h2 b hH1 (TgOk.none (hA.new hk2)) w1 hI1⟩
theorem zom (is k:Nat) {t tl:TypeId} {x y:Operand} {b o m c:Nat} {xs:List Value} (q:Nat) (hs:∀ w,(sizeOf tl).run P w=.ok 1 w) (hi:ops[is]?=some ⟨none,.store tl x y,ty,ps,aft,g⟩) (hr:Region.ready .any ops listed=[is])
  (hn:(gd ops env g,hget H k,ji H k,ev env x,ev env y,Go.GL.one v,L.contains is)=(some true,some (.row t 1 (.slice (some ⟨b,0,none⟩) m c) m xs),none,some (.pointer (some ⟨b,o,none⟩)),some v,true,true)) (hj:o=q) (hl:q<xs.length)
  (h:VDx P n Q ks ops (VI B0 Hs) L fuel (listed.setIfInBounds is true) env A (yx H k (.row t 1 (.slice (some ⟨b,0,none⟩) m c) m (xs.set q v))) Bs):VD P n Q ks ops Hs B0 L (fuel+1) listed env A H Bs:=by
 simp only[Prod.mk.injEq]at hn
 subst hj
 obtain⟨h2,h3,ha,h4,h5,h1,h6⟩:=hn
 intro hH hA w hI
 have ho:w.ownsRow 0 t 1 (.slice (some ⟨b,0,none⟩) m c) m xs:=hI.at k h3
 obtain⟨sp,hB,hc,hcm,hlen⟩:=qQ ho
 have hm1:xs.length=m:=by have:=ho.1;omega
 obtain⟨c1,c2⟩:=xE h1
 refine zoi is hi hr h2 h6 (M.store hs h4 h5 c1 c2 hB (by rw[zp1];omega)) ?_
 rintro w2 ⟨_,hB2,hk2⟩
 refine h (hA.res h3 ha) w2 (hI.set h3 (hk2.mono (fun q _ hq=>by have hq:q=b:=hq;subst hq;exact rfl)) ?_ trivial (fun _ h=>h) fun q hq=>⟨.inl hq,by have hq:some b=some q:=hq;cases hq;exact hB2.lt⟩)
 have:=yp (k:=1) (n:=m) (cap:=c) hB2 hc hcm (by rw[zqv];omega)
 rw[zqX _ _ hl,zrm,zr6 (by rw[zqv];omega),zr7 (by rw[zqv];omega)]at this
 exact this
end
open Go.RowKit
def zgG (k:Nat):List Nat->Bool
 | []=>false
 | j::r=>cond (Nat.beq j k) true (zgG k r)
def yL (ks:List Nat):Hp->Hp
 | []=>[]
 | x::r=>cond (zgG x.1 ks) (yL ks r) (x::yL ks r)
theorem yh {ks:List Nat}:∀ {H:Hp} {x:Nat × HE},x ∈ yL ks H->x ∈ H/\zgG x.1 ks=false
 | y::r,x,h=>by
  simp only[yL]at h
  cases hb:zgG y.1 ks with
  | true =>
   rw[hb]at h
   have h:x ∈ yL ks r:=h
   exact⟨zoW _ (yh h).1,(yh h).2⟩
  | false =>
   rw[hb]at h
   rcases zp9.1 h with rfl | h
   . exact⟨zoX ..,hb⟩
   exact⟨zoW _ (yh h).1,(yh h).2⟩
theorem hdels_sub {ks:List Nat}:∀ {H:Hp},(yL ks H).Sublist H
 | []=>List.Sublist.refl _
 | y::r=>by
  simp only[yL]
  cases zgG y.1 ks with
  | true=>exact hdels_sub.trans (List.sublist_cons_self ..)
  | false=>exact hdels_sub.cons_cons _
theorem zif {H:Hp} (h:H.Pairwise (fun x y=>∀ q,x.2.S q->¬ y.2.S q)):∀ x ∈ H,∀ y ∈ H,x ≠ y->∀ q,x.2.S q->¬ y.2.S q:=by
 induction H with
 | nil=>intro x hx;cases hx
 | cons z r ih =>
  rw[zqQ]at h
  intro x hx y hy hne q hq hs
  rcases zp9.1 hx with h1 | h1
  .
   rcases zp9.1 hy with h2 | h2
   . exact hne (h1.trans h2.symm)
   subst h1;exact h.1 y h2 q hq hs
  rcases zp9.1 hy with h2 | h2
  . subst h2;exact h.1 x h1 q hs hq
  exact ih h.2 x h1 y h2 hne q hq hs
def InS (H:Hp) (ks:List Nat) (q:Nat):Prop:=∃ y ∈ H,zgG y.1 ks=true/\y.2.S q
structure Hands (H:Hp) (ks:List Nat) (Hn:Hp) (w w':World):Prop where
 keep:Keep (InS H ks) w w'
 ok:∀ x ∈ Hn,x.2.holds w'/\x.2.loc/\(∀ b,¬ x.2.fz b)/\∀ q,x.2.S q->(InS H ks q\/w.heap.size<=q)/\q<w'.heap.size
 apart:Hn.Pairwise (fun x y=>∀ q,x.2.S q->¬ y.2.S q)
theorem VI.hands {Bs:zC} {H Hn:Hp} {ks:List Nat} {w w':World} (h:VI Bs H w) (hh:Hands H ks Hn w w'):VI Bs (Hn++yL ks H) w':=by
 have hrest:∀ x ∈ yL ks H,∀ q,InS H ks q->¬ x.2.S q:=by
  rintro x hx q ⟨y,hy,hk,hq⟩ hs
  obtain⟨h1,h2⟩:=yh hx
  exact zif h.apart x h1 y hy (fun e=>by rw[e,hk]at h2;cases h2) q hs hq
 have hfz:∀ x ∈ yL ks H,∀ b,x.2.fz b->¬ InS H ks b:=by
  rintro x hx b hb ⟨y,hy,hk,hq⟩
  exact h.froz x (yh hx).1 y hy b hb hq
 have hlo:∀ x ∈ yL ks H,∀ q,x.2.S q->q<w.heap.size:=fun x hx q hq=>h.low x (yh hx).1 q hq
 have hnew:∀ x ∈ yL ks H,∀ y ∈ Hn,∀ q,y.2.S q->¬ x.2.S q:=fun x hx y hy q hq hs=>by
  rcases ((hh.ok y hy).2.2.2 q hq).1 with h1 | h1
  . exact hrest x hx q h1 hs
  have:=hlo x hx q hs;omega
 refine⟨?_,?_,?_,?_,?_,?_⟩
 .
  intro x hx
  rcases zpc.1 hx with hx | hx
  . exact(hh.ok x hx).1
  have h1:=(yh hx).1
  exact HE.keep (e:=x.2) (h.holds x h1) (h.loc x h1) hh.keep (fun q hq hi=>hrest x hx q hi hq) (hfz x hx)
 .
  intro x hx
  rcases zpc.1 hx with hx | hx
  . exact(hh.ok x hx).2.1
  exact h.loc x (yh hx).1
 . exact zqP.2 ⟨hh.apart,h.apart.sublist hdels_sub,fun x hx y hy q hq=>hnew y hy x hx q hq⟩
 .
  intro x hx y hy b hb hs
  rcases zpc.1 hx with hx | hx
  . exact(hh.ok x hx).2.2.1 b hb
  rcases zpc.1 hy with hy | hy
  .
   rcases ((hh.ok y hy).2.2.2 b hs).1 with h1 | h1
   . exact hfz x hx b hb h1
   have:=zna (h.holds x (yh hx).1) hb;omega
  exact h.froz x (yh hx).1 y (yh hy).1 b hb hs
 .
  intro x hx q hq
  rcases zpc.1 hx with hx | hx
  . exact((hh.ok x hx).2.2.2 q hq).2
  exact zrj (hlo x hx q hq) hh.keep.size
 intro p hp
 obtain⟨h1,h2⟩:=h.base p hp
 refine⟨h1.trans hh.keep fun q hq hi=>?_,fun x hx q hq=>?_⟩
 .
  obtain⟨y,hy,_,hs⟩:=hi
  exact(h2 y hy q hs).resolve_right (by omega)
 rcases zpc.1 hx with hx | hx
 .
  rcases ((hh.ok x hx).2.2.2 q hq).1 with⟨y,hy,_,hs⟩ | h3
  . exact h2 y hy q hs
  exact .inr (zoZ h1.size h3)
 exact h2 x (yh hx).1 q hq
theorem zon {H:Hp} {w:World} (hh:∀ x ∈ H,x.2.holds w/\x.2.loc/\(∀ b,¬ x.2.fz b)/\∀ q,x.2.S q->q<w.heap.size) (hap:H.Pairwise (fun x y=>∀ q,x.2.S q->¬ y.2.S q)):VI [(w,HS H)] H w :=
 ⟨fun x hx=>(hh x hx).1,fun x hx=>(hh x hx).2.1,hap,fun x hx _ _ b hb _=>(hh x hx).2.2.1 b hb,fun x hx=>(hh x hx).2.2.2,fun p hp=>by
  rw[zpb]at hp
  subst hp
  exact⟨Keep.refl _ _,fun x hx q hq=>.inl ⟨x,hx,hq⟩⟩⟩
section
variable {P:Program} {n:Nat} {Q:Exit->Act->World->Prop} {ks:List Fr} {pos:Pos} {env:Env} {A:Tgs} {H:Hp} {Bs:zC} {ops:Array Oper} {rest:List Oper} {v:Value}
variable {d:Nat} {ty:TypeId} {ps:String} {aft:Array Edge} {g:Option (Nat × Bool)}
theorem zoo {w:World} (H:Hp) (hh:∀ x ∈ H,x.2.holds w/\x.2.loc/\(∀ b,¬ x.2.fz b)/\∀ q,x.2.S q->q<w.heap.size) (hap:H.Pairwise (fun x y=>∀ q,x.2.S q->¬ y.2.S q)) (h:V P n Q ks pos env [] H [(w,HS H)]):G P n Q ks pos env w:=h TgOk.nil w (zon hh hap)
theorem zop (kk:List Nat) {f:FuncId} {xs:Array Operand} {ts:Array TypeId} {vs:List Value} {α:Type} {Hn:α->Hp} {Φ:Value->α->Prop} (A1:Tgs) (hf:∀ args w,(callFunc f args).run P w=.ok (.enter f args) w) (hn:(Nat.blt d n,gd ops env g,qM env xs.toList)=(true,some true,some vs))
  (hA1:∀ r x,A1.map (fun p=>zdM ((d,r)::env) p.1)=A1.map (fun p=>jC (Hn x++yL kk H) p.2)) (hA2:∀ x,A1.all (fun p=>(jC (Hn x++yL kk H) p.2).isSome)=true)
  (hc:∀ w,VI Bs H w->Calls P f vs.toArray w (Ret fun r w'=>∃ x,Φ r x/\Hands H kk (Hn x) w w'))
  (h:∀ r x,Φ r x->V P n Q ks (.o ops rest) ((d,r)::env) A1 (Hn x++yL kk H) Bs):V P n Q ks (.o ops (⟨some d,.call ⟨.value (.func f),xs,ts⟩,ty,ps,aft,g⟩::rest)) env A H Bs:=by
 refine fun hA w hI=>G.call hn hf (hc w hI) ?_
 rintro r w' ⟨x,hP,hh⟩
 exact h r x hP (TgOk.of (hA1 r x) (hA2 x)) w' (hI.hands hh)
theorem zoq {Hs:Hp} {B0:zC} {L:List Nat} {fuel:Nat} {listed:Array Bool} {op:Array Oper} (i j:Nat) (kk:List Nat) {f:FuncId} {xs:Array Operand} {ts:Array TypeId} {vs:List Value} {α:Type} {Hn:α->Hp} {Φ:Value->α->Prop} (A1:Tgs) (hf:∀ args w,(callFunc f args).run P w=.ok (.enter f args) w) (hi:op[i]?=some ⟨some d,.call ⟨.value (.func f),xs,ts⟩,ty,ps,aft,g⟩) (hr:Region.ready .any op listed=[i]) (hn:(Nat.blt d n,gd op env g,qM env xs.toList,qu (Hs.map (·.1)))=(true,some true,some vs,true)) (hB:Bs.drop j=B0)
  (hHs:∀ x,Hs.map (fun y=>hget (Hn x++yL kk H) y.1)=Hs.map (fun y=>some y.2))
  (hA1:∀ r x,A1.map (fun p=>zdM ((d,r)::env) p.1)=A1.map (fun p=>jC (Hn x++yL kk H) p.2)) (hA2:∀ x,A1.all (fun p=>(jC (Hn x++yL kk H) p.2).isSome)=true)
  (hc:∀ w,VI Bs H w->Calls P f vs.toArray w (Ret fun r w'=>∃ x,Φ r x/\Hands H kk (Hn x) w w'))
  (h:∀ r x,Φ r x->VD P n Q ks op Hs B0 L fuel (listed.setIfInBounds i true) ((d,r)::env) A1 (Hn x++yL kk H) Bs):VD P n Q ks op Hs B0 L (fuel+1) listed env A H Bs:=by
 simp only[Prod.mk.injEq]at hn
 subst hB
 intro hH hA w hI
 refine znD i hi hr hn.1 hn.2.1 (.inr ⟨f,_,F.call hf (yT hn.2.2.1),hc w hI⟩) ?_
 rintro r w' ⟨x,hP,hh⟩
 have hI':=hI.hands hh
 exact⟨(hI'.drop j).pick (Has.of (hHs x)) hn.2.2.2,h r x hP (Has.of (hHs x)) (TgOk.of (hA1 r x) (hA2 x)) w' hI'⟩
end
theorem VI.k4 {Bs:zC} {H:Hp} {w:World} {p0 p1 p2 p3 p4:World × (Nat->Prop)} (h:VI (p0::p1::p2::p3::p4::Bs) H w):Keep p4.2 p4.1 w:=(h.base p4 (by simp)).1
theorem VI.k5 {Bs:zC} {H:Hp} {w:World} {p0 p1 p2 p3 p4 p5:World × (Nat->Prop)} (h:VI (p0::p1::p2::p3::p4::p5::Bs) H w):Keep p5.2 p5.1 w:=(h.base p5 (by simp)).1
theorem VI.k6 {Bs:zC} {H:Hp} {w:World} {p0 p1 p2 p3 p4 p5 p6:World × (Nat->Prop)} (h:VI (p0::p1::p2::p3::p4::p5::p6::Bs) H w):Keep p6.2 p6.1 w:=(h.base p6 (by simp)).1
theorem SlR.atD {α:Type} {k:Nat} {R:Rel α} {D:Nat->Prop} {w:World} {ao:Option Addr} {n cap:Nat} {l:List α} (h:SlR k R D w (.slice ao n cap) l) {i:Nat} {x:α} (hx:l[i]?=some x):∃ b o cs,ao=some ⟨b,o,none⟩/\D b/\Cells w b (o+i*k) cs/\R D w x cs:=by
 obtain⟨ao',cap',h1,h2,h3,h4⟩:=h
 cases h1
 obtain⟨b,o,cs,h5,h6,_,h8,h9⟩:=h4 i x hx
 exact⟨b,o,cs,h5,h6,h8,h9⟩
theorem zor {P:Program} {env:Env} {w:World} {dst:Option Tmp} {ty:TypeId} {pos:String} {aft:Array Edge} {g:Option (Nat × Bool)} {t e:TypeId} {x y:Operand} {cs:List Value} {len:Nat} {kd:IntKind} {i:Int} {v:Value} (hu:∀ w,(underlying t).run P w=.ok (.array len e) w) (hs:∀ w,(sizeOf e).run P w=.ok 1 w) (hag:∀ w,(isAgg e).run P w=.ok false w) (hx:ev env x=some (.agg cs.toArray)) (hy:ev env y=some (.int kd i)) (h0:0<=i/\i<len) (hv:cs[i.toNat]?=some v) :
  yo P ⟨dst,.index t x y,ty,pos,aft,g⟩ env w v w:=by
 intro n a ha
 simp[execOp,ha.eval hx,ha.eval hy,Instr.index,asIntOf,hu,hs,h0,part,hag,hv]
open Go.RowKit
section
variable {P:Program} {n:Nat} {Q:Exit->Act->World->Prop} {ks:List Fr} {pos:Pos} {env:Env} {A:Tgs} {H:Hp} {Bs:zC} {ops:Array Oper} {rest:List Oper} {v:Value}
variable {d:Nat} {op:Op} {ty:TypeId} {ps:String} {aft:Array Edge} {g:Option (Nat × Bool)}
theorem zos (k:Nat) {β:Type} {E:β->HE} {u:β->Value} (hn:(Nat.blt d n,gd ops env g,(hget H k).isNone)=(true,some true,true)) (hE:∀ x,(E x).loc/\∀ b,¬ (E x).fz b) (hm:∀ w,VI Bs H w->yK P ⟨some d,op,ty,ps,aft,g⟩ env w (fun r w'=>∃ x,r=u x/\(E x).holds w'/\Ext w w'/\∀ q,(E x).S q->w.heap.size<=q/\q<w'.heap.size))
  (h:∀ x,V P n Q ks (.o ops rest) ((d,u x)::env) ((d,none)::A) ((k,E x)::H) Bs):V P n Q ks (.o ops (⟨some d,op,ty,ps,aft,g⟩::rest)) env A H Bs:=by
 simp only[Prod.mk.injEq,zrt]at hn
 refine fun hA w hI=>zlY hn.1 hn.2.1 (hm w hI) ?_
 rintro _ w' ⟨x,rfl,hh,hk,hS⟩
 exact h x (TgOk.none (hA.new hn.2.2)) w' (hI.new hk k hh (hE x).1 (hE x).2 hS)
theorem zo2 (k:Nat) {e e':HE} (hn:(gd ops env g,hget H k,ji H k)=(some true,some e,none)) (hl:e'.loc) (hz:∀ b,¬ e'.fz b) (hm:∀ w,VI Bs H w->xL P ⟨none,op,ty,ps,aft,g⟩ env w (fun w'=>e'.holds w'/\Keep e.S w w'/\∀ q,e'.S q->(e.S q\/w.heap.size<=q)/\q<w'.heap.size))
  (h:V P n Q ks (.o ops rest) env A (yx H k e') Bs):V P n Q ks (.o ops (⟨none,op,ty,ps,aft,g⟩::rest)) env A H Bs:=by
 simp only[Prod.mk.injEq]at hn
 refine fun hA w hI=>zm3 hn.1 (hm w hI) ?_
 rintro w' ⟨hh,hk,hS⟩
 exact h (hA.res hn.2.1 hn.2.2) w' (hI.set hn.2.1 hk hh hl hz hS)
end
section
variable {P:Program} {n:Nat} {Q:Exit->Act->World->Prop} {ks:List Fr} {env:Env} {A:Tgs} {H Hs:Hp} {Bs B0:zC} {ops:Array Oper} {L:List Nat} {fuel:Nat} {listed:Array Bool}
theorem VD.skip (i j:Nat) {d:Nat} {op:Op} {ty:TypeId} {ps:String} {aft:Array Edge} {g:Option (Nat × Bool)} (hi:ops[i]?=some ⟨some d,op,ty,ps,aft,g⟩) (hr:Region.ready .any ops listed=[i]) (hn:(Nat.blt d n,gd ops env g,qu (Hs.map (·.1)))=(true,some false,true)) (hB:Bs.drop j=B0)
  (h:VD P n Q ks ops Hs B0 L fuel (listed.setIfInBounds i true) ((d,undef)::env) ((d,none)::A) H Bs):VD P n Q ks ops Hs B0 L (fuel+1) listed env A H Bs:=by
 simp only[Prod.mk.injEq]at hn
 subst hB
 refine fun hH hA w hI=>WD.skip i hi hr (qs hn.2.1) O hn.1 ((hI.drop j).pick hH hn.2.2) (h hH hA.none w hI)
end
section
variable {P:Program} {n:Nat} {Q:Exit->Act->World->Prop} {ks:List Fr} {pos:Pos} {env:Env} {A:Tgs} {H:Hp} {Bs:zC}
theorem zot (k k2:Nat) {e e2 e':HE} (A1:Tgs) (hn:(hget H k,hget H k2)=(some e,some e2))
  (hA1:A1.map (fun p=>zdM env p.1)=A1.map (fun p=>jC ((k,e')::yL [k,k2] H) p.2)) (hA2:A1.all (fun p=>(jC ((k,e')::yL [k,k2] H) p.2).isSome)=true)
  (he:∀ w,VI Bs H w->e'.holds w) (hl:e'.loc) (hz:∀ b,¬ e'.fz b) (hS:∀ q,e'.S q->e.S q\/e2.S q) (h:V P n Q ks pos env A1 ((k,e')::yL [k,k2] H) Bs):V P n Q ks pos env A H Bs:=by
 simp only[Prod.mk.injEq]at hn
 refine fun _ w hI=>h (TgOk.of hA1 hA2) w (hI.hands (Hn:=[(k,e')]) ⟨Keep.refl _ _,fun x hx=>?_,zqS _ _⟩)
 rw[zpb]at hx
 subst hx
 have i1:∀ q,e.S q->InS H [k,k2] q:=fun q hq=>⟨_,zx hn.1,by simp[zgG,],hq⟩
 have i2:∀ q,e2.S q->InS H [k,k2] q:=fun q hq=>⟨_,zx hn.2,by simp[zgG,],hq⟩
 refine⟨he w hI,hl,hz,fun q hq=>?_⟩
 rcases hS q hq with h1 | h1
 . exact⟨.inl (i1 q h1),hI.low _ (zx hn.1) q h1⟩
 exact⟨.inl (i2 q h1),hI.low _ (zx hn.2) q h1⟩
theorem zou (k j:Nat) {w0:World} {S F:Nat->Prop} {p:World->Prop} (hn:(hget H k).isNone=true) (hp:Bs[j]?=some (w0,S)) (hl:(HE.dat F p).loc) (h0:p w0) (hF:∀ q,F q->q<w0.heap.size/\¬ S q) (h:V P n Q ks pos env A ((k,.dat F p)::H) Bs):V P n Q ks pos env A H Bs:=by
 refine fun hA w hI=>h (hA.new (by simpa using hn)) w ?_
 have hb:=hI.base _ (zoU hp)
 have hk:(HE.dat F p).holds w:=HE.keep (e:=.dat F p) ⟨h0,fun q hq=>(hF q hq).1⟩ hl hb.1 (fun q hq=>hq.elim) fun b hb'=>(hF b hb').2
 have hfz:∀ x ∈ H,∀ b,F b->¬ x.2.S b:=fun x hx b hb' hs=>by
  rcases hb.2 x hx b hs with h1 | h1
  . exact(hF b hb').2 h1
  have h1:w0.heap.size<=b:=h1
  have:=(hF b hb').1
  omega
 refine⟨?_,?_,?_,?_,?_,?_⟩
 .
  intro x hx
  rcases zp9.1 hx with rfl | hx
  . exact hk
  exact hI.holds x hx
 .
  intro x hx
  rcases zp9.1 hx with rfl | hx
  . exact hl
  exact hI.loc x hx
 . exact zqQ.2 ⟨fun x _ q hq=>hq.elim,hI.apart⟩
 .
  intro x hx y hy b hb' hs
  rcases zp9.1 hy with rfl | hy
  . exact hs
  rcases zp9.1 hx with rfl | hx
  . exact hfz y hy b hb' hs
  exact hI.froz x hx y hy b hb' hs
 .
  intro x hx q hq
  rcases zp9.1 hx with rfl | hx
  . exact hq.elim
  exact hI.low x hx q hq
 intro q hq
 refine⟨(hI.base q hq).1,fun x hx b hb'=>?_⟩
 rcases zp9.1 hx with rfl | hx
 . exact hb'.elim
 exact(hI.base q hq).2 x hx b hb'
end
theorem zeK {α:Type} {R:α->α->Prop} (hs:∀ x y,R x y->R y x):∀ {l:List α},l.Pairwise R->∀ {x y},x ∈ l->y ∈ l->x ≠ y->R x y
 | [],_,_,_,h,_,_=>by cases h
 | a::l,hp,x,y,hx,hy,hne=>by
  rw[zqQ]at hp
  rcases zp9.1 hx with e1 | h1
  .
   rcases zp9.1 hy with e2 | h2
   . exact absurd (e1.trans e2.symm) hne
   rw[e1];exact hp.1 y h2
  rcases zp9.1 hy with e2 | h2
  . rw[e2];exact hs _ _ (hp.1 x h1)
  exact zeK hs hp.2 h1 h2 hne
theorem VI.sep {Bs:zC} {H:Hp} {w:World} {k k2:Nat} {e e2:HE} (hI:VI Bs H w) (h1:hget H k=some e) (h2:hget H k2=some e2) (hne:k ≠ k2) {q:Nat} (hq:e.S q):¬ e2.S q :=
 zeK (R:=fun x y:Nat × HE=>∀ q,x.2.S q->¬ y.2.S q) (fun _ _ h q hy hx=>h q hx hy) hI.apart (zx h1) (zx h2) (fun e=>hne (congrArg Prod.fst e)) q hq
end Go.GL
namespace Go.Proofs.YtckdhgbepmpgiaaGreat
open Go.GL
theorem zjF {l:List St} {i k:Nat} {x s:St} (h:l[i]?=some x) (hk:(preL l)[ssize (l.take i)+k]?=some s):(x.pre++preL (l.drop (i+1)))[k]?=some s:=by
 have e:preL l=preL (l.take i)++(x.pre++preL (l.drop (i+1))):=by
  have h1:=congrArg preL (ym h)
  rw[zbi]at h1
  exact h1
 rw[e,zpk (by rw[yb];omega),yb,zre]at hk
 exact hk
theorem zjG (l:List St):∀ (v:Value) (D:Nat->Prop) (w:World) (k:Nat) (s:St),SlR 10 RSt D w v l->(preL l)[k]?=some s->ssize l<=10000 ->
  Calls Tryz.prog 25 #[v,.int .i64 k] w (Ret fun r w'=>(∃ cs:List Value,r=.tuple #[.agg cs.toArray,.bool true]/\cs.length=10/\RSt D w' s cs)/\Ext w w'):=by
 induction l using zmB with
 | h l ih =>
 intro v D0 w k s hl hs hsz
 replace hl:=hl.narrow (by decide) qP
 generalize hDD:(fun b=>D0 b/\b<w.heap.size)=D at hl
 have hDw:∀ q,D q->q<w.heap.size:=fun q h=>by rw[<- hDD]at h;exact h.2
 have hD0:∀ q,D q->D0 q:=fun q h=>by rw[<- hDD]at h;exact h.1
 have hlm:=hl.max
 have hks:=(zp7.1 hs).1
 rw[yb]at hks
 have hsl:=jk l
 obtain⟨av,nv,rfl⟩:=hl.form
 have hl0:=hl
 have hE:=Keep.refl (fun _=>False) w
 refine zn2 Tryz.func25 O Tryz.ntmps25 O (Gs 2 O (zlY O O (M.alloc (cs:=[.int .i64 0,.int .i64 0,.int .i64 0,.int .i64 0,.int .i64 0,.int .i64 0,.slice none 0 0,.slice none 0 0,.slice none 0 0,.slice none 0 0]) tz72 O) ?_))
 rintro _ w_rc ⟨rc,rfl,hg_rc,hs_rc,hB_rc,hk_rc⟩
 have hge_rc:_<=rc:=zoZ hE.size (zri hg_rc.symm)
 replace hE:=Tr1 hk_rc hE
 refine Gs 10 O (zlc O (fun n0=>?_) (fun n0=>?_))
 . exact absurd n0 (by omega)
 refine Gs 9 O (G.loop (σ:=Nat × Nat) (fun⟨i,q⟩=>[(0,.slice av l.length nv),(1,.int .i64 q),(4,.pointer (some ⟨rc,0,none⟩)),(6,.int .i64 i)]) (fun⟨i,q⟩=>fun w'=>i<=l.length/\ssize (l.take i)+q=k/\Ext w w'/\Blk w' rc [.int .i64 0,.int .i64 0,.int .i64 0,.int .i64 0,.int .i64 0,.int .i64 0,.slice none 0 0,.slice none 0 0,.slice none 0 0,.slice none 0 0] 72) (fun⟨i,q⟩=>l.length - i) ((0,k)) (Sub.of O) (⟨zp8 _,by simp[ssize],hE,hB_rc⟩) ?_)
 rintro⟨i,q⟩ w1 ⟨hi,hq,hE1,hB1⟩
 show G _ _ _ _ _ [(0,.slice av l.length nv),(1,.int .i64 q),(4,.pointer (some ⟨rc,0,none⟩)),(6,.int .i64 i)] _
 have hl1:=hl0.ext zc hE1
 refine Gs 9 O (zlc O (fun i1=>?_) (fun i1=>?_))
 .
  obtain⟨x,hx⟩:∃ x,l[i]?=some x:=⟨_,zoT (by omega)⟩
  have hxm:=zoU hx
  obtain⟨ih1,ih2⟩:=ih x hxm
  have hss:=xa hx
  have hxs:=x.size_eq
  have hat:=zjF (k:=q) hx (by rw[hq];exact hs)
  rw[St.pre_eq]at hat
  obtain⟨xb,xo,xc,hxa,_,hxc,hxr⟩:=hl1.at hx
  have hx1:=hxr.one
  have hxr0:=hxr
  obtain⟨u1,u2,u3,u4,rfl,hxk,hxt,hxe,hxb⟩:=hxr.get
  refine Gs 11 O (zlc O (fun q0=>?_) (fun q0=>?_))
  .
   obtain rfl:q=0:=by omega
   simp only[zq5,List.getElem?_cons_zero,Option.some.injEq]at hat
   subst hat
   refine Gs 4 O (zmR O O (zlO tR24 ts72 O O hxa (by omega)) (zmX O tg72 ts72 hxc O (zm3 O (zm4 ts72 O O O O hx1 hB1 (by simp)) ?_)))
   rintro wf ⟨_,hBf,hkf⟩
   refine Gs 10 O (zlD tr25 O (zj tg72 ts72 O hBf.cells) O ?_)
   exact⟨_,rfl,⟨_,rfl,rfl,zc D _ _ _ hD0 (fun q hq hlt=>hkf.block q hlt (fun h=>by have:=hDw q hq;have h:q=rc:=h;omega)) _ _ hxr0⟩,hE1.trans hkf (fun q hq h=>by have h:q=rc:=h;omega)⟩
  obtain⟨q',rfl⟩:∃ q',q=q'+1:=⟨q - 1,by omega⟩
  rw[zq5,List.getElem?_cons_succ,zq3]at hat
  refine Ga 13 O (by omega) (zmR O O (zlO tR24 ts72 O O hxa (by omega)) (Gs 1 O (zmV O tg24 (hxc 7 _ O) (G.call O tc56 (jn x.thn _ D _ hxt (by omega)) ?_))))
  rintro _ wz1 ⟨rfl,hz1⟩
  obtain⟨hE1,hB1,hxc,hxt,hxe⟩:=Tr5 hz1 hE1 hB1 hxc hxt hxe
  refine Gs 11 O (zlc O (fun q2=>?_) (fun q2=>?_))
  .
   rw[zpj (by rw[yb];omega)]at hat
   refine Gs 4 O (zmR O O (zlO tR24 ts72 O O hxa (by omega)) (Gs 1 O (zmV O tg24 (hxc 7 _ O) (Gs 1 O ?_))))
   have hq2:((q'+1:Nat):Int) - 1=(q':Nat):=by omega
   rw[hq2]
   refine G.call O tc25 (ih1 _ D _ q' s hxt hat (by omega)) ?_
   rintro _ w2 ⟨⟨cs,rfl,hcl,hcs⟩,hk2⟩
   have hB2:=hk2.blk hB1 (fun h=>h)
   have hE2:=hE1.ext hk2
   have hcs0:=hcs
   have hcs1:=hcs.one
   obtain⟨y1,y2,y3,y4,rfl,_⟩:=hcs.get
   refine Gs 2 O (zm3 O (zm4 ts72 O O O O hcs1 hB2 (by simp)) ?_)
   rintro wf ⟨_,hBf,hkf⟩
   refine Gs 10 O (zlD tr25 O (zj tg72 ts72 O hBf.cells) O ?_)
   exact⟨_,rfl,⟨_,rfl,rfl,zc D _ _ _ hD0 (fun q hq hlt=>hkf.block q hlt (fun h=>by have:=hDw q hq;have h:q=rc:=h;omega)) _ _ hcs0⟩,hE2.trans hkf (fun q hq h=>by have h:q=rc:=h;omega)⟩
  rw[zpk (by rw[yb];omega),yb]at hat
  refine Ga 14 O (by omega) (zmR O O (zlO tR24 ts72 O O hxa (by omega)) (Gs 1 O (zmV O tg24 (hxc 8 _ O) (G.call O tc56 (jn x.els _ D _ hxe (by omega)) ?_))))
  rintro _ wz2 ⟨rfl,hz2⟩
  obtain⟨hE1,hB1,hxc,hxt,hxe⟩:=Tr5 hz2 hE1 hB1 hxc hxt hxe
  refine Gs 11 O (zlc O (fun q3=>?_) (fun q3=>?_))
  .
   rw[zpj (by rw[yb];omega)]at hat
   refine Gs 4 O (zmR O O (zlO tR24 ts72 O O hxa (by omega)) (Gs 1 O (zmV O tg24 (hxc 8 _ O) (Gs 1 O ?_))))
   have hq3:((q'+1:Nat):Int) - 1 - (ssize x.thn:Nat)=((q' - ssize x.thn:Nat):Int):=by omega
   rw[hq3]
   refine G.call O tc25 (ih2 _ D _ (q' - ssize x.thn) s hxe hat (by omega)) ?_
   rintro _ w2 ⟨⟨cs,rfl,hcl,hcs⟩,hk2⟩
   have hB2:=hk2.blk hB1 (fun h=>h)
   have hE2:=hE1.ext hk2
   have hcs0:=hcs
   have hcs1:=hcs.one
   obtain⟨y1,y2,y3,y4,rfl,_⟩:=hcs.get
   refine Gs 2 O (zm3 O (zm4 ts72 O O O O hcs1 hB2 (by simp)) ?_)
   rintro wf ⟨_,hBf,hkf⟩
   refine Gs 10 O (zlD tr25 O (zj tg72 ts72 O hBf.cells) O ?_)
   exact⟨_,rfl,⟨_,rfl,rfl,zc D _ _ _ hD0 (fun q hq hlt=>hkf.block q hlt (fun h=>by have:=hDw q hq;have h:q=rc:=h;omega)) _ _ hcs0⟩,hE2.trans hkf (fun q hq h=>by have h:q=rc:=h;omega)⟩
  refine Ga 15 O (by omega) (G.back ((i+1,q' - ssize x.thn - ssize x.els)) (Sub.cons O (Sub.cons (yr O (by omega)) (Sub.of O))) (⟨by omega,by rw[jj hx];omega,hE1,hB1⟩) (by first | omega | (dsimp only;omega)))
 exact absurd hks (by rw[show i=l.length by omega,zoY]at hq;omega)
theorem zeb {vs:List Vr} (t:Tm):zu vs true t=true->zu vs false t=true:=by
 induction t using zmz with
 | h t ih =>
  intro h
  rw[yO,zpv,zpv]at h ⊢
  refine⟨⟨h.1.1,?_⟩,?_⟩
  .
   have h2:=h.1.2
   unfold qm at h2 ⊢
   split
   .
    rename_i e
    rw[zp4 e,zpv]at h2
    rw[h2.1];rfl
   rename_i e
   rw[zp3 e]at h2
   exact h2
  have key:∀ l:List Tm,(∀ k ∈ l,k ∈ t.kids)->formedL vs true l=true->formedL vs false l=true:=by
   intro l
   induction l with
   | nil=>intro _ _;rfl
   | cons x r ihr =>
    intro hm hf
    rw[formedL,zpv]at hf ⊢
    exact⟨ih x (hm x (zoX ..)) hf.1,ihr (fun k hk=>hm k (zoW _ hk)) hf.2⟩
  exact key t.kids (fun k h=>h) h.2
theorem Valid.hatch {f:Fl} (V:Valid f):∀ h ∈ f.hatches,zu f.vars false h.term=true/\(rng f.vars h.term).isSome=true/\h.term.nodes<=1000000/\h.low<=h.high:=by
 intro h hm
 obtain⟨i,hi⟩:=zqH.1 hm
 have hlt:=(zp7.1 hi).1
 have h0:=(zZ V.ok).2.2.1
 have h1:=qb f.hatches.length 0 h0 i (zp8 _) (by omega)
 rw[kX hi]at h1
 have hn:=xq hi
 have:=V.size
 unfold zF at h1
 split at h1
 . cases h1
 split at h1
 . cases h1
 split at h1
 . cases h1
 rename_i hb
 unfold zD at h1
 split at h1
 .
  rename_i hf
  split at h1
  .
   rename_i hr
   refine⟨zeb _ hf,hr,by omega,?_⟩
   have hb':zar h.low h.high=true:=by simpa using hb
   unfold zar at hb'
   exact(of_decide_eq_true hb').1
  cases h1
 cases h1
def zig (vals:List Int) (hs:List Ht):List Int:=hs.map fun h=>yY (qp vals h.term) h.low h.high
theorem zgH {vals:List Int} {hs:List Ht} {i:Nat} {x:Ht} (h:hs[i]?=some x):zig vals (hs.take (i+1))=zig vals (hs.take i)++[yY (qp vals x.term) x.low x.high]:=by
 unfold zig;rw[zd h,zqw];rfl
theorem zbm {vs:List Vr} {r:Ins} (h:zB vs r=0):InV vs (zG vs r):=by
 unfold zB at h
 cases hs:zaf vs r with
 | none=>rw[hs]at h;cases h
 | some s =>
  rw[hs]at h
  have hv:zG vs r=s.vals:=by unfold zG;rw[hs]
  have hl:=zbV (vs:=vs) (r:=r) vs.length s (zpi _) (by rw[zoY];exact hs)
  simp only at h
  unfold zau at h
  split at h
  . cases h
  split at h
  .
   rename_i ha
   rw[hv]
   refine⟨hl.1,fun i v hi=>?_⟩
   have hlt:=(zp7.1 hi).1
   rw[zq0]at ha
   have:=ha (v,lki s.vals i) (zqH.2 ⟨i,by
    rw[List.getElem?_zip_eq_some]
    exact⟨hi,zbT (by omega)⟩⟩)
   unfold inB at this
   simp at this
   exact this
  cases h
abbrev ya (f:Fl) (r:Ins):List Int:=zig (zG f.vars r) f.hatches
abbrev zih (f:Fl) (r:Ins):Sg:=⟨zG f.vars r,[],0⟩
abbrev zl1 (f:Fl) (r:Ins):Mc:=⟨0,zih f r,fun _=>0⟩
def zfp (f:Fl) (r:Ins):Sg:=exL f (ya f r) f.body (zih f r)
def GoesAll (f:Fl) (r:Ins) (K:Nat):Prop:=∃ rd',Goes f (ya f r) (zi f) 0 ((zi f).length - 1) K (zl1 f r) ⟨((zi f).length:Int) - 1,zfp f r,rd'⟩
theorem GoesAll.unique {f:Fl} {r:Ins} {K K':Nat} (h:GoesAll f r K) (h':GoesAll f r K'):K=K':=by
 obtain⟨_,h1,h2⟩:=h
 obtain⟨_,h3,h4⟩:=h'
 rcases Nat.lt_trichotomy K K' with hh | hh | hh
 . have:=(h4 K hh).2;rw[h1]at this;dsimp only at this;omega
 . exact hh
 have:=(h2 K' hh).2;rw[h3]at this;dsimp only at this;omega
theorem zcD:∀ (D:Nat->Prop) (w:World) (x:Int) (cs:List Value),yc D w x cs->cs=[zb x]:=fun _ _ _ _ h=>h
def LeftOk (D:Nat->Prop) (W:World) (r:Ins) (s:StS) (q:Int->Value):Prop:=∀ k,1<=k->k<=3->SlR 1 yc D W (q k) ((xy r k).drop (zae s k))
theorem zgI {r:Ins} {s:StS} {x:Vr} (h:x.kind=0):zw r (some s) x=some ⟨s.vals++[x.init],s.a,s.b,s.c⟩:=by simp[zw,h]
theorem zii {r:Ins} {s:StS} {k:Int} (_:1<=k/\k<=3) {l:List Int} (hl:(xy r k).drop (zae s k)=l):(xy r k)[zae s k]?=l[0]?:=by
 rw[<- hl,List.getElem?_drop,zrf]
theorem zfq {f:Fl} {r:Ins} {i:Nat} {x:Vr} {s s1:StS} (he:f.vars[i]?=some x) (hs:(f.vars.take i).foldl (zw r) (some ⟨[],0,0,0⟩)=some s) (h1:zw r (some s) x=some s1):(f.vars.take (i+1)).foldl (zw r) (some ⟨[],0,0,0⟩)=some s1:=by
 rw[zd he,zqn,hs];exact h1
theorem LeftOk.next {D:Nat->Prop} {W:World} {r:Ins} {s:StS} {q:Int->Value} {k y:Int} {aq:Option Addr} {cq:Nat} {rest:List Int} (hL:LeftOk D W r s q) (hk:1<=k/\k<=3) (hr:rest=(xy r k).drop (zae s k)) (hq:SlR 1 yc D W (.slice aq rest.length cq) rest) (h1:1<=rest.length):LeftOk D W r (zbJ s k y) (fun j=>if j=k then .slice (if cq=1 then aq else aq.map (·.add (1*1))) (rest.length - 1) (cq - 1) else q j):=by
 intro j hj1 hj3
 have hc:=zdk s hk ⟨hj1,hj3⟩ y
 dsimp only
 by_cases e:j=k
 .
  subst e
  rw[zp4 rfl]at hc
  rw[zp4 rfl,hc]
  have:=hq.drop 1 h1
  rw[hr,zq8]at this
  rwa [<- hr]at this
 rw[zp3 e]at hc
 rw[zp3 e,hc]
 exact hL j hj1 hj3
theorem zij {r:Ins} {s:StS} {x:Vr} {y:Int} (h:1<=x.kind/\x.kind<=3) (hy:(xy r x.kind)[zae s x.kind]?=some y):zw r (some s) x=some (zbJ s x.kind y):=by
 simp only[zw,Option.bind_some]
 rw[zp3 (by omega),hy];rfl
theorem zgJ {r:Ins} {s:StS} {x:Vr} (h:1<=x.kind/\x.kind<=3) (hy:(xy r x.kind)[zae s x.kind]?=none):zw r (some s) x=none:=by
 simp only[zw,Option.bind_some]
 rw[zp3 (by omega),hy];rfl
theorem za1 {f:Fl} {r:Ins} {s:StS} (hS:zaf f.vars r=some s) {k:Int} (hk:1<=k/\k<=3) (h:0<((xy r k).drop (zae s k)).length):zB f.vars r=1:=by
 unfold zB
 rw[hS]
 dsimp only
 unfold zau
 rw[zqr]at h
 rw[zp4]
 rcases (show k=1\/k=2\/k=3 by omega) with rfl | rfl | rfl
 .
  have h:0<r.secret.length - s.a:=h
  omega
 .
  have h:0<r.pub.length - s.b:=h
  omega
 have h:0<r.random.length - s.c:=h
 omega
theorem zgK {f:Fl} {r:Ins} {s:StS} (hS:zaf f.vars r=some s) (hkd:∀ v ∈ f.vars,0<=v.kind/\v.kind<=3) (hz:∀ k:Int,1<=k->k<=3->((xy r k).drop (zae s k)).length=0):zB f.vars r=if (f.vars.zip s.vals).all inB then 0 else 3:=by
 have hle:=zgq hkd f.vars.length s (zpi _) (by rw[zoY];exact hS)
 have key:∀ k:Int,1<=k->k<=3->zae s k=(xy r k).length:=fun k h1 h3=>by
  have h4:=hz k h1 h3
  rw[zqr]at h4
  have:=hle k h1 h3
  omega
 have h1:s.a=r.secret.length:=key 1 (by omega) (by omega)
 have h2:s.b=r.pub.length:=key 2 (by omega) (by omega)
 have h3:s.c=r.random.length:=key 3 (by omega) (by omega)
 unfold zB
 rw[hS]
 dsimp only
 unfold zau
 rw[zp3 (by omega)]
theorem zik {α:Type} {l:List α} {i:Nat} {x:α} (h:l[i]?=some x):l.drop i=x::l.drop (i+1):=by
 obtain⟨h1,h2⟩:=zp7.1 h
 rw[zq9 h1,h2]
end Go.Proofs.YtckdhgbepmpgiaaGreat
namespace Go.GL
def RQu:Rel (Int × List Int):=fun D w q cs=>∃ v,cs=[.int .i64 q.1,v]/\SlR 1 yc D w v q.2
@[ext] structure Ac where
 mode:Int
 budget:Int
 spent:Int
 left:List Int
 asked:List (Int × List Int)
deriving DecidableEq
structure RAc (D:Nat->Prop) (w:World) (a:Ac) (v1 v2:Value):Prop where
 left:SlR 1 yc D w v1 a.left
 asked:SlR 2 RQu D w v2 a.asked
end Go.GL
namespace Go.Proofs.YtckdhgbepmpgiaaGreat
open Go.GL
def zil:Rel Phn:=fun D w p cs=>∃ u1 u2,cs=[.int .i64 p.var,.int .i64 p.ver,u1,u2]/\SlR 1 yc D w u1 p.frm/\SlR 1 yc D w u2 p.args
def RSn:Rel Sn:=fun D w x cs=>∃ u1 u2,cs=[u1,u2,.int .i64 x.dfn]/\SlR 4 zil D w u1 x.phis/\SlR 2 zai D w u2 x.uses
theorem zdr:yd zai:=fun _ _ _ _ _ _ _ _ h=>h
theorem zbY:yd zil:=fun _ _ _ _ hD hk _ _ ⟨u1,u2,h0,h1,h2⟩=>⟨u1,u2,h0,h1.stable ze hD hk,h2.stable ze hD hk⟩
theorem kD:yd RSn:=fun _ _ _ _ hD hk _ _ ⟨u1,u2,h0,h1,h2⟩=>⟨u1,u2,h0,h1.stable zbY hD hk,h2.stable zdr hD hk⟩
theorem zds:xX zai:=fun _ _ _ _ h=>h
theorem zfr:xX zil:=fun _ _ _ _ ⟨u1,u2,h0,h1,h2⟩=>⟨u1,u2,h0,h1.narrow (by omega) qk,h2.narrow (by omega) qk⟩
theorem zgL:xX RSn:=fun _ _ _ _ ⟨u1,u2,h0,h1,h2⟩=>⟨u1,u2,h0,h1.narrow (by omega) zfr,h2.narrow (by omega) zds⟩
instance:StC zil:=⟨zbY⟩
structure RSf (D:Nat->Prop) (w:World) (s:Sf) (u1 u2:Value):Prop where
 of_:SlR 1 yc D w u1 s.of_
 nodes:SlR 3 RSn D w u2 s.nodes
theorem RSf.keep {D S:Nat->Prop} {w w':World} {s:Sf} {u1 u2:Value} (h:RSf D w s u1 u2) (hk:Keep S w w') (hS:∀ b,D b->b<w.heap.size->¬ S b):RSf D w' s u1 u2:=⟨h.of_.keep ze hk hS,h.nodes.keep kD hk hS⟩
theorem RSf.ext {D:Nat->Prop} {w w':World} {s:Sf} {u1 u2:Value} (h:RSf D w s u1 u2) (hk:Ext w w'):RSf D w' s u1 u2:=⟨h.of_.ext ze hk,h.nodes.ext kD hk⟩
instance {D:Nat->Prop} {w w':World} {s:Sf} {u1 u2:Value}:Tr (RSf D w s u1 u2) w w' (RSf D w' s u1 u2):=⟨fun h hk=>RSf.ext h hk⟩
theorem RSf.wide {D D':Nat->Prop} {w:World} {s:Sf} {u1 u2:Value} (h:RSf D w s u1 u2) (hD:∀ q,D q->D' q):RSf D' w s u1 u2:=⟨h.of_.wide ze hD,h.nodes.wide kD hD⟩
def stN (f:Fl) (x:Nd):St:=if 0<=x.at_ then zO f x.at_ else zjB
def zec (g:List Nd):List (List Int):=(List.range g.length).map (qG g)
def GrO (D:Nat->Prop) (w:World) (f:Fl) (g:List Nd) (b:Nat):Prop:=∃ v1 v2 v3 gv sv pv,D b/\Cells w b 0 [v1,v2,v3,gv,sv,pv]/\RFl D w f v1 v2 v3/\SlR 4 RNd D w gv g/\SlR 10 RSt D w sv (g.map (stN f))/\SlR 1 (RSl 1 yc) D w pv (zec g)
theorem GrO.keep {D S:Nat->Prop} {w w':World} {f:Fl} {g:List Nd} {b:Nat} (h:GrO D w f g b) (hk:Keep S w w') (hS:∀ b,D b->b<w.heap.size->¬ S b):GrO D w' f g b:=by
 obtain⟨v1,v2,v3,gv,sv,pv,h0,h1,h2,h3,h4,h5⟩:=h
 exact⟨v1,v2,v3,gv,sv,pv,h0,hk.cells h1 (hS b h0 (zoV _ _ (h1 0 _ O))),⟨h2.vars.keep xl hk hS,h2.hatches.keep xm hk hS,h2.body.keep zc hk hS⟩,h3.keep zI hk hS,h4.keep zc hk hS,h5.keep (qh ze) hk hS⟩
theorem GrO.ext {D:Nat->Prop} {w w':World} {f:Fl} {g:List Nd} {b:Nat} (h:GrO D w f g b) (hk:Ext w w'):GrO D w' f g b:=h.keep hk fun _ _ _ h=>h
instance {D:Nat->Prop} {w w':World} {f:Fl} {g:List Nd} {b:Nat}:Tr (GrO D w f g b) w w' (GrO D w' f g b):=⟨fun h hk=>GrO.ext h hk⟩
theorem yD {g:List Nd} {i:Nat} {x:Nd} (h:g[i]?=some x):xk g (i:Int)=x:=by unfold xk;rw[zpf,h];rfl
theorem zeL {g:List Nd} {i:Nat} (h:i<g.length):(zec g)[i]?=some (qG g i):=by unfold zec;rw[zpa,List.getElem?_range h];rfl
theorem pred_mem {g:List Nd} {i y:Nat}:y ∈ yW g i ↔ y<g.length/\((xk g y).next=(i:Int)\/(xk g y).other=(i:Int)):=by
 unfold yW
 rw[zqF,zqL,decide_eq_true_iff]
def GOk (f:Fl) (g:List Nd):Prop:=∀ (i:Nat) x,g[i]?=some x->(x.at_<0->x.kind=0\/x.kind=1)/\(0<=x.at_->x.at_<((preL f.body).length:Int)/\(yn (zO f x.at_).term).length<=100000)
theorem GOk.at {f:Fl} {g:List Nd} (h:GOk f g) {i:Nat} {x:Nd} (hx:g[i]?=some x) (hk:x.kind=2\/x.kind=3\/x.kind=5):0<=x.at_/\x.at_<((preL f.body).length:Int)/\(yn (zO f x.at_).term).length<=100000:=by
 obtain⟨h1,h2⟩:=h i x hx
 have h0:0<=x.at_:=by
  by_cases e:x.at_<0
  . have:=h1 e;omega
  omega
 exact⟨h0,h2 h0⟩
theorem zbn (f:Fl) (g:List Nd) (hk:GOk f g) (i:Nat) (hi:i<g.length) (b:Nat) (D:Nat->Prop) (W:World) (hG:GrO D W f g b) :
  Calls Tryz.prog 79 #[.pointer (some ⟨b,0,none⟩),.int .i64 i] W (Ret fun r w'=>r=.int .i64 (xA f g i)/\Ext W w'):=by
 obtain⟨v1,v2,v3,gv,sv,pv,hD,hcell,hf,hg,hs,hp⟩:=hG
 obtain⟨as_,cs_,rfl⟩:=hs.form
 obtain⟨ag,cg,rfl⟩:=hg.form
 have hsl:(g.map (stN f)).length=g.length:=zpd _
 have hsx:=hs.max
 refine zn2 Tryz.func79 O Tryz.ntmps79 O (znb ?_)
 refine znI 900 0 O O (fun h=>h) hcell ?_
 refine zni 0 900 0 O O ?_
 refine Vs 13 O ?_
 obtain⟨st,he_st,hm_st⟩:=gE_ (g.map (stN f)) (i) (by omega)
 obtain⟨b_st,o_st,c_st,ha_st,_,hc_st,hR_st⟩:=hs.at he_st
 obtain⟨v1_st,v2_st,v3_st,v4_st,rfl,hk_st,ht_st,hs_st,hb_st⟩:=hR_st.get
 obtain⟨a1_st,n1_st,rfl⟩:=hk_st.form
 obtain⟨a2_st,n2_st,rfl⟩:=ht_st.form
 obtain⟨a3_st,n3_st,rfl⟩:=hs_st.form
 obtain⟨a4_st,n4_st,rfl⟩:=hb_st.form
 refine znH 1000 0 O O hc_st ?_
 refine znk 1000 tR24 ts72 O ha_st (by omega) (_) (rfl) O ?_
 refine Vs 1 O ?_
 refine V.alloc 5 tz72 O O (fun b5=>?_)
 refine Vs 10 O ?_
 obtain⟨x,he_x,hm_x⟩:=gE_ g (i) (by omega)
 obtain⟨b_x,o_x,c_x,ha_x,_,hc_x,hR_x⟩:=hg.at he_x
 obtain rfl:=hR_x
 refine znH 2000 0 O O hc_x ?_
 refine znk 2000 tR34 ts65 O ha_x (by omega) (_) (rfl) O ?_
 have hx:=yD he_x
 have hst:st=stN f x:=by rw[zpa,he_x]at he_st;exact(Option.some.inj he_st).symm
 refine Vs 4 O ?_
 refine V.sp 22 O (fun g1=>?_) (fun g1=>?_)
 .
  have h0:=(hk.at he_x (.inl g1)).1
  have hst2:st=zO f x.at_:=by rw[hst];exact zp4 h0
  have hdef:xA f g i=if st.act=0\/st.act=5 then st.var else -1:=by
   unfold xA zdn
   rw[hx,<- hst2]
   by_cases e:st.act=0\/st.act=5
   . rw[zp4 e,zp4 (by simpa[g1] using e)]
   rw[zp3 e,zp3 (by simpa[g1] using e)]
  refine Vs 4 O ?_
  refine V.sp 26 O (fun g2=>?_) (fun g2=>?_)
  .
   refine Vs 17 O ?_
   refine zlt tr79 O (fun w hI=>⟨_,rfl,by rw[hdef,zp4 (.inl g2)],hI.k0⟩)
  refine Vs 7 O ?_
  refine zld O (fun g3=>?_) (fun g3=>?_)
  .
   refine Vs 9 O ?_
   refine zlt tr79 O (fun w hI=>⟨_,rfl,by rw[hdef,zp4 (.inr g3)],hI.k0⟩)
  refine Vs 8 O ?_
  refine zlt tr79 O (fun w hI=>⟨_,rfl,by rw[hdef,zp3 (fun h=>h.elim g2 g3)],hI.k0⟩)
 refine Vs 20 O ?_
 refine zlt tr79 O (fun w hI=>⟨_,rfl,by unfold xA zdn;rw[hx,zp3 (by simp[g1])],hI.k0⟩)
end Go.Proofs.YtckdhgbepmpgiaaGreat
namespace Go.GL
section
variable {P:Program} {n:Nat} {Q:Exit->Act->World->Prop} {ks:List Fr} {env:Env} {A:Tgs} {H Hs:Hp} {Bs B0:zC} {ops:Array Oper} {L:List Nat} {fuel:Nat} {listed:Array Bool}
theorem znj (s k off:Nat) (h:zdM env s=jC H (some (k,off))) (hs:(jC H (some (k,off))).isSome=true) (h1:VD P n Q ks ops Hs B0 L fuel listed env ((s,some (k,off))::A) H Bs):VD P n Q ks ops Hs B0 L fuel listed env A H Bs:=by
 refine fun hH hA w hI=>h1 hH (fun s' k' off' hk=>?_) w hI
 simp only[tgt]at hk
 cases hb:Nat.beq s s' with
 | false=>rw[hb]at hk;exact hA s' k' off' hk
 | true =>
  rw[hb]at hk
  cases hk
  have:=TgOk.of (A:=[(s,some (k,off))]) (env:=env) (H:=H) (by simpa using h) (by simpa using hs)
  exact this s' k off (by simp[tgt,hb])
end
theorem VI.inS {Bs:zC} {H:Hp} {w w0:World} {e:HE} {S:Nat->Prop} (hI:VI Bs H w) (j k:Nat) (hb:Bs[j]?=some (w0,S)) (hg:hget H k=some e) {q:Nat} (hq:e.S q):(S q\/w0.heap.size<=q)/\q<w.heap.size :=
 ⟨(hI.base _ (zoU hb)).2 _ (zx hg) q hq,hI.low _ (zx hg) q hq⟩
theorem VI.offD {Bs:zC} {H:Hp} {w w0:World} {e:HE} {S:Nat->Prop} (hI:VI Bs H w) (j k:Nat) (hb:Bs[j]?=some (w0,S)) (hg:hget H k=some e) {q:Nat} (hq:q<w0.heap.size) (hS:¬ S q):¬ e.S q:=fun h=>(hI.inS j k hb hg h).1.elim hS (fun h=>by omega)
theorem VI.hsE {Bs:zC} {H:Hp} {w w0:World} (hI:VI Bs H w) (j:Nat) (hb:Bs[j]?=some (w0,fun _=>False)) {q:Nat} (hs:HS H q):w0.heap.size<=q:=by
 obtain⟨x,hx,hq⟩:=hs
 exact((hI.base _ (zoU hb)).2 x hx q hq).elim False.elim id
end Go.GL
namespace Go.Proofs.YtckdhgbepmpgiaaGreat
open Go.GL
def zQ (t:Tm):List Int:=if t.op=24 then [t.n] else []
theorem zcE (t:Tm):yn t=zQ t++mentL t.kids:=zaw t
theorem zbZ {l:List Tm} {i:Nat} {k:Tm} (h:l[i]?=some k):mentL (l.take (i+1))=mentL (l.take i)++yn k:=by rw[zd h,zfo]
theorem zeM (l:List Tm) (i:Nat):(mentL (l.take i)).length<=(mentL l).length:=by
 have main:∀ a b:List Tm,mentL (a++b)=mentL a++mentL b:=fun a b=>by
  induction a with
  | nil=>simp[mentL]
  | cons x r ih=>rw[zq5,mentL,mentL,ih,zq3]
 have:=congrArg List.length (main (l.take i) (l.drop i))
 rw[zr5,zp1]at this
 omega
abbrev xB (u:Value) (l:List Int):HE:=.row 3 1 u l.length (l.map zb)
theorem zim (t:Tm):∀ (kv uo:Value) (acc:List Int) (D:Nat->Prop) (W:World),SlR 3 RTm D W kv t.kids->(xB uo acc).holds W->(∀ q,D q->q<W.heap.size/\uo.ownBlock ≠ some q)->acc.length+(yn t).length<=1000000 ->
  Calls Tryz.prog 127 #[.agg #[.int .i64 t.op,.int .i64 t.n,kv],uo] W (Ret fun r w'=>∃ x:Value,r=x/\(xB x (acc++yn t)).holds w'/\Keep (xB uo acc).S W w'/\∀ q,(xB x (acc++yn t)).S q->((xB uo acc).S q\/W.heap.size<=q)/\q<w'.heap.size):=by
 induction t using zmz with
 | h t ih =>
 intro kv uo acc D W hk hown hap hlen
 obtain⟨ak,ck,rfl⟩:=hk.form
 have hmx:=hk.max
 have haS:∀ q,(xB uo acc).S q->¬ D q:=fun q h hd=>(hap q hd).2 h
 rw[zcE,zp1]at hlen
 refine zn2 Tryz.func127 O Tryz.ntmps127 O (zof 900 (.row 3 1 uo acc.length (acc.map zb)) (hown) trivial (fun _ h=>h) (fun q hq=>qj hown hq) ?_)
 refine Vs 2 O ?_
 refine V.box 2 O O (fun b2=>?_)
 refine Vs 4 O ?_
 refine znL (σ:=Value) [2] [2] [2] O (fun e u=>(1,u)::e) (fun e u=>(900,.row 3 1 u (acc++zQ t).length ((acc++zQ t).map zb))::e) (fun u=>True) (fun _=>rfl) (fun _=>rfl) ?_ ?_
 .
  refine Vs 7 O ?_
  refine zld O (fun e=>?_) (fun e=>?_)
  .
   refine Vs 4 O ?_
   refine V.bs 13 [(0,_)] tR27 ts3 tz3 (by decide) O O (by kernel_rfl) (fun b13=>?_)
   refine znp 900 13 tu27 Tryz.el3 O (by decide) O O (by omega) (by omega) (fun u900=>?_)
   refine Vs 2 O ?_
   refine znJ 900 O (e':=.row 3 1 u900 (acc++zQ t).length ((acc++zQ t).map zb)) (by unfold zQ;rw[zp4 e,zp1,zqw];rfl) ?_
   refine zlq (u900) (Sub.of O) (Has.of O) (True.intro) 0 O O
  refine znJ 900 O (e':=.row 3 1 uo (acc++zQ t).length ((acc++zQ t).map zb)) (by unfold zQ;rw[zp3 e,zq4]) ?_
  refine Vs 1 O ?_
  refine zlq (uo) (Sub.of O) (Has.of O) (True.intro) 0 O O
 rintro u -
 refine Vs 10 O ?_
 refine znJ 900 O (e':=.row 3 1 u (acc++zQ t++mentL (t.kids.take 0)).length ((acc++zQ t++mentL (t.kids.take 0)).map zb)) (by rw[show acc++zQ t++mentL (t.kids.take 0)=acc++zQ t from zq4 _]) ?_
 refine Vs 1 O ?_
 refine znK (σ:=Nat × Value) [16,17] [] [] O (fun e ⟨i,u⟩=>(18,.int .i64 i)::(1,u)::e) (fun e ⟨i,u⟩=>(900,.row 3 1 u (acc++zQ t++mentL (t.kids.take i)).length ((acc++zQ t++mentL (t.kids.take i)).map zb))::e) (fun⟨i,u⟩=>i<=t.kids.length) (fun⟨i,u⟩=>t.kids.length - i) ((0,u)) (Sub.of O) (Has.of O) (fun _=>rfl) (fun _=>rfl) (fun _=>rfl) (zp8 _) ?_
 rintro⟨i,u⟩ hi
 show V _ _ _ _ _ ((18,.int .i64 i)::(1,u)::_) _ ((900,.row 3 1 u (acc++zQ t++mentL (t.kids.take i)).length ((acc++zQ t++mentL (t.kids.take i)).map zb))::_) _
 refine Vs 6 O ?_
 refine zld O (fun lt=>?_) (fun lt=>?_)
 .
  refine Vs 6 O ?_
  obtain⟨k,he_k,hm_k⟩:=gE_ t.kids (i) (by omega)
  obtain⟨b_k,o_k,c_k,ha_k,hd_k,hc_k,hR_k⟩:=hk.atD he_k
  obtain⟨v1_k,rfl,hk_k⟩:=hR_k.get
  obtain⟨a1_k,n1_k,rfl⟩:=hk_k.form
  refine znI 1000 0 O O (fun h_=>by have h1_:=haS _ h_;have h2_:=hd_k;first | omega | exact h1_ h2_) hc_k ?_
  refine znk 1000 tR68 ts70 O ha_k (by omega) (_) (rfl) O ?_
  have htk:=zbZ he_k
  have hle:=zeM t.kids (i+1)
  rw[htk,zp1]at hle
  refine Vs 1 O ?_
  refine V.alloc 6 tz70 O O (fun b6=>?_)
  refine Vs 6 O ?_
  refine znB 900 (E:=fun x=>.row 3 1 x (acc++zQ t++mentL (t.kids.take i)++yn k).length ((acc++zQ t++mentL (t.kids.take i)++yn k).map zb)) Tryz.call127 O (fun _=>⟨trivial,fun _ h=>h⟩) (fun w hI=>ih k hm_k _ _ (acc++zQ t++mentL (t.kids.take i)) D w (hk_k.keep zl hI.k0 (fun q hq _ hs=>haS q hs hq)) (hI.at 900 O) (fun q hq=>⟨zrj (hap q hq).1 hI.k0.size,show ¬ (xB u (acc++zQ t++mentL (t.kids.take i))).S q from hI.offD 0 900 O O (hap q hq).1 (fun h=>haS q h hq)⟩) (by simp only[zp1]at *;omega)) ?_
  rintro u2 _ rfl
  refine Va 8 O (by omega) ?_
  refine znJ 900 O (e':=.row 3 1 u2 (acc++zQ t++mentL (t.kids.take (i+1))).length ((acc++zQ t++mentL (t.kids.take (i+1))).map zb)) (by rw[htk,<- zq3]) ?_
  refine V.back (⟨i+1,u2⟩) (Sub.of O) (Has.of O) (by omega) (by first | omega | (dsimp only;omega)) 0 O O
 obtain rfl:i=t.kids.length:=by omega
 refine znJ 900 O (e':=xB u (acc++yn t)) (by rw[zoY,zcE,<- zq3]) ?_
 refine Vs 12 O ?_
 refine zlt Tryz.results127 O (fun w hI=>⟨_,rfl,⟨u,rfl,hI.at 900 rfl,hI.k0,fun q hq=>hI.inS 0 900 O O hq⟩⟩)
theorem zax (xs ys:List Int) (u v:Value) (D D':Nat->Prop) (w:World) (hx:SlR 1 yc D w u xs) (hy:SlR 1 yc D' w v ys):Calls Tryz.prog 69 #[u,v] w (Ret fun r w'=>r=.bool (decide (xs=ys))/\Ext w w'):=by
 obtain⟨ao,cx,rfl,hxc,hxm,hxe⟩:=hx
 obtain⟨bo,cy,rfl,hyc,hym,hye⟩:=hy
 refine zn2 Tryz.func69 O Tryz.ntmps69 O (Gs 15 O (zmQ O (fun hne=>?_) (fun heq=>?_)))
 .
  refine Gs 7 O ?_
  have:¬ xs=ys:=fun h=>hne (by rw[h])
  refine zls Tryz.results69 O ⟨_,rfl,by rw[zp6 this],Keep.refl _ _⟩
 have hl:xs.length=ys.length:=by omega
 refine Gs 11 O (G.loop (σ:=Nat) (fun k=>[(0,.slice ao xs.length cx),(1,.slice bo ys.length cy),(11,.slice ao xs.length cx),(12,.int .i64 xs.length),(13,.int .i64 k)]) (fun k=>fun w'=>k<=xs.length/\xs.take k=ys.take k/\Ext w w') (fun k=>xs.length - k) (0) (Sub.of O) (⟨zp8 _,rfl,Keep.refl _ _⟩) ?_)
 rintro k w1 ⟨hkl,htk,hk1⟩
 refine Gs 6 O (zmQ O (fun hlt=>?_) (fun hge=>?_))
 .
  obtain⟨x,hx⟩:∃ x,xs[k]?=some x:=⟨_,zoT (by omega)⟩
  obtain⟨y,hy⟩:∃ y,ys[k]?=some y:=⟨_,zoT (by omega)⟩
  obtain⟨b1,o1,c1,hao,_,hcl1,hcs1,rfl⟩:=hxe k x hx
  obtain⟨b2,o2,c2,hbo,_,hcl2,hcs2,rfl⟩:=hye k y hy
  have hcs1':=hk1.cells hcs1 (fun h=>h)
  have hcs2':=hk1.cells hcs2 (fun h=>h)
  refine Gs 11 O (Qt (by kernel_rfl) (Gs 2 O (zmU O O (fun w1 hw1=>zlO tR27 ts3 O O hao (by omega)) (zmW O tg3 (fun w1 hw1=>(hw1.cell (hcs1' 0 _ O) (fun h=>h))) (Gs 2 O (zmU O O (fun w1 hw1=>zlO tR27 ts3 O O hbo (by omega)) (zmW O tg3 (fun w1 hw1=>(hw1.cell (hcs2' 0 _ O) (fun h=>h))) (Gs 1 O (zmY (fun w2 hk2=>?_))))))))))
  refine Gs 1 O (zmQ O (fun hd=>?_) (fun he=>?_))
  .
   have:¬ xs=ys:=by
    rintro rfl
    rw[hx]at hy
    exact hd (Option.some.inj hy)
   refine Gs 11 O (zls Tryz.results69 O ⟨_,rfl,by rw[zp6 this],hk1.ext hk2⟩)
  have hxy:x=y:=zp2.1 he
  refine Ga 7 O (by omega) (G.back (k+1) (Sub.of O) (⟨by omega,?_,hk1.ext hk2⟩) (by first | omega | (dsimp only;omega)))
  obtain⟨h1,h2⟩:=zp7.1 hx
  obtain⟨h3,h4⟩:=zp7.1 hy
  rw[zr9 h1,zr9 h3,htk,h2,h4,hxy]
 have hkk:k=xs.length:=by omega
 have:xs=ys:=by
  rw[hkk,zoY]at htk
  rw[hl,zoY]at htk
  exact htk
 refine Gs 11 O (zls Tryz.results69 O ⟨_,rfl,by rw[zp5 this],hk1⟩)
end Go.Proofs.YtckdhgbepmpgiaaGreat
