/-
  Contracts and the mathematics that the proof needs. Nothing here is a claim.
-/
import Derived.Test.YtaenledoagbddaaGreatDoorKY3
namespace Go.Proofs.YtaenledoagbddaaGreatDoor
open Go.GL
def RNew (cs:List Value) (e:TypeId):World->Value->World->Prop:=fun a v a'=>∃ b,v=.pointer (some ⟨b,0,none⟩)/\New a cs e b a'
theorem RNew.ext {cs:List Value} {e:TypeId} {a a':World} {v:Value} (h:RNew cs e a v a'):Ext a a':=by obtain⟨_,_,h⟩:=h;obtain⟨_,_,_,h⟩:=h;exact h
theorem RNew.apart {cs cs':List Value} {e e':TypeId} {v u:Value} {b c:Nat} (h:zi7 (RNew cs e) v (RNew cs' e') u) (hb:v=.pointer (some ⟨b,0,none⟩)) (hc:u=.pointer (some ⟨c,0,none⟩)):b ≠ c:=by
 rcases h with⟨a,a',d,d',⟨b1,e1,g1,s1,_,_⟩,⟨c1,e2,g2,s2,_,_⟩,hk⟩ | ⟨a,a',d,d',⟨b1,e1,g1,s1,_,_⟩,⟨c1,e2,g2,s2,_,_⟩,hk⟩
 . rw [hb] at e1;rw [hc] at e2;cases e1;cases e2;have:=hk.size;omega
 . rw [hb] at e1;rw [hc] at e2;cases e1;cases e2;have:=hk.size;omega
theorem zgR (vs:List Vr) (nh:Nat) (l:List St):∀ (v:Value) (D:Nat->Prop) (w:World) (top:Bool),zb vs nh l top=0->SlR 10 RSt D w v l->zt l<=1000000->Calls Tryz.prog 118 #[v] w (Ret fun r w'=>r=.agg #[.int .i64 (cap 1099511627776 (bds l).1),.int .i64 (cap 1099511627776 (bds l).2.1),.int .i64 (cap 1099511627776 (bds l).2.2)]/\Ext w w'):=by
 induction l using zlH with
 | h l ih =>
 intro v D w top hok hl hb
 have hmx:=hl.max
 obtain⟨av,nv,rfl⟩:=hl.form
 have hl0:=hl
 have hE:=Keep.refl (fun _=>False) w
 refine zma Tryz.func118 O Tryz.ntmps118 O (Gs 2 O (G.mem O O (M.alloc (cs:=_) tz148 O) ?_))
 rintro _ w_r ⟨r,rfl,hg_r,hs_r,hB_r,hk_r⟩
 have hge_r:_<=r:=znZ hE.size (Nat.le_of_eq hg_r.symm)
 obtain⟨hE,hl⟩:=Tr2 hk_r hE hl
 refine Gs 4 O (G.mem O O (M.alloc (cs:=_) tz148 O) ?_)
 rintro _ w_o ⟨o,rfl,hg_o,hs_o,hB_o,hk_o⟩
 have hn_r_o:r ≠ o:=by have:=hB_r.lt;omega
 have hge_o:_<=o:=znZ hE.size (Nat.le_of_eq hg_o.symm)
 obtain⟨hE,hl,hB_r⟩:=Tr3 hk_o hE hl hB_r
 refine Gs 11 O ?_
 have hk0:=Keep.refl (fun q=>q=o) w_o
 refine G.loop (σ:=Nat) (fun i=>[(2,.pointer (some ⟨r,0,none⟩)),(3,.pointer (some ⟨o,0,none⟩)),(9,.slice av l.length nv),(10,.int .i64 l.length),(11,.int .i64 i)]) (fun i=>fun w'=>i<=l.length/\Blk w' o [.int .i64 (cap 1099511627776 (bds (l.take i)).1),.int .i64 (cap 1099511627776 (bds (l.take i)).2.1),.int .i64 (cap 1099511627776 (bds (l.take i)).2.2)] 148/\Blk w' r [.int .i64 0,.int .i64 0,.int .i64 0] 148/\Ext w w') (fun i=>l.length - i) (0) (zlO O) (⟨zo8 _,hB_o,hB_r,hE⟩) ?_
 rintro i w1 ⟨hi,hB_o,hB_r,hE⟩
 have hl:=hl0.ext zf hE
 refine Gs 6 O (zk6 O (fun hlt=>?_) (fun hlt=>?_))
 ·
  obtain⟨x,he_x,hm_x⟩:=gE_ l (i) (by omega)
  obtain⟨b_x,o_x,c_x,ha_x,_,hc_x,hR_x⟩:=hl.at he_x
  have h1_x:=RSt.one hR_x
  obtain⟨v1_x,v2_x,v3_x,v4_x,rfl,hk_x,ht_x,hs_x,hb_x⟩:=hR_x.get
  obtain⟨a1_x,n1_x,rfl⟩:=hk_x.form
  obtain⟨a2_x,n2_x,rfl⟩:=ht_x.form
  obtain⟨a3_x,n3_x,rfl⟩:=hs_x.form
  obtain⟨a4_x,n4_x,rfl⟩:=hb_x.form
  have hlt_x:b_x<_:=znV _ _ (hc_x 0 _ rfl)
  have htk:=zdS he_x
  have htk1:(bds (l.take (i+1))).1=(bds (l.take i)).1+(yo x).1:=by rw [htk]
  have htk2:(bds (l.take (i+1))).2.1=(bds (l.take i)).2.1+(yo x).2.1:=by rw [htk]
  have htk3:(bds (l.take (i+1))).2.2=(bds (l.take i)).2.2+(yo x).2.2:=by rw [htk]
  have hpre:0<=(bds (l.take i)).1/\0<=(bds (l.take i)).2.1/\0<=(bds (l.take i)).2.2:=zfg hok i
  obtain⟨last,hx0⟩:=xd l top hok x hm_x
  obtain⟨hS,_,_,hs1,hs2⟩:=xK hx0
  have hcost:=hS.cost
  have n1:=yD x.thn _ hs1
  have n2:=yD x.els _ hs2
  have y:=kE hx0
  have hbx:=qw hm_x
  rw [St.bulk_eq] at hbx
  refine Gs 6 O (zm1 O O (zkP tR24 ts92 O O ha_x (by omega)) (zm7 O tg92 ts92 hc_x O (G.mem O O (M.alloc (cs:=_) tz92 O) ?_)))
  rintro _ wa1 ⟨c,rfl,hg_c,hs_c,hB_c,hk_c⟩
  refine zkY O (zkZ ts92 O O O O h1_x hB_c (by simp)) ?_
  rintro w_c ⟨_,hB_c,hkk_c⟩
  replace hk_c:=hk_c.trans hkk_c (fun q hq h=>by have h:q=c:=h;omega)
  have hn_r_c:r ≠ c:=by have:=hB_r.lt;omega
  have hn_o_c:o ≠ c:=by have:=hB_o.lt;omega
  have hge_c:_<=c:=znZ hE.size (Nat.le_of_eq hg_c.symm)
  obtain⟨hE,hl,hB_r,hB_o,hc_x,hk_x,ht_x⟩:=Tr7 hk_c hE hl hB_r hB_o hc_x hk_x ht_x
  obtain⟨hs_x,hb_x⟩:=Tr2 hk_c hs_x hb_x
  refine Gs 5 O (zm5 O tg3 (hB_c.cells 1 _ O) (zm1 O O (R.build (v:=.agg #[.int .i64 1,.int .i64 0,.int .i64 x.cost]) [(0,_),(2,_)] O (fun _=>by kernel_rfl)) (G.mem O O (M.alloc (cs:=_) tz148 O) ?_)))
  rintro _ wa2 ⟨p,rfl,hg_p,hs_p,hB_p,hk_p⟩
  refine zkY O (zkZ ts148 O O O O (by simp [Value.oneCell']) hB_p (by simp)) ?_
  rintro w_p ⟨_,hB_p,hkk_p⟩
  replace hk_p:=hk_p.trans hkk_p (fun q hq h=>by have h:q=p:=h;omega)
  have hn_r_p:r ≠ p:=by have:=hB_r.lt;omega
  have hn_o_p:o ≠ p:=by have:=hB_o.lt;omega
  have hn_c_p:c ≠ p:=by have:=hB_c.lt;omega
  have hge_p:_<=p:=znZ hE.size (Nat.le_of_eq hg_p.symm)
  obtain⟨hE,hl,hB_r,hB_o,hk_x,ht_x,hs_x⟩:=Tr7 hk_p hE hl hB_r hB_o hk_x ht_x hs_x
  obtain⟨hb_x,hB_c⟩:=Tr2 hk_p hb_x hB_c
  refine Gs 3 O ?_
  have hlr:r<w_p.heap.size:=hB_r.lt
  have hlo:o<w_p.heap.size:=hB_o.lt
  have hlc:c<w_p.heap.size:=hB_c.lt
  have hlp:p<w_p.heap.size:=hB_p.lt
  refine Dw (fun q=>Ext w_p q) [] (fun wd0 hD _=>(Ds [0] (by kernel_rfl) O (WD.take 1 O (by kernel_rfl) O O O hD (fun w1 hw1=>R.load tg24 O ((hw1.blk hB_c (fun h=>h)).cells 7 _ O)) (Ds [3] (by kernel_rfl) O (WD.take 4 O (by kernel_rfl) O O O hD (fun w1 hw1=>R.load tg24 O ((hw1.blk hB_c (fun h=>h)).cells 8 _ O)) ?_)))))
  refine znp (fuel:=2) (L3:=#[true,true,true,true,true,true,true,true,false,false]) [⟨2,_,20,fun a v a'=>v=.agg #[.int .i64 (cap 1099511627776 (bds x.thn).1),.int .i64 (cap 1099511627776 (bds x.thn).2.1),.int .i64 (cap 1099511627776 (bds x.thn).2.2)]/\Ext a a'⟩,⟨5,_,23,fun a v a'=>v=.agg #[.int .i64 (cap 1099511627776 (bds x.els).1),.int .i64 (cap 1099511627776 (bds x.els).2.1),.int .i64 (cap 1099511627776 (bds x.els).2.2)]/\Ext a a'⟩,⟨6,_,7,RNew [.int .i64 0,.int .i64 0,.int .i64 0] 148⟩,⟨7,_,8,RNew [.int .i64 0,.int .i64 0,.int .i64 0] 148⟩]
   (List.forall_mem_cons.2 ⟨⟨rfl,rfl,rfl,rfl,rfl⟩,List.forall_mem_cons.2 ⟨⟨rfl,rfl,rfl,rfl,rfl⟩,List.forall_mem_cons.2 ⟨⟨rfl,rfl,rfl,rfl,rfl⟩,List.forall_mem_cons.2 ⟨⟨rfl,rfl,rfl,rfl,rfl⟩,by simp⟩⟩⟩⟩)
   (show List.Nodup [20,23,7,8] by decide) (show List.Nodup [2,5,6,7] by decide) (by kernel_rfl) (fun w' h=>hD.ext h) ?_ ?_ ?_
  . refine List.forall_mem_cons.2 ⟨fun a v a' h=>h.2,List.forall_mem_cons.2 ⟨fun a v a' h=>h.2,List.forall_mem_cons.2 ⟨fun a v a' h=>h.ext,List.forall_mem_cons.2 ⟨fun a v a' h=>h.ext,by simp⟩⟩⟩⟩
  . refine List.forall_mem_cons.2 ⟨fun w' h=>Does.call (F.call (vs:=[_]) Tryz.call118 O) ((ih x hm_x).1 _ _ _ _ hs1 (ht_x.ext zf (hD.ext h)) (by omega)),List.forall_mem_cons.2 ⟨fun w' h=>Does.call (F.call (vs:=[_]) Tryz.call118 O) ((ih x hm_x).2 _ _ _ _ hs2 (hs_x.ext zf (hD.ext h)) (by omega)),List.forall_mem_cons.2 ⟨fun w' h=>zlN (M.alloc (cs:=_) tz148 O),List.forall_mem_cons.2 ⟨fun w' h=>zlN (M.alloc (cs:=_) tz148 O),by simp⟩⟩⟩⟩
  intro val wm hEm hmade hap
  obtain⟨_,_,_,⟨e2,_⟩,_⟩:=hmade _ (znX ..)
  obtain⟨_,_,_,⟨e5,_⟩,_⟩:=hmade _ (znW _ (znX ..))
  obtain⟨a6,a6',h61,⟨t,e6,hg6,hs6,hB6,hk6⟩,h62⟩:=hmade _ (znW _ (znW _ (znX ..)))
  obtain⟨a7,a7',h71,⟨u,e7,hg7,hs7,hB7,hk7⟩,h72⟩:=hmade _ (znW _ (znW _ (znW _ (znX ..))))
  have hn_t_u:t ≠ u:=RNew.apart (hap _ (znW _ (znW _ (znX ..))) _ (znW _ (znW _ (znW _ (znX ..)))) (show (7:Nat) ≠ 8 by decide)) e6 e7
  have hgt:w_p.heap.size<=t:=by have:=hD.size;have:=h61.size;omega
  have hgu:w_p.heap.size<=u:=by have:=hD.size;have:=h71.size;omega
  have hB_t:=h62.blk hB6 (fun h=>h)
  have hB_u:=h72.blk hB7 (fun h=>h)
  replace hD:=hD.ext hEm
  have hn_r_t:r ≠ t:=by omega
  have hn_r_u:r ≠ u:=by omega
  have hn_o_t:o ≠ t:=by omega
  have hn_o_u:o ≠ u:=by omega
  have hn_c_t:c ≠ t:=by omega
  have hn_c_u:c ≠ u:=by omega
  have hn_p_t:p ≠ t:=by omega
  have hn_p_u:p ≠ u:=by omega
  show WD _ _ _ _ _ _ _ _ ((20,val 20)::(23,val 23)::(7,val 7)::(8,val 8)::_) _
  rw [e2,e5,e6,e7]
  refine zkX 8 O (by kernel_rfl) O O (zkZ ts148 O O O O (by simp [Value.oneCell']) hB_t (by simp)) ?_
  rintro ws1 ⟨_,hB_t,hs1⟩
  replace hB_u:=hs1.blk hB_u (fun h=>hn_t_u h.symm)
  replace hD:=hD.trans hs1 (fun q hq h=>by have h:q=t:=h;omega)
  refine⟨fun _=>hD,?_⟩
  refine zkX 9 O (by kernel_rfl) O O (zkZ ts148 O O O O (by simp [Value.oneCell']) hB_u (by simp)) ?_
  rintro ws2 ⟨_,hB_u,hs2⟩
  replace hB_t:=hs2.blk hB_t hn_t_u
  replace hD:=hD.trans hs2 (fun q hq h=>by have h:q=u:=h;omega)
  refine⟨fun _=>hD,?_⟩
  refine zla (by kernel_rfl) ?_ _
  obtain⟨hE,hl,hB_r,hB_o,hk_x,ht_x,hs_x⟩:=Tr7 hD hE hl hB_r hB_o hk_x ht_x hs_x
  obtain⟨hb_x,hB_c,hB_p⟩:=Tr3 hD hb_x hB_c hB_p
  have hge_t:w.heap.size<=t:=by have:=hE.size;omega
  have hge_u:w.heap.size<=u:=by have:=hE.size;omega
  have r1:=zF n1.1 (show (0:Int)<=1099511627776 by decide)
  have r2:=zF n1.2.1 (show (0:Int)<=1099511627776 by decide)
  have r3:=zF n1.2.2 (show (0:Int)<=1099511627776 by decide)
  have r4:=zF n2.1 (show (0:Int)<=1099511627776 by decide)
  have r5:=zF n2.2.1 (show (0:Int)<=1099511627776 by decide)
  have r6:=zF n2.2.2 (show (0:Int)<=1099511627776 by decide)
  have t1:=zF hpre.1 (show (0:Int)<=1099511627776 by decide)
  have t2:=zF hpre.2.1 (show (0:Int)<=1099511627776 by decide)
  have t3:=zF hpre.2.2 (show (0:Int)<=1099511627776 by decide)
  refine Gs 5 O (zm5 O tg90 (hB_c.cells 0 _ O) (Gs 9 O (zk6 O (fun a1=>?_) (fun a1=>?_))))
  ·
   obtain⟨g1,g2⟩:=hS.free (by omega) (by omega)
   have eB:yo x=(1,1,x.cost):=by rw [yb,g1,g2,zo3 (by omega)];simp [bds,a1]
   have f1:cap 1099511627776 1=cap 1099511627776 (yo x).1:=by rw [eB]
   have f2:cap 1099511627776 1=cap 1099511627776 (yo x).2.1:=by rw [eB]
   have f3:cap 1099511627776 x.cost=cap 1099511627776 (yo x).2.2:=by rw [eB]
   have z1:(0:Int)<=1:=by decide
   have z2:(0:Int)<=1:=by decide
   have z3:=hcost.1
   refine Gs 2 O (zkY O (M.store ts3 O O O O hB_p (by simp)) ?_)
   rintro ws3 ⟨_,hB_p,hs3⟩
   replace hE:=hE.trans hs3 (fun q hq h=>by have h:q=p:=h;omega)
   replace hB_r:=hs3.blk hB_r hn_r_p
   replace hB_o:=hs3.blk hB_o hn_o_p
   replace hB_c:=hs3.blk hB_c hn_c_p
   replace hB_t:=hs3.blk hB_t (fun h=>hn_p_t h.symm)
   replace hB_u:=hs3.blk hB_u (fun h=>hn_p_u h.symm)
   refine Gs 6 O (zm5 O tg3 (hB_o.cells 0 _ O) (Gs 1 O (zm5 O tg3 (hB_p.cells 0 _ O) (Ga 3 O (by omega) (zkY O (M.store ts3 O O O O hB_o (by simp)) ?_)))))
   rintro ws4 ⟨_,hB_o,hs4⟩
   replace hE:=hE.trans hs4 (fun q hq h=>by have h:q=o:=h;omega)
   replace hB_r:=hs4.blk hB_r hn_r_o
   replace hB_c:=hs4.blk hB_c (fun h=>hn_o_c h.symm)
   replace hB_p:=hs4.blk hB_p (fun h=>hn_o_p h.symm)
   replace hB_t:=hs4.blk hB_t (fun h=>hn_o_t h.symm)
   replace hB_u:=hs4.blk hB_u (fun h=>hn_o_u h.symm)
   refine Gs 5 O (zm5 O tg3 (hB_o.cells 1 _ O) (Gs 1 O (zm5 O tg3 (hB_p.cells 1 _ O) (Ga 3 O (by omega) (zkY O (M.store ts3 O O O O hB_o (by simp)) ?_)))))
   rintro ws5 ⟨_,hB_o,hs5⟩
   replace hE:=hE.trans hs5 (fun q hq h=>by have h:q=o:=h;omega)
   replace hB_r:=hs5.blk hB_r hn_r_o
   replace hB_c:=hs5.blk hB_c (fun h=>hn_o_c h.symm)
   replace hB_p:=hs5.blk hB_p (fun h=>hn_o_p h.symm)
   replace hB_t:=hs5.blk hB_t (fun h=>hn_o_t h.symm)
   replace hB_u:=hs5.blk hB_u (fun h=>hn_o_u h.symm)
   refine Gs 4 O (zm5 O tg3 (hB_o.cells 2 _ O) (Gs 1 O (zm5 O tg3 (hB_p.cells 2 _ O) (Ga 3 O (by omega) (zkY O (M.store ts3 O O O O hB_o (by simp)) ?_)))))
   rintro ws6 ⟨_,hB_o,hs6⟩
   replace hE:=hE.trans hs6 (fun q hq h=>by have h:q=o:=h;omega)
   replace hB_r:=hs6.blk hB_r hn_r_o
   replace hB_c:=hs6.blk hB_c (fun h=>hn_o_c h.symm)
   replace hB_p:=hs6.blk hB_p (fun h=>hn_o_p h.symm)
   replace hB_t:=hs6.blk hB_t (fun h=>hn_o_t h.symm)
   replace hB_u:=hs6.blk hB_u (fun h=>hn_o_u h.symm)
   refine Ga 7 O (by omega) (zkh (i+1) (zlO O) (⟨by omega,by rw [htk1,htk2,htk3,<- yd hpre.1 y.1 z1 f1,<- yd hpre.2.1 y.2.1 z2 f2,<- yd hpre.2.2 y.2.2 z3 f3];exact hB_o,hB_r,hE⟩) (by first | omega | (dsimp only;omega)))
  ·
   refine Gs 6 O (zk6 O (fun a3=>?_) (fun a3=>?_))
   ·
    have n4:¬ x.act=4:=by omega
    have f1:cap 1099511627776 (1+max (cap 1099511627776 (bds x.thn).1) (cap 1099511627776 (bds x.els).1))=cap 1099511627776 (yo x).1:=by rw [yb,zo3 n4];exact zbH (by omega) n1.1 n2.1
    have f2:cap 1099511627776 (max (cap 1099511627776 (bds x.thn).2.1) (cap 1099511627776 (bds x.els).2.1))=cap 1099511627776 (yo x).2.1:=by rw [yb,zo3 n4];simp only [a1,if_false];exact zdT n1.2.1 n2.2.1
    have f3:cap 1099511627776 (x.cost+max (cap 1099511627776 (bds x.thn).2.2) (cap 1099511627776 (bds x.els).2.2))=cap 1099511627776 (yo x).2.2:=by rw [yb,zo3 n4];exact zbH hcost.1 n1.2.2 n2.2.2
    have z1:0<=1+max (cap 1099511627776 (bds x.thn).1) (cap 1099511627776 (bds x.els).1):=by omega
    have z2:0<=max (cap 1099511627776 (bds x.thn).2.1) (cap 1099511627776 (bds x.els).2.1):=by omega
    have z3:0<=x.cost+max (cap 1099511627776 (bds x.thn).2.2) (cap 1099511627776 (bds x.els).2.2):=by omega
    refine Gs 3 O (zm5 O tg3 (hB_p.cells 0 _ O) (Gs 1 O (zm5 O tg3 (hB_t.cells 0 _ O) (Gs 1 O (zm5 O tg3 (hB_u.cells 0 _ O) (Ga 3 O (by omega) (zkY O (M.store ts3 O O O O hB_p (by simp)) ?_)))))))
    rintro ws7 ⟨_,hB_p,hs7⟩
    replace hE:=hE.trans hs7 (fun q hq h=>by have h:q=p:=h;omega)
    replace hB_r:=hs7.blk hB_r hn_r_p
    replace hB_o:=hs7.blk hB_o hn_o_p
    replace hB_c:=hs7.blk hB_c hn_c_p
    replace hB_t:=hs7.blk hB_t (fun h=>hn_p_t h.symm)
    replace hB_u:=hs7.blk hB_u (fun h=>hn_p_u h.symm)
    refine Gs 5 O (zm5 O tg3 (hB_t.cells 1 _ O) (Gs 1 O (zm5 O tg3 (hB_u.cells 1 _ O) (Gs 2 O (zkY O (M.store ts3 O O O O hB_p (by simp)) ?_)))))
    rintro ws8 ⟨_,hB_p,hs8⟩
    replace hE:=hE.trans hs8 (fun q hq h=>by have h:q=p:=h;omega)
    replace hB_r:=hs8.blk hB_r hn_r_p
    replace hB_o:=hs8.blk hB_o hn_o_p
    replace hB_c:=hs8.blk hB_c hn_c_p
    replace hB_t:=hs8.blk hB_t (fun h=>hn_p_t h.symm)
    replace hB_u:=hs8.blk hB_u (fun h=>hn_p_u h.symm)
    refine Gs 4 O (zm5 O tg3 (hB_p.cells 2 _ O) (Gs 1 O (zm5 O tg3 (hB_t.cells 2 _ O) (Gs 1 O (zm5 O tg3 (hB_u.cells 2 _ O) (Ga 3 O (by omega) (zkY O (M.store ts3 O O O O hB_p (by simp)) ?_)))))))
    rintro ws9 ⟨_,hB_p,hs9⟩
    replace hE:=hE.trans hs9 (fun q hq h=>by have h:q=p:=h;omega)
    replace hB_r:=hs9.blk hB_r hn_r_p
    replace hB_o:=hs9.blk hB_o hn_o_p
    replace hB_c:=hs9.blk hB_c hn_c_p
    replace hB_t:=hs9.blk hB_t (fun h=>hn_p_t h.symm)
    replace hB_u:=hs9.blk hB_u (fun h=>hn_p_u h.symm)
    refine Gs 6 O (zm5 O tg3 (hB_o.cells 0 _ O) (Gs 1 O (zm5 O tg3 (hB_p.cells 0 _ O) (Ga 3 O (by omega) (zkY O (M.store ts3 O O O O hB_o (by simp)) ?_)))))
    rintro ws10 ⟨_,hB_o,hs10⟩
    replace hE:=hE.trans hs10 (fun q hq h=>by have h:q=o:=h;omega)
    replace hB_r:=hs10.blk hB_r hn_r_o
    replace hB_c:=hs10.blk hB_c (fun h=>hn_o_c h.symm)
    replace hB_p:=hs10.blk hB_p (fun h=>hn_o_p h.symm)
    replace hB_t:=hs10.blk hB_t (fun h=>hn_o_t h.symm)
    replace hB_u:=hs10.blk hB_u (fun h=>hn_o_u h.symm)
    refine Gs 5 O (zm5 O tg3 (hB_o.cells 1 _ O) (Gs 1 O (zm5 O tg3 (hB_p.cells 1 _ O) (Ga 3 O (by omega) (zkY O (M.store ts3 O O O O hB_o (by simp)) ?_)))))
    rintro ws11 ⟨_,hB_o,hs11⟩
    replace hE:=hE.trans hs11 (fun q hq h=>by have h:q=o:=h;omega)
    replace hB_r:=hs11.blk hB_r hn_r_o
    replace hB_c:=hs11.blk hB_c (fun h=>hn_o_c h.symm)
    replace hB_p:=hs11.blk hB_p (fun h=>hn_o_p h.symm)
    replace hB_t:=hs11.blk hB_t (fun h=>hn_o_t h.symm)
    replace hB_u:=hs11.blk hB_u (fun h=>hn_o_u h.symm)
    refine Gs 4 O (zm5 O tg3 (hB_o.cells 2 _ O) (Gs 1 O (zm5 O tg3 (hB_p.cells 2 _ O) (Ga 3 O (by omega) (zkY O (M.store ts3 O O O O hB_o (by simp)) ?_)))))
    rintro ws12 ⟨_,hB_o,hs12⟩
    replace hE:=hE.trans hs12 (fun q hq h=>by have h:q=o:=h;omega)
    replace hB_r:=hs12.blk hB_r hn_r_o
    replace hB_c:=hs12.blk hB_c (fun h=>hn_o_c h.symm)
    replace hB_p:=hs12.blk hB_p (fun h=>hn_o_p h.symm)
    replace hB_t:=hs12.blk hB_t (fun h=>hn_o_t h.symm)
    replace hB_u:=hs12.blk hB_u (fun h=>hn_o_u h.symm)
    refine Ga 7 O (by omega) (zkh (i+1) (zlO O) (⟨by omega,by rw [htk1,htk2,htk3,<- yd hpre.1 y.1 z1 f1,<- yd hpre.2.1 y.2.1 z2 f2,<- yd hpre.2.2 y.2.2 z3 f3];exact hB_o,hB_r,hE⟩) (by first | omega | (dsimp only;omega)))
   ·
    refine Gs 6 O (zk6 O (fun a4=>?_) (fun a4=>?_))
    ·
     have hr:=hS.rep a4
     have p1:=xR x.n (1+cap 1099511627776 (bds x.thn).1) 4096 1099511627777 hr.1 hr.2.1 (by omega) (by omega)
     have p2:=xR x.n (cap 1099511627776 (bds x.thn).2.1) 4096 1099511627776 hr.1 hr.2.1 (by omega) (by omega)
     have p3:=xR x.n (x.cost+cap 1099511627776 (bds x.thn).2.2) 4096 1099578736640 hr.1 hr.2.1 (by omega) (by omega)
     have q1:=zoo hr.1 (show 0<=1+(bds x.thn).1 by omega)
     have f1:cap 1099511627776 (1+x.n*(1+cap 1099511627776 (bds x.thn).1))=cap 1099511627776 (yo x).1:=by rw [yb,zo4 a4];exact zff p1.1 q1 (zaA hr.1 (by omega) n1.1 (by omega))
     have f2:cap 1099511627776 (x.n*cap 1099511627776 (bds x.thn).2.1)=cap 1099511627776 (yo x).2.1:=by rw [yb,zo4 a4];exact zdU hr.1 n1.2.1 (by omega)
     have f3:cap 1099511627776 (x.n*(x.cost+cap 1099511627776 (bds x.thn).2.2))=cap 1099511627776 (yo x).2.2:=by rw [yb,zo4 a4];exact zaA hr.1 hcost.1 n1.2.2 (by omega)
     have z1:0<=1+x.n*(1+cap 1099511627776 (bds x.thn).1):=by omega
     have z2:=p2.1
     have z3:=p3.1
     refine Gs 3 O (zm5 O tg3 (hB_p.cells 0 _ O) (Gs 1 O (zm5 O tg3 (hB_c.cells 3 _ O) (Gs 1 O (zm5 O tg3 (hB_t.cells 0 _ O) (Ga 4 O (by omega) (zkY O (M.store ts3 O O O O hB_p (by simp)) ?_)))))))
     rintro ws13 ⟨_,hB_p,hs13⟩
     replace hE:=hE.trans hs13 (fun q hq h=>by have h:q=p:=h;omega)
     replace hB_r:=hs13.blk hB_r hn_r_p
     replace hB_o:=hs13.blk hB_o hn_o_p
     replace hB_c:=hs13.blk hB_c hn_c_p
     replace hB_t:=hs13.blk hB_t (fun h=>hn_p_t h.symm)
     replace hB_u:=hs13.blk hB_u (fun h=>hn_p_u h.symm)
     refine Gs 5 O (zm5 O tg3 (hB_c.cells 3 _ O) (Gs 1 O (zm5 O tg3 (hB_t.cells 1 _ O) (Ga 2 O (by omega) (zkY O (M.store ts3 O O O O hB_p (by simp)) ?_)))))
     rintro ws14 ⟨_,hB_p,hs14⟩
     replace hE:=hE.trans hs14 (fun q hq h=>by have h:q=p:=h;omega)
     replace hB_r:=hs14.blk hB_r hn_r_p
     replace hB_o:=hs14.blk hB_o hn_o_p
     replace hB_c:=hs14.blk hB_c hn_c_p
     replace hB_t:=hs14.blk hB_t (fun h=>hn_p_t h.symm)
     replace hB_u:=hs14.blk hB_u (fun h=>hn_p_u h.symm)
     refine Gs 4 O (zm5 O tg3 (hB_c.cells 3 _ O) (Gs 1 O (zm5 O tg3 (hB_c.cells 1 _ O) (Gs 1 O (zm5 O tg3 (hB_t.cells 2 _ O) (Ga 3 O (by omega) (zkY O (M.store ts3 O O O O hB_p (by simp)) ?_)))))))
     rintro ws15 ⟨_,hB_p,hs15⟩
     replace hE:=hE.trans hs15 (fun q hq h=>by have h:q=p:=h;omega)
     replace hB_r:=hs15.blk hB_r hn_r_p
     replace hB_o:=hs15.blk hB_o hn_o_p
     replace hB_c:=hs15.blk hB_c hn_c_p
     replace hB_t:=hs15.blk hB_t (fun h=>hn_p_t h.symm)
     replace hB_u:=hs15.blk hB_u (fun h=>hn_p_u h.symm)
     refine Gs 6 O (zm5 O tg3 (hB_o.cells 0 _ O) (Gs 1 O (zm5 O tg3 (hB_p.cells 0 _ O) (Ga 3 O (by omega) (zkY O (M.store ts3 O O O O hB_o (by simp)) ?_)))))
     rintro ws16 ⟨_,hB_o,hs16⟩
     replace hE:=hE.trans hs16 (fun q hq h=>by have h:q=o:=h;omega)
     replace hB_r:=hs16.blk hB_r hn_r_o
     replace hB_c:=hs16.blk hB_c (fun h=>hn_o_c h.symm)
     replace hB_p:=hs16.blk hB_p (fun h=>hn_o_p h.symm)
     replace hB_t:=hs16.blk hB_t (fun h=>hn_o_t h.symm)
     replace hB_u:=hs16.blk hB_u (fun h=>hn_o_u h.symm)
     refine Gs 5 O (zm5 O tg3 (hB_o.cells 1 _ O) (Gs 1 O (zm5 O tg3 (hB_p.cells 1 _ O) (Ga 3 O (by omega) (zkY O (M.store ts3 O O O O hB_o (by simp)) ?_)))))
     rintro ws17 ⟨_,hB_o,hs17⟩
     replace hE:=hE.trans hs17 (fun q hq h=>by have h:q=o:=h;omega)
     replace hB_r:=hs17.blk hB_r hn_r_o
     replace hB_c:=hs17.blk hB_c (fun h=>hn_o_c h.symm)
     replace hB_p:=hs17.blk hB_p (fun h=>hn_o_p h.symm)
     replace hB_t:=hs17.blk hB_t (fun h=>hn_o_t h.symm)
     replace hB_u:=hs17.blk hB_u (fun h=>hn_o_u h.symm)
     refine Gs 4 O (zm5 O tg3 (hB_o.cells 2 _ O) (Gs 1 O (zm5 O tg3 (hB_p.cells 2 _ O) (Ga 3 O (by omega) (zkY O (M.store ts3 O O O O hB_o (by simp)) ?_)))))
     rintro ws18 ⟨_,hB_o,hs18⟩
     replace hE:=hE.trans hs18 (fun q hq h=>by have h:q=o:=h;omega)
     replace hB_r:=hs18.blk hB_r hn_r_o
     replace hB_c:=hs18.blk hB_c (fun h=>hn_o_c h.symm)
     replace hB_p:=hs18.blk hB_p (fun h=>hn_o_p h.symm)
     replace hB_t:=hs18.blk hB_t (fun h=>hn_o_t h.symm)
     replace hB_u:=hs18.blk hB_u (fun h=>hn_o_u h.symm)
     refine Ga 7 O (by omega) (zkh (i+1) (zlO O) (⟨by omega,by rw [htk1,htk2,htk3,<- yd hpre.1 y.1 z1 f1,<- yd hpre.2.1 y.2.1 z2 f2,<- yd hpre.2.2 y.2.2 z3 f3];exact hB_o,hB_r,hE⟩) (by first | omega | (dsimp only;omega)))
    ·
     obtain⟨g1,g2⟩:=hS.free a3 a4
     have eB:yo x=(1,0,x.cost):=by rw [yb,g1,g2,zo3 a4];simp [bds,a1]
     have f1:cap 1099511627776 1=cap 1099511627776 (yo x).1:=by rw [eB]
     have f2:cap 1099511627776 0=cap 1099511627776 (yo x).2.1:=by rw [eB]
     have f3:cap 1099511627776 x.cost=cap 1099511627776 (yo x).2.2:=by rw [eB]
     have z1:(0:Int)<=1:=by decide
     have z2:(0:Int)<=0:=by decide
     have z3:=hcost.1
     refine Gs 6 O (zm5 O tg3 (hB_o.cells 0 _ O) (Gs 1 O (zm5 O tg3 (hB_p.cells 0 _ O) (Ga 3 O (by omega) (zkY O (M.store ts3 O O O O hB_o (by simp)) ?_)))))
     rintro ws19 ⟨_,hB_o,hs19⟩
     replace hE:=hE.trans hs19 (fun q hq h=>by have h:q=o:=h;omega)
     replace hB_r:=hs19.blk hB_r hn_r_o
     replace hB_c:=hs19.blk hB_c (fun h=>hn_o_c h.symm)
     replace hB_p:=hs19.blk hB_p (fun h=>hn_o_p h.symm)
     replace hB_t:=hs19.blk hB_t (fun h=>hn_o_t h.symm)
     replace hB_u:=hs19.blk hB_u (fun h=>hn_o_u h.symm)
     refine Gs 5 O (zm5 O tg3 (hB_o.cells 1 _ O) (Gs 1 O (zm5 O tg3 (hB_p.cells 1 _ O) (Ga 3 O (by omega) (zkY O (M.store ts3 O O O O hB_o (by simp)) ?_)))))
     rintro ws20 ⟨_,hB_o,hs20⟩
     replace hE:=hE.trans hs20 (fun q hq h=>by have h:q=o:=h;omega)
     replace hB_r:=hs20.blk hB_r hn_r_o
     replace hB_c:=hs20.blk hB_c (fun h=>hn_o_c h.symm)
     replace hB_p:=hs20.blk hB_p (fun h=>hn_o_p h.symm)
     replace hB_t:=hs20.blk hB_t (fun h=>hn_o_t h.symm)
     replace hB_u:=hs20.blk hB_u (fun h=>hn_o_u h.symm)
     refine Gs 4 O (zm5 O tg3 (hB_o.cells 2 _ O) (Gs 1 O (zm5 O tg3 (hB_p.cells 2 _ O) (Ga 3 O (by omega) (zkY O (M.store ts3 O O O O hB_o (by simp)) ?_)))))
     rintro ws21 ⟨_,hB_o,hs21⟩
     replace hE:=hE.trans hs21 (fun q hq h=>by have h:q=o:=h;omega)
     replace hB_r:=hs21.blk hB_r hn_r_o
     replace hB_c:=hs21.blk hB_c (fun h=>hn_o_c h.symm)
     replace hB_p:=hs21.blk hB_p (fun h=>hn_o_p h.symm)
     replace hB_t:=hs21.blk hB_t (fun h=>hn_o_t h.symm)
     replace hB_u:=hs21.blk hB_u (fun h=>hn_o_u h.symm)
     refine Ga 7 O (by omega) (zkh (i+1) (zlO O) (⟨by omega,by rw [htk1,htk2,htk3,<- yd hpre.1 y.1 z1 f1,<- yd hpre.2.1 y.2.1 z2 f2,<- yd hpre.2.2 y.2.2 z3 f3];exact hB_o,hB_r,hE⟩) (by first | omega | (dsimp only;omega)))
 ·
  have hii:i=l.length:=by omega
  subst hii
  rw [znY] at hB_o
  refine Gs 7 O (zm7 O Tryz.isAgg148 ts148 hB_o.cells O (zkY O (zkZ ts148 O O O O (by simp [Value.oneCell']) hB_r (by simp)) ?_))
  rintro wf ⟨_,hBf,hkf⟩
  refine Gs 3 O (zky Tryz.results118 O (zo Tryz.isAgg148 ts148 O hBf.cells) ?_)
  exact⟨_,rfl,rfl,hE.trans hkf (fun q hq h=>by have h:q=r:=h;omega)⟩
def xk (f:Fl):Bool:=decide (f.vars.length<=64)&&decide (f.hatches.length<=8)&&f.hatches.all (fun h=>decide (h.term.depth<=12))&&(decide (zL f.body<=12)&&!yg f.body)
theorem zdg (f:Fl) (v1 v2 v3:Value) (D:Nat->Prop) (w:World) (hf:RFl D w f v1 v2 v3) (hsz:zm f.body+zC f.hatches<=1024):Calls Tryz.prog 53 #[.agg #[v1,v2,v3]] w (Ret fun r w'=>r=.bool (xk f)/\Ext w w'):=by
 obtain⟨hvs,hhs,hbd⟩:=hf
 have hm1:=hvs.max
 have hm2:=hhs.max
 obtain⟨a1,n1,rfl⟩:=hvs.form
 obtain⟨a2,n2,rfl⟩:=hhs.form
 have hE:=Keep.refl (fun _=>False) w
 refine zma Tryz.func53 O Tryz.ntmps53 O (Gs 2 O (G.mem O O (M.box O O) ?_))
 rintro _ w_b ⟨b,rfl,hg_b,hs_b,hB_b,hk_b⟩
 have hge_b:_<=b:=znZ hE.size (Nat.le_of_eq hg_b.symm)
 obtain⟨hE,hvs,hhs,hbd⟩:=Tr4 hk_b hE hvs hhs hbd
 refine Gs 7 O (zm5 O tg22 (hB_b.cells 0 _ O) (Gs 3 O (G.sp 9 O (fun g1=>?_) (fun g1=>?_))))
 . refine Gs 15 O (zkq tr53 O ⟨_,rfl,by unfold xk;rw [zo6 (show ¬ f.vars.length<=64 by omega)];rfl,hE⟩)
 ·
  refine Gs 1 O (zm5 O tg23 (hB_b.cells 1 _ O) (Gs 5 O (zk6 O (fun g2=>?_) (fun g2=>?_))))
  . refine Gs 7 O (zkq tr53 O ⟨_,rfl,by unfold xk;rw [zo6 (show ¬ f.hatches.length<=8 by omega),Bool.and_false];rfl,hE⟩)
  ·
   have hpre:xk f=(f.hatches.all (fun h=>decide (h.term.depth<=12))&&(decide (zL f.body<=12)&&!yg f.body)):=by
    unfold xk;rw [zo5 (show f.vars.length<=64 by omega),zo5 (show f.hatches.length<=8 by omega)];rfl
   refine Gs 5 O (zm5 O tg24 (hB_b.cells 2 _ O) (G.call O Tryz.call101 (zd5 f.body _ D _ hbd (by omega)) ?_))
   rintro _ wz1 ⟨rfl,hz1⟩
   obtain⟨hE,hvs,hhs,hbd,hB_b⟩:=Tr5 hz1 hE hvs hhs hbd hB_b
   refine Gs 10 O (G.loop (σ:=Nat) (fun i=>[(1,.pointer (some ⟨b,0,none⟩)),(3,.int .i64 ((zm f.body:Int)+zC (f.hatches.take i))),(4,.int .i64 i)]) (fun i=>fun w'=>i<=f.hatches.length/\(f.hatches.take i).all (fun h=>decide (h.term.depth<=12))=true/\Ext wz1 w') (fun i=>f.hatches.length - i) (0) (zlO O) (⟨zo8 _,rfl,Keep.refl _ _⟩) ?_)
   rintro i w1 ⟨hi,hall,hL1⟩
   obtain⟨hE,hvs,hhs,hbd,hB_b⟩:=Tr5 hL1 hE hvs hhs hbd hB_b
   refine Gs 5 O (zm5 O tg23 (hB_b.cells 1 _ O) (Gs 4 O (zk6 O (fun hlt=>?_) (fun hlt=>?_))))
   ·
    obtain⟨x,he_x,hm_x⟩:=gE_ f.hatches (i) (by omega)
    obtain⟨b_x,o_x,c_x,ha_x,_,hc_x,hR_x⟩:=hhs.at he_x
    have h1_x:=RHt.one hR_x
    obtain⟨v1_x,rfl,hk_x⟩:=hR_x
    obtain⟨a1_x,n1_x,rfl⟩:=hk_x.form
    have hlt_x:b_x<_:=znV _ _ (hc_x 0 _ rfl)
    have hsp:=yZ he_x
    have htk:=jd he_x
    have hdn:x.term.depth<=x.term.nodes:=by have:=ky [x.term];simp [yr,zM] at this;exact this
    refine Gs 8 O (zm5 O tg23 (hB_b.cells 1 _ O) (Gs 1 O (zm1 O O (zkP tR23 ts95 O O ha_x (by omega)) (Gs 1 O (zm7 O tg86 ts86 (hc_x.sub 3 3) O (G.call O Tryz.call102 (qy x.term _ D _ (RTm.put hk_x) (by omega)) ?_))))))
    rintro _ wz2 ⟨rfl,hz2⟩
    obtain⟨hE,hvs,hhs,hbd,hB_b,hL1,hc_x⟩:=Tr7 hz2 hE hvs hhs hbd hB_b hL1 hc_x
    replace hk_x:=Tr1 hz2 hk_x
    refine Ga 7 O (by omega) (zm5 O tg23 (hB_b.cells 1 _ O) (Gs 1 O (zm1 O O (zkP tR23 ts95 O O ha_x (by omega)) (Gs 1 O (zm7 O tg86 ts86 (hc_x.sub 3 3) O (G.call O Tryz.call103 (qz x.term _ D _ (RTm.put hk_x) (by omega)) ?_))))))
    rintro _ wz3 ⟨rfl,hz3⟩
    obtain⟨hE,hvs,hhs,hbd,hB_b,hL1,hc_x⟩:=Tr7 hz3 hE hvs hhs hbd hB_b hL1 hc_x
    replace hk_x:=Tr1 hz3 hk_x
    refine Gs 3 O (zk6 O (fun dd=>?_) (fun dd=>?_))
    ·
     have hfa:f.hatches.all (fun h=>decide (h.term.depth<=12))=false:=by
      rw [Bool.eq_false_iff];intro h;have:=List.all_eq_true.1 h x hm_x;simp at this;omega
     refine Gs 11 O (zkq tr53 O ⟨_,rfl,by rw [hpre,hfa,Bool.false_and],hE⟩)
    . refine Ga 8 O (by omega) (zkh (i+1) (Sub.cons O (Sub.cons (xB O (by rw [htk];omega)) (zlO O))) (⟨by omega,by rw [zg he_x,List.all_append,hall];simp;omega,hL1⟩) (by first | omega | (dsimp only;omega)))
   ·
    have hii:i=f.hatches.length:=by omega
    subst hii
    rw [znY] at hall
    rw [hall,Bool.true_and] at hpre
    have hsd:=qx f.body
    refine Gs 10 O (G.sp 44 O (fun gn=>?_) (fun gn=>?_))
    ·
     refine Gs 1 O (zm5 O tg24 (hB_b.cells 2 _ O) (G.call O Tryz.call104 (zam f.body _ D _ hbd (by omega)) ?_))
     rintro _ wz4 ⟨rfl,hz4⟩
     obtain⟨hE,hvs,hhs,hbd,hB_b,hL1⟩:=Tr6 hz4 hE hvs hhs hbd hB_b hL1
     refine Gs 3 O (G.sp 50 O (fun gd=>?_) (fun gd=>?_))
     ·
      refine Gs 1 O (zm5 O tg24 (hB_b.cells 2 _ O) (G.call O Tryz.call105 (zan f.body _ D _ hbd (by omega)) ?_))
      rintro _ wz5 ⟨rfl,hz5⟩
      obtain⟨hE,hvs,hhs,hbd,hB_b,hL1⟩:=Tr6 hz5 hE hvs hhs hbd hB_b hL1
      refine zm1 O O (zly O (by first | exact za | rfl)) (Gs 5 O (zkq tr53 O ⟨_,rfl,by rw [hpre,zo5 (show zL f.body<=12 by omega)];rfl,hE⟩))
     . refine Gs 9 O (zkq tr53 O ⟨_,rfl,by rw [hpre,zo6 (show ¬ zL f.body<=12 by omega)];rfl,hE⟩)
    . exact absurd (by rw [znY];omega) gn
def zbI (f:Fl):Bool:=decide (4096<(bds f.body).1) || decide (8<(bds f.body).2.1) || decide (67108864<(bds f.body).2.2)
def ym (f:Fl):Int :=
 if xk f=false then 4
 else if zr f.vars ≠ 0 then zr f.vars
 else if zv f.vars f.hatches ≠ 0 then zv f.vars f.hatches
 else if zb f.vars f.hatches.length f.body true ≠ 0 then zb f.vars f.hatches.length f.body true
 else if zbI f then 4 else 0
theorem zaC {vs:List Vr} (h:zr vs=0):∀ v ∈ vs,yp (v.low,v.high):=by
 have h1:∀ j,j<vs.length->jF vs j=0:=by
  unfold zr at h
  split at h
  . rename_i h2;exact absurd h h2
  ·
   rename_i h2
   intro j hj
   exact xc vs.length 0 (by simpa using h2) j (zo8 _) (by omega)
 exact fun v hv=>(xI h1 v hv).1
theorem zaD (f:Fl) (v1 v2 v3:Value) (D:Nat->Prop) (w:World) (hf:RFl D w f v1 v2 v3) (hsz:zm f.body+zC f.hatches<=1024) (hbk:zt f.body<=1000000):Calls Tryz.prog 14 #[.agg #[v1,v2,v3]] w (Ret fun r w'=>r=.int .i64 (ym f)/\Ext w w'):=by
 obtain⟨hvs,hhs,hbd⟩:=hf
 have hm1:=hvs.max
 have hm2:=hhs.max
 obtain⟨a1,n1,rfl⟩:=hvs.form
 obtain⟨a2,n2,rfl⟩:=hhs.form
 have hE:=Keep.refl (fun _=>False) w
 refine zma Tryz.func14 O Tryz.ntmps14 O (Gs 2 O (G.mem O O (M.box O O) ?_))
 rintro _ w_b ⟨b,rfl,hg_b,hs_b,hB_b,hk_b⟩
 have hge_b:_<=b:=znZ hE.size (Nat.le_of_eq hg_b.symm)
 obtain⟨hE,hvs,hhs,hbd⟩:=Tr4 hk_b hE hvs hhs hbd
 refine Gs 6 O (zm7 O tg26 ts26 hB_b.cells O (G.call O Tryz.call53 (zdg f _ _ _ D _ ⟨hvs,hhs,hbd⟩ hsz) ?_))
 rintro _ wz1 ⟨rfl,hz1⟩
 obtain⟨hE,hvs,hhs,hbd,hB_b⟩:=Tr5 hz1 hE hvs hhs hbd hB_b
 refine zm1 O O (zly O (by first | exact za | rfl)) (Gs 2 O (G.bool O (fun s0=>?_) (fun s0=>?_)))
 ·
  have s0':xk f=false:=by simpa using s0
  refine Gs 7 O (zkq tr14 O ⟨_,rfl,by rw [ym,zo4 s0'],hE⟩)
 ·
  have s0':¬ xk f=false:=by simpa using s0
  refine Gs 5 O (zm5 O tg22 (hB_b.cells 0 _ O) (G.call O Tryz.call54 (zay f.vars _ D _ hvs) ?_))
  rintro _ wz2 ⟨rfl,hz2⟩
  obtain⟨hE,hvs,hhs,hbd,hB_b⟩:=Tr5 hz2 hE hvs hhs hbd hB_b
  refine Gs 10 O (zk6 O (fun vz=>?_) (fun vz=>?_))
  . refine Gs 8 O (zkq tr14 O ⟨_,rfl,by rw [ym,zo3 s0',zo4 vz],hE⟩)
  ·
   have hg:=zaC (show zr f.vars=0 by omega)
   refine Gs 9 O ?_
   have hch:ym f=if zv f.vars f.hatches ≠ 0 then zv f.vars f.hatches else if zb f.vars f.hatches.length f.body true ≠ 0 then zb f.vars f.hatches.length f.body true else if zbI f then 4 else 0:=by rw [ym,zo3 s0',zo3 vz]
   refine G.loop (σ:=Nat) (fun i=>[(1,.pointer (some ⟨b,0,none⟩)),(4,.int .i64 i)]) (fun i=>fun w'=>i<=f.hatches.length/\(∀ j,j<i->qd f.vars f.hatches j=0)/\Ext wz2 w') (fun i=>f.hatches.length - i) (0) (zlO O) (⟨zo8 _,fun j h=>absurd h (Nat.not_lt_zero _),Keep.refl _ _⟩) ?_
   rintro i w1 ⟨hi,hall,hL1⟩
   obtain⟨hE,hvs,hhs,hbd,hB_b⟩:=Tr5 hL1 hE hvs hhs hbd hB_b
   refine Gs 5 O (zm5 O tg23 (hB_b.cells 1 _ O) (Gs 4 O (zk6 O (fun hlt=>?_) (fun hlt=>?_))))
   ·
    obtain⟨x,he_x,hm_x⟩:=gE_ f.hatches (i) (by omega)
    obtain⟨b_x,o_x,c_x,ha_x,_,hc_x,hR_x⟩:=hhs.at he_x
    have h1_x:=RHt.one hR_x
    obtain⟨v1_x,rfl,hk_x⟩:=hR_x
    obtain⟨a1_x,n1_x,rfl⟩:=hk_x.form
    have hlt_x:b_x<_:=znV _ _ (hc_x 0 _ rfl)
    have hat:=jZ (vs:=f.vars) he_x
    have hbad:∀ c:Int,zJ f.vars (f.hatches.take i) x=c->c ≠ 0->ym f=c:=by
     intro c h1 h2
     have h3:qd f.vars f.hatches i ≠ 0:=by rw [hat,h1];exact h2
     have h4:zv f.vars f.hatches=c:=by rw [zv,qc hall (by omega) h3,hat,h1]
     rw [hch,h4,zo4 h2]
    have hnext:zJ f.vars (f.hatches.take i) x=0->∀ j,j<i+1->qd f.vars f.hatches j=0:=by
     intro h j hj
     by_cases e:j=i
     . subst e;rw [hat,h]
     . exact hall j (by omega)
    have hxn:=yZ he_x
    refine Gs 7 O (zm5 O tg23 (hB_b.cells 1 _ O) (Gs 1 O (zm1 O O (zkP tR23 ts95 O O ha_x (by omega)) (zm7 O tg95 ts95 hc_x O (G.mem O O (M.alloc (cs:=_) tz95 O) ?_)))))
    rintro _ wa3 ⟨c,rfl,hg_c,hs_c,hB_c,hk_c⟩
    refine zkY O (zkZ ts95 O O O O h1_x hB_c (by simp)) ?_
    rintro w_c ⟨_,hB_c,hkk_c⟩
    replace hk_c:=hk_c.trans hkk_c (fun q hq h=>by have h:q=c:=h;omega)
    have hn_b_c:b ≠ c:=by have:=hB_b.lt;omega
    have hge_c:_<=c:=znZ hE.size (Nat.le_of_eq hg_c.symm)
    obtain⟨hE,hvs,hhs,hbd,hB_b,hL1,hc_x⟩:=Tr7 hk_c hE hvs hhs hbd hB_b hL1 hc_x
    replace hk_x:=Tr1 hk_c hk_x
    refine Gs 6 O (zm5 O tg9 (hB_c.cells 0 _ O) (G.call O Tryz.call55 (kA x.name _) ?_))
    rintro _ wz4 ⟨rfl,hz4⟩
    obtain⟨hE,hvs,hhs,hbd,hB_b,hL1,hc_x⟩:=Tr7 hz4 hE hvs hhs hbd hB_b hL1 hc_x
    obtain⟨hk_x,hB_c⟩:=Tr2 hz4 hk_x hB_c
    refine zm1 O O (zly O (by first | exact za | rfl)) (Gs 2 O (G.bool O (fun n0=>?_) (fun n0=>?_)))
    ·
     have n0':zar x.name=false:=by simpa using n0
     refine Gs 12 O (zkq tr14 O ⟨_,rfl,by rw [hbad 7 (by rw [zJ,zo4 n0']) (by decide)],hE⟩)
    ·
     have n0':¬ zar x.name=false:=by simpa using n0
     refine Gs 9 O (G.loop (σ:=Nat) (fun j=>[(1,.pointer (some ⟨b,0,none⟩)),(4,.int .i64 i),(5,.pointer (some ⟨c,0,none⟩)),(6,.int .i64 j)]) (fun j=>fun w'=>j<=i/\(f.hatches.take j).any (fun u=>zU u.name x.name)=false/\Ext wz4 w') (fun j=>i - j) (0) (zlO O) (⟨zo8 _,rfl,Keep.refl _ _⟩) ?_)
     rintro j w2 ⟨hj,hno,hL2⟩
     obtain⟨hE,hvs,hhs,hbd,hB_b,hL1,hc_x⟩:=Tr7 hL2 hE hvs hhs hbd hB_b hL1 hc_x
     obtain⟨hk_x,hB_c⟩:=Tr2 hL2 hk_x hB_c
     refine Gs 8 O (zk6 O (fun hjl=>?_) (fun hjl=>?_))
     ·
      obtain⟨y,he_y,hm_y⟩:=gE_ f.hatches (j) (by omega)
      obtain⟨b_y,o_y,c_y,ha_y,_,hc_y,hR_y⟩:=hhs.at he_y
      have h1_y:=RHt.one hR_y
      obtain⟨v1_y,rfl,hk_y⟩:=hR_y
      obtain⟨a1_y,n1_y,rfl⟩:=hk_y.form
      have hlt_y:b_y<_:=znV _ _ (hc_y 0 _ rfl)
      refine Gs 5 O (Qt (by kernel_rfl) (Gs 1 O (zm6 O tg23 (fun w1 hw1=>((hw1.blk hB_b (fun h=>h)).cells 1 _ O)) (Gs 1 O (zm4 O O (fun w1 hw1=>zkP tR23 ts95 O O ha_y (by omega)) (Gs 1 O (zm6 O tg9 (fun w1 hw1=>((hw1.cells hc_y (fun h=>h)) 0 _ O)) (Gs 1 O (zm6 O tg9 (fun w1 hw1=>((hw1.blk hB_c (fun h=>h)).cells 0 _ O)) (Gs 1 O (zm8 (fun wz5 hz5=>?_))))))))))))
      obtain⟨hE,hvs,hhs,hbd,hB_b,hL1,hc_x⟩:=Tr7 hz5 hE hvs hhs hbd hB_b hL1 hc_x
      obtain⟨hk_x,hB_c,hL2,hc_y,hk_y⟩:=Tr5 hz5 hk_x hB_c hL2 hc_y hk_y
      refine Gs 1 O (zk6 O (fun hd=>?_) (fun hd=>?_))
      ·
       have hany:(f.hatches.take i).any (fun u=>zU u.name x.name)=true:=by
        rw [List.any_eq_true]
        refine⟨y,znU (i:=j) (by rw [zop,zo4 (by omega)];exact he_y),?_⟩
        unfold zU;exact zo5 hd
       refine Gs 16 O (zkq tr14 O ⟨_,rfl,by rw [hbad 8 (by rw [zJ,zo3 n0',zo4 hany]) (by decide)],hE⟩)
      . refine Ga 8 O (by omega) (zkh (j+1) (zlO O) (⟨by omega,by rw [zg he_y,List.any_append,hno];simp [zU,hd],hL2⟩) (by first | omega | (dsimp only;omega)))
     ·
      have hji:j=i:=by omega
      subst hji
      have n1:¬ (f.hatches.take j).any (fun u=>zU u.name x.name)=true:=by rw [hno];decide
      refine Gs 9 O (zm5 O tg3 (hB_c.cells 1 _ O) (Gs 1 O (zm5 O tg3 (hB_c.cells 2 _ O) (G.call O Tryz.call56 (jE x.low x.high _) ?_))))
      rintro _ wz6 ⟨rfl,hz6⟩
      obtain⟨hE,hvs,hhs,hbd,hB_b,hL1,hc_x⟩:=Tr7 hz6 hE hvs hhs hbd hB_b hL1 hc_x
      obtain⟨hk_x,hB_c,hL2⟩:=Tr3 hz6 hk_x hB_c hL2
      refine zm1 O O (zly O (by first | exact za | rfl)) (Gs 2 O (G.bool O (fun n3=>?_) (fun n3=>?_)))
      ·
       have n3':zb3 x.low x.high=false:=by simpa using n3
       refine Gs 12 O (zkq tr14 O ⟨_,rfl,by rw [hbad 3 (by rw [zJ,zo3 n0',zo3 n1,zo4 n3']) (by decide)],hE⟩)
      ·
       have n3':¬ zb3 x.low x.high=false:=by simpa using n3
       have hcc:zJ f.vars (f.hatches.take j) x=zD f.vars true x.term:=by rw [zJ,zo3 n0',zo3 n1,zo3 n3']
       refine Gs 5 O (zm5 O tg22 (hB_b.cells 0 _ O) (Gs 1 O (zm7 O tg86 ts86 (hB_c.cells.sub 3 3) O (G.call O Tryz.call57 (xv f.vars true _ _ D D _ x.term hg hvs (RTm.put hk_x) (by omega)) ?_))))
       rintro _ wz7 ⟨rfl,hz7⟩
       obtain⟨hE,hvs,hhs,hbd,hB_b,hL1,hc_x⟩:=Tr7 hz7 hE hvs hhs hbd hB_b hL1 hc_x
       obtain⟨hk_x,hB_c,hL2⟩:=Tr3 hz7 hk_x hB_c hL2
       refine Gs 9 O (zk6 O (fun tz=>?_) (fun tz=>?_))
       . refine Gs 12 O (zkq tr14 O ⟨_,rfl,by rw [hbad _ hcc tz],hE⟩)
       . refine Ga 8 O (by omega) (zkh (j+1) (zlO O) (⟨by omega,hnext (by rw [hcc];omega),hL1⟩) (by first | omega | (dsimp only;omega)))
   ·
    have hii:i=f.hatches.length:=by omega
    subst hii
    have hh0:zv f.vars f.hatches=0:=xo hall
    rw [hh0,zo3 (by decide)] at hch
    refine Gs 7 O (zm7 O tg26 ts26 hB_b.cells O (Gs 1 O (zm5 O tg24 (hB_b.cells 2 _ O) (G.call O tc58 (zbG f _ _ _ hg D f.body _ D _ true ⟨hvs,hhs,hbd⟩ hbd hbk) ?_))))
    rintro _ wz8 ⟨rfl,hz8⟩
    obtain⟨hE,hvs,hhs,hbd,hB_b,hL1⟩:=Tr6 hz8 hE hvs hhs hbd hB_b hL1
    refine Gs 10 O (zk6 O (fun sz=>?_) (fun sz=>?_))
    . refine Gs 8 O (zkq tr14 O ⟨_,rfl,by rw [hch,zo4 sz],hE⟩)
    ·
     have hs0:zb f.vars f.hatches.length f.body true=0:=by omega
     rw [zo3 sz] at hch
     refine Gs 5 O (zm5 O tg24 (hB_b.cells 2 _ O) (G.call O Tryz.call59 (kF f.vars f.hatches.length f.body _ D _ true hs0 hbd hbk) ?_))
     rintro _ wz9 ⟨rfl,hz9⟩
     obtain⟨hE,hvs,hhs,hbd,hB_b,hL1⟩:=Tr6 hz9 hE hvs hhs hbd hB_b hL1
     have c1:(4096<cap 4097 (bds f.body).1) ↔ 4096<(bds f.body).1:=by unfold cap;omega
     have c2:(8<cap 9 (bds f.body).2.1) ↔ 8<(bds f.body).2.1:=by unfold cap;omega
     have c3:(67108864<cap 67108865 (bds f.body).2.2) ↔ 67108864<(bds f.body).2.2:=by unfold cap;omega
     have ho:zbI f=(decide (4096<cap 4097 (bds f.body).1) || decide (8<cap 9 (bds f.body).2.1) || decide (67108864<cap 67108865 (bds f.body).2.2)):=by
      unfold zbI;rw [zol.2 c1,zol.2 c2,zol.2 c3]
     refine Gs 15 O (G.sp 79 O (fun b1=>?_) (fun b1=>?_))
     . refine Gs 17 O (zkq tr14 O ⟨_,rfl,by rw [hch,zo4 (by rw [ho,zo5 b1];rfl)],hE⟩)
     ·
      refine Gs 4 O (G.sp 83 O (fun b2=>?_) (fun b2=>?_))
      . refine Gs 13 O (zkq tr14 O ⟨_,rfl,by rw [hch,zo4 (by rw [ho,zo5 b2,Bool.or_true];rfl)],hE⟩)
      ·
       refine Gs 5 O (zk6 O (fun b3=>?_) (fun b3=>?_))
       . refine Gs 7 O (zkq tr14 O ⟨_,rfl,by rw [hch,zo4 (by rw [ho,zo5 b3,Bool.or_true])],hE⟩)
       . refine Gs 8 O (zkq tr14 O ⟨_,rfl,by rw [hch,zo3 (by rw [ho,zo6 b1,zo6 b2,zo6 b3];decide)],hE⟩)
theorem kG (f:Fl) (v1 v2 v3:Value) (D:Nat->Prop) (w:World) (hf:RFl D w f v1 v2 v3) (hsz:zm f.body+zC f.hatches<=1024) (hbk:zt f.body<=1000000):Calls Tryz.prog 60 #[.agg #[v1,v2,v3]] w (Ret fun r w'=>r=.int .i64 (ym f)/\Ext w w'):=by
 replace hf:=hf.narrow
 generalize hD0:(fun b=>D b/\b<w.heap.size)=E at hf
 have hDw:∀ q,E q->q<w.heap.size:=fun q h=>by rw [<- hD0] at h;exact h.2
 obtain⟨hvs,hhs,hbd⟩:=hf
 have hm1:=hvs.max
 have hm2:=hhs.max
 obtain⟨a1,n1,rfl⟩:=hvs.form
 obtain⟨a2,n2,rfl⟩:=hhs.form
 have hE:=Keep.refl (fun _=>False) w
 refine zma Tryz.func60 O Tryz.ntmps60 O (Gs 2 O (G.mem O O (M.box O O) ?_))
 rintro _ w_b ⟨b,rfl,hg_b,hs_b,hB_b,hk_b⟩
 have hge_b:_<=b:=znZ hE.size (Nat.le_of_eq hg_b.symm)
 replace hE:=Tr1 hk_b hE
 refine Gs 5 O (G.mem O O (M.alloc (cs:=_) Tryz.zeroValue144 O) ?_)
 rintro _ w_m ⟨m,rfl,hg_m,hs_m,hB_m,hk_m⟩
 have hn_b_m:b ≠ m:=by have:=hB_b.lt;omega
 have hge_m:_<=m:=znZ hE.size (Nat.le_of_eq hg_m.symm)
 obtain⟨hE,hB_b⟩:=Tr2 hk_m hE hB_b
 refine Gs 5 O (zm5 O tg24 (hB_b.cells 2 _ O) ?_)
 have hvs0:=hvs
 have hhs0:=hhs
 have hbd0:=hbd
 have DM:∀ q,E q->q ≠ m:=fun q h=>by have:=hDw q h;omega
 refine G.call O Tryz.call112 (zcB f.body _ E _ m 0 false 1 (hbd.ext zf hE) DM hB_m (by omega) (by omega) (by omega) (by omega)) ?_
 rintro _ w2 ⟨rfl,⟨m2,h1,h2,hB_m⟩,hz⟩
 replace hE:=hE.trans hz (fun q hq h=>by have h:q=m:=h;omega)
 replace hB_b:=hz.blk hB_b (hn_b_m)
 refine Gs 6 O (zm5 O tg23 (hB_b.cells 1 _ O) (Gs 5 O (G.loop (σ:=Nat) (fun i=>[(1,.pointer (some ⟨b,0,none⟩)),(3,.pointer (some ⟨m,0,none⟩)),(14,.slice a2 f.hatches.length n2),(15,.int .i64 f.hatches.length),(16,.int .i64 i)]) (fun i=>fun w'=>i<=f.hatches.length/\(∃ m':Int,0<=m'/\m'<=zm f.body+zC (f.hatches.take i)/\Blk w' m [.int .i64 m',.bool (xC 1 f.body || (f.hatches.take i).any (fun h=>decide (12<h.term.depth)))] 144)/\Blk w' b [.slice a1 f.vars.length n1,.slice a2 f.hatches.length n2,v3] 26/\Ext w w') (fun i=>f.hatches.length - i) (0) (zlO O) (⟨zo8 _,⟨m2,by omega,by simp [zC];omega,by simpa using hB_m⟩,hB_b,hE⟩) ?_)))
 rintro i w3 ⟨hi,⟨m',hm0,hm'1,hB_m⟩,hB_b,hE⟩
 have hhs:=hhs0.ext yX hE
 refine Gs 6 O (zk6 O (fun hlt=>?_) (fun hlt=>?_))
 ·
  obtain⟨x,he_x,hm_x⟩:=gE_ f.hatches (i) (by omega)
  obtain⟨b_x,o_x,c_x,ha_x,_,hc_x,hR_x⟩:=hhs.at he_x
  have h1_x:=RHt.one hR_x
  obtain⟨v1_x,rfl,hk_x⟩:=hR_x
  obtain⟨a1_x,n1_x,rfl⟩:=hk_x.form
  have hlt_x:b_x<_:=znV _ _ (hc_x 0 _ rfl)
  have hxn:=yZ he_x
  have htk:=jd he_x
  refine Gs 6 O (zm1 O O (zkP tR23 ts95 O O ha_x (by omega)) (zm7 O tg95 ts95 hc_x O (G.mem O O (M.alloc (cs:=_) tz95 O) ?_)))
  rintro _ wa1 ⟨c,rfl,hg_c,hs_c,hB_c,hk_c⟩
  refine zkY O (zkZ ts95 O O O O h1_x hB_c (by simp)) ?_
  rintro w_c ⟨_,hB_c,hkk_c⟩
  replace hk_c:=hk_c.trans hkk_c (fun q hq h=>by have h:q=c:=h;omega)
  have hn_b_c:b ≠ c:=by have:=hB_b.lt;omega
  have hn_m_c:m ≠ c:=by have:=hB_m.lt;omega
  have hge_c:_<=c:=znZ hE.size (Nat.le_of_eq hg_c.symm)
  obtain⟨hE,hB_b,hB_m,hhs,hc_x,hk_x⟩:=Tr6 hk_c hE hB_b hB_m hhs hc_x hk_x
  refine Gs 4 O (G.call O Tryz.call113 (qe m _ _ _ hB_m) ?_)
  rintro _ wz2 ⟨rfl,hz2⟩
  obtain⟨hE,hB_b,hB_m,hhs,hc_x,hk_x,hB_c⟩:=Tr7 hz2 hE hB_b hB_m hhs hc_x hk_x hB_c
  have ho:decide (1024<m')=false:=zo6 (by omega)
  rw [ho,Bool.or_false]
  refine zm1 O O (zly O (by first | exact za | rfl)) (Gs 2 O (G.bool O (fun hov=>?_) (fun hov=>?_)))
  ·
   have hov':(xC 1 f.body || (f.hatches.take i).any (fun h=>decide (12<h.term.depth)))=false:=by simpa using hov
   rw [hov'] at hB_m
   refine Gs 2 O (zm7 O tg86 ts86 (hB_c.cells.sub 3 3) O (G.call O Tryz.call114 (zaB x.term _ E _ m _ _ 1 (RTm.put hk_x) DM hB_m (by omega) (by omega) (by omega) (by omega)) ?_))
   rintro _ w6 ⟨rfl,⟨n2',h1',h2',hB2⟩,hz⟩
   replace hE:=hE.trans hz (fun q hq h=>by have h:q=m:=h;omega)
   replace hB_b:=hz.blk hB_b (hn_b_m)
   replace hB_c:=hz.blk hB_c (fun h=>hn_m_c h.symm)
   refine Ga 7 O (by omega) (zkh (i+1) (zlO O) (⟨by omega,⟨n2',by omega,by omega,?_⟩,hB_b,hE⟩) (by first | omega | (dsimp only;omega)))
   have hb:(false || decide (12<1+(x.term.depth:Int) - 1))=(xC 1 f.body || (f.hatches.take (i+1)).any (fun h=>decide (12<h.term.depth))):=by
    rw [zg he_x,List.any_append,<- Bool.or_assoc,hov',Bool.false_or,Bool.false_or]
    simp;omega
   rw [<- hb];exact hB2
  ·
   have hov':(xC 1 f.body || (f.hatches.take i).any (fun h=>decide (12<h.term.depth)))=true:=by rw [<- Bool.not_eq_false];intro h;rw [h] at hov;cases hov
   refine Ga 7 O (by omega) (zkh (i+1) (zlO O) (⟨by omega,⟨m',by omega,by omega,?_⟩,hB_b,hE⟩) (by first | omega | (dsimp only;omega)))
   rw [hov'] at hB_m
   rw [zg he_x,List.any_append,<- Bool.or_assoc,hov',Bool.true_or]
   exact hB_m
 ·
  have hii:i=f.hatches.length:=by omega
  subst hii
  rw [znY] at hB_m hm'1
  have hsz2:xk f=(decide (f.vars.length<=64)&&decide (f.hatches.length<=8)&&!(xC 1 f.body || f.hatches.any (fun h=>decide (12<h.term.depth)))):=by
   unfold xk xC
   have e1:(f.hatches.all fun h=>decide (h.term.depth<=12))=!(f.hatches.any fun h=>decide (12<h.term.depth)):=by
    rw [List.not_any_eq_all_not];congr 1;funext h;rw [<- decide_not,zol];omega
   have e2:decide (12<1+(zL f.body:Int) - 1)=!decide (zL f.body<=12):=by rw [<- decide_not,zol];omega
   rw [e1,e2]
   generalize decide (f.vars.length<=64)=p1
   generalize decide (f.hatches.length<=8)=p2
   generalize (f.hatches.any fun h=>decide (12<h.term.depth))=p3
   generalize decide (zL f.body<=12)=p4
   generalize yg f.body=p5
   revert p1 p2 p3 p4 p5;decide
  refine Gs 9 O (zm5 O tg22 (hB_b.cells 0 _ O) (Gs 3 O (G.sp 30 O (fun g1=>?_) (fun g1=>?_))))
  ·
   have s0:xk f=false:=by rw [hsz2,zo6 (show ¬ f.vars.length<=64 by omega)];rfl
   refine Gs 18 O (zkq tr60 O ⟨_,rfl,by rw [ym,zo4 s0],hE⟩)
  ·
   refine Gs 1 O (zm5 O tg23 (hB_b.cells 1 _ O) (Gs 4 O (G.sp 36 O (fun g2=>?_) (fun g2=>?_))))
   ·
    have s0:xk f=false:=by rw [hsz2,zo6 (show ¬ f.hatches.length<=8 by omega),Bool.and_false];rfl
    refine Gs 12 O (zkq tr60 O ⟨_,rfl,by rw [ym,zo4 s0],hE⟩)
   ·
    have hvs:=hvs0.ext yW hE
    have hbd:=hbd0.ext zf hE
    refine G.call O Tryz.call113 (qe m _ _ _ hB_m) ?_
    rintro _ wz3 ⟨rfl,hz3⟩
    obtain⟨hE,hB_b,hB_m,hhs,hvs,hbd⟩:=Tr6 hz3 hE hB_b hB_m hhs hvs hbd
    have ho:decide (1024<m')=false:=zo6 (by omega)
    rw [ho,Bool.or_false]
    rw [zo5 (show f.vars.length<=64 by omega),zo5 (show f.hatches.length<=8 by omega),Bool.true_and,Bool.true_and] at hsz2
    refine Gs 3 O (G.bool O (fun s1=>?_) (fun s1=>?_))
    ·
     have s0:xk f=false:=by rw [hsz2,s1];rfl
     refine Gs 7 O (zkq tr60 O ⟨_,rfl,by rw [ym,zo4 s0],hE⟩)
    ·
     have s0:¬ xk f=false:=by rw [hsz2,s1];decide
     refine Gs 6 O (zm5 O tg22 (hB_b.cells 0 _ O) (G.call O Tryz.call115 (zdc f.vars _ E _ hvs (by omega)) ?_))
     rintro _ wz4 ⟨rfl,hz4⟩
     obtain⟨hE,hB_b,hB_m,hhs,hvs,hbd⟩:=Tr6 hz4 hE hB_b hB_m hhs hvs hbd
     refine Gs 9 O (zk6 O (fun vz=>?_) (fun vz=>?_))
     . refine Gs 8 O (zkq tr60 O ⟨_,rfl,by rw [ym,zo3 s0,zo4 vz],hE⟩)
     ·
      have hg:=zaC (show zr f.vars=0 by omega)
      refine Gs 5 O (zm7 O tg26 ts26 hB_b.cells O ?_)
      have hch:ym f=if zv f.vars f.hatches ≠ 0 then zv f.vars f.hatches else if zb f.vars f.hatches.length f.body true ≠ 0 then zb f.vars f.hatches.length f.body true else if zbI f then 4 else 0:=by rw [ym,zo3 s0,zo3 vz]
      have hhs:=hhs0.ext yX hE
      refine G.call O Tryz.call116 (zb5 f _ _ _ E _ ⟨hvs,hhs,hbd⟩ hg (fun h hh=>by obtain⟨i,hi⟩:=List.mem_iff_getElem?.1 hh;have:=yZ hi;omega) (by omega)) ?_
      rintro _ wz5 ⟨rfl,hz5⟩
      obtain⟨hE,hB_b,hB_m,hvs,hbd,hhs⟩:=Tr6 hz5 hE hB_b hB_m hvs hbd hhs
      refine Gs 9 O (zk6 O (fun hz2=>?_) (fun hz2=>?_))
      . refine Gs 8 O (zkq tr60 O ⟨_,rfl,by rw [hch,zo4 hz2],hE⟩)
      ·
       rw [zo3 hz2] at hch
       refine Gs 5 O (zm7 O tg26 ts26 hB_b.cells O (Gs 1 O (zm5 O tg24 (hB_b.cells 2 _ O) (G.call O Tryz.call117 (zcA f _ _ _ hg E f.body _ E _ true ⟨hvs,hhs,hbd⟩ hbd hbk) ?_))))
       rintro _ wz6 ⟨rfl,hz6⟩
       obtain⟨hE,hB_b,hB_m,hvs,hbd,hhs⟩:=Tr6 hz6 hE hB_b hB_m hvs hbd hhs
       refine Gs 9 O (zk6 O (fun sz=>?_) (fun sz=>?_))
       . refine Gs 8 O (zkq tr60 O ⟨_,rfl,by rw [hch,zo4 sz],hE⟩)
       ·
        have hs0:zb f.vars f.hatches.length f.body true=0:=by omega
        rw [zo3 sz] at hch
        refine Gs 6 O (zm5 O tg24 (hB_b.cells 2 _ O) (G.call O Tryz.call118 (zgR f.vars f.hatches.length f.body _ E _ true hs0 hbd hbk) ?_))
        rintro _ wz7 ⟨rfl,hz7⟩
        obtain⟨hE,hB_b,hB_m,hvs,hbd,hhs⟩:=Tr6 hz7 hE hB_b hB_m hvs hbd hhs
        have c1:(4096<cap 1099511627776 (bds f.body).1) ↔ 4096<(bds f.body).1:=by unfold cap;omega
        have c2:(8<cap 1099511627776 (bds f.body).2.1) ↔ 8<(bds f.body).2.1:=by unfold cap;omega
        have c3:(67108864<cap 1099511627776 (bds f.body).2.2) ↔ 67108864<(bds f.body).2.2:=by unfold cap;omega
        have ho2:zbI f=(decide (4096<cap 1099511627776 (bds f.body).1) || decide (8<cap 1099511627776 (bds f.body).2.1) || decide (67108864<cap 1099511627776 (bds f.body).2.2)):=by
         unfold zbI;rw [zol.2 c1,zol.2 c2,zol.2 c3]
        refine G.mem O O (M.alloc (cs:=_) tz148 O) ?_
        rintro _ wa8 ⟨c,rfl,hg_c,hs_c,hB_c,hk_c⟩
        refine zkY O (zkZ ts148 O O O O (by simp [Value.oneCell']) hB_c (by simp)) ?_
        rintro w_c ⟨_,hB_c,hkk_c⟩
        replace hk_c:=hk_c.trans hkk_c (fun q hq h=>by have h:q=c:=h;omega)
        have hn_b_c:b ≠ c:=by have:=hB_b.lt;omega
        have hn_m_c:m ≠ c:=by have:=hB_m.lt;omega
        have hge_c:_<=c:=znZ hE.size (Nat.le_of_eq hg_c.symm)
        obtain⟨hE,hB_b,hB_m,hvs,hbd,hhs⟩:=Tr6 hk_c hE hB_b hB_m hvs hbd hhs
        refine Gs 5 O (zm5 O tg3 (hB_c.cells 0 _ O) (Gs 2 O (G.sp 63 O (fun b1=>?_) (fun b1=>?_))))
        . refine Gs 19 O (zkq tr60 O ⟨_,rfl,by rw [hch,zo4 (by rw [ho2,zo5 b1];rfl)],hE⟩)
        ·
         refine Gs 1 O (zm5 O tg3 (hB_c.cells 1 _ O) (Gs 3 O (G.sp 68 O (fun b2=>?_) (fun b2=>?_))))
         . refine Gs 14 O (zkq tr60 O ⟨_,rfl,by rw [hch,zo4 (by rw [ho2,zo5 b2,Bool.or_true];rfl)],hE⟩)
         ·
          refine Gs 1 O (zm5 O tg3 (hB_c.cells 2 _ O) (Gs 4 O (zk6 O (fun b3=>?_) (fun b3=>?_))))
          . refine Gs 7 O (zkq tr60 O ⟨_,rfl,by rw [hch,zo4 (by rw [ho2,zo5 b3,Bool.or_true])],hE⟩)
          . refine Gs 8 O (zkq tr60 O ⟨_,rfl,by rw [hch,zo3 (by rw [ho2,zo6 b1,zo6 b2,zo6 b3];decide)],hE⟩)
end Go.Proofs.YtaenledoagbddaaGreatDoor
namespace Go.GL
instance decNd:DecidableEq Nd:=fun a b =>
 if h:a.kind=b.kind/\a.at_=b.at_/\a.next=b.next/\a.other=b.other then isTrue (znn h.1 h.2.1 h.2.2.1 h.2.2.2) else isFalse (fun e=>h (by subst e;exact⟨rfl,rfl,rfl,rfl⟩))
end Go.GL
namespace Go.Proofs.YtaenledoagbddaaGreatDoor
open Go.GL
theorem zbJ {vs:List Vr} {nh:Nat} (l:List St):∀ top,zb vs nh l top=0->xj l=true:=by
 induction l using zlH with
 | h l ih =>
 intro top h
 refine zf4 (fun s hs=>?_)
 obtain⟨last,h2⟩:=xd l top h s hs
 obtain⟨h3,_,_,h4,h5⟩:=xK h2
 rw [s.plainB_eq,(ih s hs).1 _ h4,(ih s hs).2 _ h5,Bool.and_true,Bool.and_true]
 split
 . rfl
 ·
  split
  . rename_i a4;rw [(h3.rep a4).2.2];rfl
  . rename_i a3 a4;rw [(h3.free a3 a4).1,(h3.free a3 a4).2];rfl
theorem ye {f:Fl} (h:ym f=0):xk f=true/\zr f.vars=0/\zv f.vars f.hatches=0/\zb f.vars f.hatches.length f.body true=0/\zbI f=false:=by
 unfold ym at h
 split at h
 . cases h
 split at h
 . rename_i h1;exact absurd h h1
 split at h
 . rename_i h1;exact absurd h h1
 split at h
 . rename_i h1;exact absurd h h1
 split at h
 . cases h
 rename_i h1 h2 h3 h4 h5
 refine⟨by simpa using h1,by omega,by omega,by omega,by simpa using h5⟩
theorem zdh {f:Fl} (h:ym f=0):xj f.body=true:=zbJ _ _ (ye h).2.2.2.1
theorem zdi {f:Fl} (hsz:zm f.body+zC f.hatches<=1024):ssize f.body<=1024:=by have:=zcp f.body;omega
end Go.Proofs.YtaenledoagbddaaGreatDoor
namespace Go.GL
mutual
/-- The steps in preorder. -/
def St.pre:St->List St
 | .mk a c v n t f g b=>.mk a c v n t f g b::(qE f++qE g)
def qE:List St->List St
 | []=>[]
 | s::r=>s.pre++qE r
end
theorem St.pre_eq (s:St):s.pre=s::(qE s.thn++qE s.els):=by cases s;rw [St.pre];rfl
theorem jh (a b:List St):qE (a++b)=qE a++qE b:=by
 induction a with
 | nil=>rfl
 | cons x r ih=>rw [List.cons_append,qE,ih,qE,List.append_assoc]
theorem zgS:∀ l:List St,(qE l).length=ssize l:=by
 intro l
 induction l using zlH with
 | h l ih =>
  have key:∀ r:List St,(∀ s ∈ r,(qE s.thn).length=ssize s.thn/\(qE s.els).length=ssize s.els)->(qE r).length=ssize r:=by
   intro r
   induction r with
   | nil=>intro _;rfl
   | cons x r ih2 =>
    intro h
    have h1:=h x (znX ..)
    have h2:=ih2 (fun s hs=>h s (znW _ hs))
    have h4:=x.size_eq
    rw [qE,zo1,x.pre_eq,zom,zo1,h1.1,h1.2,h2,ssize];omega
  exact key l ih
open Go.RowKit Go.ChangeMaps
def lkm:List (Int × Value)->Int->Option (Nat × Value)
 | [],_=>none
 | (a,v)::r,k=>if k=a then some (0,v) else (lkm r k).map fun p=>(p.1+1,p.2)
def zdj (l:List (Int × Value)) (k:Int):Option Value:=(lkm l k).map (·.2)
def zgT (l:List (Int × Value)) (k:Int) (v:Value):List (Int × Value):=match lkm l k with
 | some p=>l.set p.1 (k,v)
 | none=>l++[(k,v)]
theorem qS {l:List (Int × Value)} {k:Int} {p:Nat × Value} (h:lkm l k=some p):l[p.1]?=some (k,p.2):=by
 induction l generalizing p with
 | nil=>simp [lkm] at h
 | cons x r ih =>
  obtain⟨a,v⟩:=x
  rw [lkm] at h
  split at h
  . rename_i h1;cases h;rw [h1];rfl
  ·
   obtain⟨q,h2,rfl⟩:=Option.map_eq_some_iff.1 h
   simpa using ih h2
theorem zbK {l:List (Int × Value)} {k:Int} (h:lkm l k=none):∀ p ∈ l,p.1 ≠ k:=by
 induction l with
 | nil=>intro p hp;simp at hp
 | cons x r ih =>
  obtain⟨a,v⟩:=x
  rw [lkm] at h
  split at h
  . cases h
  ·
   rename_i h1
   intro p hp
   rcases zo9.1 hp with rfl | hp
   . exact fun h2=>h1 h2.symm
   . exact ih (by simpa using h) p hp
theorem zdV {l:List (Int × Value)} {k:Int} {v:Value} (h:zdj l k=some v):(k,v) ∈ l:=by
 obtain⟨p,h1,rfl⟩:=Option.map_eq_some_iff.1 h
 exact znU (qS h1)
theorem ji {l:List (Int × Value)} (hn:(l.map (·.1)).Nodup) {k:Int} {v:Value} (h:(k,v) ∈ l):zdj l k=some v:=by
 induction l with
 | nil=>simp at h
 | cons x r ih =>
  obtain⟨a,u⟩:=x
  rw [List.map_cons,List.nodup_cons] at hn
  rw [zdj,lkm]
  rcases zo9.1 h with h1 | h1
  . cases h1;simp
  ·
   have hne:k ≠ a:=fun e=>hn.1 (List.mem_map.2 ⟨(k,v),h1,e⟩)
   rw [zo3 hne]
   have:=ih hn.2 h1
   rw [zdj] at this
   simpa [Option.map_map] using this
theorem zbL {l:List (Int × Value)} {k:Int}:zdj l k=none ↔ ∀ p ∈ l,p.1 ≠ k:=by
 rw [zdj,Option.map_eq_none_iff]
 refine⟨zbK,fun h=>?_⟩
 cases h1:lkm l k with
 | none=>rfl
 | some p=>exact absurd rfl (h _ (znU (qS h1)))
theorem zfh (l:List (Int × Value)) (k:Int) (v:Value):(zgT l k v).map (·.1)=match lkm l k with
 | some _=>l.map (·.1)
 | none=>l.map (·.1)++[k]:=by
 unfold zgT
 cases h:lkm l k with
 | none=>simp
 | some p =>
  have h1:=qS h
  simp only
  rw [List.map_set]
  apply List.ext_getElem?
  intro j
  rw [List.getElem?_set]
  split
  ·
   rename_i hj;subst hj
   rw [zoa,h1]
   split
   . rfl
   . rename_i h2;rw [zod] at h2;exact absurd (zo7.1 h1).1 h2
  . rfl
theorem zbg {l:List (Int × Value)} (hn:(l.map (·.1)).Nodup) (k:Int) (v:Value):((zgT l k v).map (·.1)).Nodup:=by
 rw [zfh]
 cases h:lkm l k with
 | some p=>exact hn
 | none =>
  simp only
  rw [List.nodup_append]
  refine⟨hn,by simp,fun a ha b hb=>?_⟩
  rw [zob] at hb
  subst hb
  obtain⟨p,hp,rfl⟩:=List.mem_map.1 ha
  exact zbK h p hp
theorem zfi {l:List (Int × Value)} (hn:(l.map (·.1)).Nodup) (k k':Int) (v:Value):zdj (zgT l k v) k'=if k'=k then some v else zdj l k':=by
 have hn':=zbg hn k v
 have key:∀ u,(k',u) ∈ zgT l k v ↔ (k'=k/\u=v)\/(k' ≠ k/\(k',u) ∈ l):=by
  intro u
  unfold zgT
  cases h:lkm l k with
  | none =>
   have h1:=zbK h
   simp only [zoc,zob,Prod.mk.injEq]
   constructor
   ·
    rintro (h2 | h2)
    . exact .inr ⟨h1 _ h2,h2⟩
    . exact .inl h2
   ·
    rintro (h2 | h2)
    . exact .inr h2
    . exact .inl h2.2
  | some p =>
   have h1:=qS h
   obtain⟨hlt,h1'⟩:=zo7.1 h1
   simp only
   constructor
   ·
    intro h2
    obtain⟨j,hj⟩:=List.mem_iff_getElem?.1 h2
    rw [List.getElem?_set] at hj
    split at hj
    ·
     first
      | (split at hj <;> cases hj <;> exact .inl ⟨rfl,rfl⟩)
      | (cases hj;exact .inl ⟨rfl,rfl⟩)
    ·
     rename_i hne
     refine .inr ⟨?_,znU hj⟩
     rintro rfl
     have hjl:=(zo7.1 hj).1
     have:=(List.nodup_iff_pairwise_ne.1 hn)
     rw [List.pairwise_iff_getElem] at this
     have e1:(l.map (·.1))[p.1]'(by rw [zod];exact hlt)=k':=by rw [List.getElem_map,h1']
     have e2:(l.map (·.1))[j]'(by rw [zod];exact hjl)=k':=by rw [List.getElem_map,(zo7.1 hj).2]
     rcases Nat.lt_or_ge p.1 j with h3 | h3
     . exact this p.1 j _ _ h3 (by rw [e1,e2])
     . exact this j p.1 _ _ (by omega) (by rw [e1,e2])
   ·
    rintro (⟨rfl,rfl⟩ | ⟨h2,h3⟩)
    . exact znU (by rw [List.getElem?_set_self hlt])
    ·
     obtain⟨j,hj⟩:=List.mem_iff_getElem?.1 h3
     refine List.mem_iff_getElem?.2 ⟨j,?_⟩
     rw [List.getElem?_set_ne]
     . exact hj
     ·
      rintro rfl
      rw [h1] at hj
      exact h2 (congrArg Prod.fst (Option.some.inj hj)).symm
 by_cases h:k'=k
 ·
  rw [zo4 h]
  exact ji hn' ((key v).2 (.inl ⟨h,rfl⟩))
 ·
  rw [zo3 h]
  cases h2:zdj l k' with
  | some u=>exact ji hn' ((key u).2 (.inr ⟨h,zdV h2⟩))
  | none =>
   rw [zbL] at h2 ⊢
   rintro⟨a,u⟩ hp rfl
   rcases (key u).1 hp with h3 | h3
   . exact h h3.1
   . exact h2 _ h3.2 O
def MapI (w:World) (m:Nat) (l:List (Int × Value)):Prop :=
 ∃ (es:Array MapEntry) (clock:Nat),w.heap[m]?=some (.map es clock)/\es.toList.map (fun e=>(e.key,e.val))=l.map (fun p=>(Value.int .i64 p.1,p.2))/\(∀ e ∈ es.toList,e.born<clock)/\(es.toList.map (·.born)).Nodup/\(l.map (·.1)).Nodup
theorem MapI.nodup {w:World} {m:Nat} {l:List (Int × Value)} (h:MapI w m l):(l.map (·.1)).Nodup:=h.choose_spec.choose_spec.2.2.2.2
theorem MapI.keep {w w':World} {S:Nat->Prop} {m:Nat} {l:List (Int × Value)} (h:MapI w m l) (hk:Keep S w w') (hS:¬ S m):MapI w' m l:=by
 obtain⟨es,c,h1,r⟩:=h
 exact⟨es,c,by rw [hk.block m (Array.getElem?_eq_some_iff.1 h1).1 hS];exact h1,r⟩
theorem MapI.ext {w w':World} {m:Nat} {l:List (Int × Value)} (h:MapI w m l) (hk:Ext w w'):MapI w' m l:=h.keep hk (fun h=>h)
theorem MapI.lt {w:World} {m:Nat} {l:List (Int × Value)} (h:MapI w m l):m<w.heap.size:=by
 obtain⟨es,c,h1,r⟩:=h
 exact (Array.getElem?_eq_some_iff.1 h1).1
theorem MapI.ne {w:World} {m b:Nat} {l:List (Int × Value)} {cs:List Value} {e:TypeId} (h:MapI w m l) (hb:Blk w b cs e):b ≠ m:=by
 rintro rfl
 obtain⟨es,c,h1,r⟩:=h
 unfold Blk at hb
 rw [h1] at hb
 cases hb
theorem zaE (k:Int):∀ (es:List MapEntry) (l:List (Int × Value)) (i:Nat),es.map (fun e=>(e.key,e.val))=l.map (fun p=>(Value.int .i64 p.1,p.2))->Instr.findNow (.int .i64) (.int .i64 k) es i=some ((lkm l k).map fun p=>(i+p.1,p.2))
 | [],[],i,_=>rfl
 | [],_::_,i,h=>by simp at h
 | _::_,[],i,h=>by simp at h
 | e::es,(a,v)::l,i,h=>by
  simp only [List.map_cons,List.cons.injEq,Prod.mk.injEq] at h
  rw [Instr.findNow,h.1.1,lkm]
  by_cases hk:k=a
  . simp [Instr.sameNow,hk,h.1.2]
  ·
   have:(k == a)=false:=by simpa using hk
   simp only [Instr.sameNow,if_true,this,zo3 hk]
   rw [zaE k es l (i+1) h.2]
   cases lkm l k <;> simp <;> omega
section
variable {P:Program} {w:World} {m:Nat} {l:List (Int × Value)} {t kt et:TypeId}
theorem zfj (hk:P.underlying kt=some (.int .i64)) (k:Int) (b:Bool) (w:World):(Instr.checkKey b 10000 kt (.int .i64 k)).run P w=.ok () w:=MapKept.run_checkKey hk (by simp [MapKept.IsKey]) b 9999
theorem zN {o o':Obj} (h:w.heap[m]?=some o):Keep (fun q=>q=m) w (setBlock w m o') :=
 ⟨rfl,rfl,rfl,zoi _,by simp [setBlock],fun k _ hn=>(MapKept.heap_set h).2 k hn⟩
theorem kf {β:Type} (f:MapEntry->β) (g:MapEntry->MapEntry) (y:β):∀ (es:List MapEntry) (i:Nat),(∀ e,es[i]?=some e->f (g e)=y)->(es.modify i g).map f=(es.map f).set i y:=by
 intro es i h
 apply List.ext_getElem?
 intro j
 rw [zoa,List.getElem?_modify,List.getElem?_set]
 by_cases hj:i=j
 ·
  subst hj
  cases h1:es[i]? with
  | none =>
   have:=List.getElem?_eq_none_iff.1 h1
   rw [zo4 rfl,zo3 (by rw [zod];omega)]
   simp
  | some e =>
   have:=(zo7.1 h1).1
   rw [zo4 rfl,zo4 (by rw [zod];omega)]
   simp [h e h1]
 ·
  rw [zo3 hj,zoa]
  cases es[j]? <;> simp [hj]
end
section
variable {P:Program} {env:Env} {w:World} {dst:Option Tmp} {ty:TypeId} {pos:String} {aft:Array Edge} {g:Option (Nat × Bool)} {t kt et:TypeId} {m:Nat} {l:List (Int × Value)}
theorem M.makeMap:yh P ⟨dst,.makeMap t none,ty,pos,aft,g⟩ env w (fun u w'=>∃ b,u=.map (some b)/\b=w.heap.size/\w'.heap.size=w.heap.size+1/\MapI w' b []/\Ext w w'):=by
 refine⟨.map (some w.heap.size),w.alloc (.map #[] 0),?_,_,rfl,rfl,by simp,⟨#[],0,(MapKept.heap_alloc w _).1,rfl,by simp,by simp,by simp⟩,Keep.alloc w _⟩
 intro n a ha
 have h:(Instr.makeMap t none).run P w=.ok (.map (some w.heap.size)) (w.alloc (.map #[] 0)):=by simp [Instr.makeMap,Result.andThen]
 simp [execOp,h]
end
def MapE (w:World) (m:Nat) (l:List (Int × Value)) (k:Int) (st:Nat):Prop :=
 ∃ (es:Array MapEntry) (clock i:Nat) (e:MapEntry) (v:Value),w.heap[m]?=some (.map es clock)/\es.toList.map (fun e=>(e.key,e.val))=l.map (fun p=>(Value.int .i64 p.1,p.2))/\(∀ e ∈ es.toList,e.born<clock)/\(es.toList.map (·.born)).Nodup/\(l.map (·.1)).Nodup /\
  es.toList[i]?=some e/\e.born=st/\lkm l k=some (i,v)
theorem MapE.keep {w w':World} {S:Nat->Prop} {m st:Nat} {k:Int} {l:List (Int × Value)} (h:MapE w m l k st) (hk:Keep S w w') (hS:¬ S m):MapE w' m l k st:=by
 obtain⟨es,c,i,e,v,h1,r⟩:=h
 exact⟨es,c,i,e,v,by rw [hk.block m (Array.getElem?_eq_some_iff.1 h1).1 hS];exact h1,r⟩
theorem MapE.map {w:World} {m st:Nat} {k:Int} {l:List (Int × Value)} (h:MapE w m l k st):MapI w m l:=by
 obtain⟨es,c,i,e,v,h1,h2,h3,h4,h5,_⟩:=h
 exact⟨es,c,h1,h2,h3,h4,h5⟩
def RanI (w:World) (it m:Nat) (l:List (Int × Value)) (seen:List Int) (cur:Option (Int × Value)):Prop :=
 ∃ (es:Array MapEntry) (clock since:Nat) (sb:Array Nat) (c0:Nat),w.heap[m]?=some (.map es clock)/\es.toList.map (fun e=>(e.key,e.val))=l.map (fun p=>(Value.int .i64 p.1,p.2))/\(∀ e ∈ es.toList,e.born<clock)/\(es.toList.map (·.born)).Nodup/\(l.map (·.1)).Nodup /\
  w.heap[it]?=some (.mapIter (some m) since sb c0)/\(∀ e ∈ es.toList,e.born<since)/\since<=c0/\(∀ e ∈ es.toList,∀ k,e.key=.int .i64 k->(e.born ∈ sb ↔ k ∈ seen))/\seen.Nodup/\(∀ k ∈ seen,∃ v,zdj l k=some v) /\
  since<=clock/\(∀ q,cur=some q->c0=clock/\∃ (e:MapEntry) (s:Array Nat),e ∈ es.toList/\sb=s.push e.born/\e.key=.int .i64 q.1/\e.val=q.2)
theorem RanI.keep {w w':World} {S:Nat->Prop} {it m:Nat} {l:List (Int × Value)} {seen:List Int} {cur:Option (Int × Value)} (h:RanI w it m l seen cur) (hk:Keep S w w') (hS:¬ S m) (hI:¬ S it):RanI w' it m l seen cur:=by
 obtain⟨es,c,since,sb,c0,h1,h2,h3,h4,h5,h6,r⟩:=h
 exact⟨es,c,since,sb,c0,by rw [hk.block m (Array.getElem?_eq_some_iff.1 h1).1 hS];exact h1,h2,h3,h4,h5,by rw [hk.block it (Array.getElem?_eq_some_iff.1 h6).1 hI];exact h6,r⟩
theorem RanI.map {w:World} {it m:Nat} {l:List (Int × Value)} {seen:List Int} {cur:Option (Int × Value)} (h:RanI w it m l seen cur):MapI w m l:=by
 obtain⟨es,c,since,sb,c0,h1,h2,h3,h4,h5,_⟩:=h
 exact⟨es,c,h1,h2,h3,h4,h5⟩
theorem RanI.lt {w:World} {it m:Nat} {l:List (Int × Value)} {seen:List Int} {cur:Option (Int × Value)} (h:RanI w it m l seen cur):it<w.heap.size:=by
 obtain⟨es,c,since,sb,c0,h1,h2,h3,h4,h5,h6,_⟩:=h
 exact (Array.getElem?_eq_some_iff.1 h6).1
theorem RanI.ne {w:World} {it m:Nat} {l:List (Int × Value)} {seen:List Int} {cur:Option (Int × Value)} (h:RanI w it m l seen cur):it ≠ m:=by
 obtain⟨es,c,since,sb,c0,h1,h2,h3,h4,h5,h6,_⟩:=h
 rintro rfl
 rw [h1] at h6;cases h6
section
variable {P:Program} {env:Env} {w:World} {dst:Option Tmp} {ty:TypeId} {pos:String} {aft:Array Edge} {g:Option (Nat × Bool)} {t kt et:TypeId} {m:Nat} {l:List (Int × Value)}
theorem M.mapEntry {x y:Operand} {k:Int} {v:Value} (h:MapI w m l) (hv:zdj l k=some v) (ht:P.underlying t=some (.map kt et)) (hk:P.underlying kt=some (.int .i64)) (hx:ev env x=some (.map (some m))) (hy:ev env y=some (.int .i64 k)) :
  yh P ⟨dst,.mapEntry t x y,ty,pos,aft,g⟩ env w (fun u w'=>∃ st:Nat,u=.tuple #[v,.int .i64 st]/\MapE w' m l k st/\Keep (fun q=>q=m) w w'/\w'.heap.size=w.heap.size):=by
 obtain⟨es,c,h1,h2,h3,h4,h5⟩:=h
 have h6:=zaE k _ _ 0 h2
 have h7:=MapKept.run_findKey (P:=P) (w:=w) hk h6
 have hlen:es.toList.length=l.length:=by have:=congrArg List.length h2;simpa using this
 obtain⟨p,h8,rfl⟩:=Option.map_eq_some_iff.1 hv
 rw [h8] at h7
 have h9:=qS h8
 have hp:=(zo7.1 h9).1
 obtain⟨e0,he0⟩:∃ e0,es.toList[p.1]?=some e0:=⟨_,znT (by omega)⟩
 have hkey:e0.key=.int .i64 k/\e0.val=p.2:=by
  have:=congrArg (fun L=>L[p.1]?) h2
  simp only [zoa,he0,h9,Option.map_some,Option.some.injEq,Prod.mk.injEq] at this
  exact this
 have he0':es[p.1]?=some e0:=by simpa using he0
 have hrun:(Instr.mapEntry t (.map (some m)) (.int .i64 k)).run P w=.ok (.tuple #[p.2,.int .i64 e0.born]) (setBlock w m (.map (es.modify p.1 fun e=>{ e with key:=.int .i64 k }) c)):=by
  simp [Instr.mapEntry,run_underlying ht,MapKept.run_getObj_map h1,zfj hk,h7,he0',hkey.1,Instr.keyThatStays,Instr.sameBits,MapKept.run_setObj_map _ h1,Result.andThen,setBlock,goInt]
 have hmod:(es.modify p.1 fun e=>{ e with key:=.int .i64 k }).toList=es.toList:=by
  rw [Array.toList_modify]
  apply List.ext_getElem?
  intro j
  rw [List.getElem?_modify]
  by_cases hj:p.1=j
  . subst hj;rw [he0];simp [<- hkey.1]
  . cases es.toList[j]? <;> simp [hj]
 refine⟨_,_,fun n a ha=>?_,e0.born,rfl,⟨_,c,p.1,e0,p.2,(MapKept.heap_set h1).1,by rw [hmod];exact h2,by rw [hmod];exact h3,by rw [hmod];exact h4,h5,by rw [hmod];exact he0,rfl,h8⟩,zN h1,by simp [setBlock]⟩
 simp [execOp,ha.eval hx,ha.eval hy,hrun]
theorem M.entryStore {x y u:Operand} {k:Int} {st:Nat} {v:Value} (h:MapE w m l k st) (hx:ev env x=some (.map (some m))) (hy:ev env y=some (.int .i64 st)) (hu:ev env u=some v) :
  xD P ⟨dst,.entryStore t x y u,ty,pos,aft,g⟩ env w (fun w'=>MapI w' m (zgT l k v)/\Keep (fun q=>q=m) w w'/\w'.heap.size=w.heap.size):=by
 obtain⟨es,c,i,e,v0,h1,h2,h3,h4,h5,h6,rfl,h8⟩:=h
 have hi:=(zo7.1 h6).1
 have hfind:es.findIdx? (fun x=>(x.born:Int) == (e.born:Int))=some i:=by
  rw [show es=es.toList.toArray from by simp,List.findIdx?_toArray,List.findIdx?_eq_some_iff_getElem]
  refine⟨hi,by rw [(zo7.1 h6).2];simp,fun j hj=>?_⟩
  have:=List.nodup_iff_pairwise_ne.1 h4
  rw [List.pairwise_iff_getElem] at this
  have h9:=this j i (by rw [zod];omega) (by rw [zod];exact hi) hj
  rw [List.getElem_map,List.getElem_map,(zo7.1 h6).2] at h9
  intro h10
  have h11:(es.toList[j].born:Int)=e.born:=eq_of_beq h10
  exact h9 (by omega)
 have hrun:(Instr.entryStore t (.map (some m)) (.int .i64 e.born) v).run P w=.ok () (setBlock w m (.map (es.modify i fun x=>{ x with val:=v }) c)):=by
  simp [Instr.entryStore,MapKept.run_getObj_map h1,asInt,asIntOf,hfind,MapKept.run_setObj_map _ h1,Result.andThen,setBlock]
 have hkey:e.key=.int .i64 k:=by
  have h9:=qS h8
  have:=congrArg (fun L=>L[i]?) h2
  simp only [zoa,h6,h9,Option.map_some,Option.some.injEq,Prod.mk.injEq] at this
  exact this.1
 refine⟨setBlock w m (.map (es.modify i fun x=>{ x with val:=v }) c),fun n a ha=>?_,⟨_,c,(MapKept.heap_set h1).1,?_,?_,?_,zbg h5 k v⟩,zN h1,by simp [setBlock]⟩
 . simp [execOp,ha.eval hx,ha.eval hy,ha.eval hu,hrun]
 . rw [zgT,h8,Array.toList_modify,kf _ _ (.int .i64 k,v) _ _ (fun x hx=>by rw [h6] at hx;cases hx;simp [hkey]),h2];simp only [List.map_set]
 ·
  intro x hx'
  rw [Array.toList_modify] at hx'
  obtain⟨j,hj⟩:=List.mem_iff_getElem?.1 hx'
  rw [List.getElem?_modify] at hj
  obtain⟨e1,he1,rfl⟩:=Option.map_eq_some_iff.1 hj
  have:=h3 e1 (znU he1)
  split <;> exact this
 ·
  have:(es.modify i fun x=>{ x with val:=v }).toList.map (·.born)=es.toList.map (·.born):=by
   rw [Array.toList_modify]
   apply List.ext_getElem?
   intro j
   rw [zoa,zoa,List.getElem?_modify]
   cases es.toList[j]? <;> simp
   split <;> rfl
  rw [this];exact h4
theorem M.range {x:Operand} (h:MapI w m l) (ht:P.underlying t=some (.map kt et)) (hx:ev env x=some (.map (some m))) :
  yh P ⟨dst,.range t x,ty,pos,aft,g⟩ env w (fun u w'=>∃ it,u=.pointer (some ⟨it,0,none⟩)/\it=w.heap.size/\RanI w' it m l [] none/\Ext w w'/\w'.heap.size=w.heap.size+1):=by
 have hlt:=h.lt
 obtain⟨es,c,h1,h2,h3,h4,h5⟩:=h
 have hrun:(Instr.range t (.map (some m))).run P w=.ok (.pointer (some ⟨w.heap.size,0,none⟩)) (w.alloc (.mapIter (some m) c #[] c)):=by
  simp [Instr.range,run_underlying ht,MapKept.run_getObj_map h1,Result.andThen]
 refine⟨.pointer (some ⟨w.heap.size,0,none⟩),w.alloc (.mapIter (some m) c #[] c),fun n a ha=>?_,w.heap.size,rfl,rfl,⟨es,c,c,#[],c,by rw [(MapKept.heap_alloc w _).2 _ hlt];exact h1,h2,h3,h4,h5,(MapKept.heap_alloc w _).1,h3,zoi _,fun e _ k _=>by simp,List.Pairwise.nil,by simp,zoi _,by simp⟩,Keep.alloc w _,by simp⟩
 simp [execOp,ha.eval hx,hrun]
theorem M.next {x:Operand} {it:Nat} {seen:List Int} {cur:Option (Int × Value)} (h:RanI w it m l seen cur) (hx:ev env x=some (.pointer (some ⟨it,0,none⟩))) :
  yh P ⟨dst,.next x false,ty,pos,aft,g⟩ env w (fun u w'=>(u=.tuple #[.bool false]/\w'=w/\∀ p ∈ l,p.1 ∈ seen)\/∃ k v,u=.tuple #[.bool true,.int .i64 k,v]/\zdj l k=some v/\k ∉ seen/\RanI w' it m l (seen++[k]) (some (k,v))/\Keep (fun q=>q=it) w w'/\w'.heap.size=w.heap.size):=by
 have hne:=h.ne
 obtain⟨es,c,since,sb,c0,h1,h2,h3,h4,h5,h6,h7,h8,h9,h10,h11,hsc,h12⟩:=h
 have hkey:∀ e ∈ es.toList,∃ k,e.key=.int .i64 k/\zdj l k=some e.val:=by
  intro e he
  obtain⟨i,hi⟩:=List.mem_iff_getElem?.1 he
  have:=congrArg (fun L=>L[i]?) h2
  simp only [zoa,hi,Option.map_some] at this
  obtain⟨p,hp,hp2⟩:=Option.map_eq_some_iff.1 this.symm
  simp only [Prod.mk.injEq] at hp2
  refine⟨p.1,hp2.1.symm,?_⟩
  rw [<- hp2.2]
  exact ji h5 (znU hp)
 rcases run_next_at (P:=P) w ty it m since c0 sb es c h6 h1 h7 h8 with⟨h0,hrun⟩ | ⟨e,he,w1,hal,hrun⟩
 ·
  refine⟨_,_,fun n a ha=>?_,.inl ⟨rfl,rfl,fun p hp=>?_⟩⟩
  . simp [execOp,ha.eval hx,hrun]
  ·
   obtain⟨i,hi⟩:=List.mem_iff_getElem?.1 hp
   have h13:=congrArg (fun L=>L[i]?) h2
   simp only [zoa,hi,Option.map_some] at h13
   obtain⟨e,he,he2⟩:=Option.map_eq_some_iff.1 h13
   simp only [Prod.mk.injEq] at he2
   rw [<- h9 e (znU he) p.1 he2.1]
   have h14:e ∉ leftOf es sb:=by
    have:leftOf es sb=#[]:=Array.eq_empty_of_size_eq_zero h0
    rw [this];simp
   unfold leftOf at h14
   have h15:=znU he
   simp at h14 h15
   exact h14 h15
 ·
  have he':e ∈ es.toList/\e.born ∉ sb:=by
   unfold leftOf at he
   simp at he
   exact⟨by simpa using he.1,he.2⟩
  obtain⟨k,hk1,hk2⟩:=hkey e he'.1
  have hr1:w1.heap[it]?=some (.mapIter (some m) since sb c0):=by rcases hal with rfl | rfl <;> exact h6
  have hb1:w1.heap[m]?=some (.map es c):=by rcases hal with rfl | rfl <;> exact h1
  have hset:=MapKept.heap_set (o':=.mapIter (some m) since (sb.push e.born) c) hr1
  have hks:k ∉ seen:=fun hh=>he'.2 ((h9 e he'.1 k hk1).2 hh)
  have hinj:∀ e' ∈ es.toList,e'.born=e.born->e'=e:=by
   intro e' h' hb
   obtain⟨i,hi⟩:=List.mem_iff_getElem?.1 h'
   obtain⟨j,hj⟩:=List.mem_iff_getElem?.1 he'.1
   have hil:=(zo7.1 hi).1
   have hjl:=(zo7.1 hj).1
   have hp:=List.nodup_iff_pairwise_ne.1 h4
   rw [List.pairwise_iff_getElem] at hp
   by_cases hij:i=j
   . subst hij;rw [hi] at hj;exact Option.some.inj hj
   ·
    exfalso
    rcases Nat.lt_or_ge i j with h3 | h3
    ·
     have:=hp i j (by rw [zod];omega) (by rw [zod];omega) h3
     rw [List.getElem_map,List.getElem_map,(zo7.1 hi).2,(zo7.1 hj).2] at this
     exact this hb
    ·
     have:=hp j i (by rw [zod];omega) (by rw [zod];omega) (by omega)
     rw [List.getElem_map,List.getElem_map,(zo7.1 hi).2,(zo7.1 hj).2] at this
     exact this hb.symm
  have hKeep:Keep (fun q=>q=it) w (setBlock w1 it (.mapIter (some m) since (sb.push e.born) c)):=by
   rcases hal with rfl | rfl
   . exact zN h6
   . exact (Keep.mono (Keep.drew w) (fun _ _ h=>h.elim)).trans (zN hr1) (fun _ _ h=>h)
  refine⟨_,_,fun n a ha=>?_,.inr ⟨k,e.val,by rw [<- hk1],hk2,hks,⟨es,c,since,sb.push e.born,c,?_,h2,h3,h4,h5,hset.1,h7,hsc,?_,?_,?_,hsc,?_⟩,hKeep,?_⟩⟩
  . simp [execOp,ha.eval hx,hrun]
  . exact (hset.2 m (fun h=>hne h.symm)).trans hb1
  ·
   intro e' h' k' hk'
   rw [Array.mem_push,h9 e' h' k' hk',zoc,zob]
   constructor
   ·
    rintro (h13 | h13)
    . exact .inl h13
    ·
     have:=hinj e' h' h13
     subst this
     rw [hk1] at hk';cases hk'
     exact .inr O
   ·
    rintro (h13 | h13)
    . exact .inl h13
    ·
     subst h13
     right
     obtain⟨i,hi⟩:=List.mem_iff_getElem?.1 h'
     obtain⟨j,hj⟩:=List.mem_iff_getElem?.1 he'.1
     have g1:=congrArg (fun L=>L[i]?) h2
     have g2:=congrArg (fun L=>L[j]?) h2
     simp only [zoa,hi,hj,Option.map_some] at g1 g2
     obtain⟨p1,hp1,hp1'⟩:=Option.map_eq_some_iff.1 g1.symm
     obtain⟨p2,hp2,hp2'⟩:=Option.map_eq_some_iff.1 g2.symm
     simp only [Prod.mk.injEq] at hp1' hp2'
     have e1:p1.1=k':=by have:=hp1'.1.trans hk';cases this;rfl
     have e2:p2.1=k':=by have:=hp2'.1.trans hk1;cases this;rfl
     have hil:=(zo7.1 hp1).1
     have hjl:=(zo7.1 hp2).1
     have hp:=List.nodup_iff_pairwise_ne.1 h5
     rw [List.pairwise_iff_getElem] at hp
     by_cases hij:i=j
     . subst hij;rw [hi] at hj;rw [Option.some.inj hj]
     ·
      exfalso
      rcases Nat.lt_or_ge i j with h3' | h3'
      ·
       have:=hp i j (by rw [zod];omega) (by rw [zod];omega) h3'
       rw [List.getElem_map,List.getElem_map,(zo7.1 hp1).2,(zo7.1 hp2).2,e1,e2] at this
       exact this O
      ·
       have:=hp j i (by rw [zod];omega) (by rw [zod];omega) (by omega)
       rw [List.getElem_map,List.getElem_map,(zo7.1 hp1).2,(zo7.1 hp2).2,e1,e2] at this
       exact this O
  ·
   rw [List.nodup_append]
   exact⟨h10,by simp,fun a ha b hb=>by rw [zob] at hb;subst hb;exact fun h=>hks (h ▸ ha)⟩
  ·
   intro k' hk'
   rcases zoc.1 hk' with hk' | hk'
   . exact h11 k' hk'
   . rw [zob] at hk';subst hk';exact⟨_,hk2⟩
  ·
   intro q hq
   cases hq
   exact⟨rfl,e,sb,he'.1,rfl,hk1,rfl⟩
  . rcases hal with rfl | rfl <;> simp [setBlock]
end
end Go.GL
namespace Go.Proofs.YtaenledoagbddaaGreatDoor
open Go.GL
def xh (b:Bool):Int:=if b then 1 else 0
def lki (l:List Int) (i:Nat):Int:=l[i]?.getD 0
theorem zhI {l:List Int} {i:Nat} {x:Int} (h:l[i]?=some x):lki l i=x:=by simp [lki,h]
theorem zhJ {l:List Int} {i:Nat} (h:i<l.length):l[i]?=some (lki l i):=by simp [lki,znT h]
def jj (op a b:Int):Int :=
 if op=8 then a+b else if op=9 then a - b else if op=10 then a*b else if op=11 then a.fdiv b
 else if op=12 then (if b=0 then 0 else a - b*a.fdiv b) else if op=13 then xh (decide (a=b)) else if op=14 then xh (decide (a ≠ b))
 else if op=15 then xh (decide (a<b)) else if op=16 then xh (decide (a<=b)) else if op=17 then xh (decide (b<a)) else if op=18 then xh (decide (b<=a))
 else if op=19 then xh (decide (a ≠ 0)&&decide (b ≠ 0)) else if op=20 then xh (decide (a ≠ 0) || decide (b ≠ 0)) else if op=21 then min a b else max a b
def kg (vals:List Int) (op n:Int) (ks:List Int):Int :=
 if op=0 then n else if op=24 then lki vals n.toNat else if op=6 then -(lki ks 0) else if op=7 then xh (decide (lki ks 0=0))
 else if op=23 then (if lki ks 0 ≠ 0 then lki ks 1 else lki ks 2)
 else if op=25 then lki ks (1+qp (lki ks 0) 0 ((ks.length:Int) - 2)).toNat
 else jj op (lki ks 0) (lki ks 1)
mutual
def qq (vals:List Int):Tm->Int
 | .mk op n ks=>kg vals op n (zgU vals ks)
def zgU (vals:List Int):List Tm->List Int
 | []=>[]
 | k::r=>qq vals k::zgU vals r
end
theorem zfk (vals:List Int) (t:Tm):qq vals t=kg vals t.op t.n (zgU vals t.kids):=by cases t;rw [qq];rfl
theorem zdW (vals:List Int) (l:List Tm):zgU vals l=l.map (qq vals):=by
 induction l with
 | nil=>rfl
 | cons x r ih=>rw [zgU,ih];rfl
theorem zdX (vals:List Int) (l:List Tm):(zgU vals l).length=l.length:=by rw [zdW,zod]
theorem zdY {vals:List Int} {l:List Tm} {i:Nat} {k:Tm} (h:l[i]?=some k):lki (zgU vals l) i=qq vals k:=by
 apply zhI;rw [zdW,zoa,h];rfl
structure InV (vs:List Vr) (vals:List Int):Prop where
 len:vals.length=vs.length
 at_:∀ (i:Nat) (v:Vr),vs[i]?=some v->v.low<=lki vals i/\lki vals i<=v.high
theorem zgV (a b:Int) (ha:-1048576<=a/\a<=1048576):(0<=a -> -a<=a.fdiv b/\a.fdiv b<=a)/\(a<=0->a<=a.fdiv b/\a.fdiv b <= -a)/\(0<=a->0<=b->0<=a.fdiv b):=by
 rcases Int.lt_trichotomy b 0 with hb | hb | hb
 ·
  have h1:a.fdiv b=(-a).ediv (-b):=by
   rw [<- Int.neg_fdiv_neg,Int.fdiv_eq_ediv_of_nonneg _ (by omega)];rfl
  rw [h1]
  have h2:=Int.mul_ediv_add_emod (-a) (-b)
  have h3:=Int.emod_nonneg (-a) (show -b ≠ 0 by omega)
  have h4:=Int.emod_lt_of_pos (-a) (show 0 < -b by omega)
  change -b*((-a).ediv (-b))+(-a).emod (-b)=-a at h2
  change 0<=(-a).emod (-b) at h3
  change (-a).emod (-b) < -b at h4
  generalize (-a).ediv (-b)=q at *
  generalize (-a).emod (-b)=r at *
  obtain⟨c,rfl⟩:∃ c,b=-c:=⟨-b,by omega⟩
  simp only [Int.neg_neg] at *
  have hc:0<c:=by omega
  refine⟨fun h=>⟨?_,?_⟩,fun h=>⟨?_,?_⟩,fun h h'=>by omega⟩
  ·
   rcases Int.lt_or_le q (-a) with h5 | h5
   ·
    have:c*q<=c*(-a - 1):=Int.mul_le_mul_of_nonneg_left (by omega) (by omega)
    have:c*(-a - 1)<=1*(-a - 1):=Int.mul_le_mul_of_nonpos_right (by omega) (by omega)
    have e:c*(-a - 1)=c*(-a) - c:=by rw [Int.mul_sub,Int.mul_one]
    have:c*(-a)<=1*(-a):=Int.mul_le_mul_of_nonpos_right (by omega) (by omega)
    omega
   . exact h5
  ·
   rcases Int.lt_or_le 0 q with h5 | h5
   ·
    have:c*1<=c*q:=Int.mul_le_mul_of_nonneg_left (by omega) (by omega)
    omega
   . omega
  ·
   rcases Int.lt_or_le q 0 with h5 | h5
   ·
    have:c*q<=c*(-1):=Int.mul_le_mul_of_nonneg_left (by omega) (by omega)
    omega
   . omega
  ·
   rcases Int.lt_or_le (-a) q with h5 | h5
   ·
    have:c*(-a+1)<=c*q:=Int.mul_le_mul_of_nonneg_left (by omega) (by omega)
    have:1*(-a+1)<=c*(-a+1):=Int.mul_le_mul_of_nonneg_right (by omega) (by omega)
    omega
   . exact h5
 ·
  subst hb
  simp only [Int.fdiv_zero]
  omega
 ·
  have h1:a.fdiv b=a.ediv b:=Int.fdiv_eq_ediv_of_nonneg _ (by omega)
  rw [h1]
  have h2:=Int.mul_ediv_add_emod a b
  have h3:=Int.emod_nonneg a (show b ≠ 0 by omega)
  have h4:=Int.emod_lt_of_pos a hb
  change b*(a.ediv b)+a.emod b=a at h2
  change 0<=a.emod b at h3
  change a.emod b<b at h4
  generalize a.ediv b=q at *
  generalize a.emod b=r at *
  have hq:0<=a->0<=q:=fun h=>by
   rcases Int.lt_or_le q 0 with h5 | h5
   ·
    have:b*q<=b*(-1):=Int.mul_le_mul_of_nonneg_left (by omega) (by omega)
    omega
   . exact h5
  refine⟨fun h=>⟨by have:=hq h;omega,?_⟩,fun h=>⟨?_,?_⟩,fun h _=>hq h⟩
  ·
   rcases Int.lt_or_le a q with h5 | h5
   ·
    have:b*(a+1)<=b*q:=Int.mul_le_mul_of_nonneg_left (by omega) (by omega)
    have:1*(a+1)<=b*(a+1):=Int.mul_le_mul_of_nonneg_right (by omega) (by omega)
    omega
   . exact h5
  ·
   rcases Int.lt_or_le q a with h5 | h5
   ·
    have:b*q<=b*(a - 1):=Int.mul_le_mul_of_nonneg_left (by omega) (by omega)
    have:b*(a - 1)<=1*(a - 1):=Int.mul_le_mul_of_nonpos_right (by omega) (by omega)
    have e:b*(a - 1)=b*a - b:=by rw [Int.mul_sub,Int.mul_one]
    have:b*a<=1*a:=Int.mul_le_mul_of_nonpos_right (by omega) (by omega)
    omega
   . exact h5
  ·
   rcases Int.lt_or_le 0 q with h5 | h5
   ·
    have:b*1<=b*q:=Int.mul_le_mul_of_nonneg_left (by omega) (by omega)
    omega
   . omega
theorem zbh (a b:Int):(b<0->b<a - b*a.fdiv b/\a - b*a.fdiv b<=0)/\(0<b->0<=a - b*a.fdiv b/\a - b*a.fdiv b<b):=by
 have h2:=Int.mul_fdiv_add_fmod a b
 refine⟨fun hb=>?_,fun hb=>?_⟩
 ·
  have h3:a.fmod b=-((-a).emod (-b)):=by
   have:=Int.neg_fmod_neg (-a) (-b)
   simp only [Int.neg_neg] at this
   rw [this,Int.fmod_eq_emod_of_nonneg _ (by omega)];rfl
  have h4:=Int.emod_nonneg (-a) (show -b ≠ 0 by omega)
  have h5:=Int.emod_lt_of_pos (-a) (show 0 < -b by omega)
  change 0<=(-a).emod (-b) at h4
  change (-a).emod (-b) < -b at h5
  omega
 ·
  have h3:a.fmod b=a.emod b:=Int.fmod_eq_emod_of_nonneg _ (by omega)
  have h4:=Int.emod_nonneg a (show b ≠ 0 by omega)
  have h5:=Int.emod_lt_of_pos a hb
  change 0<=a.emod b at h4
  change a.emod b<b at h5
  omega
theorem zfl {x y a b c d:Int} (hx:a<=x/\x<=b) (hy:c<=y/\y<=d):min (min (a*c) (a*d)) (min (b*c) (b*d))<=x*y/\x*y<=max (max (a*c) (a*d)) (max (b*c) (b*d)):=by
 have key:∀ (u v p q:Int),p<=v->v<=q->min (u*p) (u*q)<=u*v/\u*v<=max (u*p) (u*q):=by
  intro u v p q h1 h2
  rcases Int.le_total 0 u with hu | hu
  ·
   have:=Int.mul_le_mul_of_nonneg_left h1 hu
   have:=Int.mul_le_mul_of_nonneg_left h2 hu
   omega
  ·
   have:=Int.mul_le_mul_of_nonpos_left (a:=u) hu h1
   have:=Int.mul_le_mul_of_nonpos_left (a:=u) hu h2
   omega
 have h1:=key y x a b hx.1 hx.2
 have h2:=key a y c d hy.1 hy.2
 have h3:=key b y c d hy.1 hy.2
 rw [Int.mul_comm y a,Int.mul_comm y b,Int.mul_comm y x] at h1
 omega
theorem zcC (x:Rg):∀ l:List Rg,((yE x l).1<=x.1/\x.2<=(yE x l).2)/\∀ r ∈ l,(yE x l).1<=r.1/\r.2<=(yE x l).2:=by
 intro l
 induction l generalizing x with
 | nil=>simp [yE]
 | cons y r ih =>
  have h:=ih (min x.1 y.1,max x.2 y.2)
  rw [show yE x (y::r)=yE (min x.1 y.1,max x.2 y.2) r from rfl]
  refine⟨by have:=h.1;dsimp only at this;omega,fun z hz=>?_⟩
  rcases zo9.1 hz with rfl | hz
  . have:=h.1;dsimp only at this;omega
  . exact h.2 z hz
theorem zfm {op a b:Int} (h1:op ≠ 8) (h2:op ≠ 9) (h3:op ≠ 10) (h4:op ≠ 11) (h5:op ≠ 12) (h6:op ≠ 21) (h7:op<=20) (h8:8<=op):jj op a b=0\/jj op a b=1:=by
 have hf:∀ b,xh b=0\/xh b=1:=fun b=>by cases b <;> simp [xh]
 unfold jj
 rw [zo3 h1,zo3 h2,zo3 h3,zo3 h4,zo3 h5]
 (repeat' split);all_goals first | exact hf _ | omega
theorem qF (n:Int) {lo hi:Int} (h:lo<=hi):lo<=qp n lo hi/\qp n lo hi<=hi:=by
 unfold qp
 (repeat' split);all_goals omega
theorem zgW {vs:List Vr} {vals:List Int} {op n:Int} {ks:List Int} {l:List Rg} (hV:InV vs vals) (hn:NodeOk vs op n l) (hlen:ks.length=l.length) (h23:op=23->l.length=3) (hop:op=0\/op=24\/op=6\/op=7\/8<=op/\op<=22\/op=23\/op=25)
  (hk:∀ i,i<l.length->(at2 l i).1<=lki ks i/\lki ks i<=(at2 l i).2):(zj vs op n l).1<=kg vals op n ks/\kg vals op n ks<=(zj vs op n l).2:=by
 have hg:∀ i,i<l.length->yp (at2 l i):=fun i hi=>hn.good _ (zf9 hi)
 have hf:∀ b,0<=xh b/\xh b<=1:=fun b=>by cases b <;> simp [xh]
 unfold yp at hg
 unfold zj kg
 by_cases c0:op=0
 . rw [zo4 c0,zo4 c0];exact⟨Int.le_refl _,Int.le_refl _⟩
 rw [zo3 c0,zo3 c0]
 by_cases c24:op=24
 ·
  rw [zo4 c24,zo4 c24]
  have h1:=hn.var c24
  obtain⟨v,hv⟩:∃ v,vs[n.toNat]?=some v:=⟨_,znT (by omega)⟩
  rw [zf8 hv]
  exact hV.at_ _ _ hv
 rw [zo3 c24,zo3 c24]
 by_cases c6:op=6
 ·
  have:=hn.k1 (.inl c6);have:=hk 0 (by omega)
  rw [zo4 c6,zo4 c6];dsimp only;omega
 rw [zo3 c6,zo3 c6]
 by_cases c7:op=7
 ·
  rw [zo4 c7]
  repeat rw [zo3 (by omega)]
  exact hf _
 rw [zo3 c7]
 by_cases c23:op=23
 ·
  have h3:=hn.k3 (.inl c23)
  rw [zo4 c23]
  repeat rw [zo3 (show ¬ op=_ by omega)]
  rw [zo4 (.inl c23)]
  have hm:=zcC (at2 l 1) (l.drop 2)
  split
  . have:=hk 1 (by omega);omega
  ·
   have h2:2<l.length:=by have:=h23 c23;omega
   have:=hk 2 (by omega)
   have:=hm.2 (at2 l 2) (by
    unfold at2
    rw [znT h2]
    exact List.mem_iff_getElem?.2 ⟨0,by rw [List.getElem?_drop];exact znT h2⟩)
   omega
 rw [zo3 c23]
 by_cases c25:op=25
 ·
  have h3:=hn.k3 (.inr c25)
  rw [zo4 c25]
  repeat rw [zo3 (show ¬ op=_ by omega)]
  rw [zo4 (.inr c25)]
  have hm:=zcC (at2 l 1) (l.drop 2)
  have hcl:=qF (lki ks 0) (show (0:Int)<=(ks.length:Int) - 2 by omega)
  obtain⟨j,hj⟩:∃ j:Nat,qp (lki ks 0) 0 ((ks.length:Int) - 2)=j:=Int.eq_ofNat_of_zero_le hcl.1
  have hj2:j+2<=l.length:=by omega
  rw [hj,show (1+(j:Int)).toNat=j+1 by omega]
  have:=hk (j+1) (by omega)
  by_cases h2:j=0
  . subst h2;have:=hm.1;rw [Nat.zero_add] at *;omega
  ·
   have:=hm.2 (at2 l (j+1)) (by
    unfold at2
    rw [znT (show j+1<l.length by omega)]
    exact List.mem_iff_getElem?.2 ⟨j - 1,by rw [List.getElem?_drop,show 2+(j - 1)=j+1 by omega];exact znT (by omega)⟩)
   omega
 rw [zo3 c25]
 have hb:8<=op/\op<=22:=by omega
 have hl2:=hn.k2 hb
 have h0:=hk 0 (by omega)
 have h1:=hk 1 (by omega)
 have g0:=hg 0 (by omega)
 have g1:=hg 1 (by omega)
 generalize lki ks 0=x at *
 generalize lki ks 1=y at *
 generalize at2 l 0=r0 at *
 generalize at2 l 1=r1 at *
 by_cases c8:op=8
 . rw [zo4 c8,jj,zo4 c8];dsimp only;omega
 rw [zo3 c8]
 by_cases c9:op=9
 . rw [zo4 c9,jj,zo3 c8,zo4 c9];dsimp only;omega
 rw [zo3 c9]
 by_cases c10:op=10
 ·
  rw [zo4 c10,jj,zo3 c8,zo3 c9,zo4 c10]
  have:=zfl h0 h1
  unfold xn yE
  simp only [List.foldl_cons,List.foldl_nil]
  omega
 rw [zo3 c10]
 by_cases c11:op=11
 ·
  rw [zo4 c11,jj,zo3 c8,zo3 c9,zo3 c10,zo4 c11]
  have:=zgV x y (by omega)
  dsimp only
  split <;> omega
 rw [zo3 c11]
 by_cases c12:op=12
 ·
  rw [zo4 c12,jj,zo3 c8,zo3 c9,zo3 c10,zo3 c11,zo4 c12]
  have:=zbh x y
  dsimp only
  generalize x - y*x.fdiv y=m at *
  split <;> split <;> split <;> omega
 rw [zo3 c12]
 by_cases c21:op=21
 ·
  rw [zo4 c21]
  have e:jj op x y=min x y:=by
   unfold jj
   repeat rw [zo3 (show ¬ op=_ by omega)]
   rw [zo4 c21]
  rw [e];dsimp only;omega
 rw [zo3 c21]
 by_cases c22:op=22
 ·
  rw [zo4 c22]
  have e:jj op x y=max x y:=by
   unfold jj
   repeat rw [zo3 (show ¬ op=_ by omega)]
  rw [e];dsimp only;omega
 rw [zo3 c22,zo3 (by omega)]
 have:=zfm (a:=x) (b:=y) c8 c9 c10 c11 c12 c21 (by omega) (by omega)
 dsimp only;omega
theorem zfn {vs:List Vr} {inp:Bool} (hv:∀ v ∈ vs,yp (v.low,v.high)) {vals:List Int} (hV:InV vs vals) (t:Tm):zw vs inp t=true->∀ r,rng vs t=some r->r.1<=qq vals t/\qq vals t<=r.2:=by
 induction t using zlF with
 | h t ih =>
  intro hf r hr
  rw [yC,Bool.and_eq_true,Bool.and_eq_true] at hf
  rw [zau,Option.bind_eq_some_iff] at hr
  obtain⟨l,h1,h2⟩:=hr
  have hlen:=xH _ _ h1
  have hn:NodeOk vs t.op t.n l:=qC hlen hf.1.1 hf.1.2 (fun x hx=>by
   obtain⟨k,hk,hkx⟩:=qQ _ _ h1 x hx
   exact qR hv k (yc hf.2 hk) x hkx) hv
  have hfit:=hf.1.1
  have zl:∀ (ks:List Tm) (m:List Rg),jT vs ks=some m->∀ (i:Nat) k,ks[i]?=some k->rng vs k=some (at2 m i):=by
   intro ks
   induction ks with
   | nil=>intro m _ i k h;simp at h
   | cons y ys ihy =>
    intro m hm i k hk
    simp only [jT,Option.bind_eq_some_iff,Option.map_eq_some_iff] at hm
    obtain⟨z,g1,u,g2,rfl⟩:=hm
    cases i with
    | zero=>simp at hk;subst hk;simpa [at2] using g1
    | succ i=>simp at hk;have:=ihy u g2 i k hk;simpa [at2] using this
  have H:=zgW (n:=t.n) (op:=t.op) (ks:=zgU vals t.kids) (l:=l) hV hn (by rw [zdX,hlen]) (fun h=>by
    unfold yy at hfit
    rw [show zn t.op=3 by unfold zn;rw [h];rfl] at hfit
    simp at hfit;omega) (by
    by_cases h:0<=zn t.op\/zn t.op=-2
    ·
     unfold zn at h
     repeat' split at h
     all_goals omega
    ·
     exfalso
     have:=qP t.op
     rw [yj (.inl (by omega))] at hfit
     cases hfit) (fun i hi=>by
    obtain⟨k,hk⟩:∃ k,t.kids[i]?=some k:=⟨_,znT (by omega)⟩
    rw [zdY hk]
    exact ih k (znU hk) (yc hf.2 (znU hk)) _ (zl _ _ h1 i k hk))
  rw [zfk]
  split at h2
  . cases h2;exact H
  . cases h2
end Go.Proofs.YtaenledoagbddaaGreatDoor
namespace Go.GL
section
variable {P:Program} {env:Env} {w:World} {dst:Option Tmp} {ty:TypeId} {pos:String} {aft:Array Edge} {g:Option (Nat × Bool)} {t t':TypeId} {x y:Operand} {m j:Int}
theorem R.quo (hx:ev env x=some (.int .i64 m)) (hy:ev env y=some (.int .i64 j)) (hj:j ≠ 0) (hr:-9223372036854775808<m/\m<=9223372036854775807):yf P ⟨dst,.binOp .quo t x y t',ty,pos,aft,g⟩ env w (.int .i64 (m.tdiv j)) w:=by
 intro n a ha
 have h1:(m.tdiv j).natAbs<=m.natAbs:=Int.natAbs_tdiv_le_natAbs m j
 have h2:IntKind.i64.wrap (m.tdiv j)=m.tdiv j:=xu (by omega)
 simp [execOp,ha.eval hx,ha.eval hy,eqGuard_quo,binOp_quo,Op.intDiv,hj,h2]
theorem R.rem (hx:ev env x=some (.int .i64 m)) (hy:ev env y=some (.int .i64 j)) (hj:j ≠ 0) (_:-9223372036854775808<m/\m<=9223372036854775807):yf P ⟨dst,.binOp .rem t x y t',ty,pos,aft,g⟩ env w (.int .i64 (m.tmod j)) w:=by
 intro n a ha
 simp [execOp,ha.eval hx,ha.eval hy,eqGuard_rem,binOp_rem,Op.intDiv,hj]
end
theorem zfo (a b:Int) (hb:b ≠ 0):a.fdiv b=if a.tmod b ≠ 0/\(decide (a<0) ≠ decide (b<0)) then a.tdiv b - 1 else a.tdiv b:=by
 rw [Int.fdiv_eq_tdiv]
 have hd:b ∣ a ↔ a.tmod b=0:=⟨Int.tmod_eq_zero_of_dvd,Int.dvd_of_tmod_eq_zero⟩
 by_cases h:b ∣ a
 . rw [zo4 h,zo3 (fun h2=>h2.1 (hd.1 h))];omega
 ·
  have hm:a.tmod b ≠ 0:=fun h2=>h (hd.2 h2)
  rw [zo3 h]
  by_cases ha:0<=a
  ·
   rw [zo4 ha]
   by_cases hb2:0<=b
   . rw [zo4 hb2,zo3 (fun h2=>h2.2 (by rw [zo6 (by omega),zo6 (by omega)]))];omega
   . rw [zo3 hb2,zo4 ⟨hm,by rw [zo6 (by omega),zo5 (by omega)];decide⟩]
  ·
   rw [zo3 ha]
   by_cases hb2:0<=b
   . rw [zo4 hb2,zo4 ⟨hm,by rw [zo5 (by omega),zo6 (by omega)];decide⟩,Int.sign_eq_one_of_pos (by omega)]
   . rw [zo3 hb2,zo3 (fun h2=>h2.2 (by rw [zo5 (by omega),zo5 (by omega)])),Int.sign_eq_neg_one_of_neg (by omega)];omega
end Go.GL
namespace Go.Proofs.YtaenledoagbddaaGreatDoor
open Go.GL
abbrev zgu (a:Int):Prop := -1048576<=a/\a<=1048576
theorem jI (a b:Int) (w:World) (ha:zgu a) (hb:zgu b):Calls Tryz.prog 223 #[.int .i64 a,.int .i64 b] w (Ret fun r w'=>r=.int .i64 (a.fdiv b)/\Ext w w'):=by
 have hE:=Keep.refl (fun _=>False) w
 refine zmb Tryz.func223 O Tryz.ntmps223 O (Gs 12 O (zk6 O (fun h0=>?_) (fun h0=>?_)))
 ·
  subst h0
  refine Gs 7 O (zkq tr223 O ⟨_,rfl,by rw [Int.fdiv_zero],hE⟩)
 ·
  have hd:=zfo a b h0
  have hq:(a.tdiv b).natAbs<=a.natAbs:=Int.natAbs_tdiv_le_natAbs a b
  refine Gs 6 O (zm1 O O (R.quo O O h0 (by omega)) (Gs 8 O (zm1 O O (R.rem O O h0 (by omega)) (Gs 2 O (G.sp 15 O (fun h1=>?_) (fun h1=>?_))))))
  ·
   refine Gs 8 O (zk6 O (fun h2=>?_) (fun h2=>?_))
   . refine Ga 13 O (by omega) (zkq tr223 O ⟨_,rfl,by rw [hd,zo4 ⟨h1,h2⟩],hE⟩)
   . refine Gs 9 O (zkq tr223 O ⟨_,rfl,by rw [hd,zo3 (fun h=>h2 h.2)],hE⟩)
  . refine Gs 18 O (zkq tr223 O ⟨_,rfl,by rw [hd,zo3 (fun h=>h1 h.1)],hE⟩)
theorem zew (a b:Int) (hb:b ≠ 0):-(a.natAbs:Int) - b.natAbs<=b*a.fdiv b/\b*a.fdiv b<=(a.natAbs:Int)+b.natAbs:=by
 have h:=zbh a b
 generalize b*a.fdiv b=q at *
 omega
theorem zbM (a b:Int) (w:World) (ha:zgu a) (hb:zgu b):Calls Tryz.prog 224 #[.int .i64 a,.int .i64 b] w (Ret fun r w'=>r=.int .i64 (if b=0 then 0 else a - b*a.fdiv b)/\Ext w w'):=by
 have hE:=Keep.refl (fun _=>False) w
 refine zmb Tryz.func224 O Tryz.ntmps224 O (Gs 12 O (zk6 O (fun h0=>?_) (fun h0=>?_)))
 . refine Gs 7 O (zkq Tryz.results224 O ⟨_,rfl,by rw [zo4 h0],hE⟩)
 ·
  have hm:=zew a b h0
  refine Gs 8 O (G.call O Tryz.call223 (jI a b _ ha hb) ?_)
  rintro _ wz1 ⟨rfl,hz1⟩
  replace hE:=Tr1 hz1 hE
  refine Ga 6 O (by omega) (zkq Tryz.results224 O ⟨_,rfl,by rw [zo3 h0],hE⟩)
theorem zbN (op a b:Int) (w:World) (ha:zgu a) (hb:zgu b):Calls Tryz.prog 206 #[.int .i64 op,.int .i64 a,.int .i64 b] w (Ret fun r w'=>r=.int .i64 (jj op a b)/\Ext w w'):=by
 have hE:=Keep.refl (fun _=>False) w
 have hml:=zat ha hb
 refine zmc Tryz.func206 O Tryz.ntmps206 O (Gs 18 O (zk6 O (fun hh1=>?_) (fun hh1=>?_)))
 . refine Ga 11 O (by omega) (zkq tr206 O ⟨_,rfl,by simp [jj,hh1],hE⟩)
 ·
  refine Gs 6 O (zk6 O (fun hh2=>?_) (fun hh2=>?_))
  . refine Ga 11 O (by omega) (zkq tr206 O ⟨_,rfl,by simp [jj,hh2],hE⟩)
  ·
   refine Gs 6 O (zk6 O (fun hh3=>?_) (fun hh3=>?_))
   . refine Ga 11 O (by omega) (zkq tr206 O ⟨_,rfl,by simp [jj,hh3],hE⟩)
   ·
    refine Gs 6 O (zk6 O (fun hh4=>?_) (fun hh4=>?_))
    ·
     refine Gs 4 O (G.call O Tryz.call223 (jI a b _ ha hb) ?_)
     rintro _ wz5 ⟨rfl,hz5⟩
     replace hE:=Tr1 hz5 hE
     refine Gs 6 O (zkq tr206 O ⟨_,rfl,by simp [jj,hh4],hE⟩)
    ·
     refine Gs 6 O (zk6 O (fun hh6=>?_) (fun hh6=>?_))
     ·
      refine Gs 4 O (G.call O Tryz.call224 (zbM a b _ ha hb) ?_)
      rintro _ wz7 ⟨rfl,hz7⟩
      replace hE:=Tr1 hz7 hE
      refine Gs 6 O (zkq tr206 O ⟨_,rfl,by simp [jj,hh6],hE⟩)
     ·
      refine Gs 6 O (zk6 O (fun hh8=>?_) (fun hh8=>?_))
      ·
       refine Gs 5 O (G.call O tc205 (zQ _ _) ?_)
       rintro _ wz9 ⟨rfl,hz9⟩
       replace hE:=Tr1 hz9 hE
       refine Gs 6 O (zkq tr206 O ⟨_,rfl,by simp [jj,xh,hh8],hE⟩)
      ·
       refine Gs 6 O (zk6 O (fun hh10=>?_) (fun hh10=>?_))
       ·
        refine Gs 5 O (G.call O tc205 (zQ _ _) ?_)
        rintro _ wz11 ⟨rfl,hz11⟩
        replace hE:=Tr1 hz11 hE
        refine Gs 6 O (zkq tr206 O ⟨_,rfl,by simp [jj,xh,hh10],hE⟩)
       ·
        refine Gs 6 O (zk6 O (fun hh12=>?_) (fun hh12=>?_))
        ·
         refine Gs 5 O (G.call O tc205 (zQ _ _) ?_)
         rintro _ wz13 ⟨rfl,hz13⟩
         replace hE:=Tr1 hz13 hE
         refine Gs 6 O (zkq tr206 O ⟨_,rfl,by simp [jj,xh,hh12],hE⟩)
        ·
         refine Gs 6 O (zk6 O (fun hh14=>?_) (fun hh14=>?_))
         ·
          refine Gs 5 O (G.call O tc205 (zQ _ _) ?_)
          rintro _ wz15 ⟨rfl,hz15⟩
          replace hE:=Tr1 hz15 hE
          refine Gs 6 O (zkq tr206 O ⟨_,rfl,by simp [jj,xh,hh14],hE⟩)
         ·
          refine Gs 6 O (zk6 O (fun hh16=>?_) (fun hh16=>?_))
          ·
           refine Gs 5 O (G.call O tc205 (zQ _ _) ?_)
           rintro _ wz17 ⟨rfl,hz17⟩
           replace hE:=Tr1 hz17 hE
           refine Gs 6 O (zkq tr206 O ⟨_,rfl,by simp [jj,xh,hh16],hE⟩)
          ·
           refine Gs 6 O (zk6 O (fun hh18=>?_) (fun hh18=>?_))
           ·
            refine Gs 5 O (G.call O tc205 (zQ _ _) ?_)
            rintro _ wz19 ⟨rfl,hz19⟩
            replace hE:=Tr1 hz19 hE
            refine Gs 6 O (zkq tr206 O ⟨_,rfl,by simp [jj,xh,hh18],hE⟩)
           ·
            refine Gs 6 O (zk6 O (fun hh20=>?_) (fun hh20=>?_))
            ·
             refine Gs 5 O (G.sp 73 O (fun hh21=>?_) (fun hh21=>?_))
             ·
              refine Gs 3 O (G.call O tc205 (zQ _ _) ?_)
              rintro _ wz22 ⟨rfl,hz22⟩
              replace hE:=Tr1 hz22 hE
              refine Gs 6 O (zkq tr206 O ⟨_,rfl,by simp [jj,xh,hh20,hh21],hE⟩)
             ·
              refine Gs 3 O (G.call O tc205 (zQ _ _) ?_)
              rintro _ wz23 ⟨rfl,hz23⟩
              replace hE:=Tr1 hz23 hE
              refine Gs 6 O (zkq tr206 O ⟨_,rfl,by simp [jj,xh,hh20,hh21],hE⟩)
            ·
             refine Gs 6 O (zk6 O (fun hh24=>?_) (fun hh24=>?_))
             ·
              refine Gs 5 O (G.sp 82 O (fun hh25=>?_) (fun hh25=>?_))
              ·
               refine Gs 3 O (G.call O tc205 (zQ _ _) ?_)
               rintro _ wz26 ⟨rfl,hz26⟩
               replace hE:=Tr1 hz26 hE
               refine Gs 6 O (zkq tr206 O ⟨_,rfl,by simp [jj,xh,hh24,hh25],hE⟩)
              ·
               refine Gs 3 O (G.call O tc205 (zQ _ _) ?_)
               rintro _ wz27 ⟨rfl,hz27⟩
               replace hE:=Tr1 hz27 hE
               refine Gs 6 O (zkq tr206 O ⟨_,rfl,by simp [jj,xh,hh24,hh25],hE⟩)
             ·
              refine Gs 6 O (zk6 O (fun hh28=>?_) (fun hh28=>?_))
              . refine Gs 11 O (zkq tr206 O ⟨_,rfl,by simp [jj,hh28],hE⟩)
              . refine Gs 12 O (zkq tr206 O ⟨_,rfl,by simp [jj,hh1,hh2,hh3,hh4,hh6,hh8,hh10,hh12,hh14,hh16,hh18,hh20,hh24,hh28],hE⟩)
structure TmOk (vs:List Vr) (vals:List Int) (t:Tm):Prop where
 ops:t.op=0\/t.op=24\/t.op=6\/t.op=7\/8<=t.op/\t.op<=22\/t.op=23\/t.op=25
 k1:t.op=6\/t.op=7->t.kids.length=1
 k2:8<=t.op/\t.op<=22->t.kids.length=2
 k3:t.op=23->t.kids.length=3
 k25:t.op=25->2<=t.kids.length/\t.kids.length<=33
 var:t.op=24->0<=t.n/\t.n<vs.length
 self:zgu (qq vals t)
 kid:∀ k ∈ t.kids,zgu (qq vals k)
theorem tmOk {vs:List Vr} {inp:Bool} (hv:∀ v ∈ vs,yp (v.low,v.high)) {vals:List Int} (hV:InV vs vals) {t:Tm} (hf:zw vs inp t=true) (hr:(rng vs t).isSome=true):TmOk vs vals t/\∀ k ∈ t.kids,zw vs inp k=true/\(rng vs k).isSome=true:=by
 obtain⟨r,hr⟩:=Option.isSome_iff_exists.1 hr
 have hin:∀ k,zw vs inp k=true->∀ r,rng vs k=some r->zgu (qq vals k):=fun k h1 r h2=>by
  have h3:=zfn hv hV k h1 r h2
  have h4:=qR hv k h1 r h2
  unfold yp at h4
  exact⟨by omega,by omega⟩
 have hself:=hin t hf r hr
 rw [yC,Bool.and_eq_true,Bool.and_eq_true] at hf
 rw [zau,Option.bind_eq_some_iff] at hr
 obtain⟨l,h1,h2⟩:=hr
 have hlen:=xH _ _ h1
 have hgr:∀ (ks:List Tm) (m:List Rg),jT vs ks=some m->∀ k ∈ ks,(rng vs k).isSome=true:=by
  intro ks
  induction ks with
  | nil=>intro m _ k h;simp at h
  | cons y ys ihy =>
   intro m hm k hk
   simp only [jT,Option.bind_eq_some_iff,Option.map_eq_some_iff] at hm
   obtain⟨z,g1,u,g2,rfl⟩:=hm
   rcases zo9.1 hk with rfl | hk
   . rw [g1];rfl
   . exact ihy u g2 k hk
 have hkid:∀ k ∈ t.kids,zw vs inp k=true/\(rng vs k).isSome=true:=fun k hk=>⟨yc hf.2 hk,hgr _ _ h1 k hk⟩
 have hn:NodeOk vs t.op t.n l:=qC hlen hf.1.1 hf.1.2 (fun x hx=>by
  obtain⟨k,hk,hkx⟩:=qQ _ _ h1 x hx
  exact qR hv k (yc hf.2 hk) x hkx) hv
 refine⟨⟨?_,fun h=>by rw [<- hlen];exact hn.k1 h,fun h=>by rw [<- hlen];exact hn.k2 h,fun h=>?_,fun h=>by rw [<- hlen];exact hn.k3 (.inr h),hn.var,hself,fun k hk=>?_⟩,hkid⟩
 ·
  by_cases h:0<=zn t.op\/zn t.op=-2
  ·
   unfold zn at h
   repeat' split at h
   all_goals omega
  ·
   exfalso
   have:=qP t.op
   have h3:=hf.1.1
   rw [yj (.inl (by omega))] at h3
   cases h3
 ·
  have h3:=hf.1.1
  unfold yy at h3
  rw [show zn t.op=3 by unfold zn;rw [h];rfl] at h3
  simp at h3;omega
 ·
  obtain⟨h3,h4⟩:=hkid k hk
  obtain⟨r',h5⟩:=Option.isSome_iff_exists.1 h4
  exact hin k h3 r' h5
def zi9 (vals:List Int) (k:Tm):Prop:=∀ (cs:List Value) (D Dv:Nat->Prop) (w:World) (vv:Value),SlR 1 zB Dv w vv vals->RTm D w k cs->Calls Tryz.prog 153 #[vv,.agg cs.toArray] w (Ret fun r w'=>r=.int .i64 (qq vals k)/\Ext w w')
theorem zj1 (vals:List Int) (t:Tm) (i:Nat) (k:Tm) (hk:t.kids[i]?=some k) (b2 b3:Nat) (vv kv:Value) (D Dv:Nat->Prop) (w:World) (hB2:Blk w b2 [vv] 27) (hB3:Blk w b3 [.int .i64 t.op,.int .i64 t.n,kv] 86) (hks:SlR 3 RTm D w kv t.kids) (hvv:SlR 1 zB Dv w vv vals) (ih:zi9 vals k) :
  Calls Tryz.prog 204 #[.int .i64 i,.pointer (some ⟨b2,0,none⟩),.pointer (some ⟨b3,0,none⟩)] w (Ret fun r w'=>r=.int .i64 (qq vals k)/\Ext w w'):=by
 have hE:=Keep.refl (fun _=>False) w
 have hi:=(zo7.1 hk).1
 obtain⟨a3,c3,rfl⟩:=hks.form
 obtain⟨bk,ok,ck,hak,_,hck,hRk⟩:=hks.at hk
 obtain⟨kv',rfl,hkk⟩:=hRk.get
 refine zmc Tryz.func204 O Tryz.ntmps204 O (Gs 6 O (Dw (fun q=>Ext w q) [] (fun wd1 hD _=>?_)))
 refine WD.take 0 O (by kernel_rfl) O O O hD (fun w1 hw1=>R.load tg27 O ((hw1.blk hB2 (fun h=>h)).cells 0 _ O)) (Ds [1] (by kernel_rfl) O (WD.take 2 O (by kernel_rfl) O O O hD (fun w1 hw1=>R.load tg84 O ((hw1.blk hB3 (fun h=>h)).cells 2 _ O)) (Ds [3] (by kernel_rfl) O (zld 4 O (by kernel_rfl) O O O (fun w1=>zkP tR84 ts86 O O hak (by omega)) (WD.take 5 O (by kernel_rfl) O O O hD (fun w1 hw1=>zkR tg86 ts86 O (by rfl) (hw1.cells hck (fun h=>h))) (WD.call 6 O (by kernel_rfl) O O O (F.call (vs:=[_,_]) tc153 O) (ih _ D Dv _ _ (hvv.ext zc hD) (RTm.put (hkk.ext zp hD))) ?_))))))
 rintro _ wz2 ⟨rfl,hz2⟩
 replace hD:=hD.ext hz2
 refine⟨fun _=>hD,?_⟩
 refine Ds [7] (by kernel_rfl) O (zla (by kernel_rfl) ?_ _)
 replace hE:=Tr1 hD hE
 refine Gs 2 O (zkq Tryz.results204 O ⟨_,rfl,rfl,hE⟩)
theorem jJ {vs:List Vr} {inp:Bool} (hv:∀ v ∈ vs,yp (v.low,v.high)) {vals:List Int} (hV:InV vs vals) (t:Tm):zw vs inp t=true->(rng vs t).isSome=true->zi9 vals t:=by
 induction t using zlF with
 | h t ih =>
 intro hf hr cs D Dv w vv hvv ht
 obtain⟨ok,hkf⟩:=tmOk hv hV hf hr
 have ihk:∀ k ∈ t.kids,zi9 vals k:=fun k hk=>ih k hk (hkf k hk).1 (hkf k hk).2
 obtain⟨kv,rfl,hks⟩:=ht.get
 obtain⟨a3,c3,rfl⟩:=hks.form
 obtain⟨av,cv,rfl⟩:=hvv.form
 have hve:=zfk vals t
 have hops:=ok.ops
 have hE:=Keep.refl (fun _=>False) w
 refine zmb Tryz.func153 O Tryz.ntmps153 O (Gs 2 O (G.mem O O (M.box O O) ?_))
 rintro _ w_b2 ⟨b2,rfl,hg_b2,hs_b2,hB_b2,hk_b2⟩
 have hge_b2:_<=b2:=znZ hE.size (Nat.le_of_eq hg_b2.symm)
 obtain⟨hE,hks,hvv⟩:=Tr3 hk_b2 hE hks hvv
 refine G.mem O O (M.box O O) ?_
 rintro _ w_b3 ⟨b3,rfl,hg_b3,hs_b3,hB_b3,hk_b3⟩
 have hn_b2_b3:b2 ≠ b3:=by have:=hB_b2.lt;omega
 have hge_b3:_<=b3:=znZ hE.size (Nat.le_of_eq hg_b3.symm)
 obtain⟨hE,hks,hvv,hB_b2⟩:=Tr4 hk_b3 hE hks hvv hB_b2
 refine Gs 13 O (zm5 O tg83 (hB_b3.cells 0 _ O) (Gs 9 O ?_))
 have hkid:∀ (i:Int) (j:Nat) (k:Tm),i=(j:Int)->t.kids[j]?=some k->∀ w',Ext w_b3 w'->Calls Tryz.prog 204 #[.int .i64 i,.pointer (some ⟨b2,0,none⟩),.pointer (some ⟨b3,0,none⟩)] w' (Ret fun r w''=>r=.int .i64 (qq vals k)/\Ext w' w''):=fun i j k hij hk w' hw'=>by
  subst hij
  exact zj1 vals t j k hk b2 b3 _ _ D Dv w' (hw'.blk hB_b2 (fun h=>h)) (hw'.blk hB_b3 (fun h=>h)) (hks.ext zp hw') (hvv.ext zc hw') (ihk k (znU hk))
 have zl:∀ i:Nat,i<t.kids.length->∃ k,t.kids[i]?=some k/\lki (zgU vals t.kids) i=qq vals k/\zgu (qq vals k):=fun i hi=>by
  obtain⟨k,hk⟩:∃ k,t.kids[i]?=some k:=⟨_,znT hi⟩
  exact⟨k,hk,zdY hk,ok.kid k (znU hk)⟩
 have hX:=Keep.refl (fun _=>False) w_b3
 refine zk6 O (fun c0=>?_) (fun c0=>?_)
 . refine Gs 3 O (zm5 O tg3 (hB_b3.cells 1 _ O) (Gs 6 O (zkq tr153 O ⟨_,rfl,by rw [hve,kg,zo4 c0],hE⟩)))
 ·
  refine Gs 6 O (zk6 O (fun c24=>?_) (fun c24=>?_))
  ·
   have hn:=ok.var c24
   have hln:=hV.len
   obtain⟨bx,ox,cx,hax,_,hcx,rfl⟩:=hvv.at (zhJ (l:=vals) (i:=t.n.toNat) (by omega))
   refine Gs 2 O (zm5 O tg27 (hB_b2.cells 0 _ O) (Gs 1 O (zm5 O tg3 (hB_b3.cells 1 _ O) (zm1 O O (zkP tR27 ts3 O O hax (by omega)) (zm5 O tg3 (hcx 0 _ O) (Gs 6 O (zkq tr153 O ⟨_,rfl,by rw [hve,kg,zo3 c0,zo4 c24],hE⟩)))))))
  ·
   refine Gs 6 O (zk6 O (fun c6=>?_) (fun c6=>?_))
   ·
    have h1:=ok.k1 (.inl c6)
    obtain⟨k0,hk0,hl0,hi0⟩:=zl 0 (by omega)
    refine Gs 3 O (zkV O tc204 (hkid 0 0 k0 O hk0 _ hX) ?_)
    rintro _ wz1 ⟨rfl,hz1⟩
    obtain⟨hE,hks,hvv,hB_b2,hB_b3,hX⟩:=Tr6 hz1 hE hks hvv hB_b2 hB_b3 hX
    refine Ga 7 O (by omega) (zkq tr153 O ⟨_,rfl,by rw [hve,kg,zo3 c0,zo3 c24,zo4 c6,hl0],hE⟩)
   ·
    refine Gs 6 O (zk6 O (fun c7=>?_) (fun c7=>?_))
    ·
     have h1:=ok.k1 (.inr c7)
     obtain⟨k0,hk0,hl0,hi0⟩:=zl 0 (by omega)
     refine Gs 3 O (zkV O tc204 (hkid 0 0 k0 O hk0 _ hX) ?_)
     rintro _ wz2 ⟨rfl,hz2⟩
     obtain⟨hE,hks,hvv,hB_b2,hB_b3,hX⟩:=Tr6 hz2 hE hks hvv hB_b2 hB_b3 hX
     refine Gs 1 O (G.call O tc205 (zQ _ _) ?_)
     rintro _ wz3 ⟨rfl,hz3⟩
     obtain⟨hE,hks,hvv,hB_b2,hB_b3,hX⟩:=Tr6 hz3 hE hks hvv hB_b2 hB_b3 hX
     refine Gs 6 O (zkq tr153 O ⟨_,rfl,by rw [hve,kg,zo3 c0,zo3 c24,zo3 c6,zo4 c7,hl0];rfl,hE⟩)
    ·
     refine Gs 6 O (zk6 O (fun c23=>?_) (fun c23=>?_))
     ·
      have h1:=ok.k3 c23
      obtain⟨k0,hk0,hl0,hi0⟩:=zl 0 (by omega)
      obtain⟨k1,hk1,hl1,hi1⟩:=zl 1 (by omega)
      obtain⟨k2,hk2,hl2,hi2⟩:=zl 2 (by omega)
      refine Gs 4 O (zkV O tc204 (hkid 0 0 k0 O hk0 _ hX) ?_)
      rintro _ wz4 ⟨rfl,hz4⟩
      obtain⟨hE,hks,hvv,hB_b2,hB_b3,hX⟩:=Tr6 hz4 hE hks hvv hB_b2 hB_b3 hX
      refine Gs 3 O (zk6 O (fun z=>?_) (fun z=>?_))
      ·
       refine Gs 3 O (zkV O tc204 (hkid 1 1 k1 O hk1 _ hX) ?_)
       rintro _ wz5 ⟨rfl,hz5⟩
       obtain⟨hE,hks,hvv,hB_b2,hB_b3,hX⟩:=Tr6 hz5 hE hks hvv hB_b2 hB_b3 hX
       refine Gs 7 O (zkq tr153 O ⟨_,rfl,by rw [hve,kg,zo3 c0,zo3 c24,zo3 c6,zo3 c7,zo4 c23,hl0,zo4 z,hl1],hE⟩)
      ·
       refine Gs 5 O (zkV O tc204 (hkid 2 2 k2 O hk2 _ hX) ?_)
       rintro _ wz6 ⟨rfl,hz6⟩
       obtain⟨hE,hks,hvv,hB_b2,hB_b3,hX⟩:=Tr6 hz6 hE hks hvv hB_b2 hB_b3 hX
       refine Gs 6 O (zkq tr153 O ⟨_,rfl,by rw [hve,kg,zo3 c0,zo3 c24,zo3 c6,zo3 c7,zo4 c23,hl0,zo3 z,hl2],hE⟩)
     ·
      refine Gs 6 O (zk6 O (fun c25=>?_) (fun c25=>?_))
      ·
       have h1:=ok.k25 c25
       obtain⟨k0,hk0,hl0,hi0⟩:=zl 0 (by omega)
       have hcl:=qF (qq vals k0) (show (0:Int)<=(t.kids.length:Int) - 2 by omega)
       obtain⟨kj,hkj,hlj,hij⟩:=zl (1+qp (qq vals k0) 0 ((t.kids.length:Int) - 2)).toNat (by omega)
       refine Gs 1 O (Dw (fun q=>Ext w_b3 q) [] (fun wd7 hD _=>?_))
       refine Ds [0,1,3] (by kernel_rfl) O (WD.take 4 O (by kernel_rfl) O O O hD (fun w1 hw1=>R.load tg84 O ((hw1.blk hB_b3 (fun h=>h)).cells 2 _ O)) (Da [5,6] (by kernel_rfl) O (by omega) (WD.call 2 O (by kernel_rfl) O O O (zkU (vs:=[_]) tc204 O O) (hkid 0 0 k0 O hk0 _ (hX.ext hD)) ?_)))
       rintro _ wz8 ⟨rfl,hz8⟩
       replace hD:=hD.ext hz8
       refine⟨fun _=>hD,?_⟩
       refine WD.call 7 O (by kernel_rfl) O O O (F.call (vs:=[_,_,_]) Tryz.call152 O) (qA _ _ _ _ (by omega)) ?_
       rintro _ wz9 ⟨rfl,hz9⟩
       replace hD:=hD.ext hz9
       refine⟨fun _=>hD,?_⟩
       refine Da [8] (by kernel_rfl) O (by omega) (WD.call 9 O (by kernel_rfl) O O O (zkU (vs:=[_]) tc204 O O) (hkid _ _ kj (by omega) hkj _ (hX.ext hD)) ?_)
       rintro _ wz10 ⟨rfl,hz10⟩
       replace hD:=hD.ext hz10
       refine⟨fun _=>hD,?_⟩
       refine Ds [10] (by kernel_rfl) O (zla (by kernel_rfl) ?_ _)
       obtain⟨hE,hks,hvv,hB_b2,hB_b3,hX⟩:=Tr6 hD hE hks hvv hB_b2 hB_b3 hX
       refine Gs 4 O (zkq tr153 O ⟨_,rfl,by rw [hve,kg,zo3 c0,zo3 c24,zo3 c6,zo3 c7,zo3 c23,zo4 c25,hl0,zdX,hlj],hE⟩)
      ·
       have h1:=ok.k2 (by omega)
       obtain⟨k0,hk0,hl0,hi0⟩:=zl 0 (by omega)
       obtain⟨k1,hk1,hl1,hi1⟩:=zl 1 (by omega)
       refine Gs 4 O (Dw (fun q=>Ext w_b3 q) [] (fun wd11 hD _=>?_))
       refine Ds [0] (by kernel_rfl) O (WD.take 1 O (by kernel_rfl) O O O hD (fun w1 hw1=>R.load tg83 O ((hw1.blk hB_b3 (fun h=>h)).cells 0 _ O)) (Ds [2,4] (by kernel_rfl) O (WD.call 3 O (by kernel_rfl) O O O (zkU (vs:=[_]) tc204 O O) (hkid 0 0 k0 O hk0 _ (hX.ext hD)) ?_)))
       rintro _ wz12 ⟨rfl,hz12⟩
       replace hD:=hD.ext hz12
       refine⟨fun _=>hD,?_⟩
       refine WD.call 5 O (by kernel_rfl) O O O (zkU (vs:=[_]) tc204 O O) (hkid 1 1 k1 O hk1 _ (hX.ext hD)) ?_
       rintro _ wz13 ⟨rfl,hz13⟩
       replace hD:=hD.ext hz13
       refine⟨fun _=>hD,?_⟩
       refine WD.call 6 O (by kernel_rfl) O O O (F.call (vs:=[_,_,_]) Tryz.call206 O) (zbN _ _ _ _ hi0 hi1) ?_
       rintro _ wz14 ⟨rfl,hz14⟩
       replace hD:=hD.ext hz14
       refine⟨fun _=>hD,?_⟩
       refine Ds [7] (by kernel_rfl) O (zla (by kernel_rfl) ?_ _)
       obtain⟨hE,hks,hvv,hB_b2,hB_b3,hX⟩:=Tr6 hD hE hks hvv hB_b2 hB_b3 hX
       refine Gs 2 O (zkq tr153 O ⟨_,rfl,by rw [hve,kg,zo3 c0,zo3 c24,zo3 c6,zo3 c7,zo3 c23,zo3 c25,hl0,hl1],hE⟩)
def yw (time:Int) (s:Int × Bool) (b:Int):Int × Bool:=if time<=b/\(s.2=false\/b<s.1) then (b,true) else s
def qG (bounds:List Int) (time:Int):Int:=(bounds.foldl (yw time) (time,false)).1
theorem zex {α β:Type} (f:β->α->β) (b:β) {l:List α} {i:Nat} {x:α} (h:l[i]?=some x):(l.take (i+1)).foldl f b=f ((l.take i).foldl f b) x:=by rw [zg h,List.foldl_append];rfl
theorem zb6 (l:List Int) (time:Int) (v:Value) (D:Nat->Prop) (w:World) (hl:SlR 1 zB D w v l):Calls Tryz.prog 156 #[v,.int .i64 time] w (Ret fun r w'=>r=.int .i64 (qG l time)/\Ext w w'):=by
 have hmx:=hl.max
 obtain⟨al,cl,rfl⟩:=hl.form
 refine zmb Tryz.func156 O Tryz.ntmps156 O (Gs 21 O (G.loop (σ:=Nat × Int × Bool) (fun⟨i,b,fd⟩=>[(1,.int .i64 time),(5,.int .i64 b),(6,.bool fd),(10,.slice al l.length cl),(11,.int .i64 l.length),(12,.int .i64 i)]) (fun⟨i,b,fd⟩=>fun w'=>i<=l.length/\(b,fd)=(l.take i).foldl (yw time) (time,false)/\Ext w w') (fun⟨i,b,fd⟩=>l.length - i) ((0,time,false)) (zlO O) (⟨zo8 _,rfl,Keep.refl _ _⟩) ?_))
 rintro⟨i,b,fd⟩ w1 ⟨hi,hs,hL1⟩
 show G _ _ _ _ _ [(1,.int .i64 time),(5,.int .i64 b),(6,.bool fd),(10,.slice al l.length cl),(11,.int .i64 l.length),(12,.int .i64 i)] _
 replace hl:=Tr1 hL1 hl
 refine Gs 6 O (zk6 O (fun hlt=>?_) (fun hge=>?_))
 ·
  obtain⟨x,he_x⟩:∃ x,l[i]?=some x:=⟨_,znT (by omega)⟩
  obtain⟨bx,ox,cx,hax,_,hcx,rfl⟩:=hl.at he_x
  have hst:=zex (yw time) (time,false) he_x
  rw [<- hs,show yw time (b,fd) x=if time<=x/\(fd=false\/x<b) then (x,true) else (b,fd) from rfl] at hst
  refine Gs 6 O (zm1 O O (zkP tR27 ts3 O O hax (by omega)) (zm5 O tg3 (hcx 0 _ O) (Gs 9 O (G.sp 19 O (fun h1=>?_) (fun h1=>?_)))))
  ·
   refine Gs 1 O (zm1 O O (zly O (by first | exact za | rfl)) (Gs 1 O (zlZ 22 O (fun h2=>?_) (fun h2=>?_))))
   ·
    have h2':fd=false:=by simpa using h2
    refine Ga 19 O (by omega) (zkh ((i+1,x,true)) (Sub.cons O (Sub.cons O (Sub.cons (by first | rfl | (show some (Value.bool true)=some (Value.bool _);simp [*])) (zlO O)))) (⟨by omega,by rw [hst,zo4 ⟨h1,.inl h2'⟩],hL1⟩) (by first | omega | (dsimp only;omega)))
   ·
    have h2':fd=true:=by simpa using h2
    refine Gs 7 O (zk6 O (fun h3=>?_) (fun h3=>?_))
    . refine Ga 11 O (by omega) (zkh ((i+1,x,true)) (Sub.cons O (Sub.cons O (Sub.cons (by first | rfl | (show some (Value.bool true)=some (Value.bool _);simp [*])) (zlO O)))) (⟨by omega,by rw [hst,zo4 ⟨h1,.inr h3⟩],hL1⟩) (by first | omega | (dsimp only;omega)))
    . refine Ga 7 O (by omega) (zkh ((i+1,b,fd)) (zlO O) (⟨by omega,by rw [hst,zo3 (fun h=>h.2.elim (fun h4=>by rw [h2'] at h4;cases h4) h3)],hL1⟩) (by first | omega | (dsimp only;omega)))
  . refine Ga 18 O (by omega) (zkh ((i+1,b,fd)) (zlO O) (⟨by omega,by rw [hst,zo3 (fun h=>h1 h.1)],hL1⟩) (by first | omega | (dsimp only;omega)))
 ·
  have:i=l.length:=by omega
  subst this
  rw [znY] at hs
  refine Gs 12 O (zkq Tryz.results156 O ⟨_,rfl,by rw [qG,<- hs],hL1⟩)
end Go.Proofs.YtaenledoagbddaaGreatDoor
namespace Go.GL
section
variable {P:Program} {env:Env} {w:World} {dst:Option Tmp} {ty:TypeId} {pos:String} {aft:Array Edge} {g:Option (Nat × Bool)}
theorem znr {t e:TypeId} {k by':Nat} {z:Value} {x y:Operand} {m:Nat} {kl kc:IntKind} {zs:List Value} (hu:P.underlying t=some (.slice e)) (he:(P.info? e).map (fun i=>(i.zero,i.size,i.bytes))=some (some z,k,by')) (hx:ev env x=some (.int kl 0)) (hy:ev env y=some (.int kc (m:Int)))
  (hb:by'*m<=281474976710656) (hm:m<=9223372036854775807) (hz:madeCells z.cells (m*k)=zs.toArray) :
  yh P ⟨dst,.makeSlice t x y,ty,pos,aft,g⟩ env w (fun u w'=>∃ b,u=.slice (some ⟨b,0,none⟩) 0 m/\New w zs e b w'):=by
 obtain⟨i,hi,hz0,hz1,hz2⟩:=info_parts he
 refine⟨.slice (some ⟨w.heap.size,0,none⟩) 0 m,w.alloc (.cells zs.toArray e),?_,_,rfl,New.mk w zs e⟩
 intro n a ha
 have:=run_make (P:=P) w t e i z hu hi hz0 kl kc 0 (m:Int) (by omega) (by omega) (by rw [hz2];omega) (by omega)
 rw [hz1] at this
 simp only [zof,hz,Int.toNat_zero] at this
 simp [execOp,ha.eval hx,ha.eval hy,this]
end
def qr (r:Ins) (k:Int):List Int:=if k=1 then r.secret else if k=2 then r.pub else r.random
structure StS where
 vals:List Int
 a:Nat
 b:Nat
 c:Nat
def zaF (s:StS) (k:Int):Nat:=if k=1 then s.a else if k=2 then s.b else s.c
def kP (s:StS) (k:Int) (n:Int):StS:=if k=1 then ⟨s.vals++[n],s.a+1,s.b,s.c⟩ else if k=2 then ⟨s.vals++[n],s.a,s.b+1,s.c⟩ else ⟨s.vals++[n],s.a,s.b,s.c+1⟩
def zx (r:Ins) (o:Option StS) (v:Vr):Option StS:=o.bind fun s=>if v.kind=0 then some { s with vals:=s.vals++[v.init] } else ((qr r v.kind)[zaF s v.kind]?).map fun n=>kP s v.kind n
def kH (vs:List Vr) (r:Ins):Option StS:=vs.foldl (zx r) (some ⟨[],0,0,0⟩)
def inB (p:Vr × Int):Bool:=decide (p.1.low<=p.2)&&decide (p.2<=p.1.high)
def kW (vs:List Vr) (r:Ins) (s:StS):Int:=if s.a ≠ r.secret.length\/s.b ≠ r.pub.length\/s.c ≠ r.random.length then 1 else if (vs.zip s.vals).all inB then 0 else 3
def zS (vs:List Vr) (r:Ins):Int:=match kH vs r with
 | none=>1
 | some s=>kW vs r s
def xx (vs:List Vr) (r:Ins):List Int:=match kH vs r with
 | none=>[]
 | some s=>s.vals
theorem zey (r:Ins) (vs:List Vr):vs.foldl (zx r) none=none:=by
 induction vs with
 | nil=>rfl
 | cons x t ih=>rw [List.foldl_cons];exact ih
theorem zdk {vs:List Vr} {r:Ins} {i:Nat} (h:(vs.take i).foldl (zx r) (some ⟨[],0,0,0⟩)=none):kH vs r=none:=by
 have:=List.take_append_drop i vs
 rw [kH,<- this,List.foldl_append,h,zey]
theorem zaG {vs:List Vr} {r:Ins} {i:Nat} {x:Vr} (h:vs[i]?=some x) {s:StS} (hs:(vs.take i).foldl (zx r) (some ⟨[],0,0,0⟩)=some s):(vs.take (i+1)).foldl (zx r) (some ⟨[],0,0,0⟩)=if x.kind=0 then some { s with vals:=s.vals++[x.init] } else ((qr r x.kind)[zaF s x.kind]?).map fun n=>kP s x.kind n:=by
 rw [zg h,List.foldl_append,hs];rfl
theorem kh (s:StS) (k n:Int):(kP s k n).vals=s.vals++[n]:=by
 unfold kP
 (repeat' split);all_goals rfl
theorem zbi {vs:List Vr} {r:Ins}:∀ (i:Nat) (s:StS),i<=vs.length->(vs.take i).foldl (zx r) (some ⟨[],0,0,0⟩)=some s->s.vals.length=i/\s.a<=i/\s.b<=i/\s.c<=i:=by
 intro i
 induction i with
 | zero=>intro s _ h;simp at h;subst h;simp
 | succ i ih =>
  intro s hi h
  obtain⟨x,hx⟩:∃ x,vs[i]?=some x:=⟨_,znT (by omega)⟩
  cases h1:(vs.take i).foldl (zx r) (some ⟨[],0,0,0⟩) with
  | none=>rw [zg hx,List.foldl_append,h1] at h;cases h
  | some s0 =>
   obtain⟨e1,e2,e3,e4⟩:=ih s0 (by omega) h1
   rw [zaG hx h1] at h
   split at h
   . cases h;simp;omega
   ·
    obtain⟨n,_,rfl⟩:=Option.map_eq_some_iff.1 h
    unfold kP
    (repeat' split);all_goals (simp;omega)
theorem zcD (s:StS) {k k':Int} (hk:1<=k/\k<=3) (hk':1<=k'/\k'<=3) (n:Int):zaF (kP s k n) k'=if k'=k then zaF s k'+1 else zaF s k':=by
 have h1:k=1\/k=2\/k=3:=by omega
 have h2:k'=1\/k'=2\/k'=3:=by omega
 rcases h1 with rfl | rfl | rfl <;> rcases h2 with rfl | rfl | rfl <;> simp [kP,zaF]
theorem zfp {vs:List Vr} {r:Ins} (hkd:∀ v ∈ vs,0<=v.kind/\v.kind<=3):∀ (i:Nat) (s:StS),i<=vs.length->(vs.take i).foldl (zx r) (some ⟨[],0,0,0⟩)=some s->∀ k,1<=k->k<=3->zaF s k<=(qr r k).length:=by
 intro i
 induction i with
 | zero=>intro s _ h k _ _;simp at h;subst h;unfold zaF;(repeat' split);all_goals simp
 | succ i ih =>
  intro s hi h k hk1 hk3
  obtain⟨x,hx⟩:∃ x,vs[i]?=some x:=⟨_,znT (by omega)⟩
  have hkx:=hkd x (znU hx)
  cases h1:(vs.take i).foldl (zx r) (some ⟨[],0,0,0⟩) with
  | none=>rw [zg hx,List.foldl_append,h1] at h;cases h
  | some s0 =>
   have e1:=ih s0 (by omega) h1 k hk1 hk3
   rw [zaG hx h1] at h
   split at h
   . cases h;exact e1
   ·
    obtain⟨n,hn,rfl⟩:=Option.map_eq_some_iff.1 h
    have:=(zo7.1 hn).1
    rw [zcD s0 (k:=x.kind) (by omega) ⟨hk1,hk3⟩]
    split
    . rename_i h2;subst h2;omega
    . exact e1
theorem zcE {α:Type} [DecidableEq α]:∀ {l l':List α},l.Nodup->(∀ x ∈ l,x ∈ l')->l.length<=l'.length
 | [],_,_,_=>zo8 _
 | x::r,l',h,hs=>by
  rw [List.nodup_cons] at h
  have h1:=hs x (znX ..)
  have h2:=zcE (l:=r) (l':=l'.erase x) h.2 (fun y hy=>by
   refine (List.mem_erase_of_ne ?_).2 (hs y (znW _ hy))
   rintro rfl;exact h.1 hy)
  rw [List.length_erase_of_mem h1] at h2
  have:=List.length_pos_of_mem h1
  simp only [zom];omega
theorem RanI.len {w:World} {it m:Nat} {l:List (Int × Value)} {seen:List Int} {cur:Option (Int × Value)} (h:RanI w it m l seen cur):seen.length<=l.length:=by
 obtain⟨es,c,since,sb,c0,h1,h2,h3,h4,h5,h6,h7,h8,h9,h10,h11,_⟩:=h
 have:=zcE (l:=seen) (l':=l.map (·.1)) h10 (fun k hk=>by
  obtain⟨v,hv⟩:=h11 k hk
  exact List.mem_map.2 ⟨(k,v),zdV hv,rfl⟩)
 simpa using this
theorem zgX {vs:List Vr} {i:Nat} {x:Vr} (hx:vs[i]?=some x) (vals:List Int) (hv:vals.length=i) (n:Int):((vs.take (i+1)).zip (vals++[n])).all inB=(((vs.take i).zip vals).all inB&&inB (x,n)):=by
 have hi:=(zo7.1 hx).1
 rw [zg hx,List.zip_append (by rw [zon];omega),List.all_append];simp
end Go.GL
namespace Go.Proofs.YtaenledoagbddaaGreatDoor
open Go.GL
def RestI (D:Nat->Prop) (r:Ins) (s:StS) (w:World) (m:Nat) (l:List (Int × Value)):Prop :=
 MapI w m l/\(∀ k,1<=k->k<=3->∃ v,zdj l k=some v/\SlR 1 zB D w v ((qr r k).drop (zaF s k)))/\∀ p ∈ l,1<=p.1/\p.1<=3
theorem RestI.ext {D:Nat->Prop} {r:Ins} {s:StS} {w w':World} {m:Nat} {l:List (Int × Value)} (h:RestI D r s w m l) (hk:Ext w w'):RestI D r s w' m l :=
 ⟨h.1.ext hk,fun k h1 h3=>by obtain⟨v,h4,h5⟩:=h.2.1 k h1 h3;exact⟨v,h4,h5.ext zc hk⟩,h.2.2⟩
theorem RestI.keep {D:Nat->Prop} {r:Ins} {s:StS} {w w':World} {S:Nat->Prop} {m:Nat} {l:List (Int × Value)} (h:RestI D r s w m l) (hk:Keep S w w') (hm:¬ S m) (hD:∀ q,D q->¬ S q):RestI D r s w' m l :=
 ⟨h.1.keep hk hm,fun k h1 h3=>by obtain⟨v,h4,h5⟩:=h.2.1 k h1 h3;exact⟨v,h4,h5.keep zc hk (fun q hq _=>hD q hq)⟩,h.2.2⟩
end Go.Proofs.YtaenledoagbddaaGreatDoor
namespace Go.GL
structure Sg where
 vals:List Int
 outs:List Int
 time:Int
end Go.GL
namespace Go.Proofs.YtaenledoagbddaaGreatDoor
open Go.GL
abbrev zd:Int->Value:=.int .i64
structure WkV where
 (W m:Nat) (v1 v2 v3 sv vv hv ov:Value) (rm:List (Int × Value))
def zb7 (vs:List Vr) (vals:List Int) (v n:Int):List Int:=match vs[v.toNat]? with
 | some x=>vals.set v.toNat (qp n x.low x.high)
 | none=>vals
theorem InV.set {vs:List Vr} {vals:List Int} (hg:∀ v ∈ vs,yp (v.low,v.high)) (h:InV vs vals) (v n:Int):InV vs (zb7 vs vals v n):=by
 unfold zb7
 cases hx:vs[v.toNat]? with
 | none=>exact h
 | some x =>
  have hgx:=hg x (znU hx)
  unfold yp at hgx
  have hc:=qF n (show x.low<=x.high from hgx.2.1)
  refine⟨by simp [h.len],fun i y hy=>?_⟩
  simp only [lki,List.getElem?_set]
  by_cases hi:v.toNat=i
  ·
   subst hi
   rw [hx] at hy;cases hy
   have:=(zo7.1 hx).1
   rw [zo4 rfl,zo4 (by rw [h.len];exact this)]
   exact hc
  ·
   rw [zo3 hi]
   exact h.at_ i y hy
def jk (f:Fl) (hs:List Int) (s:St) (σ:Sg):Sg :=
 if s.act=0 then { σ with vals:=zb7 f.vars σ.vals s.var (qq σ.vals s.term),time:=σ.time+s.cost }
 else if s.act=1 then { σ with outs:=σ.outs++[qq σ.vals s.term],time:=σ.time+s.cost }
 else if s.act=5 then { σ with vals:=zb7 f.vars σ.vals s.var (lki hs s.n.toNat),time:=σ.time+s.cost }
 else if s.act=6 then { σ with time:=qG s.bounds (σ.time+s.cost) }
 else { σ with time:=σ.time+s.cost }
structure StepOk (f:Fl) (s:St):Prop where
 formed:zw f.vars false s.term=true
 ranged:(rng f.vars s.term).isSome=true
 small:s.term.nodes<=1000000
 cost:0<=s.cost/\s.cost<=67108864
 var:s.act=0\/s.act=5->0<=s.var/\s.var<f.vars.length
 num:s.act=5->0<=s.n/\s.n<f.hatches.length
structure WkM (w:World) (z z':WkV):Prop where
 W:z'.W=z.W
 m:z'.m=z.m
 vv:z'.vv=z.vv
 v1:z'.v1=z.v1
 sv:z'.sv=z.sv
 hv:z'.hv=z.hv
 ov:z'.ov.ownBlock=z.ov.ownBlock\/∃ g,z'.ov.ownBlock=some g/\w.heap.size<=g
theorem WkM.refl (w:World) (z:WkV):WkM w z z:=⟨rfl,rfl,rfl,rfl,rfl,rfl,.inl rfl⟩
def ziQ (rd:Int->Int) (k n:Int):Int->Int:=fun j=>if j=k then n else rd j
def zia (f:Fl) (hs:List Int) (x:Nd) (s:St) (σ:Sg) (rd:Int->Int):Int × Sg × (Int->Int) :=
 if x.kind=0 then (x.next,σ,rd)
 else if x.kind=2 then (x.next,jk f hs s σ,rd)
 else if x.kind=4 then (x.next,σ,ziQ rd x.at_ 0)
 else if x.kind=5/\rd x.at_=s.n then (x.other,σ,rd)
 else (if qq σ.vals s.term ≠ 0 then x.next else x.other,{ σ with time:=σ.time+s.cost },if x.kind=5 then ziQ rd x.at_ (rd x.at_+1) else rd)
def RdM (rm:List (Int × Value)) (rd:Int->Int):Prop:=∀ k,(zdj rm k).getD (.int .i64 0)=.int .i64 (rd k)
theorem RdM.upd {rm:List (Int × Value)} {rd:Int->Int} (h:RdM rm rd) (hn:(rm.map (·.1)).Nodup) (k n:Int):RdM (zgT rm k (.int .i64 n)) (ziQ rd k n):=by
 intro j
 rw [zfi hn]
 unfold ziQ
 by_cases e:j=k
 . rw [zo4 e,zo4 e];rfl
 . rw [zo3 e,zo3 e];exact h j
def qf (body:Sg->Sg) (cost:Int) (t:Tm):Nat->Sg->Sg
 | 0,σ=>σ
 | k+1,σ=>if qq σ.vals t=0 then { σ with time:=σ.time+cost } else qf body cost t k (body { σ with time:=σ.time+cost })
section
variable (f:Fl) (hs:List Int)
mutual
def exS:St->Sg->Sg
 | .mk a c v n t th el b,σ =>
  if a=3 then (if qq σ.vals t ≠ 0 then exL th { σ with time:=σ.time+c } else exL el { σ with time:=σ.time+c })
  else if a=4 then qf (fun σ=>exL th σ) c t n.toNat σ
  else jk f hs (.mk a c v n t th el b) σ
def exL:List St->Sg->Sg
 | [],σ=>σ
 | s::r,σ=>exL r (exS s σ)
end
theorem jK (s:St) (σ:Sg):exS f hs s σ=if s.act=3 then (if qq σ.vals s.term ≠ 0 then exL f hs s.thn { σ with time:=σ.time+s.cost } else exL f hs s.els { σ with time:=σ.time+s.cost })
  else if s.act=4 then qf (exL f hs s.thn) s.cost s.term s.n.toNat σ else jk f hs s σ:=by cases s;rw [exS];rfl
structure Mc where
 at_:Int
 σ:Sg
 rd:Int->Int
def noSt:St:=.mk 0 0 0 0 (.mk 0 0 []) [] [] []
def zfq (g:List Nd) (k:Int):Nd:=g[k.toNat]?.getD ⟨1,-1,-1,-1⟩
def zeR (f:Fl) (k:Int):St:=(qE f.body)[k.toNat]?.getD noSt
def zib (g:List Nd) (m:Mc):Mc :=
 ⟨(zia f hs (zfq g m.at_) (zeR f (zfq g m.at_).at_) m.σ m.rd).1,(zia f hs (zfq g m.at_) (zeR f (zfq g m.at_).at_) m.σ m.rd).2.1,(zia f hs (zfq g m.at_) (zeR f (zfq g m.at_).at_) m.σ m.rd).2.2⟩
def zdl (g:List Nd):Nat->Mc->Mc
 | 0,m=>m
 | k+1,m=>zdl g k (zib f hs g m)
theorem zaH (g:List Nd):∀ (a b:Nat) (m:Mc),zdl f hs g (a+b) m=zdl f hs g b (zdl f hs g a m)
 | 0,b,m=>by rw [Nat.zero_add];rfl
 | a+1,b,m=>by rw [show a+1+b=(a+b)+1 by omega];exact zaH g a b (zib f hs g m)
def Goes (g:List Nd) (lo hi:Int) (k:Nat) (m m':Mc):Prop:=zdl f hs g k m=m'/\∀ j,j<k->lo<=(zdl f hs g j m).at_/\(zdl f hs g j m).at_<hi
end
section
variable {f:Fl} {hs:List Int} {g:List Nd} {lo hi:Int} {k k':Nat} {m m' m'':Mc}
theorem Goes.refl (m:Mc):Goes f hs g lo hi 0 m m:=⟨rfl,fun _ h=>absurd h (Nat.not_lt_zero _)⟩
theorem Goes.trans (h:Goes f hs g lo hi k m m') (h':Goes f hs g lo hi k' m' m''):Goes f hs g lo hi (k+k') m m'':=by
 refine⟨by rw [zaH,h.1,h'.1],fun j hj=>?_⟩
 by_cases hjk:j<k
 . exact h.2 j hjk
 ·
  obtain⟨i,rfl⟩:∃ i,j=k+i:=⟨j - k,by omega⟩
  rw [zaH,h.1]
  exact h'.2 i (by omega)
theorem Goes.one (h:zib f hs g m=m') (h1:lo<=m.at_/\m.at_<hi):Goes f hs g lo hi 1 m m':=by
 refine⟨h,fun j hj=>?_⟩
 obtain rfl:j=0:=by omega
 exact h1
end
mutual
def nbS:St->Nat
 | .mk a _ _ n _ th el _=>if a=3 then 1+max (nbL th) (nbL el) else if a=4 then 2+n.toNat*(1+nbL th) else 1
def nbL:List St->Nat
 | []=>0
 | s::r=>nbS s+nbL r
end
theorem zdZ (s:St):nbS s=if s.act=3 then 1+max (nbL s.thn) (nbL s.els) else if s.act=4 then 2+s.n.toNat*(1+nbL s.thn) else 1:=by cases s;rw [nbS];rfl
theorem zj2 {vs:List Vr} {nh:Nat} (l:List St):∀ top,zb vs nh l top=0->(nbL l:Int)<=2*(bds l).1:=by
 induction l using zlH with
 | h l ih =>
 intro top h
 have hm:=xd l top h
 have key:∀ r:List St,(∀ x ∈ r,x ∈ l)->(nbL r:Int)<=2*(bds r).1:=by
  intro r
  induction r with
  | nil=>intro _;simp [nbL,bds]
  | cons x r ihr =>
   intro hx
   have h1:=ihr (fun y hy=>hx y (znW _ hy))
   obtain⟨last,h2⟩:=hm x (hx x (znX ..))
   obtain⟨h3,_,_,h4,h5⟩:=xK h2
   have h6:=(ih x (hx x (znX ..))).1 _ h4
   have h7:=(ih x (hx x (znX ..))).2 _ h5
   have b4:=yD x.thn _ h4
   have b5:=yD x.els _ h5
   rw [nbL,bds]
   have:(nbS x:Int)<=2*(yo x).1:=by
    rw [zdZ,yb]
    by_cases a4:x.act=4
    ·
     rw [zo3 (show ¬ x.act=3 by omega),zo4 a4,zo4 a4]
     obtain⟨n,hn⟩:=Int.eq_ofNat_of_zero_le (h3.rep a4).1
     rw [hn,zof]
     have:((n*(1+nbL x.thn):Nat):Int)<=(n:Int)*(2*(1+(bds x.thn).1)):=by
      rw [Int.natCast_mul]
      exact Int.mul_le_mul_of_nonneg_left (by omega) (by omega)
     have e:(n:Int)*(2*(1+(bds x.thn).1))=2*((n:Int)*(1+(bds x.thn).1)):=by rw [Int.mul_left_comm]
     simp only
     omega
    ·
     rw [zo3 a4,zo3 a4]
     by_cases a3:x.act=3
     . rw [zo4 a3];simp only;omega
     . rw [zo3 a3];simp only;omega
   simp only
   omega
 exact key l (fun x h=>h)
def CtxG (g:List Nd) (n:Nat) (ns:List Nd):Prop:=∀ (i:Nat) x,ns[i]?=some x->g[n+i]?=some x
def CtxP (P:List St) (a:Nat) (ps:List St):Prop:=∀ (i:Nat) x,ps[i]?=some x->P[a+i]?=some x
theorem CtxG.left {g:List Nd} {n:Nat} {a b:List Nd} (h:CtxG g n (a++b)):CtxG g n a:=fun i x hx=>h i x (by rw [zoj (zo7.1 hx).1];exact hx)
theorem zns {g:List Nd} {n m:Nat} {a b:List Nd} (h:CtxG g n (a++b)) (hm:m=n+a.length):CtxG g m b:=fun i x hx=>by
 rw [hm,Nat.add_assoc];exact h _ x (by rw [zok (by omega)];simpa using hx)
theorem CtxG.head {g:List Nd} {n:Nat} {x:Nd} {b:List Nd} (h:CtxG g n (x::b)):g[n]?=some x:=h 0 x rfl
theorem CtxP.left {P:List St} {n:Nat} {a b:List St} (h:CtxP P n (a++b)):CtxP P n a:=fun i x hx=>h i x (by rw [zoj (zo7.1 hx).1];exact hx)
theorem znt {P:List St} {n m:Nat} {a b:List St} (h:CtxP P n (a++b)) (hm:m=n+a.length):CtxP P m b:=fun i x hx=>by
 rw [hm,Nat.add_assoc];exact h _ x (by rw [zok (by omega)];simpa using hx)
theorem CtxP.head {P:List St} {n:Nat} {x:St} {b:List St} (h:CtxP P n (x::b)):P[n]?=some x:=h 0 x rfl
def SameR (a n:Nat) (rd rd':Int->Int):Prop:=∀ k:Int,¬ ((a:Int)<=k/\k<(a+n:Nat))->rd' k=rd k
theorem SameR.refl (a n:Nat) (rd:Int->Int):SameR a n rd rd:=fun _ _=>rfl
theorem SameR.trans {a n:Nat} {r1 r2 r3:Int->Int} (h:SameR a n r1 r2) (h':SameR a n r2 r3):SameR a n r1 r3:=fun k hk=>(h' k hk).trans (h k hk)
theorem zn9 {a n:Nat} {rd:Int->Int} {k v:Int} (h:(a:Int)<=k/\k<(a+n:Nat)):SameR a n rd (ziQ rd k v):=fun j hj=>by
 unfold ziQ;rw [zo3 (fun e=>hj (by rw [e];exact h))]
open Go.GL
theorem zfr {vs:List Vr} {nh:Nat} (l:List St):∀ top,zb vs nh l top=0->∀ s ∈ qE l,∃ last,zA vs nh s last=0:=by
 induction l using zlH with
 | h l ih =>
 intro top h
 have hm:=xd l top h
 have key:∀ r:List St,(∀ x ∈ r,x ∈ l)->∀ s ∈ qE r,∃ last,zA vs nh s last=0:=by
  intro r
  induction r with
  | nil=>intro _ s hs;simp [qE] at hs
  | cons x r ihr =>
   intro hx s hs
   obtain⟨last,h2⟩:=hm x (hx x (znX ..))
   obtain⟨_,_,_,h4,h5⟩:=xK h2
   rw [qE,x.pre_eq,zoc,zo9,zoc] at hs
   rcases hs with (rfl | hs | hs) | hs
   . exact⟨last,h2⟩
   . exact (ih x (hx x (znX ..))).1 _ h4 s hs
   . exact (ih x (hx x (znX ..))).2 _ h5 s hs
   . exact ihr (fun y hy=>hx y (znW _ hy)) s hs
 exact key l (fun x h=>h)
theorem zfs (l:List St):∀ s ∈ qE l,s.nodes<=zm l:=by
 induction l using zlH with
 | h l ih =>
 have key:∀ r:List St,(∀ x ∈ r,x ∈ l)->∀ s ∈ qE r,s.nodes<=zm r:=by
  intro r
  induction r with
  | nil=>intro _ s hs;simp [qE] at hs
  | cons x r ihr =>
   intro hx s hs
   have h1:=(ih x (hx x (znX ..))).1
   have h2:=(ih x (hx x (znX ..))).2
   have h3:=x.nodes_eq
   rw [qE,x.pre_eq,zoc,zo9,zoc] at hs
   rw [zm]
   rcases hs with (rfl | hs | hs) | hs
   . omega
   . have:=h1 s hs;omega
   . have:=h2 s hs;omega
   . have:=ihr (fun y hy=>hx y (znW _ hy)) s hs;omega
 exact key l (fun x h=>h)
theorem zft {f:Fl} {s:St} {last:Bool} (h:zA f.vars f.hatches.length s last=0) (hn:s.nodes<=100000):StepOk f s:=by
 obtain⟨h1,h2,h3,_,_⟩:=xK h
 have hse:=s.nodes_eq
 unfold zD at h2
 split at h2
 ·
  rename_i hf
  split at h2
  ·
   rename_i hr
   refine⟨hf,hr,by omega,h1.cost,fun ha=>?_,fun ha=>?_⟩
   ·
    unfold zh at h3
    rcases ha with ha | ha
    ·
     simp [ha,yL] at h3
     omega
    ·
     simp [ha,yL] at h3
     omega
   ·
    unfold zh at h3
    simp [ha,yL] at h3
    omega
  . cases h2
 . cases h2
def qT (s:St):Prop:=s.act=6->∀ b ∈ s.bounds,b<=67108864
theorem zfu {l:List Int} (h:yK l=true):∀ (d i:Nat) x y,l[i]?=some x->l[i+d]?=some y->x<=y:=by
 intro d
 induction d with
 | zero=>intro i x y hx hy;rw [Nat.add_zero,hx] at hy;cases hy;exact Int.le_refl _
 | succ d ih =>
  intro i x y hx hy
  have hlt:=(zo7.1 hy).1
  obtain⟨z,hz⟩:∃ z,l[i+d]?=some z:=⟨_,znT (by omega)⟩
  have h1:=ih i x z hx hz
  have h2:=(yQ l).1 h (i+d) z y hz hy
  omega
theorem zdm {vs:List Vr} {nh:Nat} {s:St} {last:Bool} (h:zA vs nh s last=0):qT s:=by
 intro a6 b hb
 obtain⟨h1,h2,h3,_,_⟩:=xK h
 have h4:zR s=true:=by
  rw [zy] at h
  split at h
  . cases h
  split at h
  . cases h
  . rename_i h5;simpa using h5
 unfold zh at h3
 simp [a6,yl] at h3
 unfold zR at h4
 simp [a6] at h4
 have hr:=h3.2.2
 obtain⟨i,hi⟩:=List.mem_iff_getElem?.1 hb
 have hlt:=(zo7.1 hi).1
 obtain⟨y,hy⟩:∃ y,s.bounds[s.bounds.length - 1]?=some y:=⟨_,znT (by omega)⟩
 have h5:=zfu hr (s.bounds.length - 1 - i) i b y hi (by rw [show i+(s.bounds.length - 1 - i)=s.bounds.length - 1 by omega];exact hy)
 rw [hy] at h4
 simp at h4
 omega
theorem zcF (l:List Int) (t:Int):qG l t=t\/(qG l t ∈ l/\t<=qG l t):=by
 have key:∀ (l:List Int) (s:Int × Bool),(l.foldl (yw t) s).1=s.1\/((l.foldl (yw t) s).1 ∈ l/\t<=(l.foldl (yw t) s).1):=by
  intro l
  induction l with
  | nil=>intro s;exact .inl rfl
  | cons b r ih =>
   intro s
   rw [List.foldl_cons]
   rcases ih (yw t s b) with h | h
   ·
    rw [h]
    unfold yw
    split
    . rename_i h1;exact .inr ⟨znX ..,h1.1⟩
    . exact .inl O
   . exact .inr ⟨znW _ h.1,h.2⟩
 exact key l (t,false)
structure Valid (f:Fl):Prop where
 ok:ym f=0
 size:zm f.body+zC f.hatches<=1024
 bulk:zt f.body<=1000000
section
variable {f:Fl} (V:Valid f)
include V
theorem Valid.plain:xj f.body=true:=zdh V.ok
theorem Valid.good:∀ v ∈ f.vars,yp (v.low,v.high):=zaC (ye V.ok).2.1
theorem Valid.kinds:∀ v ∈ f.vars,0<=v.kind/\v.kind<=3:=by
 have h:=(ye V.ok).2.1
 have h1:∀ j,j<f.vars.length->jF f.vars j=0:=by
  unfold zr at h
  split at h
  . rename_i h2;exact absurd h h2
  ·
   rename_i h2
   intro j hj
   exact xc f.vars.length 0 (by simpa using h2) j (zo8 _) (by omega)
 exact fun v hv=>(xI h1 v hv).2
theorem Valid.lens:f.vars.length<=64/\f.hatches.length<=8:=by
 have h:=(ye V.ok).1
 unfold xk at h
 simp at h
 omega
theorem Valid.ssize:ssize f.body<=1024:=zdi V.size
theorem Valid.step:∀ s ∈ qE f.body,StepOk f s/\qT s/\(s.act=4->0<=s.n/\s.n<=4096):=by
 intro s hs
 obtain⟨last,h⟩:=zfr f.body true (ye V.ok).2.2.2.1 s hs
 have hn:=zfs f.body s hs
 have:=V.size
 exact⟨zft h (by omega),zdm h,fun a4=>⟨((xK h).1.rep a4).1,((xK h).1.rep a4).2.1⟩⟩
theorem Valid.nb:nbL f.body<=8192:=by
 have h1:=zj2 f.body true (ye V.ok).2.2.2.1
 have h2:=(ye V.ok).2.2.2.2
 unfold zbI at h2
 simp at h2
 omega
end
theorem zfv (l:List St):∀ a n e,∀ x ∈ zbz l a n e,x.kind=2\/x.kind=3\/x.kind=4\/x.kind=5:=by
 induction l using zlH with
 | h l ih =>
 have key:∀ r:List St,(∀ x ∈ r,x ∈ l)->∀ a n e,∀ x ∈ zbz r a n e,x.kind=2\/x.kind=3\/x.kind=4\/x.kind=5:=by
  intro r
  induction r with
  | nil=>intro _ a n e x hx;simp [zbz] at hx
  | cons s r ihr =>
   intro hm a n e x hx
   have h1:=(ih s (hm s (znX ..))).1
   have h2:=(ih s (hm s (znX ..))).2
   rw [zbz,zoc,s.lay_eq] at hx
   rcases hx with hx | hx
   ·
    split at hx
    ·
     rw [zo9,zoc] at hx
     rcases hx with rfl | hx | hx
     . exact .inr (.inl O)
     . exact h1 _ _ _ x hx
     . exact h2 _ _ _ x hx
    ·
     split at hx
     ·
      rw [zo9,zo9] at hx
      rcases hx with rfl | rfl | hx
      . exact .inr (.inr (.inl O))
      . exact .inr (.inr (.inr O))
      . exact h1 _ _ _ x hx
     ·
      rw [zob] at hx
      subst hx;exact .inl rfl
   . exact ihr (fun y hy=>hm y (znW _ hy)) _ _ _ x hx
 exact key l (fun x h=>h)
structure NodeOk' (f:Fl) (x:Nd):Prop where
 kind:x.kind=0\/x.kind=2\/x.kind=3\/x.kind=4\/x.kind=5
 step:x.kind ≠ 0->0<=x.at_/\(qE f.body)[x.at_.toNat]?=some (zeR f x.at_)/\StepOk f (zeR f x.at_)/\qT (zeR f x.at_)
theorem znu {f:Fl} (V:Valid f) {k:Int} (h0:0<=k) (h1:k<(zdJ f).length - 1):(zdJ f)[k.toNat]?=some (zfq (zdJ f) k)/\NodeOk' f (zfq (zdJ f) k):=by
 obtain⟨n,rfl⟩:=Int.eq_ofNat_of_zero_le h0
 have hlen:=zgJ f V.plain
 have zl:(zdJ f)[n]?=some (zfq (zdJ f) n):=by
  unfold zfq;rw [zof,znT (show n<(zdJ f).length by omega)];rfl
 refine⟨zl,?_⟩
 generalize zfq (zdJ f) n=x at zl
 unfold zdJ at zl
 cases n with
 | zero=>simp at zl;subst zl;exact⟨.inl rfl,fun h=>absurd rfl h⟩
 | succ n =>
  rw [List.getElem?_cons_succ,zoj (by rw [zdL _ V.plain];omega)] at zl
  have hx:=znU zl
  have hk:=zfv f.body _ _ _ x hx
  have hr:=(zgK f.body V.plain 0 1 (1+zc5 f.body)).range x hx
  refine⟨.inr hk,fun _=>⟨by omega,?_⟩⟩
  obtain⟨s,hs⟩:∃ s,(qE f.body)[x.at_.toNat]?=some s:=⟨_,znT (by rw [zgS];omega)⟩
  have e:zeR f x.at_=s:=by unfold zeR;rw [hs];rfl
  have hst:=V.step s (znU hs)
  rw [e]
  exact⟨hs,hst.1,hst.2.1⟩
theorem zfw {f:Fl} {hs:List Int} {s:St} {σ:Sg} {j:Nat} (hg:∀ v ∈ f.vars,yp (v.low,v.high)) (ho:StepOk f s) (hset:qT s) (hV:InV f.vars σ.vals) (ht:0<=σ.time/\σ.time<=(j:Int)*67108864) (hol:σ.outs.length<=j) :
  InV f.vars (jk f hs s σ).vals/\(0<=(jk f hs s σ).time/\(jk f hs s σ).time<=((j+1:Nat):Int)*67108864)/\(jk f hs s σ).outs.length<=j+1:=by
 have hc:=ho.cost
 unfold jk
 split
 . exact⟨hV.set hg _ _,by dsimp only;omega,by dsimp only;omega⟩
 split
 . exact⟨hV,by dsimp only;omega,by simp;omega⟩
 split
 . exact⟨hV.set hg _ _,by dsimp only;omega,by dsimp only;omega⟩
 split
 ·
  rename_i a6
  refine⟨hV,?_,by dsimp only;omega⟩
  dsimp only
  rcases zcF s.bounds (σ.time+s.cost) with h | h
  . rw [h];omega
  ·
   have:=hset a6 _ h.1
   omega
 . exact⟨hV,by dsimp only;omega,by dsimp only;omega⟩
open Go.GL
def zjU (f:Fl) (x:Nd):Bool:=decide (x.kind=2)&&(decide ((zeR f x.at_).act=0) || decide ((zeR f x.at_).act=5))
def varD (f:Fl) (d:Int):Int:=if ((qE f.body).length:Int)<=d then d - (qE f.body).length else (zeR f d).var
def zjV (f:Fl) (x:Nd) (d:Int):Prop:=(x.kind=0/\((qE f.body).length:Int)<=d/\d<(qE f.body).length+f.vars.length)\/(x.kind ≠ 0/\zjU f x=true/\d=x.at_)
def zj3 (f:Fl) (x:Nd) (d:Int):Prop:=x.kind ≠ 0/\(zjU f x=true->varD f d ≠ (zeR f x.at_).var)
inductive Rch (f:Fl) (g:List Nd):Int->Int->Prop
 | gen {i:Nat} {x:Nd} {to d:Int}:g[i]?=some x->(to=x.next\/to=x.other)->0<=to->zjV f x d->Rch f g to d
 | thru {i:Nat} {x:Nd} {to d:Int}:g[i]?=some x->(to=x.next\/to=x.other)->0<=to->Rch f g i d->zj3 f x d->Rch f g to d
theorem Rch.step {f:Fl} {g:List Nd} {i:Nat} {x:Nd} {to d:Int} (hx:g[i]?=some x) (ht:to=x.next\/to=x.other) (h0:0<=to) (h:zjV f x d\/(Rch f g i d/\zj3 f x d)):Rch f g to d :=
 h.elim (Rch.gen hx ht h0) (fun h=>Rch.thru hx ht h0 h.1 h.2)
theorem zdn {vs:List Vr} (t:Tm):zw vs true t=true->zw vs false t=true:=by
 induction t using zlF with
 | h t ih =>
  intro h
  rw [yC,Bool.and_eq_true,Bool.and_eq_true] at h ⊢
  refine⟨⟨h.1.1,?_⟩,?_⟩
  ·
   have h2:=h.1.2
   unfold xP at h2 ⊢
   split
   ·
    rename_i e
    rw [zo4 e,Bool.and_eq_true] at h2
    rw [h2.1];rfl
   ·
    rename_i e
    rw [zo3 e] at h2
    exact h2
  ·
   have key:∀ l:List Tm,(∀ k ∈ l,k ∈ t.kids)->zZ vs true l=true->zZ vs false l=true:=by
    intro l
    induction l with
    | nil=>intro _ _;rfl
    | cons x r ihr =>
     intro hm hf
     rw [zZ,Bool.and_eq_true] at hf ⊢
     exact⟨ih x (hm x (znX ..)) hf.1,ihr (fun k hk=>hm k (znW _ hk)) hf.2⟩
   exact key t.kids (fun k h=>h) h.2
theorem Valid.hatch {f:Fl} (V:Valid f):∀ h ∈ f.hatches,zw f.vars false h.term=true/\(rng f.vars h.term).isSome=true/\h.term.nodes<=1000000/\h.low<=h.high:=by
 intro h hm
 obtain⟨i,hi⟩:=List.mem_iff_getElem?.1 hm
 have hlt:=(zo7.1 hi).1
 have h0:=(ye V.ok).2.2.1
 have h1:=xc f.hatches.length 0 h0 i (zo8 _) (by omega)
 rw [jZ hi] at h1
 have hn:=yZ hi
 have:=V.size
 unfold zJ at h1
 split at h1
 . cases h1
 split at h1
 . cases h1
 split at h1
 . cases h1
 ·
  rename_i hb
  unfold zD at h1
  split at h1
  ·
   rename_i hf
   split at h1
   ·
    rename_i hr
    refine⟨zdn _ hf,hr,by omega,?_⟩
    have hb':zb3 h.low h.high=true:=by simpa using hb
    unfold zb3 at hb'
    exact (of_decide_eq_true hb').1
   . cases h1
  . cases h1
def zgY (vals:List Int) (hs:List Ht):List Int:=hs.map fun h=>qp (qq vals h.term) h.low h.high
theorem zfx {vals:List Int} {hs:List Ht} {i:Nat} {x:Ht} (h:hs[i]?=some x):zgY vals (hs.take (i+1))=zgY vals (hs.take i)++[qp (qq vals x.term) x.low x.high]:=by
 unfold zgY;rw [zg h,List.map_append];rfl
theorem zcG {vs:List Vr} {r:Ins} (h:zS vs r=0):InV vs (xx vs r):=by
 unfold zS at h
 cases hs:kH vs r with
 | none=>rw [hs] at h;cases h
 | some s =>
  rw [hs] at h
  have hv:xx vs r=s.vals:=by unfold xx;rw [hs]
  have hl:=zbi (vs:=vs) (r:=r) vs.length s (zoi _) (by rw [znY];exact hs)
  simp only at h
  unfold kW at h
  split at h
  . cases h
  split at h
  ·
   rename_i ha
   rw [hv]
   refine⟨hl.1,fun i v hi=>?_⟩
   have hlt:=(zo7.1 hi).1
   rw [List.all_eq_true] at ha
   have:=ha (v,lki s.vals i) (List.mem_iff_getElem?.2 ⟨i,by
    rw [List.getElem?_zip_eq_some]
    exact⟨hi,zhJ (by omega)⟩⟩)
   unfold inB at this
   simp at this
   exact this
  . cases h
abbrev jb (f:Fl) (r:Ins):List Int:=zgY (xx f.vars r) f.hatches
abbrev jl (f:Fl) (r:Ins):Sg:=⟨xx f.vars r,[],0⟩
abbrev mcOf (f:Fl) (r:Ins):Mc:=⟨0,jl f r,fun _=>0⟩
def qs (f:Fl) (r:Ins):Sg:=exL f (jb f r) f.body (jl f r)
def GoesAll (f:Fl) (r:Ins) (K:Nat):Prop:=∃ rd',Goes f (jb f r) (zdJ f) 0 ((zdJ f).length - 1) K (mcOf f r) ⟨((zdJ f).length:Int) - 1,qs f r,rd'⟩
theorem GoesAll.unique {f:Fl} {r:Ins} {K K':Nat} (h:GoesAll f r K) (h':GoesAll f r K'):K=K':=by
 obtain⟨_,h1,h2⟩:=h
 obtain⟨_,h3,h4⟩:=h'
 rcases Nat.lt_trichotomy K K' with hh | hh | hh
 . have:=(h4 K hh).2;rw [h1] at this;dsimp only at this;omega
 . exact hh
 . have:=(h2 K' hh).2;rw [h3] at this;dsimp only at this;omega
theorem zbO:∀ (D:Nat->Prop) (w:World) (x:Int) (cs:List Value),zB D w x cs->cs=[zd x]:=fun _ _ _ _ h=>h
structure SgB (f:Fl) (N:Nat) (σ:Sg):Prop where
 inv:InV f.vars σ.vals
 t0:0<=σ.time
 t1:σ.time<=(N:Int)*67108864
 ol:σ.outs.length<=N
theorem SgB.mono {f:Fl} {N M:Nat} {σ:Sg} (h:SgB f N σ) (hm:N<=M):SgB f M σ:=⟨h.inv,h.t0,by have:=h.t1;omega,by have:=h.ol;omega⟩
theorem SgB.cost {f:Fl} {N:Nat} {σ:Sg} {s:St} (h:SgB f N σ) (ho:StepOk f s):SgB f (N+1) { σ with time:=σ.time+s.cost }:=by
 have:=ho.cost
 exact⟨h.inv,by have:=h.t0;dsimp only;omega,by have:=h.t1;dsimp only;omega,by have:=h.ol;dsimp only;omega⟩
abbrev PreOk (f:Fl) (l:List St):Prop:=∀ s ∈ qE l,StepOk f s/\qT s/\(s.act=4->0<=s.n)
theorem PreOk.kids {f:Fl} {l:List St} (h:PreOk f l) {x:St} (hx:x ∈ l):(StepOk f x/\qT x/\(x.act=4->0<=x.n))/\PreOk f x.thn/\PreOk f x.els:=by
 have hm:∀ s ∈ x.pre,s ∈ qE l:=by
  intro s hs
  induction l with
  | nil=>cases hx
  | cons y r ih =>
   rw [qE,zoc]
   rcases zo9.1 hx with rfl | hx
   . exact .inl hs
   ·
    refine .inr (ih (fun s hs=>h s ?_) hx)
    rw [qE,zoc];exact .inr hs
 rw [x.pre_eq] at hm
 exact⟨h x (hm x (by simp)),fun s hs=>h s (hm s (by simp [hs])),fun s hs=>h s (hm s (by simp [hs]))⟩
theorem zcH {f:Fl} {body:Sg->Sg} {s:St} (ho:StepOk f s) {b:Nat} (hb:∀ N σ,SgB f N σ->SgB f (N+b) (body σ)):∀ (k N:Nat) (σ:Sg),SgB f N σ->SgB f (N+k*(1+b)) (qf body s.cost s.term k σ)
 | 0,N,σ,h=>by simpa [qf] using h
 | k+1,N,σ,h=>by
  unfold qf
  have h1:=h.cost ho
  rw [Nat.succ_mul]
  split
  . exact h1.mono (by omega)
  . exact (zcH ho hb k _ _ (hb _ _ h1)).mono (by omega)
theorem zaI {f:Fl} {hs:List Int} (hg:∀ v ∈ f.vars,yp (v.low,v.high)) (l:List St):PreOk f l->∀ N σ,SgB f N σ->SgB f (N+nbL l) (exL f hs l σ):=by
 induction l using zlH with
 | h l ih =>
 intro hp
 have key:∀ r:List St,(∀ x ∈ r,x ∈ l)->∀ N σ,SgB f N σ->SgB f (N+nbL r) (exL f hs r σ):=by
  intro r
  induction r with
  | nil=>intro _ N σ h;exact h
  | cons x r ihr =>
   intro hm N σ h
   obtain⟨⟨ho,hse,hn4⟩,hp1,hp2⟩:=hp.kids (hm x (znX ..))
   obtain⟨i1,i2⟩:=ih x (hm x (znX ..))
   rw [exL,nbL,<- Nat.add_assoc]
   refine ihr (fun y hy=>hm y (znW _ hy)) _ _ ?_
   rw [jK,zdZ]
   split
   ·
    split
    . exact (i1 hp1 _ _ (h.cost ho)).mono (by omega)
    . exact (i2 hp2 _ _ (h.cost ho)).mono (by omega)
   ·
    split
    . exact (zcH ho (i1 hp1) _ _ _ h).mono (by omega)
    ·
     obtain⟨h1,h2,h3⟩:=zfw (hs:=hs) hg ho hse h.inv ⟨h.t0,h.t1⟩ h.ol
     exact⟨h1,h2.1,h2.2,h3⟩
 exact key l (fun x h=>h)
theorem zbj (f:Fl) (hs:List Int):∀ (a b:List St) (σ:Sg),exL f hs (a++b) σ=exL f hs b (exL f hs a σ)
 | [],_,_=>rfl
 | x::r,b,σ=>by rw [List.cons_append,exL,exL,zbj f hs r b]
theorem ki:∀ (a b:List St),nbL (a++b)=nbL a+nbL b
 | [],b=>by rw [List.nil_append];simp [nbL]
 | x::r,b=>by rw [List.cons_append,nbL,nbL,ki r b,Nat.add_assoc]
theorem zgZ (l:List St) (i:Nat):nbL (l.take i)<=nbL l:=by
 have:=ki (l.take i) (l.drop i)
 rw [List.take_append_drop] at this
 omega
theorem zic (s:St):1<=nbS s:=by
 rw [zdZ]
 split
 . omega
 . split <;> omega
def zV (f:Fl) (r:Ins):Int:=if ym f ≠ 0 then ym f else zS f.vars r
theorem zbP {f:Fl} (vd:Valid f):PreOk f f.body:=fun s hs=>by
 obtain⟨h1,h2,h3⟩:=vd.step s hs
 exact⟨h1,h2,fun h=>(h3 h).1⟩
theorem zaJ {f:Fl} {r:Ins} (h:zS f.vars r=0):SgB f 0 (jl f r):=⟨zcG h,by dsimp only;omega,by dsimp only;omega,zoi _⟩
end Go.Proofs.YtaenledoagbddaaGreatDoor
namespace Go.GL
theorem RFl.keep {D S:Nat->Prop} {w w':World} {f:Fl} {v1 v2 v3:Value} (h:RFl D w f v1 v2 v3) (hk:Keep S w w') (hD:∀ q,D q->q<w.heap.size->¬ S q):RFl D w' f v1 v2 v3:=⟨h.vars.keep yW hk hD,h.hatches.keep yX hk hD,h.body.keep zf hk hD⟩
end Go.GL
namespace Go.Proofs.YtaenledoagbddaaGreatDoor
open Go.GL
structure MachOk (w:World) (bm:Nat) (v1 v2 v3 vv hv ov:Value) (σ:Sg):Prop where
 box:Blk w bm [v1,v2,v3,vv,hv,ov,.int .i64 σ.time] 158
 vals:w.ownsRow 0 3 1 vv σ.vals.length (σ.vals.map zd)
 outs:w.ownsRow 0 3 1 ov σ.outs.length (σ.outs.map zd)
 a1:vv.ownBlock ≠ some bm
 a2:ov.ownBlock ≠ some bm
 a3:∀ q,vv.ownBlock=some q->ov.ownBlock ≠ some q
def qV (bm:Nat) (vv ov:Value) (q:Nat):Prop:=q=bm\/vv.ownBlock=some q\/ov.ownBlock=some q
abbrev jm (bm:Nat) (v1 v2 v3 vv hv ov:Value) (σ:Sg):Hp:=[(900,.own bm [v1,v2,v3,vv,hv,ov,.int .i64 σ.time] 158),(901,.row 3 1 vv σ.vals.length (σ.vals.map zd)),(902,.row 3 1 ov σ.outs.length (σ.outs.map zd))]
def MachPost (w w':World) (bm:Nat) (v1 v2 v3 vv hv ov:Value) (σ':Sg):Prop:=∃ ov',MachOk w' bm v1 v2 v3 vv hv ov' σ'/\Keep (qV bm vv ov) w w'/\(ov'.ownBlock=ov.ownBlock\/∃ g,ov'.ownBlock=some g/\w.heap.size<=g)
section
variable {w w':World} {bm:Nat} {v1 v2 v3 vv hv ov:Value} {σ σ':Sg}
theorem MachOk.lent (h:MachOk w bm v1 v2 v3 vv hv ov σ):(∀ x ∈ jm bm v1 v2 v3 vv hv ov σ,x.2.holds w/\x.2.loc/\(∀ b,¬ x.2.fz b)/\∀ q,x.2.S q->q<w.heap.size)/\(jm bm v1 v2 v3 vv hv ov σ).Pairwise (fun x y=>∀ q,x.2.S q->¬ y.2.S q):=by
 refine⟨?_,?_⟩
 ·
  intro x hx
  simp only [zo9,List.not_mem_nil,or_false] at hx
  rcases hx with rfl | rfl | rfl
  . exact⟨h.box,trivial,fun _ h=>h,fun q hq=>by have hq:q=bm:=hq;rw [hq];exact h.box.lt⟩
  . exact⟨h.vals,trivial,fun _ h=>h,fun q hq=>xi h.vals hq⟩
  . exact⟨h.outs,trivial,fun _ h=>h,fun q hq=>xi h.outs hq⟩
 ·
  refine List.pairwise_cons.2 ⟨fun x hx q hq hs=>?_,List.pairwise_cons.2 ⟨fun x hx q hq hs=>?_,List.pairwise_singleton _ _⟩⟩
  ·
   have hq:q=bm:=hq
   subst hq
   simp only [zo9,List.not_mem_nil,or_false] at hx
   rcases hx with rfl | rfl
   . exact h.a1 hs
   . exact h.a2 hs
  ·
   simp only [zo9,List.not_mem_nil,or_false] at hx
   subst hx
   exact h.a3 q hq hs
theorem machHS {q:Nat}:HS (jm bm v1 v2 v3 vv hv ov σ) q ↔ qV bm vv ov q:=by
 unfold HS qV
 constructor
 ·
  rintro⟨x,hx,hq⟩
  simp only [zo9,List.not_mem_nil,or_false] at hx
  rcases hx with rfl | rfl | rfl
  . exact .inl hq
  . exact .inr (.inl hq)
  . exact .inr (.inr hq)
 ·
  rintro (hq | hq | hq)
  . exact⟨_,znX ..,hq⟩
  . exact⟨_,znW _ (znX ..),hq⟩
  . exact⟨_,znW _ (znW _ (znX ..)),hq⟩
theorem kI {Bs:zP} {H:Hp} (hI:VI Bs H w) (h0:zl H 900=some (.own bm [v1,v2,v3,vv,hv,ov,.int .i64 σ.time] 158)) (h1:zl H 901=some (.row 3 1 vv σ.vals.length (σ.vals.map zd))) (h2:zl H 902=some (.row 3 1 ov σ.outs.length (σ.outs.map zd))):MachOk w bm v1 v2 v3 vv hv ov σ :=
 ⟨hI.at 900 h0,hI.at 901 h1,hI.at 902 h2,fun h=>zq hI.apart h0 h1 rfl bm rfl h,fun h=>zq hI.apart h0 h2 rfl bm rfl h,fun q hq hs=>zq hI.apart h1 h2 rfl q hq hs⟩
theorem kX {H:Hp} {σ0:Sg} {ov0:Value} {w0:World} (hI:VI [(w0,HS (jm bm v1 v2 v3 vv hv ov0 σ0))] H w) (h0:zl H 900=some (.own bm [v1,v2,v3,vv,hv,ov,.int .i64 σ.time] 158)) (h1:zl H 901=some (.row 3 1 vv σ.vals.length (σ.vals.map zd))) (h2:zl H 902=some (.row 3 1 ov σ.outs.length (σ.outs.map zd))) (ho:ov.ownBlock=ov0.ownBlock\/∃ g,ov.ownBlock=some g/\w0.heap.size<=g):MachPost w0 w bm v1 v2 v3 vv hv ov0 σ :=
 ⟨ov,kI hI h0 h1 h2,hI.k0.mono fun _ _ hq=>machHS.1 hq,ho⟩
theorem MachPost.hands {H:Hp} (hp:MachOk w' bm v1 v2 v3 vv hv ov σ') {ov0:Value} (hk:Keep (qV bm vv ov0) w w') (ho:ov.ownBlock=ov0.ownBlock\/∃ g,ov.ownBlock=some g/\w.heap.size<=g) (h0:zl H 900=some (.own bm [v1,v2,v3,vv,hv,ov0,.int .i64 σ.time] 158)) (h1:zl H 901=some (.row 3 1 vv σ.vals.length (σ.vals.map zd))) (h2:zl H 902=some (.row 3 1 ov0 σ.outs.length (σ.outs.map zd))):Hands H [900,901,902] (jm bm v1 v2 v3 vv hv ov σ') w w':=by
 obtain⟨g1,g2⟩:=hp.lent
 have i0:∀ q,q=bm->InS H [900,901,902] q:=fun q hq=>⟨_,zi h0,rfl,hq⟩
 have i1:∀ q,vv.ownBlock=some q->InS H [900,901,902] q:=fun q hq=>⟨_,zi h1,rfl,hq⟩
 have i2:∀ q,ov0.ownBlock=some q->InS H [900,901,902] q:=fun q hq=>⟨_,zi h2,rfl,hq⟩
 refine⟨hk.mono fun q _ hq=>hq.elim (i0 q) fun hq=>hq.elim (i1 q) (i2 q),fun x hx=>?_,g2⟩
 obtain⟨k1,k2,k3,k4⟩:=g1 x hx
 refine⟨k1,k2,k3,fun q hq=>⟨?_,k4 q hq⟩⟩
 simp only [zo9,List.not_mem_nil,or_false] at hx
 rcases hx with rfl | rfl | rfl
 . exact .inl (i0 q hq)
 . exact .inl (i1 q hq)
 ·
  rcases ho with ho | ⟨g,ho,hg⟩
  . exact .inl (i2 q (ho ▸ hq))
  ·
   have hq:ov.ownBlock=some q:=hq
   rw [ho] at hq
   cases hq
   exact .inr hg
theorem jn {H:Hp} {f:FuncId} {args:Array Value} {n0:Nat} {ov0:Value} (hc:Calls Tryz.prog f args w (Ret fun r w'=>r=.tuple #[]/\MachPost w w' bm v1 v2 v3 vv hv ov0 σ')) (hsz:n0<=w.heap.size) (h0:zl H 900=some (.own bm [v1,v2,v3,vv,hv,ov0,.int .i64 σ.time] 158)) (h1:zl H 901=some (.row 3 1 vv σ.vals.length (σ.vals.map zd))) (h2:zl H 902=some (.row 3 1 ov0 σ.outs.length (σ.outs.map zd))):Calls Tryz.prog f args w (Ret fun r w'=>∃ ov',(r=.tuple #[]/\(ov'.ownBlock=ov0.ownBlock\/∃ g,ov'.ownBlock=some g/\n0<=g))/\Hands H [900,901,902] (jm bm v1 v2 v3 vv hv ov' σ') w w'):=by
 refine hc.mono ?_
 rintro e w' ⟨r,rfl,rfl,ov',hM,hk,ho⟩
 exact⟨_,rfl,ov',⟨rfl,ho.imp id fun⟨g,h1,h2⟩=>⟨g,h1,by omega⟩⟩,MachPost.hands hM hk ho h0 h1 h2⟩
theorem zj4 {H:Hp} {σ0:Sg} {ov0:Value} {w0:World} {bo:Nat} (hI:VI [(w0,HS (jm bm v1 v2 v3 vv hv ov0 σ0))] H w) (h0:zl H 900=some (.own bm [v1,v2,v3,vv,hv,ov,.int .i64 σ.time] 158)) (h1:zl H 901=some (.row 3 1 vv σ.vals.length (σ.vals.map zd))) (h2:zl H 902=some (.row 3 1 ov σ.outs.length (σ.outs.map zd))) (hb:ov.ownBlock=some bo):ov.ownBlock=ov0.ownBlock\/∃ g,ov.ownBlock=some g/\w0.heap.size<=g:=by
 rcases (hI.base _ (znX ..)).2 _ (zi h2) bo hb with h | h
 ·
  rcases machHS.1 h with h | h | h
  . exact absurd h (fun e=>zq hI.apart h0 h2 O bm O (e ▸ hb))
  . exact absurd hb (zq hI.apart h1 h2 O bo h)
  . exact .inl (hb.trans h.symm)
 . exact .inr ⟨bo,hb,h⟩
def zj5 (f:Fl) (hs:List Int) (l:List St):Prop:=∀ (N:Nat) (σ:Sg),SgB f N σ->N+nbL l<=100000->∀ (Df Dh:Nat->Prop) (w:World) (bm:Nat) (v1 v2 v3 vv hv ov lv:Value),(∀ q,Df q\/Dh q->q<w.heap.size)->RFl Df w f v1 v2 v3->SlR 1 zB Dh w hv hs->SlR 10 RSt Df w lv l->MachOk w bm v1 v2 v3 vv hv ov σ->(∀ q,qV bm vv ov q->¬ Df q/\¬ Dh q) ->
 Calls Tryz.prog 123 #[.pointer (some ⟨bm,0,none⟩),lv] w (Ret fun r w'=>r=.tuple #[]/\MachPost w w' bm v1 v2 v3 vv hv ov (exL f hs l σ))
end
open Go.GL
theorem zfy (f:Fl) (σ:Sg) (i0:Int) (n:Int) (v1 v2 v3 vv hv ov:Value) (Df:Nat->Prop) (bm:Nat) (W:World) (hf:RFl Df W f v1 v2 v3) (hM:MachOk W bm v1 v2 v3 vv hv ov σ) (hD:∀ q,qV bm vv ov q->¬ Df q) (hi0:0<=i0/\i0<f.vars.length) (hl:σ.vals.length=f.vars.length) (hg:∀ v ∈ f.vars,yp (v.low,v.high)) :
  Calls Tryz.prog 155 #[.pointer (some ⟨bm,0,none⟩),.int .i64 i0,.int .i64 n] W (Ret fun r w'=>r=.tuple #[]/\MachPost W w' bm v1 v2 v3 vv hv ov { σ with vals:=zb7 f.vars σ.vals i0 n }):=by
 obtain⟨i,rfl⟩:∃ i:Nat,i0=(i:Int):=⟨i0.toNat,by omega⟩
 have hi:i<f.vars.length:=by omega
 have hvs:=hf.vars
 obtain⟨av,cv,rfl⟩:=hvs.form
 have hmx:=hvs.max
 have hlow:∀ q,HS (jm bm (.slice av f.vars.length cv) v2 v3 vv hv ov σ) q->¬ Df q:=fun q h=>hD q (machHS.1 h)
 refine zmc Tryz.func155 O Tryz.ntmps155 O (zn0 [(900,.own bm [.slice av f.vars.length cv,v2,v3,vv,hv,ov,.int .i64 σ.time] 158),(901,.row 3 1 vv σ.vals.length (σ.vals.map zd)),(902,.row 3 1 ov σ.outs.length (σ.outs.map zd))] hM.lent.1 hM.lent.2 ?_)
 refine zms 0 900 0 O O ?_
 obtain⟨x,he_x,hm_x⟩:=gE_ f.vars (i) (by omega)
 obtain⟨b_x,o_x,c_x,ha_x,hd_x,hc_x,hR_x⟩:=hvs.atD he_x
 obtain rfl:=hR_x
 refine zmJ 1000 0 O O (fun h_=>by have h1_:=hlow _ h_;have h2_:=hd_x;first | omega | exact h1_ h2_) hc_x ?_
 have hgx:=hg x hm_x
 have hse:zb7 f.vars σ.vals i n=σ.vals.set i (qp n x.low x.high):=by unfold zb7;rw [zof,he_x]
 refine zmx 901 O (by omega) ?_
 rintro bv cq rfl hcap_901
 refine Vw [900,1000] [] O ?_
 refine Vd [0,1,2,3,4,5,6,7,8,9,10,11,15,16,17,18,19,20] 0 (by kernel_rfl) O O O ?_
 refine VD.ix 12 1000 tR22 ts89 O (by kernel_rfl) O ha_x (by omega) (i) (rfl) O ?_
 refine Vd [13,14] 0 (by kernel_rfl) O O O ?_
 refine VD.ix 21 1000 tR22 ts89 O (by kernel_rfl) O ha_x (by omega) (i) (rfl) O ?_
 refine Vd [22,23] 0 (by kernel_rfl) O O O ?_
 refine zmC 24 0 Tryz.call152 O (by kernel_rfl) O O (fun w hI=>qA n x.low x.high w hgx.2.1) ?_
 refine Vb [25] 0 (by kernel_rfl) O O O (by omega) ?_
 refine zmA 26 901 0 (i) ts3 O (by kernel_rfl) O O (by omega) (by simp;omega) ?_
 refine zlb (by kernel_rfl) ?_
 refine zmK 901 O (e':=.row 3 1 (.slice (some ⟨bv,0,none⟩) σ.vals.length cq) (zb7 f.vars σ.vals i n).length ((zb7 f.vars σ.vals i n).map zd)) (by rw [hse,List.map_set,List.length_set]) ?_
 refine zkF Tryz.results155 (fun w hI=>⟨_,rfl,rfl,kX hI O O O (.inl O)⟩)
theorem xr {a b c:Value} {n:Nat} (h:b.ownBlock=a.ownBlock\/∃ g,b.ownBlock=some g/\n<=g) (h':c.ownBlock=b.ownBlock\/∃ g,c.ownBlock=some g/\n<=g):c.ownBlock=a.ownBlock\/∃ g,c.ownBlock=some g/\n<=g:=by
 rcases h' with h' | h'
 . rw [h'];exact h
 . exact .inr h'
theorem yT {bm:Nat} {vv ov ov':Value} {n:Nat} {D:Nat->Prop} (h:∀ q,qV bm vv ov q->¬ D q) (hD:∀ q,D q->q<n) (ho:ov'.ownBlock=ov.ownBlock\/∃ g,ov'.ownBlock=some g/\n<=g):∀ q,qV bm vv ov' q->¬ D q:=by
 rintro q (hq | hq | hq)
 . exact h q (.inl hq)
 . exact h q (.inr (.inl hq))
 ·
  rcases ho with ho | ⟨g,ho,hg⟩
  . exact h q (.inr (.inr (ho ▸ hq)))
  ·
   rw [ho] at hq
   cases hq
   exact fun hd=>by have:=hD q hd;omega
theorem zh0 (f:Fl) (hs:List Int) (hg:∀ v ∈ f.vars,yp (v.low,v.high)) (x:St) (ho:StepOk f x) (hn:0<=x.n) (hp:PreOk f x.thn) (ih:zj5 f hs x.thn) (N:Nat) (σ:Sg) (hB:SgB f N σ) (hN:N+x.n.toNat*(1+nbL x.thn)<=100000) (Df Dh:Nat->Prop) (W:World) (bm:Nat) (v1 v2 v3 vv hv ov:Value) (hDb:∀ q,Df q\/Dh q->q<W.heap.size) (hf:RFl Df W f v1 v2 v3) (hh:SlR 1 zB Dh W hv hs) (hM:MachOk W bm v1 v2 v3 vv hv ov σ) (hD:∀ q,qV bm vv ov q->¬ Df q/\¬ Dh q)
  (ax:Option Addr) (nx:Nat) (bx:Option Addr) (mx:Nat) (ex:Option Addr) (ox:Nat) (fx:Option Addr) (px:Nat) (hk:SlR 3 RTm Df W (.slice ax x.term.kids.length nx) x.term.kids) (ht:SlR 10 RSt Df W (.slice bx x.thn.length mx) x.thn) :
  Calls Tryz.prog 154 #[.pointer (some ⟨bm,0,none⟩),.agg #[.int .i64 x.act,.int .i64 x.cost,.int .i64 x.var,.int .i64 x.n,.int .i64 x.term.op,.int .i64 x.term.n,.slice ax x.term.kids.length nx,.slice bx x.thn.length mx,.slice ex x.els.length ox,.slice fx x.bounds.length px]] W (Ret fun r w'=>r=.tuple #[]/\MachPost W w' bm v1 v2 v3 vv hv ov (qf (exL f hs x.thn) x.cost x.term x.n.toNat σ)):=by
 have hDf:∀ q,Df q->q<W.heap.size:=fun q h=>hDb q (.inl h)
 have hDh:∀ q,Dh q->q<W.heap.size:=fun q h=>hDb q (.inr h)
 have hlow:∀ q,Df q->q<W.heap.size->¬ HS (jm bm v1 v2 v3 vv hv ov σ) q:=fun q h _ h'=>(hD q (machHS.1 h')).1 h
 have hlow2:∀ q,Dh q->q<W.heap.size->¬ HS (jm bm v1 v2 v3 vv hv ov σ) q:=fun q h _ h'=>(hD q (machHS.1 h')).2 h
 refine zmb Tryz.func154 O Tryz.ntmps154 O (zn0 [(900,.own bm [v1,v2,v3,vv,hv,ov,.int .i64 (σ).time] 158),(901,.row 3 1 vv (σ).vals.length ((σ).vals.map zd)),(902,.row 3 1 ov (σ).outs.length ((σ).outs.map zd))] hM.lent.1 hM.lent.2 ?_)
 refine zms 0 900 0 O O ?_
 refine Vs 2 O ?_
 refine V.box 3 O O (fun b3=>?_)
 refine Vs 10 O ?_
 refine zmL (σ:=Nat × Sg × Value) [0,3,5] [3] [0,3] O (fun e ⟨k,s,ov'⟩=>(6,.int .i64 k)::e) (fun e ⟨k,s,ov'⟩=>(900,.own bm [v1,v2,v3,vv,hv,ov',.int .i64 (s).time] 158)::(901,.row 3 1 vv (s).vals.length ((s).vals.map zd))::(902,.row 3 1 ov' (s).outs.length ((s).outs.map zd))::e) (fun⟨k,s,ov'⟩=>k<=x.n.toNat/\qf (exL f hs x.thn) x.cost x.term (x.n.toNat - k) s=qf (exL f hs x.thn) x.cost x.term x.n.toNat σ/\SgB f (N+k*(1+nbL x.thn)) s/\(ov'.ownBlock=ov.ownBlock\/∃ g,ov'.ownBlock=some g/\W.heap.size<=g)) (fun⟨k,s,ov'⟩=>x.n.toNat - k) ((0,σ,ov)) (zlO O) (zlP O) (fun _=>rfl) (fun _=>rfl) (fun _=>rfl) (⟨zo8 _,by rw [Nat.sub_zero],by rw [Nat.zero_mul];exact hB,.inl rfl⟩) ?_
 rintro⟨k,s,ov'⟩ ⟨hk1,hall,hsB,hov⟩
 show V _ _ _ _ _ ((6,.int .i64 k)::_) _ ((900,.own bm [v1,v2,v3,vv,hv,ov',.int .i64 (s).time] 158)::(901,.row 3 1 vv (s).vals.length ((s).vals.map zd))::(902,.row 3 1 ov' (s).outs.length ((s).outs.map zd))::_) _
 have hcost:=ho.cost
 have ht0:=hsB.t0
 have ht1:=hsB.t1
 refine Vs 6 O ?_
 refine zk7 O (fun hlt=>?_) (fun hlt=>?_)
 ·
  obtain⟨m,hm⟩:∃ m,x.n.toNat - k=m+1:=⟨x.n.toNat - k - 1,by omega⟩
  have hm':x.n.toNat - (k+1)=m:=by omega
  have hkn:(k+1)*(1+nbL x.thn)<=x.n.toNat*(1+nbL x.thn):=Nat.mul_le_mul_right _ (by omega)
  rw [Nat.succ_mul] at hkn
  have hkb:k<=k*(1+nbL x.thn):=Nat.le_mul_of_pos_right _ (by omega)
  rw [hm,qf] at hall
  have hs1':=hsB.cost ho
  refine Vs 5 O ?_
  refine Vw [3,900] [9] O ?_
  refine Vb [0,1,2,3,4,5,6,7,8] 0 (by kernel_rfl) O O O (by omega) ?_
  refine Vl 9 O (by kernel_rfl) O ?_
  refine zlc (by kernel_rfl) ?_
  refine Vs 3 O ?_
  refine Vw [3,900] [] O ?_
  refine Vd [0,1,2,3,4,5] 0 (by kernel_rfl) O O O ?_
  refine zmC 6 0 tc153 O (by kernel_rfl) O O (fun w hI=>jJ hg hsB.inv x.term ho.formed ho.ranged _ Df (fun _=>True) w _ (zlh zd (fun _ _=>rfl) (hI.at 901 O) (fun _ _=>trivial)) (RTm.put (hk.keep zp hI.k0 hlow))) ?_
  refine Vd [7] 0 (by kernel_rfl) O O O ?_
  refine zlb (by kernel_rfl) ?_
  refine Vs 1 O ?_
  refine zk7 O (fun z=>?_) (fun z=>?_)
  ·
   rw [zo4 z] at hall
   rw [<- hall]
   refine Vs 6 O ?_
   refine zkI Tryz.results154 (fun w hI=>⟨_,rfl,rfl,kX hI O O O hov⟩)
  ·
   rw [zo3 z] at hall
   refine Vs 6 O ?_
   refine zn1 [900,901,902] (Hn:=fun ov'':Value=>[(900,.own bm [v1,v2,v3,vv,hv,ov'',.int .i64 (exL f hs x.thn { s with time:=s.time+x.cost }).time] 158),(901,.row 3 1 vv (exL f hs x.thn { s with time:=s.time+x.cost }).vals.length ((exL f hs x.thn { s with time:=s.time+x.cost }).vals.map zd)),(902,.row 3 1 ov'' (exL f hs x.thn { s with time:=s.time+x.cost }).outs.length ((exL f hs x.thn { s with time:=s.time+x.cost }).outs.map zd))]) [(0,some (900,0)),(3,some (3,0)),(8,some (900,0)),(9,some (900,0)),(10,some (900,6)),(12,some (3,1)),(15,some (900,0)),(16,some (900,6)),(17,some (900,0)),(18,some (900,0)),(19,some (900,3)),(21,some (3,4)),(25,some (900,0)),(26,some (3,7))] Tryz.call123 O (fun _ _=>rfl) (fun _=>rfl) (fun w hI=>jn (σ:={ s with time:=s.time+x.cost }) (ih _ { s with time:=s.time+x.cost } hs1' (by omega) Df Dh w bm v1 v2 v3 vv hv ov' _ (fun q hq=>Nat.lt_of_lt_of_le (hDb q hq) (hI.k0).size) (hf.keep hI.k0 hlow) (hh.keep zc hI.k0 hlow2) (ht.keep zf hI.k0 hlow) (kI hI O O O) (fun q hq=>⟨yT (fun q h=>(hD q h).1) hDf hov q hq,yT (fun q h=>(hD q h).2) hDh hov q hq⟩)) (hI.k0).size O O O) ?_
   rintro _ ov'' ⟨rfl,hov2⟩
   refine Va 7 O (by omega) ?_
   refine zki (⟨k+1,_,ov''⟩) (zlO O) (zlP O) (⟨by omega,by rw [hm'];exact hall,(zaI hg x.thn hp _ _ hs1').mono (by rw [Nat.succ_mul];omega),xr hov hov2⟩) (by first | omega | (dsimp only;omega)) 0 O O
 ·
  have hkk:k=x.n.toNat:=by omega
  rw [hkk,Nat.sub_self,qf] at hall
  rw [<- hall]
  refine Vs 4 O ?_
  refine zkF Tryz.results154 (fun w hI=>⟨_,rfl,rfl,kX hI O O O hov⟩)
theorem zid (f:Fl) (hs:List Int) (hg:∀ v ∈ f.vars,yp (v.low,v.high)) (hlen:hs.length=f.hatches.length) (_:f.vars.length<=1000) (l:List St):PreOk f l->zj5 f hs l:=by
 induction l using zlH with
 | h l ih =>
 intro hp N σ hB hN Df Dh W bm v1 v2 v3 vv hv ov lv hDb hf hh hl hM hD
 obtain⟨al,cl,rfl⟩:=hl.form
 obtain⟨ahv,chv,rfl⟩:=hh.form
 have hlm:=hl.max
 have hDf:∀ q,Df q->q<W.heap.size:=fun q h=>hDb q (.inl h)
 have hDh:∀ q,Dh q->q<W.heap.size:=fun q h=>hDb q (.inr h)
 have hlow:∀ q,Df q->q<W.heap.size->¬ HS (jm bm v1 v2 v3 vv (.slice ahv hs.length chv) ov σ) q:=fun q h _ h'=>(hD q (machHS.1 h')).1 h
 have hlow2:∀ q,Dh q->q<W.heap.size->¬ HS (jm bm v1 v2 v3 vv (.slice ahv hs.length chv) ov σ) q:=fun q h _ h'=>(hD q (machHS.1 h')).2 h
 have hlow':∀ q,HS (jm bm v1 v2 v3 vv (.slice ahv hs.length chv) ov σ) q->¬ Df q:=fun q h=>(hD q (machHS.1 h)).1
 have hlow2':∀ q,HS (jm bm v1 v2 v3 vv (.slice ahv hs.length chv) ov σ) q->¬ Dh q:=fun q h=>(hD q (machHS.1 h)).2
 refine zmb Tryz.func123 O Tryz.ntmps123 O (zn0 [(900,.own bm [v1,v2,v3,vv,.slice ahv hs.length chv,ov,.int .i64 (σ).time] 158),(901,.row 3 1 vv (σ).vals.length ((σ).vals.map zd)),(902,.row 3 1 ov (σ).outs.length ((σ).outs.map zd))] hM.lent.1 hM.lent.2 ?_)
 refine zms 0 900 0 O O ?_
 refine Vs 8 O ?_
 refine zmL (σ:=Nat × Sg × Value) [0,6,7] [] [0] O (fun e ⟨i,s,ov'⟩=>(8,.int .i64 i)::e) (fun e ⟨i,s,ov'⟩=>(900,.own bm [v1,v2,v3,vv,.slice ahv hs.length chv,ov',.int .i64 (s).time] 158)::(901,.row 3 1 vv (s).vals.length ((s).vals.map zd))::(902,.row 3 1 ov' (s).outs.length ((s).outs.map zd))::e) (fun⟨i,s,ov'⟩=>i<=l.length/\s=exL f hs (l.take i) σ/\SgB f (N+nbL (l.take i)) s/\(ov'.ownBlock=ov.ownBlock\/∃ g,ov'.ownBlock=some g/\W.heap.size<=g)) (fun⟨i,s,ov'⟩=>l.length - i) ((0,σ,ov)) (zlO O) (zlP O) (fun _=>rfl) (fun _=>rfl) (fun _=>rfl) (⟨zo8 _,rfl,hB,.inl rfl⟩) ?_
 rintro⟨i,s,ov'⟩ ⟨hi,hall,hsB,hov⟩
 show V _ _ _ _ _ ((8,.int .i64 i)::_) _ ((900,.own bm [v1,v2,v3,vv,.slice ahv hs.length chv,ov',.int .i64 (s).time] 158)::(901,.row 3 1 vv (s).vals.length ((s).vals.map zd))::(902,.row 3 1 ov' (s).outs.length ((s).outs.map zd))::_) _
 have ht0:=hsB.t0
 have ht1:=hsB.t1
 have hol:=hsB.ol
 refine Vs 6 O ?_
 refine zk7 O (fun hlt=>?_) (fun hlt=>?_)
 ·
  refine Vs 6 O ?_
  obtain⟨x,he_x,hm_x⟩:=gE_ l (i) (by omega)
  obtain⟨b_x,o_x,c_x,ha_x,hd_x,hc_x,hR_x⟩:=hl.atD he_x
  obtain⟨v1_x,v2_x,v3_x,v4_x,rfl,hk_x,ht_x,hs_x,hb_x⟩:=hR_x.get
  obtain⟨a1_x,n1_x,rfl⟩:=hk_x.form
  obtain⟨a2_x,n2_x,rfl⟩:=ht_x.form
  obtain⟨a3_x,n3_x,rfl⟩:=hs_x.form
  obtain⟨a4_x,n4_x,rfl⟩:=hb_x.form
  refine zmJ 1000 0 O O (fun h_=>by have h1_:=hlow' _ h_;have h2_:=hd_x;first | omega | exact h1_ h2_) hc_x ?_
  refine V.ix 1000 tR24 ts92 O ha_x (by omega) (_) (rfl) O ?_
  obtain⟨⟨ho,hse,hn4⟩,hp1,hp2⟩:=hp.kids hm_x
  obtain⟨i1,i2⟩:=ih x hm_x
  have hcost:=ho.cost
  have hnx:nbL (l.take (i+1))=nbL (l.take i)+nbS x:=by rw [zg he_x,ki];rfl
  have hnl:nbL (l.take (i+1))<=nbL l:=zgZ l (i+1)
  have hnx1:=zic x
  have hex:exL f hs (l.take (i+1)) σ=exS f hs x s:=by rw [zg he_x,zbj,<- hall];rfl
  have hnS:=zdZ x
  have hinv:SgB f (N+nbL (l.take (i+1))) (exS f hs x s):=by
   rw [<- hex]
   exact zaI hg _ (fun s hs=>hp s (by rw [<- List.take_append_drop (i+1) l,jh];simp [hs])) N σ hB
  have hs1':=hsB.cost ho
  have hi1:i+1<=l.length:=by omega
  refine Vs 1 O ?_
  refine V.alloc 5 tz92 O O (fun b5=>?_)
  refine Vs 11 O ?_
  refine zk7 O (fun a4=>?_) (fun a4=>?_)
  ·
   rw [zo3 (by omega),zo4 a4] at hnS
   have hx:exS f hs x s=qf (exL f hs x.thn) x.cost x.term x.n.toNat s:=by rw [jK,zo3 (by omega),zo4 a4]
   refine Vs 4 O ?_
   refine zn1 [900,901,902] (Hn:=fun ov'':Value=>[(900,.own bm [v1,v2,v3,vv,.slice ahv hs.length chv,ov'',.int .i64 (qf (exL f hs x.thn) x.cost x.term x.n.toNat s).time] 158),(901,.row 3 1 vv (qf (exL f hs x.thn) x.cost x.term x.n.toNat s).vals.length ((qf (exL f hs x.thn) x.cost x.term x.n.toNat s).vals.map zd)),(902,.row 3 1 ov'' (qf (exL f hs x.thn) x.cost x.term x.n.toNat s).outs.length ((qf (exL f hs x.thn) x.cost x.term x.n.toNat s).outs.map zd))]) [(0,some (900,0)),(5,some (5,0)),(10,some (1000,0)),(12,some (5,0)),(15,some (900,0))] Tryz.call154 O (fun _ _=>rfl) (fun _=>rfl) (fun w hI=>jn (σ:=s) (zh0 f hs hg x ho (hn4 a4) hp1 (i1 hp1) _ s hsB (by omega) Df Dh w bm v1 v2 v3 vv _ ov' (fun q hq=>Nat.lt_of_lt_of_le (hDb q hq) (hI.k0).size) (hf.keep hI.k0 hlow) (hh.keep zc hI.k0 hlow2) (kI hI O O O) (fun q hq=>⟨yT (fun q h=>(hD q h).1) hDf hov q hq,yT (fun q h=>(hD q h).2) hDh hov q hq⟩) _ _ _ _ _ _ _ _ (hk_x.keep zp hI.k0 hlow) (ht_x.keep zf hI.k0 hlow)) (hI.k0).size O O O) ?_
   rintro _ ov'' ⟨rfl,hov2⟩
   refine Va 10 O (by omega) ?_
   refine zki (⟨i+1,_,ov''⟩) (zlO O) (zlP O) (⟨hi1,by rw [hex,hx],by rw [<- hx];exact hinv,xr hov hov2⟩) (by first | omega | (dsimp only;omega)) 0 O O
  ·
   refine Vs 3 O ?_
   refine Vw [900,1000,5] [9] O ?_
   refine Vb [0,1,2,3,4,5,6,7,8] 0 (by kernel_rfl) O O O (by omega) ?_
   refine Vl 9 O (by kernel_rfl) O ?_
   refine zlc (by kernel_rfl) ?_
   refine Vs 14 O ?_
   refine zk7 O (fun a0=>?_) (fun a0=>?_)
   ·
    have hx:exS f hs x s={ s with vals:=zb7 f.vars s.vals x.var (qq s.vals x.term),time:=s.time+x.cost }:=by rw [jK,zo3 (by omega),zo3 a4];unfold jk;rw [zo4 a0]
    have hvar:=ho.var (.inl a0)
    refine Vw [1000,5] [] O ?_
    refine Vd [0,1,2,3,4,5,7,8] 0 (by kernel_rfl) O O O ?_
    refine Vo 6 0 O (by kernel_rfl) O O ?_
    refine zmC 9 0 tc153 O (by kernel_rfl) O O (fun w hI=>jJ hg hsB.inv x.term ho.formed ho.ranged _ Df (fun _=>True) w _ (zlh zd (fun _ _=>rfl) (hI.at 901 O) (fun _ _=>trivial)) (RTm.put (hk_x.keep zp hI.k0 hlow))) ?_
    refine zn2 10 0 [900,901,902] (Hn:=fun ov'':Value=>[(900,.own bm [v1,v2,v3,vv,.slice ahv hs.length chv,ov'',.int .i64 ({ s with vals:=zb7 f.vars s.vals x.var (qq s.vals x.term),time:=s.time+x.cost }).time] 158),(901,.row 3 1 vv ({ s with vals:=zb7 f.vars s.vals x.var (qq s.vals x.term),time:=s.time+x.cost }).vals.length (({ s with vals:=zb7 f.vars s.vals x.var (qq s.vals x.term),time:=s.time+x.cost }).vals.map zd)),(902,.row 3 1 ov'' ({ s with vals:=zb7 f.vars s.vals x.var (qq s.vals x.term),time:=s.time+x.cost }).outs.length (({ s with vals:=zb7 f.vars s.vals x.var (qq s.vals x.term),time:=s.time+x.cost }).outs.map zd))]) [(0,some (900,0)),(5,some (5,0)),(10,some (1000,0)),(12,some (5,0)),(18,some (900,0)),(19,some (900,0)),(20,some (900,6)),(22,some (5,1)),(25,some (900,0)),(26,some (900,6)),(27,some (5,0)),(31,some (900,0)),(32,some (5,2)),(34,some (900,0)),(35,some (900,0)),(36,some (900,3)),(38,some (5,4))] Tryz.call155 O (by kernel_rfl) O O (fun _=>rfl) (fun _ _=>rfl) (fun _=>rfl) (fun w hI=>jn (σ:={ s with time:=s.time+x.cost }) (zfy f { s with time:=s.time+x.cost } x.var (qq s.vals x.term) v1 v2 v3 vv _ ov' Df bm w (hf.keep hI.k0 hlow) (kI hI O O O) (yT (fun q h=>(hD q h).1) hDf hov) hvar hsB.inv.len hg) (hI.k0).size O O O) ?_
    rintro _ ov'' ⟨rfl,hov2⟩
    refine zlb (by kernel_rfl) ?_
    refine Va 7 O (by omega) ?_
    refine zki (⟨i+1,_,ov''⟩) (zlO O) (zlP O) (⟨hi1,by rw [hex,hx],by rw [<- hx];exact hinv,xr hov hov2⟩) (by first | omega | (dsimp only;omega)) 0 O O
   ·
    refine Vs 6 O ?_
    refine zk7 O (fun a1=>?_) (fun a1=>?_)
    ·
     have hx:exS f hs x s={ s with outs:=s.outs++[qq s.vals x.term],time:=s.time+x.cost }:=by rw [jK,zo3 (by omega),zo3 a4];unfold jk;rw [zo3 a0,zo4 a1]
     refine Vw [900,1000,5] [16] O ?_
     refine Vd [0,1,2,3,4,5,6,7,8,9,10] 0 (by kernel_rfl) O O O ?_
     refine zmC 11 0 tc153 O (by kernel_rfl) O O (fun w hI=>jJ hg hsB.inv x.term ho.formed ho.ranged _ Df (fun _=>True) w _ (zlh zd (fun _ _=>rfl) (hI.at 901 O) (fun _ _=>trivial)) (RTm.put (hk_x.keep zp hI.k0 hlow))) ?_
     refine zmP 12 56 0 [(0,_)] tR27 ts3 tz3 (by decide) O (by kernel_rfl) O O (by kernel_rfl) (fun b56=>?_)
     refine zmw 13 902 56 0 tu27 Tryz.el3 O (by decide) O (by kernel_rfl) O O O (by omega) (by omega) (fun u902=>?_)
     refine Vd [14,15] 0 (by kernel_rfl) O O O ?_
     refine zmy 902 O (by omega) ?_
     rintro bo co rfl hcap_902
     refine Vl 16 O (by kernel_rfl) O ?_
     refine zlc (by kernel_rfl) ?_
     refine Va 7 O (by omega) ?_
     refine zmK 902 O (e':=.row 3 1 (.slice (some ⟨bo,0,none⟩) (s.outs.length+1) co) (s.outs++[qq s.vals x.term]).length ((s.outs++[qq s.vals x.term]).map zd)) (by rw [zo1,List.map_append];rfl) ?_
     refine zmn (p:=(Value.slice (some ⟨bo,0,none⟩) (s.outs.length+1) co).ownBlock=ov.ownBlock\/∃ g,(Value.slice (some ⟨bo,0,none⟩) (s.outs.length+1) co).ownBlock=some g/\W.heap.size<=g) (fun w hI=>zj4 (σ:={ s with outs:=s.outs++[qq s.vals x.term],time:=s.time+x.cost }) hI O O O O) (fun hov2=>?_)
     refine zki (⟨i+1,{ s with outs:=s.outs++[qq s.vals x.term],time:=s.time+x.cost },_⟩) (zlO O) (zlP O) (⟨hi1,by rw [hex,hx],by rw [<- hx];exact hinv,hov2⟩) (by first | omega | (dsimp only;omega)) 0 O O
    ·
     refine Vs 6 O ?_
     refine zk7 O (fun a3=>?_) (fun a3=>?_)
     ·
      have hx:=jK f hs x s
      rw [zo4 a3] at hx
      rw [zo4 a3] at hnS
      refine Vs 1 O ?_
      refine Vw [900,1000,5] [] O ?_
      refine Vd [0,1,2,3,4,5] 0 (by kernel_rfl) O O O ?_
      refine zmC 6 0 tc153 O (by kernel_rfl) O O (fun w hI=>jJ hg hsB.inv x.term ho.formed ho.ranged _ Df (fun _=>True) w _ (zlh zd (fun _ _=>rfl) (hI.at 901 O) (fun _ _=>trivial)) (RTm.put (hk_x.keep zp hI.k0 hlow))) ?_
      refine Vd [7] 0 (by kernel_rfl) O O O ?_
      refine zlb (by kernel_rfl) ?_
      refine Vs 1 O ?_
      refine zk7 O (fun z=>?_) (fun z=>?_)
      ·
       rw [zo4 z] at hx
       refine Vs 4 O ?_
       refine zn1 [900,901,902] (Hn:=fun ov'':Value=>[(900,.own bm [v1,v2,v3,vv,.slice ahv hs.length chv,ov'',.int .i64 (exL f hs x.thn { s with time:=s.time+x.cost }).time] 158),(901,.row 3 1 vv (exL f hs x.thn { s with time:=s.time+x.cost }).vals.length ((exL f hs x.thn { s with time:=s.time+x.cost }).vals.map zd)),(902,.row 3 1 ov'' (exL f hs x.thn { s with time:=s.time+x.cost }).outs.length ((exL f hs x.thn { s with time:=s.time+x.cost }).outs.map zd))]) [(0,some (900,0)),(5,some (5,0)),(10,some (1000,0)),(12,some (5,0)),(18,some (900,0)),(19,some (900,0)),(20,some (900,6)),(22,some (5,1)),(25,some (900,0)),(26,some (900,6)),(27,some (5,0)),(62,some (900,0)),(63,some (900,0)),(64,some (900,3)),(66,some (5,4)),(70,some (900,0)),(71,some (5,7))] Tryz.call123 O (fun _ _=>rfl) (fun _=>rfl) (fun w hI=>jn (σ:={ s with time:=s.time+x.cost }) (i1 hp1 _ { s with time:=s.time+x.cost } hs1' (by omega) Df Dh w bm v1 v2 v3 vv _ ov' _ (fun q hq=>Nat.lt_of_lt_of_le (hDb q hq) (hI.k0).size) (hf.keep hI.k0 hlow) (hh.keep zc hI.k0 hlow2) (ht_x.keep zf hI.k0 hlow) (kI hI O O O) (fun q hq=>⟨yT (fun q h=>(hD q h).1) hDf hov q hq,yT (fun q h=>(hD q h).2) hDh hov q hq⟩)) (hI.k0).size O O O) ?_
       rintro _ ov'' ⟨rfl,hov2⟩
       refine Va 8 O (by omega) ?_
       refine zki (⟨i+1,_,ov''⟩) (zlO O) (zlP O) (⟨hi1,by rw [hex,hx],by rw [<- hx];exact hinv,xr hov hov2⟩) (by first | omega | (dsimp only;omega)) 0 O O
      ·
       rw [zo3 z] at hx
       refine Vs 4 O ?_
       refine zn1 [900,901,902] (Hn:=fun ov'':Value=>[(900,.own bm [v1,v2,v3,vv,.slice ahv hs.length chv,ov'',.int .i64 (exL f hs x.els { s with time:=s.time+x.cost }).time] 158),(901,.row 3 1 vv (exL f hs x.els { s with time:=s.time+x.cost }).vals.length ((exL f hs x.els { s with time:=s.time+x.cost }).vals.map zd)),(902,.row 3 1 ov'' (exL f hs x.els { s with time:=s.time+x.cost }).outs.length ((exL f hs x.els { s with time:=s.time+x.cost }).outs.map zd))]) [(0,some (900,0)),(5,some (5,0)),(10,some (1000,0)),(12,some (5,0)),(18,some (900,0)),(19,some (900,0)),(20,some (900,6)),(22,some (5,1)),(25,some (900,0)),(26,some (900,6)),(27,some (5,0)),(62,some (900,0)),(63,some (900,0)),(64,some (900,3)),(66,some (5,4)),(74,some (900,0)),(75,some (5,8))] Tryz.call123 O (fun _ _=>rfl) (fun _=>rfl) (fun w hI=>jn (σ:={ s with time:=s.time+x.cost }) (i2 hp2 _ { s with time:=s.time+x.cost } hs1' (by omega) Df Dh w bm v1 v2 v3 vv _ ov' _ (fun q hq=>Nat.lt_of_lt_of_le (hDb q hq) (hI.k0).size) (hf.keep hI.k0 hlow) (hh.keep zc hI.k0 hlow2) (hs_x.keep zf hI.k0 hlow) (kI hI O O O) (fun q hq=>⟨yT (fun q h=>(hD q h).1) hDf hov q hq,yT (fun q h=>(hD q h).2) hDh hov q hq⟩)) (hI.k0).size O O O) ?_
       rintro _ ov'' ⟨rfl,hov2⟩
       refine Va 8 O (by omega) ?_
       refine zki (⟨i+1,_,ov''⟩) (zlO O) (zlP O) (⟨hi1,by rw [hex,hx],by rw [<- hx];exact hinv,xr hov hov2⟩) (by first | omega | (dsimp only;omega)) 0 O O
     ·
      refine Vs 6 O ?_
      refine zk7 O (fun a5=>?_) (fun a5=>?_)
      ·
       have hx:exS f hs x s={ s with vals:=zb7 f.vars s.vals x.var (lki hs x.n.toNat),time:=s.time+x.cost }:=by rw [jK,zo3 (by omega),zo3 a4];unfold jk;rw [zo3 a0,zo3 a1,zo4 a5]
       have hvar:=ho.var (.inr a5)
       have hnum:=ho.num a5
       obtain⟨y,he_y,hm_y⟩:=gE_ hs (x.n.toNat) (by omega)
       obtain⟨b_y,o_y,c_y,ha_y,hd_y,hc_y,hR_y⟩:=hh.atD he_y
       obtain rfl:=hR_y
       refine zmJ 2000 0 O O (fun h_=>by have h1_:=hlow2' _ h_;have h2_:=hd_y;first | omega | exact h1_ h2_) hc_y ?_
       have hy:lki hs x.n.toNat=y:=zhI he_y
       rw [hy] at hx
       refine Vw [1000,5,2000] [] O ?_
       refine Vd [0,1,2,3,4,5,7,8] 0 (by kernel_rfl) O O O ?_
       refine Vo 6 0 O (by kernel_rfl) O O ?_
       refine VD.ix 9 2000 tR27 ts3 O (by kernel_rfl) O ha_y (by omega) (x.n.toNat) (by omega) O ?_
       refine Vd [10] 0 (by kernel_rfl) O O O ?_
       refine zn2 11 0 [900,901,902] (Hn:=fun ov'':Value=>[(900,.own bm [v1,v2,v3,vv,.slice ahv hs.length chv,ov'',.int .i64 ({ s with vals:=zb7 f.vars s.vals x.var (y),time:=s.time+x.cost }).time] 158),(901,.row 3 1 vv ({ s with vals:=zb7 f.vars s.vals x.var (y),time:=s.time+x.cost }).vals.length (({ s with vals:=zb7 f.vars s.vals x.var (y),time:=s.time+x.cost }).vals.map zd)),(902,.row 3 1 ov'' ({ s with vals:=zb7 f.vars s.vals x.var (y),time:=s.time+x.cost }).outs.length (({ s with vals:=zb7 f.vars s.vals x.var (y),time:=s.time+x.cost }).outs.map zd))]) [(0,some (900,0)),(5,some (5,0)),(10,some (1000,0)),(12,some (5,0)),(18,some (900,0)),(19,some (900,0)),(20,some (900,6)),(22,some (5,1)),(25,some (900,0)),(26,some (900,6)),(27,some (5,0)),(80,some (900,0)),(81,some (5,2)),(83,some (900,0)),(84,some (900,0)),(85,some (900,4)),(87,some (5,3)),(89,some (2000,0))] Tryz.call155 O (by kernel_rfl) O O (fun _=>rfl) (fun _ _=>rfl) (fun _=>rfl) (fun w hI=>jn (σ:={ s with time:=s.time+x.cost }) (zfy f { s with time:=s.time+x.cost } x.var (y) v1 v2 v3 vv _ ov' Df bm w (hf.keep hI.k0 hlow) (kI hI O O O) (yT (fun q h=>(hD q h).1) hDf hov) hvar hsB.inv.len hg) (hI.k0).size O O O) ?_
       rintro _ ov'' ⟨rfl,hov2⟩
       refine zlb (by kernel_rfl) ?_
       refine Va 7 O (by omega) ?_
       refine zki (⟨i+1,_,ov''⟩) (zlO O) (zlP O) (⟨hi1,by rw [hex,hx],by rw [<- hx];exact hinv,xr hov hov2⟩) (by first | omega | (dsimp only;omega)) 0 O O
      ·
       refine Vs 6 O ?_
       refine zk7 O (fun a6=>?_) (fun a6=>?_)
       ·
        have hx:exS f hs x s={ s with time:=qG x.bounds (s.time+x.cost) }:=by rw [jK,zo3 (by omega),zo3 a4];unfold jk;rw [zo3 a0,zo3 a1,zo3 a5,zo4 a6]
        refine Vw [900,1000,5] [10] O ?_
        refine Vd [0,1,2,3,4,5,6] 0 (by kernel_rfl) O O O ?_
        refine zmC 7 0 Tryz.call156 O (by kernel_rfl) O O (fun w hI=>zb6 x.bounds (s.time+x.cost) _ Df w (hb_x.keep zc hI.k0 hlow)) ?_
        refine Vd [8,9] 0 (by kernel_rfl) O O O ?_
        refine Vl 10 O (by kernel_rfl) O ?_
        refine zlc (by kernel_rfl) ?_
        refine Va 7 O (by omega) ?_
        refine zki (⟨i+1,{ s with time:=qG x.bounds (s.time+x.cost) },ov'⟩) (zlO O) (zlP O) (⟨hi1,by rw [hex,hx],by rw [<- hx];exact hinv,hov⟩) (by first | omega | (dsimp only;omega)) 0 O O
       ·
        have hx:exS f hs x s={ s with time:=s.time+x.cost }:=by rw [jK,zo3 (by omega),zo3 a4];unfold jk;rw [zo3 a0,zo3 a1,zo3 a5,zo3 a6]
        refine Va 8 O (by omega) ?_
        refine zki (⟨i+1,{ s with time:=s.time+x.cost },ov'⟩) (zlO O) (zlP O) (⟨hi1,by rw [hex,hx],by rw [<- hx];exact hinv,hov⟩) (by first | omega | (dsimp only;omega)) 0 O O
 ·
  have hii:i=l.length:=by omega
  subst hii
  rw [znY] at hall
  subst hall
  refine Vs 4 O ?_
  refine zkF Tryz.results123 (fun w hI=>⟨_,rfl,rfl,kX hI O O O hov⟩)
def LeftOk (D:Nat->Prop) (W:World) (r:Ins) (s:StS) (q:Int->Value):Prop:=∀ k,1<=k->k<=3->SlR 1 zB D W (q k) ((qr r k).drop (zaF s k))
theorem zaK {w:World} {b:Nat} {z:Value} {q:Int->Value} {e:TypeId} {k:Int} (h:Blk w b [z,q 1,q 2,q 3] e) (hk:1<=k/\k<=3):w.cell? ⟨b,0+k.toNat*1,none⟩=some (q k):=by
 have h1:=Blk.cells h 1 _ rfl
 have h2:=Blk.cells h 2 _ rfl
 have h3:=Blk.cells h 3 _ rfl
 rcases (show k=1\/k=2\/k=3 by omega) with rfl | rfl | rfl
 . exact h1
 . exact h2
 . exact h3
theorem zh1 {z u:Value} {q:Int->Value} {k:Int} (hk:1<=k/\k<=3):[z,q 1,q 2,q 3].set k.toNat u=[z,(if 1=k then u else q 1),(if 2=k then u else q 2),(if 3=k then u else q 3)]:=by
 rcases (show k=1\/k=2\/k=3 by omega) with rfl | rfl | rfl <;> rfl
theorem zcI {prev:List Vr} {v:Vr} (h:zI prev v=0) (hk:v.kind=0):v.low<=v.init/\v.init<=v.high:=by
 unfold zI at h
 split at h
 . cases h
 split at h
 . cases h
 split at h
 . cases h
 split at h
 . cases h
 split at h
 . cases h
 ·
  rename_i h5
  omega
theorem zfz {r:Ins} {s:StS} {x:Vr} (h:x.kind=0):zx r (some s) x=some ⟨s.vals++[x.init],s.a,s.b,s.c⟩:=by simp [zx,h]
theorem zh2 {r:Ins} {s:StS} {k:Int} (_:1<=k/\k<=3) {l:List Int} (hl:(qr r k).drop (zaF s k)=l):(qr r k)[zaF s k]?=l[0]?:=by
 rw [<- hl,List.getElem?_drop,Nat.add_zero]
theorem zez {f:Fl} {r:Ins} {i:Nat} {x:Vr} {s s1:StS} (he:f.vars[i]?=some x) (hs:(f.vars.take i).foldl (zx r) (some ⟨[],0,0,0⟩)=some s) (h1:zx r (some s) x=some s1):(f.vars.take (i+1)).foldl (zx r) (some ⟨[],0,0,0⟩)=some s1:=by
 rw [zg he,List.foldl_append,hs];exact h1
theorem Valid.varAt0 {f:Fl} (V:Valid f) {i:Nat} {x:Vr} (he:f.vars[i]?=some x):zI (f.vars.take i) x=0:=by
 have h:=V.ok
 unfold ym at h
 split at h
 . cases h
 split at h
 . rename_i h2;exact absurd h h2
 ·
  rename_i h2
  have h:=zo2.1 h2
  unfold zr at h
  split at h
  . rename_i h2;exact absurd h h2
  ·
   rename_i h2
   rw [<- kV he]
   exact xc f.vars.length 0 (by simpa using h2) i (zo8 _) (by have:=(zo7.1 he).1;omega)
theorem LeftOk.next {D:Nat->Prop} {W:World} {r:Ins} {s:StS} {q:Int->Value} {k y:Int} {aq:Option Addr} {cq:Nat} {rest:List Int} (hL:LeftOk D W r s q) (hk:1<=k/\k<=3) (hr:rest=(qr r k).drop (zaF s k)) (hq:SlR 1 zB D W (.slice aq rest.length cq) rest) (h1:1<=rest.length):LeftOk D W r (kP s k y) (fun j=>if j=k then .slice (if cq=1 then aq else aq.map (·.add (1*1))) (rest.length - 1) (cq - 1) else q j):=by
 intro j hj1 hj3
 have hc:=zcD s hk ⟨hj1,hj3⟩ y
 dsimp only
 by_cases e:j=k
 ·
  subst e
  rw [zo4 rfl] at hc
  rw [zo4 rfl,hc]
  have:=hq.drop 1 h1
  rw [hr,List.drop_drop] at this
  rwa [<- hr] at this
 ·
  rw [zo3 e] at hc
  rw [zo3 e,hc]
  exact hL j hj1 hj3
theorem zbQ {r:Ins} {s:StS} {x:Vr} {y:Int} (h:1<=x.kind/\x.kind<=3) (hy:(qr r x.kind)[zaF s x.kind]?=some y):zx r (some s) x=some (kP s x.kind y):=by
 simp only [zx,Option.bind_some]
 rw [zo3 (by omega),hy];rfl
theorem zfA {r:Ins} {s:StS} {x:Vr} (h:1<=x.kind/\x.kind<=3) (hy:(qr r x.kind)[zaF s x.kind]?=none):zx r (some s) x=none:=by
 simp only [zx,Option.bind_some]
 rw [zo3 (by omega),hy];rfl
theorem zj6 {x:Vr} {y:Int} (h:¬ y<x.low):decide (x.high<y)=(false || !inB (x,y)):=by
 have h1:decide (x.low<=y)=true:=zo5 (by omega)
 simp only [inB,h1,Bool.true_and,Bool.false_or]
 by_cases h2:y<=x.high
 . rw [zo6 (by omega),zo5 h2];rfl
 . rw [zo5 (by omega),zo6 h2];rfl
theorem zie {D:Nat->Prop} {W:World} {r:Ins} {s:StS} {q:Int->Value} (hL:LeftOk D W r s q) {j:Nat} (hj:j<4):∃ (a:Option Addr) (ln c:Nat),[Value.slice none 0 0,q 1,q 2,q 3][j]?=some (.slice a ln c)/\(j=0->ln=0)/\(1<=j->ln=((qr r (j:Int)).drop (zaF s (j:Int))).length):=by
 have key:∀ k:Int,1<=k->k<=3->∃ (a:Option Addr) (c:Nat),q k=.slice a ((qr r k).drop (zaF s k)).length c:=fun k h1 h3=>(hL k h1 h3).form
 obtain⟨a1,c1,h1⟩:=key 1 (by omega) (by omega)
 obtain⟨a2,c2,h2⟩:=key 2 (by omega) (by omega)
 obtain⟨a3,c3,h3⟩:=key 3 (by omega) (by omega)
 rcases (show j=0\/j=1\/j=2\/j=3 by omega) with rfl | rfl | rfl | rfl
 . exact⟨_,_,_,rfl,fun _=>rfl,fun h=>by omega⟩
 . exact⟨a1,_,c1,congrArg some h1,fun h=>by omega,fun _=>rfl⟩
 . exact⟨a2,_,c2,congrArg some h2,fun h=>by omega,fun _=>rfl⟩
 . exact⟨a3,_,c3,congrArg some h3,fun h=>by omega,fun _=>rfl⟩
theorem zeA {f:Fl} {r:Ins} {s:StS} (hS:kH f.vars r=some s) {k:Int} (hk:1<=k/\k<=3) (h:0<((qr r k).drop (zaF s k)).length):zS f.vars r=1:=by
 unfold zS
 rw [hS]
 dsimp only
 unfold kW
 rw [List.length_drop] at h
 rw [zo4]
 rcases (show k=1\/k=2\/k=3 by omega) with rfl | rfl | rfl
 ·
  have h:0<r.secret.length - s.a:=h
  omega
 ·
  have h:0<r.pub.length - s.b:=h
  omega
 ·
  have h:0<r.random.length - s.c:=h
  omega
theorem zfB {f:Fl} {r:Ins} {s:StS} (hS:kH f.vars r=some s) (hkd:∀ v ∈ f.vars,0<=v.kind/\v.kind<=3) (hz:∀ k:Int,1<=k->k<=3->((qr r k).drop (zaF s k)).length=0):zS f.vars r=if (f.vars.zip s.vals).all inB then 0 else 3:=by
 have hle:=zfp hkd f.vars.length s (zoi _) (by rw [znY];exact hS)
 have key:∀ k:Int,1<=k->k<=3->zaF s k=(qr r k).length:=fun k h1 h3=>by
  have h4:=hz k h1 h3
  rw [List.length_drop] at h4
  have:=hle k h1 h3
  omega
 have h1:s.a=r.secret.length:=key 1 (by omega) (by omega)
 have h2:s.b=r.pub.length:=key 2 (by omega) (by omega)
 have h3:s.c=r.random.length:=key 3 (by omega) (by omega)
 unfold zS
 rw [hS]
 dsimp only
 unfold kW
 rw [zo3 (by omega)]
theorem zh3 {H:Hp} {w w0:World} {bm:Nat} {v1 v2 v3 vv hv:Value} {vals hats:List Int} {m:Nat} (hI:VI [(w0,fun _=>False)] H w) (h0:zl H 24=some (.own bm [v1,v2,v3,vv,hv,.slice none 0 0,.int .i64 0] 158)) (h1:zl H 900=some (.row 3 1 vv vals.length (vals.map zd))) (h2:zl H 901=some (.row 3 1 hv m (hats.map zd))):MachOk w bm v1 v2 v3 vv hv (.slice none 0 0) ⟨vals,[],0⟩/\SlR 1 zB (fun b=>hv.ownBlock=some b) w hv hats/\(∀ q,qV bm vv (.slice none 0 0) q\/hv.ownBlock=some q->w0.heap.size<=q/\q<w.heap.size)/\∀ q,qV bm vv (.slice none 0 0) q->hv.ownBlock ≠ some q:=by
 have o0:∀ q,q=bm->w0.heap.size<=q/\q<w.heap.size:=fun q hq=>⟨hI.own 24 0 h0 rfl q hq,hI.low _ (zi h0) q hq⟩
 have o1:∀ q,vv.ownBlock=some q->w0.heap.size<=q/\q<w.heap.size:=fun q hq=>⟨hI.own 900 0 h1 rfl q hq,hI.low _ (zi h1) q hq⟩
 have o2:∀ q,hv.ownBlock=some q->w0.heap.size<=q/\q<w.heap.size:=fun q hq=>⟨hI.own 901 0 h2 rfl q hq,hI.low _ (zi h2) q hq⟩
 refine⟨⟨hI.at 24 h0,hI.at 900 h1,World.ownsRow_nil w 0 _ 1,fun h=>zq hI.apart h0 h1 O bm O h,fun h=>(by cases h),fun q _ h=>(by cases h)⟩,zlh zd (fun _ _=>rfl) (hI.at 901 h2) (fun _ h=>h),?_,?_⟩
 ·
  rintro q ((hq | hq | hq) | hq)
  . exact o0 q hq
  . exact o1 q hq
  . cases hq
  . exact o2 q hq
 ·
  rintro q (hq | hq | hq) hs
  . exact zq hI.apart h0 h2 O q hq hs
  . exact zq hI.apart h1 h2 O q hq hs
  . cases hq
theorem kJ (f:Fl) (r:Ins) (v1 v2 v3 s1 s2 s3:Value) (D:Nat->Prop) (W:World) (hf:RFl D W f v1 v2 v3) (hi1:SlR 1 zB D W s1 r.secret) (hi2:SlR 1 zB D W s2 r.pub) (hi3:SlR 1 zB D W s3 r.random) (hsz:zm f.body+zC f.hatches<=1024) (hbk:zt f.body<=1000000) :
  Calls Tryz.prog 122 #[.agg #[v1,v2,v3],.agg #[s1,s2,s3]] W (Ret fun rr w'=>(∃ rv,rr=.tuple #[rv,.int .i64 (zV f r)]/\(zV f r=0->∃ bm vv hv,rv=.pointer (some ⟨bm,0,none⟩)/\MachOk w' bm v1 v2 v3 vv hv (.slice none 0 0) (jl f r)/\SlR 1 zB (fun b=>hv.ownBlock=some b) w' hv (jb f r)/\(∀ q,qV bm vv (.slice none 0 0) q\/hv.ownBlock=some q->W.heap.size<=q/\q<w'.heap.size)/\∀ q,qV bm vv (.slice none 0 0) q->hv.ownBlock ≠ some q))/\Ext W w'):=by
 have hvs:=hf.vars
 have hht:=hf.hatches
 obtain⟨av,cv,rfl⟩:=hvs.form
 obtain⟨ah,ch,rfl⟩:=hht.form
 have hmx:=hvs.max
 obtain⟨a1,n1,rfl⟩:=hi1.form
 obtain⟨a2,n2,rfl⟩:=hi2.form
 obtain⟨a3,n3,rfl⟩:=hi3.form
 refine zmb Tryz.func122 O Tryz.ntmps122 O (zmm ?_)
 refine Vs 2 O ?_
 refine V.box 2 O O (fun b2=>?_)
 refine V.box 3 O O (fun b3=>?_)
 refine Vs 8 O ?_
 refine zmB Tryz.call60 O (fun w hI=>kG f _ _ v3 D w (Tr1 hI.k0 hf) hsz hbk) ?_
 refine Vs 9 O ?_
 refine zk7 O (fun c0=>?_) (fun c0=>?_)
 ·
  have hp:zV f r=ym f:=zo4 c0
  refine Vs 9 O ?_
  refine zku tr122 O O (fun w hI=>⟨_,rfl,⟨_,by rw [hp],fun h=>absurd (hp ▸ h) c0⟩,hI.k0⟩)
 ·
  have hc0:ym f=0:=zo2.1 c0
  have vd:Valid f:=⟨hc0,hsz,hbk⟩
  have hp:zV f r=zS f.vars r:=zo3 c0
  have hkd:=vd.kinds
  have hl:=vd.lens
  refine Vs 5 O ?_
  refine zmR [Value.slice none 0 0,Value.slice none 0 0,Value.slice none 0 0,Value.slice none 0 0,Value.slice none 0 0,Value.slice none 0 0,Value.int IntKind.i64 0] [(0,3),(3,1),(4,1),(5,1),(6,1)] [(0,_)] O O (fun _=>by kernel_rfl) ?_
  refine V.box 24 O O (fun b24=>?_)
  refine Vs 11 O ?_
  refine zmR [Value.slice none 0 0,Value.slice none 0 0,Value.slice none 0 0,Value.slice none 0 0] [(0,1),(1,1),(2,1),(3,1)] [(1,_),(2,_),(3,_)] O O (fun _=>by kernel_rfl) ?_
  refine V.alloc 8 Tryz.zeroValue191 O O (fun b8=>?_)
  refine Vs 18 O ?_
  refine zmu 900 3 1 O ?_
  refine zmL (σ:=Nat × StS × (Int->Value) × Bool × Value) [2,7,8,33,34] [2] [2,7,8] O (fun e ⟨i,s,q,o,vv⟩=>(35,.int .i64 i)::(9,.bool o)::e) (fun e ⟨i,s,q,o,vv⟩=>(24,.own b24 [.slice av f.vars.length cv,.slice ah f.hatches.length ch,v3,vv,.slice none 0 0,.slice none 0 0,.int .i64 0] 158)::(900,.row 3 1 vv s.vals.length (s.vals.map zd))::(8,.own b8 [.slice none 0 0,q 1,q 2,q 3] 191)::e) (fun⟨i,s,q,o,vv⟩=>i<=f.vars.length/\(f.vars.take i).foldl (zx r) (some ⟨[],0,0,0⟩)=some s/\LeftOk D W r s q/\o=!((f.vars.take i).zip s.vals).all inB) (fun⟨i,s,q,o,vv⟩=>f.vars.length - i) ((0,⟨[],0,0,0⟩,fun k=>if k=1 then .slice a1 r.secret.length n1 else if k=2 then .slice a2 r.pub.length n2 else .slice a3 r.random.length n3,false,.slice none 0 0)) (zlO O) (zlP O) (fun _=>rfl) (fun _=>rfl) (fun _=>rfl) (⟨zo8 _,rfl,fun k h1 h3=>by rcases (show k=1\/k=2\/k=3 by omega) with rfl | rfl | rfl <;> assumption,rfl⟩) ?_
  rintro⟨i,s,q,o,vv⟩ ⟨hi,hS,hL,ho⟩
  show V _ _ _ _ _ ((35,.int .i64 i)::(9,.bool o)::_) _ ((24,.own b24 [.slice av f.vars.length cv,.slice ah f.hatches.length ch,v3,vv,.slice none 0 0,.slice none 0 0,.int .i64 0] 158)::(900,.row 3 1 vv s.vals.length (s.vals.map zd))::(8,.own b8 [.slice none 0 0,q 1,q 2,q 3] 191)::_) _
  refine Vs 6 O ?_
  refine zk7 O (fun hlt=>?_) (fun hlt=>?_)
  ·
   refine Vs 6 O ?_
   obtain⟨x,he_x,hm_x⟩:=gE_ f.vars (i) (by omega)
   obtain⟨b_x,o_x,c_x,ha_x,_,hc_x,hR_x⟩:=hvs.at he_x
   obtain rfl:=hR_x
   refine zmI 1000 0 O O hc_x ?_
   refine V.ix 1000 tR22 ts89 O ha_x (by omega) (_) (rfl) O ?_
   obtain⟨hlv,_⟩:=zbi i s hi hS
   have hkx:=hkd x hm_x
   have hvc:=vd.varAt0 he_x
   refine Vs 1 O ?_
   refine V.alloc 11 tz89 O O (fun b11=>?_)
   refine Vs 11 O ?_
   refine zmM (σ:=Int × (Int->Value) × Bool × StS) [2,7,8,33,34,35] [2,24,900] [2,7,8] O (fun e ⟨n,q',o',s1⟩=>(12,.int .i64 n)::(9,.bool o')::e) (fun e ⟨n,q',o',s1⟩=>(8,.own b8 [.slice none 0 0,q' 1,q' 2,q' 3] 191)::e) (fun⟨n,q',o',s1⟩=>zx r (some s) x=some s1/\s1.vals=s.vals++[n]/\LeftOk D W r s1 q'/\o'=(o || !inB (x,n))) (fun _=>rfl) (fun _=>rfl) ?_ ?_
   ·
    refine Vs 7 O ?_
    refine zk7 O (fun hk=>?_) (fun hk=>?_)
    ·
     have hk3:1<=x.kind/\x.kind<=3:=by omega
     obtain⟨rest,hrest⟩:∃ rest,rest=(qr r x.kind).drop (zaF s x.kind):=⟨_,rfl⟩
     have hq:=hL x.kind hk3.1 hk3.2
     rw [<- hrest] at hq
     obtain⟨aq,cq,hqf⟩:=hq.form
     rw [hqf] at hq
     have hg0:=zh2 hk3 hrest.symm
     refine Va 6 O (by omega) ?_
     refine zm2 O (fun w hI=>R.load tg27 O (v:=.slice aq rest.length cq) (by rw [<- hqf];exact zaK (hI.at 8 O) hk3)) ?_
     refine Vs 4 O ?_
     refine zk7 O (fun z=>?_) (fun z=>?_)
     ·
      have hn:(f.vars.take (i+1)).foldl (zx r) (some ⟨[],0,0,0⟩)=none:=by
       rw [zg he_x,List.foldl_append,hS]
       exact zfA hk3 (by rw [hg0,zoh (by omega)])
      have h1:zS f.vars r=1:=by unfold zS;rw [zdk hn]
      refine Vs 15 O ?_
      refine zku tr122 O O (fun w hI=>⟨_,rfl,⟨_,by rw [hp,h1],fun h=>by rw [hp,h1] at h;cases h⟩,hI.k0⟩)
     ·
      refine Va 7 O (by omega) ?_
      refine zm2 O (fun w hI=>R.load tg27 O (v:=.slice aq rest.length cq) (by rw [<- hqf];exact zaK (hI.at 8 O) hk3)) ?_
      obtain⟨y,he_y,hm_y⟩:=gE_ rest (0) (by omega)
      obtain⟨b_y,o_y,c_y,ha_y,_,hc_y,hR_y⟩:=hq.at he_y
      obtain rfl:=hR_y
      refine zmI 2000 0 O O hc_y ?_
      refine V.ix 2000 tR27 ts3 O ha_y (by omega) (_) (rfl) O ?_
      have hy0:(qr r x.kind)[zaF s x.kind]?=some y:=by rw [hg0,he_y]
      refine Vs 5 O ?_
      refine Vw [2,24,8,1000,11,2000] [8] O ?_
      refine Vb [0,1,2,3,4] 0 (by kernel_rfl) O O O (by omega) ?_
      refine zmV 5 O (by kernel_rfl) O 0 O O (fun w hI=>R.load tg27 O (v:=.slice aq rest.length cq) (by rw [<- hqf];exact zaK (hI.at 8 O) hk3)) ?_
      refine VD.pl 6 O (by kernel_rfl) O (fun w=>zkS tR27 ts3 O O (by omega)) ?_
      refine Vb [7] 0 (by kernel_rfl) O O O (by omega) ?_
      refine zmX 8 8 (x.kind.toNat) ts27 O (by kernel_rfl) O (rfl) (by omega) (by simp;omega) ?_
      refine zlc (by kernel_rfl) ?_
      refine Vs 1 O ?_
      refine zmK 8 O (e':=.own b8 [.slice none 0 0,(if 1=x.kind then (.slice (if cq=1 then aq else aq.map (·.add (1*1))) (rest.length - 1) (cq - 1)) else q 1),(if 2=x.kind then (.slice (if cq=1 then aq else aq.map (·.add (1*1))) (rest.length - 1) (cq - 1)) else q 2),(if 3=x.kind then (.slice (if cq=1 then aq else aq.map (·.add (1*1))) (rest.length - 1) (cq - 1)) else q 3)] 191) (by rw [zh1 hk3];rfl) ?_
      refine Vs 3 O ?_
      refine V.sb 65 O (fun b1=>?_) (fun b1=>?_)
      ·
       subst b1
       refine Vs 13 O ?_
       refine zkn (⟨y,fun j=>if j=x.kind then (.slice (if cq=1 then aq else aq.map (·.add (1*1))) (rest.length - 1) (cq - 1)) else q j,true,kP s x.kind y⟩) (zlO O) (zlP O) (⟨zbQ hk3 hy0,kh _ _ _,hL.next hk3 hrest hq (by omega),rfl⟩) 0 O O
      ·
       subst b1
       refine Vs 6 O ?_
       refine V.sp 71 O (fun b2=>?_) (fun b2=>?_)
       ·
        refine Vs 7 O ?_
        refine zkn (⟨y,fun j=>if j=x.kind then (.slice (if cq=1 then aq else aq.map (·.add (1*1))) (rest.length - 1) (cq - 1)) else q j,true,kP s x.kind y⟩) (zlO O) (zlP O) (⟨zbQ hk3 hy0,kh _ _ _,hL.next hk3 hrest hq (by omega),by simp [inB];omega⟩) 0 O O
       ·
        refine Vs 7 O ?_
        refine zkn (⟨y,fun j=>if j=x.kind then (.slice (if cq=1 then aq else aq.map (·.add (1*1))) (rest.length - 1) (cq - 1)) else q j,decide (x.high<y),kP s x.kind y⟩) (zlO O) (zlP O) (⟨zbQ hk3 hy0,kh _ _ _,hL.next hk3 hrest hq (by omega),zj6 b2⟩) 0 O O
    ·
     refine Vs 1 O ?_
     refine zkn (⟨x.init,q,o,⟨s.vals++[x.init],s.a,s.b,s.c⟩⟩) (zlO O) (zlP O) (⟨zfz (by omega),rfl,hL,by have:=zcI hvc (by omega);simp [inB,this.1,this.2]⟩) 0 O O
   rintro⟨n,q',o',s1⟩ ⟨hst,hsv,hL',ho'⟩
   show V _ _ _ _ _ ((12,.int .i64 n)::(9,.bool o')::_) _ ((8,.own b8 [.slice none 0 0,q' 1,q' 2,q' 3] 191)::_) _
   refine Vs 8 O ?_
   refine zmO 83 [(0,_)] tR27 ts3 tz3 (by decide) O O (by kernel_rfl) (fun b83=>?_)
   refine zmv 900 83 tu27 Tryz.el3 O (by decide) O O (by omega) (by omega) (fun u900=>?_)
   refine Vs 2 O ?_
   refine zmx 900 O (by omega) ?_
   rintro bq cq rfl hcap_900
   refine Va 8 O (by omega) ?_
   refine zmK 900 O (e':=.row 3 1 (.slice (some ⟨bq,0,none⟩) (s.vals.length+1) cq) s1.vals.length (s1.vals.map zd)) (by rw [hsv,zo1,List.map_append];rfl) ?_
   refine zki (⟨i+1,s1,q',o',_⟩) (zlO O) (zlP O) (⟨by omega,zez he_x hS hst,hL',by rw [ho',ho,hsv,zgX he_x s.vals (by omega) n];cases ((f.vars.take i).zip s.vals).all inB <;> cases inB (x,n) <;> rfl⟩) (by first | omega | (dsimp only;omega)) 0 O O
  ·
   obtain rfl:i=f.vars.length:=by omega
   rw [znY] at hS ho
   have hSS:kH f.vars r=some s:=hS
   refine Vs 13 O ?_
   refine zmL (σ:=Nat) [2,7,9,88] [2,24,900] [2,7] O (fun e j=>(89,.int .i64 j)::e) (fun e j=>e) (fun j=>j<=4/\∀ k:Int,1<=k->k<j->k<=3->((qr r k).drop (zaF s k)).length=0) (fun j=>4 - j) (0) (zlO O) (zlP O) (fun _=>rfl) (fun _=>rfl) (fun _=>rfl) (⟨by omega,fun k h1 h2=>by omega⟩) ?_
   rintro j ⟨hj,hzero⟩
   refine Vs 6 O ?_
   refine zk7 O (fun hj4=>?_) (fun hj4=>?_)
   ·
    obtain⟨al,ln,cl,hv,hl0,hl1⟩:=zie hL (j:=j) (by omega)
    refine Vs 6 O ?_
    refine zm2 O (fun w hI=>zn3 Tryz.runUnderlying191 ts27 tg27 O O (by omega) (by simpa using hv)) ?_
    refine Vs 10 O ?_
    refine zk7 O (fun z=>?_) (fun z=>?_)
    ·
     have hj0:1<=j:=by omega
     have h1:=zeA hSS (k:=(j:Int)) (by omega) (by have:=hl1 hj0;omega)
     refine Vs 12 O ?_
     refine zku tr122 O O (fun w hI=>⟨_,rfl,⟨_,by rw [hp,h1],fun h=>by rw [hp,h1] at h;cases h⟩,hI.k0⟩)
    ·
     refine Va 7 O (by omega) ?_
     refine zki (j+1) (zlO O) (zlP O) (⟨by omega,fun k h1 h2 h3=>by by_cases e:k=(j:Int);(· rw [e];have:=hl1 (by omega);omega);(· exact hzero k h1 (by omega) h3)⟩) (by first | omega | (dsimp only;omega)) 0 O O
   ·
    have hfin:=zfB hSS hkd fun k h1 h3=>hzero k h1 (by omega) h3
    refine Vs 11 O ?_
    refine V.bool O (fun o1=>?_) (fun o1=>?_)
    ·
     have h3:zS f.vars r=3:=by rw [hfin,zo3 (by rw [ho] at o1;simpa using o1)]
     refine Vs 8 O ?_
     refine zku tr122 O O (fun w hI=>⟨_,rfl,⟨_,by rw [hp,h3],fun h=>by rw [hp,h3] at h;cases h⟩,hI.k0⟩)
    ·
     have h0:zS f.vars r=0:=by rw [hfin,zo4 (by rw [ho] at o1;simpa using o1)]
     have hsv:xx f.vars r=s.vals:=by unfold xx;rw [hSS]
     have hV:InV f.vars s.vals:=hsv ▸ zcG h0
     refine zmu 901 3 1 O ?_
     refine Vs 12 O ?_
     refine zmL (σ:=Nat × Value) [7,98,99] [900] [7] O (fun e ⟨i,hv⟩=>(100,.int .i64 i)::e) (fun e ⟨i,hv⟩=>(24,.own b24 [.slice av f.vars.length cv,.slice ah f.hatches.length ch,v3,vv,hv,.slice none 0 0,.int .i64 0] 158)::(901,.row 3 1 hv i ((zgY s.vals (f.hatches.take i)).map zd))::e) (fun⟨i,hv⟩=>i<=f.hatches.length) (fun⟨i,hv⟩=>f.hatches.length - i) ((0,.slice none 0 0)) (zlO O) (zlP O) (fun _=>rfl) (fun _=>rfl) (fun _=>rfl) (zo8 _) ?_
     rintro⟨i,hv⟩ hi
     show V _ _ _ _ _ ((100,.int .i64 i)::_) _ ((24,.own b24 [.slice av f.vars.length cv,.slice ah f.hatches.length ch,v3,vv,hv,.slice none 0 0,.int .i64 0] 158)::(901,.row 3 1 hv i ((zgY s.vals (f.hatches.take i)).map zd))::_) _
     refine Vs 6 O ?_
     refine zk7 O (fun hlt=>?_) (fun hlt=>?_)
     ·
      refine Vs 6 O ?_
      obtain⟨x,he_x,hm_x⟩:=gE_ f.hatches (i) (by omega)
      obtain⟨b_x,o_x,c_x,ha_x,_,hc_x,hR_x⟩:=hht.at he_x
      obtain⟨v1_x,rfl,hk_x⟩:=hR_x
      obtain⟨a1_x,n1_x,rfl⟩:=hk_x.form
      refine zmI 3000 0 O O hc_x ?_
      refine V.ix 3000 tR23 ts95 O ha_x (by omega) (_) (rfl) O ?_
      obtain⟨g1,g2,_,g4⟩:=vd.hatch x hm_x
      refine Vs 1 O ?_
      refine V.alloc 16 tz95 O O (fun b16=>?_)
      refine Vs 3 O ?_
      refine Vw [24,3000,16] [21] O ?_
      refine Vd [0,1,2,3,4,5,6,7,8,9,10,12,13,14,15] 0 (by kernel_rfl) O O O ?_
      refine zmC 11 0 tc153 O (by kernel_rfl) O O (fun w hI=>jJ vd.good hV x.term g1 g2 _ D (fun _=>True) w _ (zlh zd (fun _ _=>rfl) (hI.at 900 O) (fun _ _=>trivial)) (RTm.put (Tr1 hI.k0 hk_x))) ?_
      refine zmC 16 0 Tryz.call152 O (by kernel_rfl) O O (fun w hI=>qA _ x.low x.high w g4) ?_
      refine zmP 17 121 0 [(0,_)] tR27 ts3 tz3 (by decide) O (by kernel_rfl) O O (by kernel_rfl) (fun b121=>?_)
      refine zmw 18 901 121 0 tu27 Tryz.el3 O (by decide) O (by kernel_rfl) O O O (by omega) (by omega) (fun u901=>?_)
      refine Vd [19,20] 0 (by kernel_rfl) O O O ?_
      refine zmy 901 O (by omega) ?_
      rintro bh chh rfl hcap_901
      refine Vl 21 O (by kernel_rfl) O ?_
      refine zlc (by kernel_rfl) ?_
      refine Va 6 O (by omega) ?_
      refine zmK 901 O (e':=.row 3 1 (.slice (some ⟨bh,0,none⟩) (i+1) chh) (i+1) ((zgY s.vals (f.hatches.take (i+1))).map zd)) (by rw [zfx he_x,List.map_append];rfl) ?_
      refine zki (⟨i+1,_⟩) (zlO O) (zlP O) (by omega) (by first | omega | (dsimp only;omega)) 0 O O
     ·
      obtain rfl:i=f.hatches.length:=by omega
      have hsg:jl f r=⟨s.vals,[],0⟩:=by unfold jl;rw [hsv]
      have hht':jb f r=zgY s.vals (f.hatches.take f.hatches.length):=by rw [znY,<- hsv]
      rw [hsg,hht']
      refine Vs 13 O ?_
      refine zku tr122 O O (fun w hI=>⟨_,rfl,⟨_,by rw [hp,h0],fun _=>⟨b24,vv,hv,rfl,zh3 hI O O rfl⟩⟩,hI.k0⟩)
abbrev zjB (hv:Value) (l:List Int):HE:=.res (fun q=>hv.ownBlock=some q) (fun w=>SlR 1 zB (fun b=>hv.ownBlock=some b) w hv l)
theorem zh4 (hv:Value) (l:List Int):(zjB hv l).loc:=fun _ _ _ h hk hT=>SlR.keep zc h hk fun q hq hlt=>hT q hlt hq
theorem zh5 {f:Fl} {r:Ins} {v1 v2 v3:Value} {H:Hp} {W w:World} {g:FuncId} {args:Array Value} (_:W.heap.size<=w.heap.size) (h0:zV f r=0)
  (hc:Calls Tryz.prog g args w (Ret fun rr w'=>(∃ rv,rr=.tuple #[rv,.int .i64 (zV f r)]/\(zV f r=0->∃ bm vv hv,rv=.pointer (some ⟨bm,0,none⟩)/\MachOk w' bm v1 v2 v3 vv hv (.slice none 0 0) (jl f r)/\SlR 1 zB (fun b=>hv.ownBlock=some b) w' hv (jb f r)/\(∀ q,qV bm vv (.slice none 0 0) q\/hv.ownBlock=some q->w.heap.size<=q/\q<w'.heap.size)/\∀ q,qV bm vv (.slice none 0 0) q->hv.ownBlock ≠ some q))/\Ext w w')) :
  Calls Tryz.prog g args w (Ret fun rr w'=>∃ x:Nat × Value × Value,rr=.tuple #[.pointer (some ⟨x.1,0,none⟩),.int .i64 0]/\Hands H [] ((903,zjB x.2.2 (jb f r))::jm x.1 v1 v2 v3 x.2.1 x.2.2 (.slice none 0 0) (jl f r)) w w'):=by
 refine hc.mono ?_
 rintro _ w' ⟨rr,rfl,⟨rv,rfl,hs⟩,hk⟩
 obtain⟨bm,vv,hv,rfl,hM,hh,hS,hap⟩:=hs h0
 obtain⟨l1,l2⟩:=hM.lent
 refine⟨_,rfl,(bm,vv,hv),by rw [h0],hk.mono fun q _ h=>h.elim,fun x hx=>?_,List.pairwise_cons.2 ⟨fun x hx q hq hs=>?_,l2⟩⟩
 ·
  rcases zo9.1 hx with rfl | hx
  . exact⟨hh,zh4 _ _,fun _ h=>h,fun q hq=>⟨.inr (hS q (.inr hq)).1,(hS q (.inr hq)).2⟩⟩
  ·
   obtain⟨k1,k2,k3,k4⟩:=l1 x hx
   exact⟨k1,k2,k3,fun q hq=>⟨.inr (hS q (.inl (machHS.1 ⟨x,hx,hq⟩))).1,k4 q hq⟩⟩
 . exact hap q (machHS.1 ⟨x,hx,hs⟩) hq
theorem zj7 {f:Fl} (vd:Valid f):0+nbL f.body<=100000:=by
 have:=vd.nb;omega
theorem zj8 {H:Hp} {w w0:World} {D:Nat->Prop} {bm:Nat} {v1 v2 v3 vv hv ov:Value} {σ:Sg} {l:List Int} (hI:VI [(w0,fun _=>False)] H w) (h0:zl H 900=some (.own bm [v1,v2,v3,vv,hv,ov,.int .i64 σ.time] 158)) (h1:zl H 901=some (.row 3 1 vv σ.vals.length (σ.vals.map zd))) (h2:zl H 902=some (.row 3 1 ov σ.outs.length (σ.outs.map zd))) (h3:zl H 903=some (zjB hv l)):∀ q,qV bm vv ov q->¬ (D q/\q<w0.heap.size)/\hv.ownBlock ≠ some q:=by
 rintro q (hq | hq | hq)
 . exact⟨fun h=>by have:=hI.own 900 0 h0 O q hq;omega,fun h=>zq hI.apart h0 h3 O q hq h⟩
 . exact⟨fun h=>by have:=hI.own 901 0 h1 O q hq;omega,fun h=>zq hI.apart h1 h3 O q hq h⟩
 . exact⟨fun h=>by have:=hI.own 902 0 h2 O q hq;omega,fun h=>zq hI.apart h2 h3 O q hq h⟩
theorem zeB (f:Fl) (r:Ins) (v1 v2 v3 s1 s2 s3:Value) (D:Nat->Prop) (W:World) (hf0:RFl D W f v1 v2 v3) (hi1:SlR 1 zB D W s1 r.secret) (hi2:SlR 1 zB D W s2 r.pub) (hi3:SlR 1 zB D W s3 r.random) (hsz:zm f.body+zC f.hatches<=1024) (hbk:zt f.body<=1000000) :
  Calls Tryz.prog 64 #[.agg #[v1,v2,v3],.agg #[s1,s2,s3]] W (Ret fun rr w'=>(∃ ov t,rr=.tuple #[.agg #[ov,.int .i64 t],.int .i64 (zV f r)]/\(zV f r ≠ 0->ov=.slice none 0 0/\t=0)/\(zV f r=0->t=(qs f r).time/\SlR 1 zB (fun b=>W.heap.size<=b) w' ov (qs f r).outs))/\Ext W w'):=by
 have hf:=hf0.narrow
 refine zmb Tryz.func64 O Tryz.ntmps64 O (zmm ?_)
 refine Vs 2 O ?_
 refine V.box 2 O O (fun b2=>?_)
 refine V.box 3 O O (fun b3=>?_)
 refine V.alloc 4 tz55 O O (fun b4=>?_)
 refine Vs 4 O ?_
 refine zko (p:=zV f r=0) (fun hc=>?_) (fun hc=>?_)
 ·
  have hck:ym f=0:=by
   unfold zV at hc
   split at hc
   . rename_i h;exact absurd hc h
   . rename_i h;exact zo2.1 h
  have vd:Valid f:=⟨hck,hsz,hbk⟩
  have hst:zS f.vars r=0:=by unfold zV at hc;rwa [zo3 (by omega)] at hc
  have hvl:=vd.lens
  have hss:=vd.ssize
  have hnb:=zj7 vd
  refine Vs 3 O ?_
  refine zn1 [] (Hn:=fun x:Nat × Value × Value=>[(903,zjB x.2.2 (jb f r)),(900,.own x.1 [v1,v2,v3,x.2.1,x.2.2,(.slice none 0 0),.int .i64 (jl f r).time] 158),(901,.row 3 1 x.2.1 (jl f r).vals.length ((jl f r).vals.map zd)),(902,.row 3 1 (.slice none 0 0) (jl f r).outs.length ((jl f r).outs.map zd))]) [(2,some (2,0)),(3,some (3,0)),(4,some (4,0))] Tryz.call122 O (fun _ _=>rfl) (fun _=>rfl) (fun w hI=>zh5 (hI.k0).size hc (kJ f r v1 v2 v3 s1 s2 s3 D w (Tr1 hI.k0 hf0) (Tr1 hI.k0 hi1) (Tr1 hI.k0 hi2) (Tr1 hI.k0 hi3) hsz hbk)) ?_
  rintro _ ⟨bm,vv,hv⟩ rfl
  refine Vs 9 O ?_
  refine zms 6 900 0 O O ?_
  refine Vs 5 O ?_
  refine zk7 O (fun c0=>?_) (fun c0=>?_)
  . exact absurd O c0
  ·
   refine Vs 7 O ?_
   refine zn1 [900,901,902] (Hn:=fun ov':Value=>[(900,.own bm [v1,v2,v3,vv,hv,ov',.int .i64 (qs f r).time] 158),(901,.row 3 1 vv (qs f r).vals.length ((qs f r).vals.map zd)),(902,.row 3 1 ov' (qs f r).outs.length ((qs f r).outs.map zd))]) [(2,some (2,0)),(3,some (3,0)),(4,some (4,0)),(6,some (900,0)),(18,some (900,0)),(19,some (2,2))] Tryz.call123 O (fun _ _=>rfl) (fun _=>rfl) (fun w hI=>jn (σ:=jl f r) (zid f (jb f r) vd.good (by simp [zgY]) (by omega) f.body (zbP vd) 0 (jl f r) (zaJ hst) hnb (fun b=>D b/\b<W.heap.size) (fun b=>hv.ownBlock=some b) w bm v1 v2 v3 vv hv _ _ (fun q hq=>hq.elim (fun h=>Nat.lt_of_lt_of_le h.2 (hI.k0).size) (fun h=>hI.low _ (zi (k:=903) O) q h)) (Tr1 hI.k0 hf) (hI.at 903 O) (Tr1 hI.k0 hf.body) (kI hI O O O) (zj8 hI O O O O)) (hI.k0).size O O O) ?_
   rintro _ ov' ⟨rfl,hov⟩
   refine zmn (fun w hI=>jr (show w.ownsRow 0 3 1 ov' _ _ from hI.at 902 O)) ?_
   rintro⟨ao,co,rfl⟩
   refine Vs 3 O ?_
   refine Vw [2,3,4,900] [9] O ?_
   refine Vd [0,1,2,3,4,5,6,7] 0 (by kernel_rfl) O O O ?_
   refine zmS 8 [Value.slice none 0 0,Value.int IntKind.i64 0] [(0,1),(1,1)] [(0,_),(1,_)] O (by kernel_rfl) O O (fun _=>by kernel_rfl) ?_
   refine Vl 9 O (by kernel_rfl) O ?_
   refine Vx [10] (by kernel_rfl) O ?_
   refine zlc (by kernel_rfl) ?_
   refine Vs 2 O ?_
   refine zkC Tryz.results64 tg55 ts55 O O O O (fun w hI=>⟨_,rfl,⟨_,_,by rw [hc],fun h=>absurd hc h,fun _=>⟨rfl,zlh zd (fun _ _=>rfl) (hI.at 902 O) (fun b hb=>hI.own 902 0 O O b hb)⟩⟩,hI.k0⟩)
 ·
  refine Vs 3 O ?_
  refine zmD Tryz.call122 O (fun w hI=>kJ f r v1 v2 v3 s1 s2 s3 D w (Tr1 hI.k0 hf0) (Tr1 hI.k0 hi1) (Tr1 hI.k0 hi2) (Tr1 hI.k0 hi3) hsz hbk) ?_
  rintro rr w1 w2 hI1 hk12 ⟨rv,rfl,_⟩ hlow
  refine Vs 14 O ?_
  refine zk7 O (fun c0=>?_) (fun c0=>?_)
  ·
   refine Vs 2 O ?_
   refine zmR [Value.slice none 0 0,Value.int IntKind.i64 0] [(0,1),(1,1)] [] O O (fun _=>by kernel_rfl) ?_
   refine Vs 7 O ?_
   refine zkC Tryz.results64 tg55 ts55 O O O O (fun w hI=>⟨_,rfl,⟨_,_,rfl,fun _=>⟨rfl,rfl⟩,fun h=>absurd h hc⟩,hI.k1⟩)
  . exact absurd hc c0
theorem ze0 (a:Int) (w:World):Calls Tryz.prog 177 #[.int .i64 a] w (Ret fun r w'=>r=.bool false/\Ext w w'):=by
 refine zma Tryz.func177 O Tryz.ntmps177 O (Gs 14 O (zkq Tryz.results177 O ⟨_,rfl,by simp,Keep.refl _ _⟩))
theorem zj9 (a b:Int) (w:World):Calls Tryz.prog 132 #[.int .i64 a,.int .i64 b] w (Ret fun r w'=>r=.int .i64 (if a<b then -1 else if b<a then 1 else 0)/\Ext w w'):=by
 refine zmb Tryz.func132 O Tryz.ntmps132 O (Gs 8 O (G.call O Tryz.call177 (ze0 a w) ?_))
 rintro _ w1 ⟨rfl,hk1⟩
 refine Gs 6 O (G.call O Tryz.call177 (ze0 b w1) ?_)
 rintro _ w2 ⟨rfl,hk2⟩
 refine Gs 9 O (G.ff O (rfl) (Gs 8 O (G.ff O (rfl) (Gs 10 O (zm0 O (fun h=>?_) (fun h=>?_))))))
 . refine Gs 7 O (zkq Tryz.results132 O ⟨_,rfl,by rw [zo4 h],hk1.ext hk2⟩)
 ·
  refine Gs 10 O (zm0 O (fun h2=>?_) (fun h2=>?_))
  . refine Gs 7 O (zkq Tryz.results132 O ⟨_,rfl,by rw [zo3 h,zo4 h2],hk1.ext hk2⟩)
  . refine Gs 8 O (zkq Tryz.results132 O ⟨_,rfl,by rw [zo3 h,zo3 (by omega)],hk1.ext hk2⟩)
def xL:List Int->List Int->Int
 | [],[]=>0
 | [],_::_ => -1
 | _::_,[]=>1
 | x::xs,y::ys=>if x<y then -1 else if y<x then 1 else xL xs ys
theorem zaL (xs ys:List Int) (u v:Value) (D D':Nat->Prop) (w:World) (hx:SlR 1 zB D w u xs) (hy:SlR 1 zB D' w v ys):Calls Tryz.prog 75 #[u,v] w (Ret fun r w'=>r=.int .i64 (xL xs ys)/\Ext w w'):=by
 obtain⟨ao,cx,rfl,hxc,hxm,hxe⟩:=hx
 obtain⟨bo,cy,rfl,hyc,hym,hye⟩:=hy
 refine zmb Tryz.func75 O Tryz.ntmps75 O (Gs 14 O (G.loop (σ:=Nat) (fun k=>[(0,.slice ao xs.length cx),(1,.slice bo ys.length cy),(9,.slice ao xs.length cx),(10,.int .i64 xs.length),(11,.int .i64 k)]) (fun k=>fun w'=>k<=xs.length/\k<=ys.length/\xL (xs.drop k) (ys.drop k)=xL xs ys/\Ext w w') (fun k=>xs.length - k) (0) (zlO O) (⟨zo8 _,zo8 _,rfl,Keep.refl _ _⟩) ?_))
 rintro k w1 ⟨hkx,hky,hc,hk1⟩
 refine Gs 6 O (zm0 O (fun hlt=>?_) (fun hge=>?_))
 ·
  obtain⟨x,hx⟩:∃ x,xs[k]?=some x:=⟨_,znT (by omega)⟩
  obtain⟨b1,o1,c1,hao,_,hcl1,hcs1,rfl⟩:=hxe k x hx
  have hdx:xs.drop k=x::xs.drop (k+1):=by
   obtain⟨h1,h2⟩:=zo7.1 hx
   rw [List.drop_eq_getElem_cons h1,h2]
  refine Gs 7 O (zm1 O O (zkP tR27 ts3 O O hao (by omega)) (zm5 O tg3 ((hk1.cells hcs1 (fun h=>h)) 0 _ O) (Gs 13 O (zm0 O (fun hgy=>?_) (fun hly=>?_)))))
  ·
   have:ys.drop k=[]:=List.drop_of_length_le (by omega)
   refine Gs 12 O (zkq tr75 O ⟨_,rfl,by rw [<- hc,hdx,this];rfl,hk1⟩)
  ·
   obtain⟨y,hy⟩:∃ y,ys[k]?=some y:=⟨_,znT (by omega)⟩
   obtain⟨b2,o2,c2,hbo,_,hcl2,hcs2,rfl⟩:=hye k y hy
   have hdy:ys.drop k=y::ys.drop (k+1):=by
    obtain⟨h1,h2⟩:=zo7.1 hy
    rw [List.drop_eq_getElem_cons h1,h2]
   have hcc:(if x<y then -1 else if y<x then 1 else xL (xs.drop (k+1)) (ys.drop (k+1)))=xL xs ys:=by rw [<- hc,hdx,hdy];rfl
   refine Gs 6 O (zm1 O O (zkP tR27 ts3 O O hbo (by omega)) (zm5 O tg3 ((hk1.cells hcs2 (fun h=>h)) 0 _ O) (Gs 7 O (G.call O Tryz.call132 (zj9 x y w1) ?_))))
   rintro _ w2 ⟨rfl,hk2⟩
   refine Gs 9 O (zm0 O (fun hn=>?_) (fun he=>?_))
   ·
    refine Gs 12 O (zkq tr75 O ⟨_,rfl,?_,hk1.ext hk2⟩)
    rw [<- hcc]
    by_cases h1:x<y
    . rw [zo4 h1,zo4 h1]
    ·
     by_cases h2:y<x
     . rw [zo3 h1,zo4 h2,zo3 h1,zo4 h2]
     . exact absurd (by rw [zo3 h1,zo3 h2]) hn
   ·
    have h1:¬ x<y:=fun h=>he (by rw [zo4 h];decide)
    have h2:¬ y<x:=fun h=>he (by rw [zo3 h1,zo4 h];decide)
    rw [zo3 h1,zo3 h2] at hcc
    refine Ga 7 O (by omega) (zkh (k+1) (zlO O) (⟨by omega,by omega,hcc,hk1.ext hk2⟩) (by first | omega | (dsimp only;omega)))
 ·
  have hdx:xs.drop k=[]:=List.drop_of_length_le (by omega)
  refine Gs 15 O (zm0 O (fun hl2=>?_) (fun hg2=>?_))
  ·
   obtain⟨y,hy⟩:∃ y,ys[k]?=some y:=⟨_,znT (by omega)⟩
   have hdy:ys.drop k=y::ys.drop (k+1):=by
    obtain⟨h1,h2⟩:=zo7.1 hy
    rw [List.drop_eq_getElem_cons h1,h2]
   refine Gs 7 O (zkq tr75 O ⟨_,rfl,by rw [<- hc,hdx,hdy];rfl,hk1⟩)
  ·
   have hdy:ys.drop k=[]:=List.drop_of_length_le (by omega)
   refine Gs 8 O (zkq tr75 O ⟨_,rfl,by rw [<- hc,hdx,hdy];rfl,hk1⟩)
def yF (x y:List Int × Int):Int:=if xL x.1 y.1 ≠ 0 then xL x.1 y.1 else if x.2<y.2 then -1 else if y.2<x.2 then 1 else 0
theorem zb8 (x y:List Int × Int) (u v:Value) (D D':Nat->Prop) (W:World) (hx:SlR 1 zB D W u x.1) (hy:SlR 1 zB D' W v y.1) :
  Calls Tryz.prog 69 #[.agg #[u,.int .i64 x.2],.agg #[v,.int .i64 y.2]] W (Ret fun r w'=>r=.int .i64 (yF x y)/\Ext W w'):=by
 refine zmb Tryz.func69 O Tryz.ntmps69 O (zmm ?_)
 refine Vs 2 O ?_
 refine V.box 2 O O (fun b2=>?_)
 refine V.box 3 O O (fun b3=>?_)
 refine Vs 10 O ?_
 refine zmB Tryz.call75 O (fun w hI=>zaL x.1 y.1 u v D D' w (Tr1 hI.k0 hx) (Tr1 hI.k0 hy)) ?_
 refine Vs 9 O ?_
 refine zk7 O (fun h0=>?_) (fun h0=>?_)
 ·
  refine Vs 8 O ?_
  refine zkr tr69 O (fun w hI=>⟨_,rfl,by unfold yF;rw [zo4 h0],hI.k0⟩)
 ·
  refine Vs 14 O ?_
  refine zk7 O (fun h1=>?_) (fun h1=>?_)
  ·
   refine Vs 8 O ?_
   refine zkr tr69 O (fun w hI=>⟨_,rfl,by unfold yF;rw [zo3 h0,zo4 h1],hI.k0⟩)
  ·
   refine Vs 10 O ?_
   refine zk7 O (fun h2=>?_) (fun h2=>?_)
   ·
    refine Vs 8 O ?_
    refine zkr tr69 O (fun w hI=>⟨_,rfl,by unfold yF;rw [zo3 h0,zo3 h1,zo4 h2],hI.k0⟩)
   ·
    refine Vs 9 O ?_
    refine zkr tr69 O (fun w hI=>⟨_,rfl,by unfold yF;rw [zo3 h0,zo3 h1,zo3 (by omega)],hI.k0⟩)
def zdo:List Vr->List Int->Int->Option Int
 | v::vs,x::xs,n=>if x<v.low\/v.high<x then none else zdo vs xs (n*(v.high - v.low+1)+x - v.low)
 | _,_,n=>some n
def qH (k:Int) (vs:List Vr) (r:List Int):Int × Int :=
 if (zk k vs).isSome then (if r.length=(ze k vs).length then (match zdo (ze k vs) r 0 with | none=>(0,3) | some n=>(n,0)) else (0,2)) else (0,4)
theorem zeC {k:Int} {vs:List Vr} (h:(zk k vs).isSome=true) (i:Nat):∃ m,zY k ((ze k vs).take i) 1=some m:=by
 unfold zk at h
 rw [<- yJ,<- List.take_append_drop i (ze k vs),zH] at h
 cases hm:zY k ((ze k vs).take i) 1 with
 | none=>rw [hm] at h;cases h
 | some m=>exact⟨m,rfl⟩
theorem xS {k:Int} {vs:List Vr} {v:Vr} (h:v ∈ ze k vs):v ∈ vs:=(List.mem_filter.1 h).1
theorem yU {α:Type} {l:List α} {i:Nat} {x:α} (h:l[i]?=some x):l.drop i=x::l.drop (i+1):=by
 obtain⟨h1,h2⟩:=zo7.1 h
 rw [List.drop_eq_getElem_cons h1,h2]
theorem zfC {n m s x l:Int} (h0:0<=n) (h1:n<m) (h2:x - l<s) (h3:0<=x - l) (h4:m*s<=4096):0<=n*s/\n*s<=4096/\n*s+x - l<m*s/\0<=n*s+x - l:=by
 have hs:0<=s:=by omega
 have a:0<=n*s:=zoo h0 hs
 have b:(n+1)*s<=m*s:=Int.mul_le_mul_of_nonneg_right (by omega) hs
 rw [Int.add_mul,Int.one_mul] at b
 omega
theorem zeD (vs:List Vr) (k:Int) (r:List Int) (vv rv:Value) (D D':Nat->Prop) (W:World) (hk:0<=k/\k<=3) (hg:∀ v ∈ vs,yp (v.low,v.high)) (hlen:vs.length<=1000000) (hvs:SlR 5 RVr D W vv vs) (hr:SlR 1 zB D' W rv r) :
  Calls Tryz.prog 61 #[vv,.int .i64 k,rv] W (Ret fun rr w'=>rr=.tuple #[.int .i64 (qH k vs r).1,.int .i64 (qH k vs r).2]/\Ext W w'):=by
 obtain⟨ar,cr,rfl⟩:=hr.form
 have hmr:=hr.max
 refine zmc Tryz.func61 O Tryz.ntmps61 O (zmm ?_)
 refine zko (p:=(zk k vs).isSome=true) (fun hc=>?_) (fun hc=>?_)
 ·
  refine Vs 10 O ?_
  refine zmD tc119 O (fun w hI=>qD vs k vv D w hk hg (Tr1 hI.k0 hvs) hlen) ?_
  rintro rr w1 w2 hI1 hk12 ⟨vl,rfl,hs1,_⟩ hlow
  have hos:=hs1 hc
  obtain⟨al,cl,rfl⟩:=hos.form
  have hml:=hos.max
  refine Vs 18 O ?_
  refine zk7 O (fun c0=>?_) (fun c0=>?_)
  . exact absurd (zo4 hc) c0
  ·
   refine Vs 10 O ?_
   refine zk7 O (fun c1=>?_) (fun c1=>?_)
   ·
    refine Vs 9 O ?_
    refine zku tr61 O O (fun w hI=>⟨_,rfl,by unfold qH;rw [zo4 hc,zo3 (by omega)],hI.k1⟩)
   ·
    have hel:r.length=(ze k vs).length:=by omega
    refine Vs 17 O ?_
    refine zmL (σ:=Nat × Int) [2,31,32] [] [] O (fun e ⟨i,n⟩=>(11,.int .i64 n)::(33,.int .i64 i)::e) (fun e ⟨i,n⟩=>e) (fun⟨i,n⟩=>i<=(ze k vs).length/\zdo ((ze k vs).drop i) (r.drop i) n=zdo (ze k vs) r 0/\∃ m,zY k ((ze k vs).take i) 1=some m/\0<=n/\n<m) (fun⟨i,n⟩=>(ze k vs).length - i) ((0,0)) (zlO O) (zlP O) (fun _=>rfl) (fun _=>rfl) (fun _=>rfl) (⟨zo8 _,rfl,1,rfl,by omega,by omega⟩) ?_
    rintro⟨i,n⟩ ⟨hi,hrk,m,hm,hn0,hn1⟩
    show V _ _ _ _ _ ((11,.int .i64 n)::(33,.int .i64 i)::_) _ (_) _
    refine Vs 6 O ?_
    refine zk7 O (fun hlt=>?_) (fun hlt=>?_)
    ·
     refine Vs 7 O ?_
     obtain⟨x,he_x,hm_x⟩:=gE_ (ze k vs) (i) (by omega)
     obtain⟨b_x,o_x,c_x,ha_x,hd_x,hc_x,hR_x⟩:=hos.atD he_x
     obtain rfl:=hR_x
     refine zmJ 1000 0 O O (fun h_=>by have h1_:=hlow _ h_;have h2_:=hd_x;first | omega | exact h1_ h2_) hc_x ?_
     refine V.ix 1000 tR22 ts89 O ha_x (by omega) (_) (rfl) O ?_
     refine Vs 1 O ?_
     refine V.alloc 13 tz89 O O (fun b13=>?_)
     refine Vs 6 O ?_
     obtain⟨y,he_y,hm_y⟩:=gE_ r (i) (by omega)
     obtain⟨b_y,o_y,c_y,ha_y,_,hc_y,hR_y⟩:=hr.at he_y
     obtain rfl:=hR_y
     refine zmI 2000 1 O O hc_y ?_
     have hry:i<r.length:=by omega
     have hgx:=hg x (xS hm_x)
     unfold yp at hgx
     dsimp only at hgx
     have hdx:=yU he_x
     have hdy:=yU he_y
     refine Vq (by kernel_rfl) ?_
     refine Vs 2 O ?_
     refine zmt 2000 tR27 ts3 O ha_y (by omega) (_) (rfl) O ?_
     refine Vs 5 O ?_
     refine V.sp 45 O (fun b1=>?_) (fun b1=>?_)
     ·
      refine Vs 24 O ?_
      refine zku tr61 O O (fun w hI=>⟨_,rfl,by unfold qH;rw [zo4 hc,zo4 hel,<- hrk,hdx,hdy];unfold zdo;rw [zo4 (by omega)],hI.k1⟩)
     ·
      refine Vs 2 O ?_
      refine zmt 2000 tR27 ts3 O ha_y (by omega) (_) (rfl) O ?_
      refine Vs 7 O ?_
      refine zk7 O (fun d1=>?_) (fun d1=>?_)
      ·
       refine Vs 13 O ?_
       refine zku tr61 O O (fun w hI=>⟨_,rfl,by unfold qH;rw [zo4 hc,zo4 hel,<- hrk,hdx,hdy];unfold zdo;rw [zo4 (by omega)],hI.k1⟩)
      ·
       obtain⟨m',hm'⟩:=zeC hc (i+1)
       have hp:=yk k ((ze k vs).take (i+1)) 1 m' (fun v hv=>hg v (xS (List.mem_of_mem_take hv))) (by omega) (by omega) hm'
       have hst:=hm'
       rw [zg he_x,zH,hm] at hst
       have hkx:x.kind=k:=of_decide_eq_true (List.mem_filter.1 hm_x).2
       have hmm:m*(x.high - x.low+1)=m':=by
        simp only [Option.bind,zY] at hst
        rw [zo4 hkx] at hst
        split at hst
        . cases hst
        . exact Option.some.inj hst
       have hrs:=zfC (s:=x.high - x.low+1) (x:=y) (l:=x.low) hn0 hn1 (by omega) (by omega) (by omega)
       refine Vs 2 O ?_
       refine Vw [1000,13,2000] [] O ?_
       refine Vd [0,1,4,5,9,10] 0 (by kernel_rfl) O O O ?_
       refine VD.ix 6 2000 tR27 ts3 O (by kernel_rfl) O ha_y (by omega) (_) (rfl) O ?_
       refine Vd [7] 0 (by kernel_rfl) O O O ?_
       refine zmC 2 0 Tryz.call120 O (by kernel_rfl) O O (fun w hI=>jX x w (hg x (xS hm_x))) ?_
       refine Vb [3,8,11,12] 0 (by kernel_rfl) O O O (by omega) ?_
       refine zlb (by kernel_rfl) ?_
       refine Va 6 O (by omega) ?_
       refine zki ((i+1,n*(x.high - x.low+1)+y - x.low)) (zlO O) (zlP O) (⟨by omega,by rw [<- hrk,hdx,hdy];conv=>rhs;unfold zdo;rw [zo3 (by omega)],m',hm',by omega,by omega⟩) (by first | omega | (dsimp only;omega)) 0 O O
    ·
     have:i=(ze k vs).length:=by omega
     subst this
     rw [List.drop_length,<- hel,List.drop_length] at hrk
     refine Vs 13 O ?_
     refine zku tr61 O O (fun w hI=>⟨_,rfl,by unfold qH;rw [zo4 hc,zo4 hel,<- hrk];rfl,hI.k1⟩)
 ·
  refine Vs 10 O ?_
  refine zmD tc119 O (fun w hI=>qD vs k vv D w hk hg (Tr1 hI.k0 hvs) hlen) ?_
  rintro rr w1 w2 hI1 hk12 ⟨vl,rfl,_,_⟩ hlow
  refine Vs 18 O ?_
  refine zk7 O (fun c0=>?_) (fun c0=>?_)
  ·
   refine Vs 10 O ?_
   refine zku tr61 O O (fun w hI=>⟨_,rfl,by unfold qH;rw [zo3 hc,zo3 hc],hI.k1⟩)
  . exact absurd (by rw [zo3 hc];decide) c0
def yt:List Vr->Int->List Int × Int
 | [],n=>([],n)
 | v::vs,n=>((v.low+(yt vs n).2.tmod (v.high - v.low+1))::(yt vs n).1,(yt vs n).2.tdiv (v.high - v.low+1))
theorem zaM:∀ (vs:List Vr) (n:Int),(yt vs n).1.length=vs.length
 | [],_=>rfl
 | v::vs,n=>by simp [yt,zaM vs n]
structure UnIn (os:List Vr) (n:Int) (i q:Int) (xs:List Int):Prop where
 low:-1<=i
 lt:i<os.length
 row:xs=List.replicate (i+1).toNat 0++(yt (os.drop (i+1).toNat) n).1
 rest:q=(yt (os.drop (i+1).toNat) n).2
 q0:0<=q/\q<=n
theorem zlk {os:List Vr} {n:Int} (h:0<=n):UnIn os n ((os.length:Int) - 1) n (List.replicate os.length 0):=by
 have e:((os.length:Int) - 1+1).toNat=os.length:=by omega
 exact⟨by omega,by omega,by rw [e,List.drop_length];simp [yt],by rw [e,List.drop_length];rfl,h,Int.le_refl _⟩
theorem UnIn.len {os:List Vr} {n i q:Int} {xs:List Int} (h:UnIn os n i q xs):xs.length=os.length:=by
 have:=h.low
 have:=h.lt
 rw [h.row,zo1,List.length_replicate,zaM,List.length_drop]
 omega
theorem zh6 {k:Int} {vs:List Vr} (hg:∀ v ∈ vs,yp (v.low,v.high)) (h:(zk k vs).isSome=true):(zk k vs).getD 0<=4096:=by
 cases hm:zk k vs with
 | none=>rw [hm] at h;cases h
 | some m=>exact (yk k vs 1 m hg (by omega) (by omega) hm).2
theorem UnIn.step {os:List Vr} {n q:Int} {j:Nat} {xs:List Int} {x:Vr} (h:UnIn os n j q xs) (hx:os[j]?=some x) (hs:1<=x.high - x.low+1):UnIn os n ((j:Int) - 1) (q.tdiv (x.high - x.low+1)) (xs.set j (x.low+q.tmod (x.high - x.low+1))):=by
 have e1:((j:Int)+1).toNat=j+1:=by omega
 have e2:((j:Int) - 1+1).toNat=j:=by omega
 have hx0:=h.row
 have hq0:=h.rest
 rw [e1] at hx0 hq0
 have hd:yt (os.drop j) n=((x.low+q.tmod (x.high - x.low+1))::(yt (os.drop (j+1)) n).1,q.tdiv (x.high - x.low+1)):=by
  rw [yU hx,yt,<- hq0]
 have hl:=h.lt
 refine⟨by omega,by omega,?_,by rw [e2,hd],Int.tdiv_nonneg h.q0.1 (by omega),Int.le_trans (Int.tdiv_le_self _ h.q0.1) h.q0.2⟩
 rw [e2,hd,hx0,List.replicate_succ',List.append_assoc]
 rw [List.set_append_right _ _ (by simp)]
 simp
def zz (k:Int) (vs:List Vr) (n:Int):Int :=
 if (zk k vs).isSome then (if n<0\/(zk k vs).getD 0<=n then 3 else 0) else 4
theorem qI (vs:List Vr) (k n:Int) (vv:Value) (D:Nat->Prop) (W:World) (hk:0<=k/\k<=3) (hg:∀ v ∈ vs,yp (v.low,v.high)) (hlen:vs.length<=1000000) (hvs:SlR 5 RVr D W vv vs) :
  Calls Tryz.prog 121 #[vv,.int .i64 k,.int .i64 n] W (Ret fun rr w'=>(∃ u,rr=.tuple #[u,.int .i64 (zz k vs n)]/\(zz k vs n ≠ 0->u=.slice none 0 0)/\(zz k vs n=0->SlR 1 zB (fun b=>W.heap.size<=b) w' u (yt (ze k vs) n).1))/\Ext W w'):=by
 refine zmc Tryz.func121 O Tryz.ntmps121 O (zmm ?_)
 refine zko (p:=(zk k vs).isSome=true) (fun hc=>?_) (fun hc=>?_)
 ·
  refine Vs 10 O ?_
  refine zmD tc119 O (fun w hI=>qD vs k vv D w hk hg (Tr1 hI.k0 hvs) hlen) ?_
  rintro rr w1 w2 hI1 hk12 ⟨vl,rfl,hs1,_⟩ hlow
  have hos:=hs1 hc
  obtain⟨al,cl,rfl⟩:=hos.form
  have hml:=hos.max
  have hN:=zh6 hg hc
  have hol:=znZ (xQ k vs) hlen
  refine Vs 18 O ?_
  refine zk7 O (fun c0=>?_) (fun c0=>?_)
  . exact absurd (zo4 hc) c0
  ·
   refine Vs 5 O ?_
   refine V.sp 28 O (fun c1=>?_) (fun c1=>?_)
   ·
    have hC:zz k vs n=3:=by unfold zz;rw [zo4 hc,zo4 (.inl c1)]
    refine Vs 17 O ?_
    refine zku tr121 O O (fun w hI=>⟨_,rfl,⟨_,by rw [hC],fun _=>rfl,fun h=>by rw [hC] at h;cases h⟩,hI.k1⟩)
   ·
    refine Vs 7 O ?_
    refine zk7 O (fun c2=>?_) (fun c2=>?_)
    ·
     have hC:zz k vs n=3:=by unfold zz;rw [zo4 hc,zo4 (.inr c2)]
     refine Vs 9 O ?_
     refine zku tr121 O O (fun w hI=>⟨_,rfl,⟨_,by rw [hC],fun _=>rfl,fun h=>by rw [hC] at h;cases h⟩,hI.k1⟩)
    ·
     have hC:zz k vs n=0:=by unfold zz;rw [zo4 hc,zo3 (by omega)]
     refine Vs 7 O ?_
     refine zl1 35 tu27 Tryz.el3 O (by omega) (by omega) (zs:=List.replicate (ze k vs).length (.int .i64 0)) (zeT _ _ O) (by simp) (fun b35=>?_)
     refine zmK 35 O (e':=.row 3 1 (.slice (some ⟨b35,0,none⟩) (ze k vs).length (ze k vs).length) (ze k vs).length ((List.replicate (ze k vs).length (0:Int)).map zd)) (by rw [List.map_replicate]) ?_
     refine Va 13 O (by omega) ?_
     refine zmL (σ:=Int × Int × List Int) [8,11] [] [] O (fun e ⟨i,q,xs⟩=>(12,.int .i64 i)::(2,.int .i64 q)::e) (fun e ⟨i,q,xs⟩=>(35,.row 3 1 (.slice (some ⟨b35,0,none⟩) (ze k vs).length (ze k vs).length) (ze k vs).length (xs.map zd))::e) (fun⟨i,q,xs⟩=>UnIn (ze k vs) n i q xs) (fun⟨i,q,xs⟩=>(i+1).toNat) ((((ze k vs).length:Int) - 1,n,List.replicate (ze k vs).length 0)) (zlO O) (zlP O) (fun _=>rfl) (fun _=>rfl) (fun _=>rfl) (zlk (by omega)) ?_
     rintro⟨i,q,xs⟩ hU
     show V _ _ _ _ _ ((12,.int .i64 i)::(2,.int .i64 q)::_) _ ((35,.row 3 1 (.slice (some ⟨b35,0,none⟩) (ze k vs).length (ze k vs).length) (ze k vs).length (xs.map zd))::_) _
     refine Vs 7 O ?_
     refine zk7 O (fun hlt=>?_) (fun hlt=>?_)
     ·
      obtain⟨j,rfl⟩:∃ j:Nat,i=j:=⟨i.toNat,by omega⟩
      have hjl:=hU.lt
      refine Vs 8 O ?_
      obtain⟨x,he_x,hm_x⟩:=gE_ (ze k vs) (j) (by omega)
      obtain⟨b_x,o_x,c_x,ha_x,hd_x,hc_x,hR_x⟩:=hos.atD he_x
      obtain rfl:=hR_x
      refine zmJ 1000 0 O O (fun h_=>by have h1_:=hlow _ h_;have h2_:=hd_x;first | omega | exact h1_ h2_) hc_x ?_
      refine V.ix 1000 tR22 ts89 O ha_x (by omega) (_) (rfl) O ?_
      have hgx:=hg x (xS hm_x)
      unfold yp at hgx
      dsimp only at hgx
      have hq:=hU.q0
      have hxl:=hU.len
      have hr0:=Int.tmod_nonneg (x.high - x.low+1) hq.1
      have hr1:=Int.tmod_lt_of_pos q (show 0<x.high - x.low+1 by omega)
      refine Vs 1 O ?_
      refine zmB Tryz.call120 O (fun w hI=>jX x w (hg x (xS hm_x))) ?_
      refine Vs 4 O ?_
      refine Vw [1000] [] O ?_
      refine Vd [0,1,2,3,7,8] 0 (by kernel_rfl) O O O ?_
      refine VD.ix 4 1000 tR22 ts89 O (by kernel_rfl) O ha_x (by omega) (_) (rfl) O ?_
      refine Vd [5,6] 0 (by kernel_rfl) O O O ?_
      refine VD.pl 9 O (by kernel_rfl) O (fun w=>R.rem O O (by omega) (by omega)) ?_
      refine Vb [10,11] 0 (by kernel_rfl) O O O (by omega) ?_
      refine zmA 12 35 0 (j) ts3 O (by kernel_rfl) O O (by omega) (by simp;omega) ?_
      refine zlb (by kernel_rfl) ?_
      refine Vs 1 O ?_
      refine zmK 35 O (e':=.row 3 1 (.slice (some ⟨b35,0,none⟩) (ze k vs).length (ze k vs).length) (ze k vs).length ((xs.set j (x.low+q.tmod (x.high - x.low+1))).map zd)) (by rw [List.map_set] <;> rfl) ?_
      refine Vs 3 O ?_
      refine zm2 O (fun w hI=>R.quo O O (by omega) (by omega)) ?_
      refine Va 9 O (by omega) ?_
      refine zki (⟨(j:Int) - 1,q.tdiv (x.high - x.low+1),xs.set j (x.low+q.tmod (x.high - x.low+1))⟩) (zlO O) (zlP O) (hU.step he_x (by omega)) (by first | omega | (dsimp only;omega)) 0 O O
     ·
      have hi:i=-1:=by have:=hU.low;omega
      subst hi
      have hx:=hU.row
      simp at hx
      refine Vs 13 O ?_
      refine zku tr121 O O (fun w hI=>⟨_,rfl,⟨_,by rw [hC],fun h=>absurd hC h,fun _=>by rw [<- hx];exact zlh zd (fun _ _=>rfl) (hI.at 35 O) (fun b hb=>hI.own 35 1 O O b hb)⟩,hI.k1⟩)
 ·
  refine Vs 10 O ?_
  refine zmD tc119 O (fun w hI=>qD vs k vv D w hk hg (Tr1 hI.k0 hvs) hlen) ?_
  rintro rr w1 w2 hI1 hk12 ⟨vl,rfl,_,_⟩ hlow
  have hC:zz k vs n=4:=by unfold zz;rw [zo3 hc]
  refine Vs 18 O ?_
  refine zk7 O (fun c0=>?_) (fun c0=>?_)
  ·
   refine Vs 10 O ?_
   refine zku tr121 O O (fun w hI=>⟨_,rfl,⟨_,by rw [hC,zo3 hc],fun _=>rfl,fun h=>by rw [hC] at h;cases h⟩,hI.k1⟩)
  . exact absurd (by rw [zo3 hc];decide) c0
abbrev Ob:=List Int × Int
theorem xe:∀ (x y:List Int),xL y x=- xL x y
 | [],[]=>rfl
 | [],_::_=>rfl
 | _::_,[]=>rfl
 | a::x,b::y=>by
  simp only [xL]
  have:=xe x y
  (repeat' split);all_goals omega
theorem qg:∀ {x y:List Int},xL x y=0->x=y
 | [],[],_=>rfl
 | [],_::_,h=>by simp [xL] at h
 | _::_,[],h=>by simp [xL] at h
 | a::x,b::y,h=>by
  simp only [xL] at h
  split at h
  . simp at h
  ·
   split at h
   . simp at h
   . rw [show a=b by omega,qg h]
theorem jL:∀ (x:List Int),xL x x=0
 | []=>rfl
 | a::x=>by simp [xL,jL x]
theorem xT:∀ {x y z:List Int},xL x y<0->xL y z<0->xL x z<0
 | [],[],_,h,_=>by simp [xL] at h
 | [],_::_,[],_,h=>by simp [xL] at h
 | [],_::_,_::_,_,_=>by simp [xL]
 | _::_,[],_,h,_=>by simp [xL] at h
 | _::_,_::_,[],_,h=>by simp [xL] at h
 | a::x,b::y,c::z,h,h'=>by
  simp only [xL] at h h' ⊢
  by_cases h1:a<b
  ·
   by_cases h2:b<c
   . rw [zo4 (by omega)];omega
   ·
    by_cases h3:c<b
    . rw [zo3 h2,zo4 h3] at h';omega
    . rw [zo4 (by omega)];omega
  ·
   by_cases h2:b<a
   . rw [zo3 h1,zo4 h2] at h;omega
   ·
    rw [zo3 h1,zo3 h2] at h
    by_cases h3:b<c
    . rw [zo4 (by omega)];omega
    ·
     by_cases h4:c<b
     . rw [zo3 h3,zo4 h4] at h';omega
     ·
      rw [zo3 h3,zo3 h4] at h'
      rw [zo3 (by omega),zo3 (by omega)]
      exact xT h h'
theorem xt (x y:Ob):yF y x=- yF x y:=by
 unfold yF
 have:=xe x.1 y.1
 (repeat' split);all_goals omega
theorem km (x:Ob):yF x x=0:=by
 unfold yF
 simp [jL]
theorem zaN {x y:Ob} (h:yF x y=0):x=y:=by
 unfold yF at h
 split at h
 . rename_i h1;exact absurd h h1
 ·
  rename_i h1
  split at h
  . simp at h
  ·
   split at h
   . simp at h
   . exact Prod.ext (qg (zo2.1 h1)) (by omega)
theorem zh7 {x y:Ob}:yF x y<0 ↔ xL x.1 y.1<0\/(x.1=y.1/\x.2<y.2):=by
 unfold yF
 by_cases h:x.1=y.1
 ·
  have h1:xL x.1 y.1=0:=by rw [h];exact jL _
  rw [zo3 (by rw [h1];decide),h1]
  by_cases h2:x.2<y.2
  . simp [h2,h]
  ·
   rw [zo3 h2]
   by_cases h3:y.2<x.2
   . simp [h3,h2]
   . simp [h3,h2]
 ·
  have h1:xL x.1 y.1 ≠ 0:=fun e=>h (qg e)
  rw [zo4 h1]
  simp [h]
theorem jo {x y z:Ob} (h:yF x y<0) (h':yF y z<0):yF x z<0:=by
 rw [zh7] at h h' ⊢
 rcases h with h | ⟨h1,h2⟩
 ·
  rcases h' with h' | ⟨h3,h4⟩
  . exact .inl (xT h h')
  . exact .inl (h3 ▸ h)
 ·
  rcases h' with h' | ⟨h3,h4⟩
  . exact .inl (h1 ▸ h')
  . exact .inr ⟨h1.trans h3,by omega⟩
abbrev Asc (l:List Ob):Prop:=l.Pairwise fun a b=>yF a b<0
theorem Asc.irr {l:List Ob} {x:Ob} (h:Asc (x::l)):x ∉ l:=fun hm=>by
 have:=(List.pairwise_cons.1 h).1 x hm
 rw [km] at this
 omega
theorem zfD:∀ {l l':List Ob},Asc l->Asc l'->(∀ x,x ∈ l ↔ x ∈ l')->l=l'
 | [],[],_,_,_=>rfl
 | [],y::l',_,_,h=>absurd ((h y).2 (znX ..)) (by simp)
 | x::l,[],_,_,h=>absurd ((h x).1 (znX ..)) (by simp)
 | x::l,y::l',h1,h2,h=>by
  have hxy:x=y:=by
   rcases zo9.1 ((h x).1 (znX ..)) with e | e
   . exact e
   ·
    rcases zo9.1 ((h y).2 (znX ..)) with e' | e'
    . exact e'.symm
    ·
     have a:=(List.pairwise_cons.1 h2).1 x e
     have b:=(List.pairwise_cons.1 h1).1 y e'
     have c:=xt x y
     omega
  subst hxy
  rw [zfD (List.pairwise_cons.1 h1).2 (List.pairwise_cons.1 h2).2 fun z=>?_]
  constructor
  ·
   intro hz
   rcases zo9.1 ((h z).1 (znW _ hz)) with rfl | h3
   . exact absurd hz h1.irr
   . exact h3
  ·
   intro hz
   rcases zo9.1 ((h z).2 (znW _ hz)) with rfl | h3
   . exact absurd hz h2.irr
   . exact h3
def zhK (x:Ob):List Ob->List Ob
 | []=>[x]
 | y::l=>if yF x y<0 then x::y::l else if x=y then y::l else y::zhK x l
def zeE (l:List Ob):List Ob:=l.foldr zhK []
theorem mem_insO {x z:Ob}:∀ {l:List Ob},z ∈ zhK x l ↔ z=x\/z ∈ l
 | []=>by simp [zhK]
 | y::l=>by
  simp only [zhK]
  split
  . simp
  ·
   split
   . rename_i h;subst h;simp
   ·
    simp only [zo9,mem_insO (l:=l)]
    constructor
    ·
     rintro (h | h | h)
     . exact .inr (.inl h)
     . exact .inl h
     . exact .inr (.inr h)
    ·
     rintro (h | h | h)
     . exact .inr (.inl h)
     . exact .inl h
     . exact .inr (.inr h)
theorem ze1 {x:Ob}:∀ {l:List Ob},Asc l->Asc (zhK x l)
 | [],_=>List.pairwise_singleton _ _
 | y::l,h=>by
  simp only [zhK]
  split
  ·
   rename_i h1
   refine List.pairwise_cons.2 ⟨fun z hz=>?_,h⟩
   rcases zo9.1 hz with rfl | hz
   . exact h1
   . exact jo h1 ((List.pairwise_cons.1 h).1 z hz)
  ·
   split
   . exact h
   ·
    rename_i h1 h2
    refine List.pairwise_cons.2 ⟨fun z hz=>?_,ze1 (List.pairwise_cons.1 h).2⟩
    rcases mem_insO.1 hz with rfl | hz
    ·
     have a:=xt z y
     have b:yF z y ≠ 0:=fun e=>h2 (zaN e)
     omega
    . exact (List.pairwise_cons.1 h).1 z hz
theorem zaO {z:Ob}:∀ {l:List Ob},z ∈ zeE l ↔ z ∈ l
 | []=>Iff.rfl
 | x::l=>by
  show z ∈ zhK x (zeE l) ↔ _
  rw [mem_insO,zaO,zo9]
theorem zaP:∀ (l:List Ob),Asc (zeE l)
 | []=>List.Pairwise.nil
 | _::l=>ze1 (zaP l)
theorem zh8 {l m:List Ob} (h:Asc l) (hm:∀ x,x ∈ l ↔ x ∈ m):l=zeE m:=zfD h (zaP m) fun x=>by rw [hm,zaO]
theorem zcJ {l s m:List Ob} (hp:s.Perm l) (hn:l.Nodup) (hs:s.Pairwise fun a b=>¬ yF b a<0) (hm:∀ x,x ∈ l ↔ x ∈ m):s=zeE m:=by
 have hsn:s.Nodup:=hp.nodup_iff.2 hn
 refine zh8 ?_ fun x=>by rw [hp.mem_iff,hm]
 refine (hs.and hsn).imp ?_
 intro a b h
 have h1:=xt a b
 have h2:yF a b ≠ 0:=fun e=>h.2 (zaN e)
 omega
theorem zfE {l:List Ob} (h:Asc l):l.Nodup:=h.imp fun {a b} h e=>by rw [e,km] at h;omega
end Go.Proofs.YtaenledoagbddaaGreatDoor
namespace Go.GL
def ROb:Rel (List Int × Int):=fun D w o cs=>∃ v,cs=[v,.int .i64 o.2]/\SlR 1 zB D w v o.1
def RQu:Rel (Int × List Int):=fun D w q cs=>∃ v,cs=[.int .i64 q.1,v]/\SlR 1 zB D w v q.2
def RPg:Rel Fl:=fun D w f cs=>∃ v1 v2 v3,cs=[v1,v2,v3]/\RFl D w f v1 v2 v3
theorem zcK:zW ROb:=fun _ _ _ _ hD hk _ _ ⟨v,h1,h2⟩=>⟨v,h1,h2.stable zc hD hk⟩
theorem jM:zW RQu:=fun _ _ _ _ hD hk _ _ ⟨v,h1,h2⟩=>⟨v,h1,h2.stable zc hD hk⟩
theorem zcL:zW RPg:=fun _ _ _ _ hD hk _ _ ⟨v1,v2,v3,h1,h2⟩=>⟨v1,v2,v3,h1,h2.vars.stable yW hD hk,h2.hatches.stable yX hD hk,h2.body.stable zf hD hk⟩
theorem zfF:qn ROb:=fun _ _ _ _ ⟨v,h1,h2⟩=>⟨v,h1,h2.narrow (by omega) xp⟩
theorem zfG:qn RQu:=fun _ _ _ _ ⟨v,h1,h2⟩=>⟨v,h1,h2.narrow (by omega) xp⟩
theorem zfH:qn RPg:=fun _ _ _ _ ⟨v1,v2,v3,h1,h2⟩=>⟨v1,v2,v3,h1,h2.narrow⟩
instance:StC ROb:=⟨zcK⟩
instance:StC RQu:=⟨jM⟩
instance:StC RPg:=⟨zcL⟩
instance:Dt ROb:=⟨zcK,zfF⟩
instance:Dt RQu:=⟨jM,zfG⟩
instance:Dt RPg:=⟨zcL,zfH⟩
theorem zja (D:Nat->Prop) {w:World} (x:List Int × Int) (cs:List Value) (h:ROb D w x cs):∀ u ∈ cs,u.oneCell'=true:=by
 obtain⟨v,rfl,h1⟩:=h
 obtain⟨a,c,rfl⟩:=h1.form
 simp [Value.oneCell']
@[ext] structure Ac where
 mode:Int
 budget:Int
 spent:Int
 left:List Int
 asked:List (Int × List Int)
deriving DecidableEq
structure RAc (D:Nat->Prop) (w:World) (a:Ac) (v1 v2:Value):Prop where
 left:SlR 1 zB D w v1 a.left
 asked:SlR 2 RQu D w v2 a.asked
theorem RAc.ext {D:Nat->Prop} {w w':World} {a:Ac} {v1 v2:Value} (h:RAc D w a v1 v2) (hk:Ext w w'):RAc D w' a v1 v2:=⟨h.left.ext zc hk,h.asked.ext jM hk⟩
instance {D:Nat->Prop} {w w':World} {a:Ac} {v1 v2:Value}:Tr (RAc D w a v1 v2) w w' (RAc D w' a v1 v2):=⟨fun h hk=>RAc.ext h hk⟩
theorem RAc.wide {D D':Nat->Prop} {w:World} {a:Ac} {v1 v2:Value} (h:RAc D w a v1 v2) (hD:∀ q,D q->D' q):RAc D' w a v1 v2:=⟨h.left.wide zc hD,h.asked.wide jM hD⟩
end Go.GL
namespace Go.Proofs
open Go.Shelf
def Tryz.laysM171_ren:Go.Shelf.Ren:=⟨fun | 171=>126 | 243=>158 | 246=>208 | 283=>225 | 284=>226 | 285=>227 | 286=>228 | 129=>168 | 317=>237 | 318=>238 | 319=>239 | 320=>240 | 337=>241 | 338=>242 | n=>n,fun | 3=>3 | 9=>9 | 2=>2 | 4=>4 | 171=>247 | 0=>0 | 53=>207 | 37=>160 | 5=>5 | 173=>249 | 212=>257 | 51=>205 | 20=>20 | 213=>258 | 46=>172 | 232=>259 | 233=>260 | n=>n,fun | 17=>0 | 18=>1 | 19=>2 | n=>n⟩
theorem Tryz.laysM171:Go.Proofs.LaysM.n171 Tryz.prog Tryz.laysM171_ren:={
 mixed:=by kernel_rfl
 f129:=Tryz.func168.trans (congrArg some (by kernel_rfl))
 f171:=Tryz.func126.trans (congrArg some (by kernel_rfl))
 f243:=Tryz.func158.trans (congrArg some (by kernel_rfl))
 f246:=Tryz.func208.trans (congrArg some (by kernel_rfl))
 f283:=Tryz.func225.trans (congrArg some (by kernel_rfl))
 f284:=Tryz.func226.trans (congrArg some (by kernel_rfl))
 f285:=Tryz.func227.trans (congrArg some (by kernel_rfl))
 f286:=Tryz.func228.trans (congrArg some (by kernel_rfl))
 f317:=Tryz.func237.trans (congrArg some (by kernel_rfl))
 f318:=Tryz.func238.trans (congrArg some (by kernel_rfl))
 f319:=Tryz.func239.trans (congrArg some (by kernel_rfl))
 f320:=Tryz.func240.trans (congrArg some (by kernel_rfl))
 f337:=Tryz.func241.trans (congrArg some (by kernel_rfl))
 f338:=Tryz.func242.trans (congrArg some (by kernel_rfl))
 t0:=tu0
 a0:=tg0
 z0:=ts0
 v0:=tz0
 t2:=Tryz.underlying2
 a2:=Tryz.isAgg2
 z2:=Tryz.sizeOf2
 v2:=Tryz.zeroValue2
 t3:=tu3
 a3:=tg3
 z3:=ts3
 v3:=tz3
 t4:=tu4
 a4:=tg4
 z4:=ts4
 v4:=tz4
 t5:=tu5
 a5:=tg5
 z5:=ts5
 v5:=tz5
 t9:=tu9
 a9:=tg9
 z9:=ts9
 v9:=tz9
 t20:=Tryz.underlying20
 a20:=Tryz.isAgg20
 z20:=Tryz.sizeOf20
 v20:=Tryz.zeroValue20
 t37:=tu160
 a37:=Tryz.isAgg160
 z37:=Tryz.sizeOf160
 v37:=Tryz.zeroValue160
 t46:=tu172
 a46:=Tryz.isAgg172
 z46:=ts172
 v46:=tz172
 t51:=tu205
 a51:=Tryz.isAgg205
 z51:=ts205
 v51:=tz205
 t53:=tu207
 a53:=Tryz.isAgg207
 z53:=ts207
 v53:=tz207
 t171:=Tryz.underlying247
 a171:=Tryz.isAgg247
 z171:=Tryz.sizeOf247
 v171:=Tryz.zeroValue247
 t173:=Tryz.underlying249
 a173:=Tryz.isAgg249
 z173:=Tryz.sizeOf249
 v173:=Tryz.zeroValue249
 t212:=Tryz.underlying257
 a212:=Tryz.isAgg257
 z212:=Tryz.sizeOf257
 v212:=Tryz.zeroValue257
 t213:=Tryz.underlying258
 a213:=Tryz.isAgg258
 z213:=Tryz.sizeOf258
 t232:=Tryz.underlying259
 a232:=Tryz.isAgg259
 z232:=Tryz.sizeOf259
 v232:=Tryz.zeroValue259
 t233:=Tryz.underlying260
 a233:=Tryz.isAgg260
 z233:=Tryz.sizeOf260
 v233:=Tryz.zeroValue260
 g17:=by kernel_rfl
 g18:=by kernel_rfl
 g19:=by kernel_rfl
 i0:=by kernel_rfl
 i2:=by kernel_rfl
 i3:=by kernel_rfl
 i4:=by kernel_rfl
 i5:=by kernel_rfl
 i9:=by kernel_rfl
 i20:=by kernel_rfl
 i37:=by kernel_rfl
 i46:=by kernel_rfl
 i51:=by kernel_rfl
 i53:=by kernel_rfl
 i171:=by kernel_rfl
 i173:=by kernel_rfl
 i212:=by kernel_rfl
 i232:=by kernel_rfl
 i233:=by kernel_rfl
 m17:=by kernel_rfl
 m18:=by kernel_rfl
 m19:=by kernel_rfl }
open Go.RowKit Go.Sort Go.Lib in
theorem Tryz.strconv_Itoa (n:Int) (h0:-9223372036854775808<=n) (h1:n<=9223372036854775807) (w:World) (htab:Lib.TabIs Tryz.prog w "internal/strconv.uint64pow10" .u64 Lib.pow10Tab) :
  Calls Tryz.prog 126 #[.int .i64 n] w fun e w'=>e=.returned (.string ⟨(Lib.itoa n).toArray⟩)/\∃ k os,w'=grow (w.drewN k) os:=Any.strconv_Itoa Tryz.laysM171 n h0 h1 w htab
end Go.Proofs
namespace Go.Proofs.YtaenledoagbddaaGreatDoor
open Go.GL
theorem zbR (a:List UInt8):Lib.strCells ⟨a.toArray⟩=Lib.byteCells a:=by simp [Lib.strCells_eq]
theorem zbS (a:List UInt8):(⟨a.toArray⟩:ByteArray).size=a.length:=by simp [ByteArray.size]
def Tab (w:World):Prop:=Lib.TabIs Tryz.prog w "internal/strconv.uint64pow10" .u64 Lib.pow10Tab
theorem Tab.ext {w w':World} (h:Tab w) (hk:Ext w w'):Tab w' :=
 Go.Joins.tab_stays (P:=Tryz.prog) (g:=0) (by kernel_rfl) h (B:=w.heap.size) ⟨hk.os,hk.tape,hk.output,hk.size,fun k hk'=>hk.block k hk' (fun h=>h)⟩ (zoi _)
instance {w w':World}:Tr (Tab w) w w' (Tab w'):=⟨Tab.ext⟩
theorem zdp (w:World) (k:Nat) (os:Array Obj):Ext w (Go.Sort.grow (w.drewN k) os):=by
 refine⟨rfl,rfl,rfl,Nat.le_add_right _ _,?_,fun i hi _=>?_⟩
 ·
  show w.heap.size<=(w.heap++os).size
  rw [Array.size_append];omega
 ·
  show (w.heap++os)[i]?=_
  rw [Array.getElem?_append_left hi]
theorem zif (n:Int) (h0:-9223372036854775808<=n) (h1:n<=9223372036854775807) (w:World) (ht:Tab w):Calls Tryz.prog 126 #[.int .i64 n] w (Ret fun r w'=>r=.string ⟨(Lib.itoa n).toArray⟩/\Ext w w'):=by
 refine (Tryz.strconv_Itoa n h0 h1 w ht).mono ?_
 rintro e w' ⟨rfl,k,os,rfl⟩
 exact⟨_,rfl,rfl,zdp w k os⟩
abbrev ziR (k1 k2 b:Nat) (p v:Value) (m:Nat) (bs:List Value):Hp:=[(k1,.own b [p,v] 162),(k2,.row 5 1 v m bs)]
theorem zcM {k1 k2 b m:Nat} {p v:Value} {bs:List Value} {w:World} (hB:Blk w b [p,v] 162) (hR:w.ownsRow 0 5 1 v m bs) (hne:v.ownBlock ≠ some b) :
  (∀ x ∈ ziR k1 k2 b p v m bs,x.2.holds w/\x.2.loc/\(∀ b,¬ x.2.fz b)/\∀ q,x.2.S q->q<w.heap.size)/\(ziR k1 k2 b p v m bs).Pairwise (fun x y=>∀ q,x.2.S q->¬ y.2.S q):=by
 refine⟨fun x hx=>?_,List.pairwise_cons.2 ⟨fun x hx q hq hs=>?_,List.pairwise_singleton _ _⟩⟩
 ·
  simp only [zo9,List.not_mem_nil,or_false] at hx
  rcases hx with rfl | rfl
  . exact⟨hB,trivial,fun _ h=>h,fun q hq=>by have hq:q=b:=hq;rw [hq];exact hB.lt⟩
  . exact⟨hR,trivial,fun _ h=>h,fun q hq=>xi hR hq⟩
 ·
  rw [zob] at hx
  subst hx
  have hq:q=b:=hq
  subst hq
  exact hne hs
theorem zfI {H:Hp} {p v:Value} {b:Nat} {w:World} (hp:p=.pointer none\/p=.pointer (some ⟨b,0,none⟩)) (hB:Blk w b [p,v] 162) (h0:zl H 900=some (.own b [p,v] 162)) :
  Calls Tryz.prog 157 #[.pointer (some ⟨b,0,none⟩)] w (Ret fun r w'=>∃ _x:Unit,r=.tuple #[]/\Hands H [900] [(900,.own b [.pointer (some ⟨b,0,none⟩),v] 162)] w w'):=by
 refine (zck p v b hp w hB).mono ?_
 rintro e w' ⟨_,rfl,rfl,h1,h2⟩
 refine⟨_,rfl,(),rfl,h2.mono fun q _ hq=>⟨_,zi h0,rfl,hq⟩,fun x hx=>?_,List.pairwise_singleton _ _⟩
 rw [zob] at hx
 subst hx
 exact⟨h1,trivial,fun _ h=>h,fun q hq=>⟨.inl ⟨_,zi h0,rfl,hq⟩,by have hq:q=b:=hq;rw [hq];exact h1.lt⟩⟩
theorem zjC {k1 k2 b m q:Nat} {p v:Value} {bs:List Value} (h:HS (ziR k1 k2 b p v m bs) q):q=b\/v.ownBlock=some q:=by
 obtain⟨x,hx,hq⟩:=h
 simp only [zo9,List.not_mem_nil,or_false] at hx
 rcases hx with rfl | rfl
 . exact .inl hq
 . exact .inr hq
theorem zjW {H:Hp} {w0 w:World} {b m m':Nat} {p p' v v':Value} {bs bs':List Value} (hI:VI [(w0,HS (ziR 900 901 b p v m bs))] H w) (h0:zl H 900=some (.own b [p',v'] 162)) (h1:zl H 901=some (.row 5 1 v' m' bs')):∀ q,v'.ownBlock=some q->v.ownBlock=some q\/w0.heap.size<=q:=by
 intro q hq
 rcases (hI.base _ (znX ..)).2 _ (zi h1) q hq with h | h
 ·
  rcases zjC h with h | h
  . exact absurd hq (fun hq=>zq hI.apart h0 h1 O b O (h ▸ hq))
  . exact .inl h
 . exact .inr h
theorem zdq (p v:Value) (b:Nat) (bs:List Value) (s:ByteArray) (hp:p=.pointer none\/p=.pointer (some ⟨b,0,none⟩)) (W:World) (hB:Blk W b [p,v] 162) (hR:W.ownsRow 0 5 1 v bs.length bs) (hne:v.ownBlock ≠ some b) (h0:0<s.size) (hlen:bs.length+s.size<=140737488355328) :
  Calls Tryz.prog 125 #[.pointer (some ⟨b,0,none⟩),.string s] W (Ret fun r w'=>r=.tuple #[.int .i64 s.size,.nilIface]/\∃ v',Blk w' b [.pointer (some ⟨b,0,none⟩),v'] 162/\w'.ownsRow 0 5 1 v' (bs.length+s.size) (bs++Lib.strCells s)/\v'.ownBlock ≠ some b/\Keep (fun q=>q=b\/v.ownBlock=some q) W w'/\∀ q,v'.ownBlock=some q->v.ownBlock=some q\/W.heap.size<=q):=by
 refine zmb Tryz.func125 O Tryz.ntmps125 O (zn0 [(900,.own b [p,v] 162),(901,.row 5 1 v bs.length bs)] (zcM (k1:=900) (k2:=901) hB hR hne).1 (zcM (k1:=900) (k2:=901) hB hR hne).2 ?_)
 refine zms 0 900 0 O O ?_
 refine Vs 9 O ?_
 refine zn1 [900] (Hn:=fun _x:Unit=>[(900,.own b [.pointer (some ⟨b,0,none⟩),v] 162)]) [(0,some (900,0)),(6,some (900,0))] Tryz.call157 O (fun _ _=>rfl) (fun _=>rfl) (fun w hI=>zfI hp (hI.at 900 O) O) ?_
 rintro _ ⟨⟩ rfl
 refine Vs 10 O ?_
 refine znf 901 tu160 tu9 Tryz.el5 O (h0) (by omega) (by omega) (fun u901=>?_)
 refine zmx 901 O (by omega) ?_
 rintro bq cq rfl hcap_901
 refine Vs 14 O ?_
 refine zku Tryz.results125 O O (fun w hI=>⟨_,rfl,rfl,_,hI.at 900 rfl,hI.at 901 rfl,fun h=>zq hI.apart (k:=900) (k':=901) O O O b O h,hI.k0.mono (fun q _ h=>zjC h),zjW hI O rfl⟩)
open Go.GL Go.ChangeShapes Go.WideShapes Go.ChangeAt Go.RowKit
def zjX {H:Type}:List (String × DataW H):=[("math/bits.deBruijn32tab",Rows.laid_math_bits_deBruijn32tab),("math/bits.deBruijn64tab",Rows.laid_math_bits_deBruijn64tab),("internal/strconv.uint64pow10",Rows.laid_internal_strconv_uint64pow10)]
theorem zjb {W:World} (h:laidMet Tryz.prog zjX W):Tab W:=by
 obtain⟨ps,⟨_,_,_,_,_,_,_,_,_,_,⟨_,_,_,_,_,_,_,_,_,_,⟨g,t,cs,fuel,p,q,hg,ht,hvar,hd,_,_⟩,_⟩,_⟩,_⟩:=h
 obtain rfl:=Option.some.inj ((show Tryz.prog.globalNamed "internal/strconv.uint64pow10"=some 0 by kernel_rfl).symm.trans hg)
 obtain rfl:=Option.some.inj ((show (Tryz.prog.globals[0]?).map (·.type)=some 257 by kernel_rfl).symm.trans ht)
 rw [show (Rows.laid_internal_strconv_uint64pow10:DataW Unit)=Lib.tabData .u64 Lib.pow10Tab by kernel_rfl] at hd
 show W.var? _ _=_
 have h1:=Lib.cells_of_tab (n:=20) (e:=207) (by kernel_rfl) (by kernel_rfl) (by kernel_rfl) (by kernel_rfl) hd
 rw [hvar,<- h1]
def zfJ:DataW Unit->Array Value
 | .agg l=>(l.map fun d=>match d with
  | .lit (.int k z)=>Value.int k z
  | _=>.int .i64 0).toArray
 | _=>#[]
def zjI (cs:Array Value):Obj->Obj
 | .cells _ t frozen=>.cells cs t frozen
 | o=>o
noncomputable def zfK (os:Os):World :=
 let w0:=World.holding Tryz.prog os ⟨#[],#[],[]⟩
 { w0 with heap:=((w0.heap.modify 0 (zjI (zfJ Rows.laid_internal_strconv_uint64pow10))).modify 1 (zjI (zfJ Rows.laid_math_bits_deBruijn32tab))).modify 2 (zjI (zfJ Rows.laid_math_bits_deBruijn64tab)) }
set_option maxRecDepth 100000 in
theorem zbT (os:Os) (args:Array Value):laidMet Tryz.prog zjX ((zfK os).forCall (fun _ _=>0) ⟨#[],args,[]⟩).memory :=
 laidMet_of_run' 8 (by kernel_rfl) (by kernel_rfl)
end Go.Proofs.YtaenledoagbddaaGreatDoor
