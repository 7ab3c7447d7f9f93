/-
  Contracts and the mathematics that the proof needs. Nothing here is a claim.
-/
import Derived.Test.YtckdhgbepmpgiaaGreatKW2
namespace Go.Proofs.YtckdhgbepmpgiaaGreat
open Go.GL
mutual
/-- The range of a term whose nodes all lie within the limit. -/
def rng (vs:List Vr):Tm->Option Rg
 | .mk op n ks=>(rngL vs ks).bind fun l=>if okR (zh vs op n l) then some (zh vs op n l) else none
def rngL (vs:List Vr):List Tm->Option (List Rg)
 | []=>some []
 | k::r=>(rng vs k).bind fun x=>(rngL vs r).map fun l=>x::l
end
section
variable {vs:List Vr}
theorem zb6 (t:Tm):rng vs t=(rngL vs t.kids).bind fun l=>if okR (zh vs t.op t.n l) then some (zh vs t.op t.n l) else none:=by cases t;rw[rng];rfl
theorem zb7 (a b:List Tm):rngL vs (a++b)=(rngL vs a).bind fun l=>(rngL vs b).map fun m=>l++m:=by
 induction a with
 | nil=>simp[rngL]
 | cons x r ih =>
  simp only[zq5,rngL,ih]
  cases rng vs x<;>cases rngL vs r<;>cases rngL vs b<;>simp
theorem zd9 {l:List Tm} {i:Nat} {x:Tm} {m:List Rg} {r:Rg} (h:l[i]?=some x) (h1:rngL vs (l.take i)=some m) (h2:rng vs x=some r):rngL vs (l.take (i+1))=some (m++[r]):=by
 rw[zd h,zb7,h1];simp[rngL,h2]
theorem zda {l:List Tm} {i:Nat} {x:Tm} (h:l[i]?=some x) (h2:rng vs x=none):rngL vs l=none:=by
 rw[ym h,zb7]
 cases rngL vs (l.take i)<;>simp[rngL,h2]
theorem qa:∀ (l:List Tm) (m:List Rg),rngL vs l=some m->m.length=l.length
 | [],m,h=>by simp[rngL]at h;subst h;rfl
 | x::r,m,h=>by
  simp only[rngL,zrr,zrv]at h
  obtain⟨y,_,z,h2,rfl⟩:=h
  simp[qa r z h2]
theorem jp:∀ (l:List Tm) (m:List Rg),rngL vs l=some m->∀ r ∈ m,∃ t ∈ l,rng vs t=some r
 | [],m,h,r,hr=>by simp[rngL]at h;subst h;simp at hr
 | x::l,m,h,r,hr=>by
  simp only[rngL,zrr,zrv]at h
  obtain⟨y,h1,z,h2,rfl⟩:=h
  rcases zp9.1 hr with rfl | hr
  . exact⟨x,zoX ..,h1⟩
  obtain⟨t,h3,h4⟩:=jp l z h2 r hr
  exact⟨t,zoW _ h3,h4⟩
theorem zey (x:Rg) (h:x.1<=x.2):∀ l:List Rg,(yR x l).1<=x.1/\x.2<=(yR x l).2:=by
 intro l
 induction l generalizing x with
 | nil=>simp[yR]
 | cons y r ih =>
  have:=ih (min x.1 y.1,max x.2 y.2) (by dsimp only;omega)
  simp only[yR,zqo]at this ⊢
  constructor<;>omega
theorem zgd {l:List Rg} {i:Nat} (h:i<l.length):at2 l i ∈ l:=by
 unfold at2
 rw[zoT h]
 exact List.getElem_mem h
theorem zhT {n:Int} (hv:∀ v ∈ vs,yz (v.low,v.high)) (hn:0<=n/\n<vs.length):yz (vat vs n):=by
 unfold vat
 rw[zoT (show n.toNat<vs.length by omega)]
 exact hv _ (List.getElem_mem _)
theorem zge {op n:Int} {l:List Rg} (h:NodeOk vs op n l):(zh vs op n l).1<=(zh vs op n l).2:=by
 have hg:∀ i,i<l.length->yz (at2 l i):=fun i hi=>h.good _ (zgd hi)
 unfold yz at hg
 unfold zh
 split
 . exact zpS _
 split
 . rename_i h1 h2;exact(zhT h.vars (h.var h2)).2.1
 split
 . rename_i h1 h2 h3;have:=h.k1 (.inl h3);have:=hg 0 (by omega);dsimp only;omega
 split
 . have:=h.k2 (by omega);have:=hg 0 (by omega);have:=hg 1 (by omega);dsimp only;omega
 split
 . have:=h.k2 (by omega);have:=hg 0 (by omega);have:=hg 1 (by omega);dsimp only;omega
 split
 .
  have:=zey ((at2 l 0).1*(at2 l 1).1,(at2 l 0).1*(at2 l 1).1) (zpS _) [((at2 l 0).1*(at2 l 1).2,(at2 l 0).1*(at2 l 1).2),((at2 l 0).2*(at2 l 1).1,(at2 l 0).2*(at2 l 1).1),((at2 l 0).2*(at2 l 1).2,(at2 l 0).2*(at2 l 1).2)]
  unfold xF
  exact Int.le_trans this.1 this.2
 split
 . have:=h.k2 (by omega);have:=hg 0 (by omega);dsimp only;split<;>omega
 split
 . have:=h.k2 (by omega);have:=hg 1 (by omega);dsimp only;split<;>split<;>omega
 split
 . have:=h.k2 (by omega);have:=hg 0 (by omega);have:=hg 1 (by omega);dsimp only;omega
 split
 . have:=h.k2 (by omega);have:=hg 0 (by omega);have:=hg 1 (by omega);dsimp only;omega
 split
 .
  rename_i hk
  have:=h.k3 hk;have h2:=hg 1 (by omega)
  have:=zey (at2 l 1) h2.2.1 (l.drop 2)
  omega
 decide
theorem kn {inp:Bool} (hv:∀ v ∈ vs,yz (v.low,v.high)) (t:Tm):zu vs inp t=true->∀ r,rng vs t=some r->yz r:=by
 induction t using zmz with
 | h t ih =>
  intro hf r hr
  rw[yO,zpv,zpv]at hf
  rw[zb6,zrr]at hr
  obtain⟨l,h1,h2⟩:=hr
  have hn:NodeOk vs t.op t.n l:=qW (qa _ _ h1) hf.1.1 hf.1.2 (fun x hx=>by
   obtain⟨k,hk,hkx⟩:=jp _ _ h1 x hx
   exact ih k hk (zX hf.2 hk) x hkx) hv
  have:=zge hn
  split at h2
  .
   rename_i hok
   cases h2
   have:=of_decide_eq_true hok
   exact⟨this.1,by omega,this.2⟩
  cases h2
end
theorem zdb (vs:List Vr) (inp:Bool) (vv:Value) (Dv:Nat->Prop) (hvb:∀ v ∈ vs,yz (v.low,v.high)) (t:Tm):∀ (cs:List Value) (D:Nat->Prop) (w:World),SlR 5 RVr Dv w vv vs->RTm D w t cs->zu vs inp t=true->t.nodes<=1000000 ->
  Calls Tryz.prog 89 #[vv,.agg cs.toArray] w (Ret fun r w'=>(∃ a b:Int,r=.tuple #[.agg #[.int .i64 a,.int .i64 b],.bool (rng vs t).isSome]/\∀ x,rng vs t=some x->(a,b)=x)/\Ext w w'):=by
 induction t using zmz with
 | h t ih =>
 intro cs D w hvs ht hf hsz
 have hft:=hf
 rw[yO,zpv,zpv]at hf
 have hlen:=zaT t.kids
 have hse:=t.nodes_eq
 obtain⟨v,rfl,hk⟩:=ht.get
 obtain⟨ao,cap,rfl⟩:=hk.form
 obtain⟨av,nv,rfl⟩:=hvs.form
 have hE:=Keep.refl (fun _=>False) w
 refine zn2 Tryz.func89 O Tryz.ntmps89 O (Gs 2 O (zlY O O (M.box O O) ?_))
 rintro _ w_b ⟨b,rfl,hg_b,hs_b,hB_b,hk_b⟩
 have hge_b:_<=b:=zoZ hE.size (zri hg_b.symm)
 obtain⟨hE,hvs,hk⟩:=Tr3 hk_b hE hvs hk
 refine zlY O O (M.alloc (cs:=_) tz159 O) ?_
 rintro _ w_r ⟨r,rfl,hg_r,hs_r,hB_r,hk_r⟩
 have hn_b_r:b ≠ r:=by have:=hB_b.lt;omega
 have hge_r:_<=r:=zoZ hE.size (zri hg_r.symm)
 obtain⟨hE,hvs,hk,hB_b⟩:=Tr4 hk_r hE hvs hk hB_b
 refine Gs 12 O (zmV O tg68 (hB_b.cells 2 _ O) (Gs 5 O (G.loop (σ:=Nat × List Rg × Value) (fun⟨i,l,vk⟩=>[(0,.slice av vs.length nv),(3,.pointer (some ⟨b,0,none⟩)),(4,.pointer (some ⟨r,0,none⟩)),(6,vk),(13,.slice ao t.kids.length cap),(14,.int .i64 t.kids.length),(15,.int .i64 i)]) (fun⟨i,l,vk⟩=>fun w'=>i<=t.kids.length/\rngL vs (t.kids.take i)=some l/\w'.ownsRow 0 159 2 vk l.length (l.flatMap zka)/\(∀ q,vk.ownBlock=some q->w_r.heap.size<=q)/\Ext w_r w') (fun⟨i,l,vk⟩=>t.kids.length - i) ((0,[],.slice none 0 0)) (Sub.of O) (⟨zp8 _,rfl,kQ _ _ _,fun q hq=>by simp[Value.ownBlock]at hq,Keep.refl _ _⟩) ?_)))
 rintro⟨i,l,vk⟩ w1 ⟨hi,hl,hown,hfr,hL1⟩
 show G _ _ _ _ _ [(0,.slice av vs.length nv),(3,.pointer (some ⟨b,0,none⟩)),(4,.pointer (some ⟨r,0,none⟩)),(6,vk),(13,.slice ao t.kids.length cap),(14,.int .i64 t.kids.length),(15,.int .i64 i)] _
 obtain⟨hE,hvs,hk,hB_b,hB_r⟩:=Tr5 hL1 hE hvs hk hB_b hB_r
 refine Gs 6 O (zlc O (fun hlt=>?_) (fun hlt=>?_))
 .
  obtain⟨k,he_k,hm_k⟩:=gE_ t.kids (i) (by omega)
  obtain⟨b_k,o_k,c_k,ha_k,_,hc_k,hR_k⟩:=hk.at he_k
  have h1_k:=RTm.one hR_k
  obtain⟨v1_k,rfl,hk_k⟩:=hR_k.get
  obtain⟨a1_k,n1_k,rfl⟩:=hk_k.form
  have hlt_k:b_k<_:=zoV _ _ (hc_k 0 _ rfl)
  have hsp:=xp he_k
  have hll:=qa _ _ hl
  rw[zpn]at hll
  refine Gs 6 O (zmR O O (zlO tR68 ts70 O O ha_k (by omega)) (zmX O tg70 ts70 hc_k O (zlY O O (M.alloc (cs:=_) tz70 O) ?_)))
  rintro _ wa1 ⟨c,rfl,hg_c,hs_c,hB_c,hk_c⟩
  refine zm3 O (zm4 ts70 O O O O h1_k hB_c (by simp)) ?_
  rintro w_c ⟨_,hB_c,hkk_c⟩
  replace hk_c:=hk_c.trans hkk_c (fun q hq h=>by have h:q=c:=h;omega)
  have hn_b_c:b ≠ c:=by have:=hB_b.lt;omega
  have hn_r_c:r ≠ c:=by have:=hB_r.lt;omega
  have hge_c:_<=c:=zoZ hE.size (zri hg_c.symm)
  obtain⟨hE,hvs,hk,hB_b,hB_r,hL1,hown⟩:=Tr7 hk_c hE hvs hk hB_b hB_r hL1 hown
  obtain⟨hc_k,hk_k⟩:=Tr2 hk_c hc_k hk_k
  refine Gs 5 O (zmX O tg70 ts70 hB_c.cells O (G.call O Tryz.call89 (ih k hm_k _ D _ hvs (RTm.put hk_k) (zX hf.2 hm_k) (by omega)) ?_))
  rintro _ wz2 ⟨⟨ka,kb,rfl,hval⟩,hz2⟩
  obtain⟨hE,hvs,hk,hB_b,hB_r,hL1,hown⟩:=Tr7 hz2 hE hvs hk hB_b hB_r hL1 hown
  obtain⟨hc_k,hk_k,hB_c⟩:=Tr3 hz2 hc_k hk_k hB_c
  refine Gs 3 O (zlY O O (M.alloc (cs:=_) tz159 O) ?_)
  rintro _ wa3 ⟨d,rfl,hg_d,hs_d,hB_d,hk_d⟩
  refine zm3 O (zm4 ts159 O O O O (by simp[Value.oneCell']) hB_d (by simp)) ?_
  rintro w_d ⟨_,hB_d,hkk_d⟩
  replace hk_d:=hk_d.trans hkk_d (fun q hq h=>by have h:q=d:=h;omega)
  have hn_b_d:b ≠ d:=by have:=hB_b.lt;omega
  have hn_r_d:r ≠ d:=by have:=hB_r.lt;omega
  have hn_c_d:c ≠ d:=by have:=hB_c.lt;omega
  have hge_d:_<=d:=zoZ hE.size (zri hg_d.symm)
  obtain⟨hE,hvs,hk,hB_b,hB_r,hL1,hown⟩:=Tr7 hk_d hE hvs hk hB_b hB_r hL1 hown
  obtain⟨hc_k,hk_k,hB_c⟩:=Tr3 hk_d hc_k hk_k hB_c
  refine Gs 7 O (zmR O O (zms O (by first | exact za | rfl)) (Gs 2 O (G.bool O (fun hb=>?_) (fun hb=>?_))))
  .
   have hb':rng vs k=none:=by cases h:rng vs k<;>simp[h]at hb ⊢
   have hnone:rng vs t=none:=by rw[zb6,zda he_k hb'];rfl
   refine Gs 2 O (zmR O O (R.build (v:=.agg #[.int .i64 0,.int .i64 0]) [] O (fun _=>by kernel_rfl)) (zm3 O (zm4 ts159 O O O O (by simp[Value.oneCell']) hB_r (by simp)) ?_))
   rintro wf ⟨_,hBf,hkf⟩
   refine Gs 10 O (zlD Tryz.results89 O (zj tg159 ts159 O hBf.cells) O ?_)
   exact⟨_,rfl,⟨0,0,by rw[hnone];rfl,fun x hx=>by rw[hnone]at hx;cases hx⟩,hE.trans hkf (fun q hq h=>by have h:q=r:=h;omega)⟩
  obtain⟨x,hx⟩:∃ x,rng vs k=some x:=by cases h:rng vs k with
   | none=>simp[h]at hb
   | some x=>exact⟨x,rfl⟩
  have hxv:=hval x hx
  subst hxv
  refine Gs 4 O (zmX O tg159 ts159 hB_d.cells O (zlY O O (M.buildSlice (cs:=zka (ka,kb)) [(0,_)] tR203 ts159 tz159 (by decide) O (by kernel_rfl)) ?_))
  rintro _ w5 ⟨b5,rfl,hg_b5,hs_b5,hB_b5,hk_b5⟩
  obtain⟨hE,hvs,hk,hB_b,hB_r,hL1,hown⟩:=Tr7 hk_b5 hE hvs hk hB_b hB_r hL1 hown
  obtain⟨hc_k,hk_k,hB_c,hB_d⟩:=Tr4 hk_b5 hc_k hk_k hB_c hB_d
  refine zlY O O (M.append Tryz.underlying203 Tryz.el159 O (by decide) O O hown O (Cells.add hB_b5.cells) (zhS _) (by omega) (by omega)) ?_
  rintro vk' w6 ⟨hown6,hfr6,hk6,_⟩
  have hszL:=hL1.size
  have hE6:Ext w_r w6:=hL1.trans hk6 (fun q hq h=>by have:=hfr q h;omega)
  refine Ga 8 O (by omega) (G.back ((i+1,l++[(ka,kb)],vk')) (Sub.of O) (⟨by omega,zd9 he_k hl hx,?_,?_,hE6⟩) (by first | omega | (dsimp only;omega)))
  .
   rw[zp1,zqi]
   exact hown6
  intro q hq
  rcases hfr6 with h | ⟨q',h,h'⟩
  . exact hfr q (by rw[<- h];exact hq)
  rw[h]at hq;cases hq;omega
 have hii:i=t.kids.length:=by omega
 subst hii
 rw[zoY]at hl
 have hll:=qa _ _ hl
 have hsl:SlR 2 zai (fun _=>True) w1 vk l:=zmk (by omega) zka zhR (fun x _=>rfl) hown (fun _ _=>trivial)
 have hn:NodeOk vs t.op t.n l:=qW hll hf.1.1 hf.1.2 (fun x hx=>by
  obtain⟨k,hk,hkx⟩:=jp _ _ hl x hx
  exact kn hvb k (zX hf.2 hk) x hkx) hvb
 have hrg:rng vs t=if okR (zh vs t.op t.n l) then some (zh vs t.op t.n l) else none:=by rw[zb6,hl];rfl
 refine Gs 8 O (zmX O tg70 ts70 hB_b.cells O (Gs 1 O (G.call O Tryz.call129 (zjy vs t l _ vk _ Dv D (fun _=>True) _ hvs (RTm.put hk) hsl hn) ?_)))
 rintro _ wz4 ⟨rfl,hz4⟩
 obtain⟨hE,hvs,hk,hB_b,hB_r,hL1,hown⟩:=Tr7 hz4 hE hvs hk hB_b hB_r hL1 hown
 refine zlY O O (M.alloc (cs:=_) tz159 O) ?_
 rintro _ wa5 ⟨o,rfl,hg_o,hs_o,hB_o,hk_o⟩
 refine zm3 O (zm4 ts159 O O O O (by simp[Value.oneCell']) hB_o (by simp)) ?_
 rintro w_o ⟨_,hB_o,hkk_o⟩
 replace hk_o:=hk_o.trans hkk_o (fun q hq h=>by have h:q=o:=h;omega)
 have hn_b_o:b ≠ o:=by have:=hB_b.lt;omega
 have hn_r_o:r ≠ o:=by have:=hB_r.lt;omega
 have hge_o:_<=o:=zoZ hE.size (zri hg_o.symm)
 obtain⟨hE,hvs,hk,hB_b,hB_r,hL1,hown⟩:=Tr7 hk_o hE hvs hk hB_b hB_r hL1 hown
 obtain⟨p,hp⟩:∃ p,p=zh vs t.op t.n l:=⟨_,rfl⟩
 rw[<- hp]at hrg hB_o ⊢
 have hso:(rng vs t).isSome=okR p:=by rw[hrg];cases okR p<;>rfl
 have hval:∀ x,rng vs t=some x->(p.1,p.2)=x:=by
  intro x hx
  rw[hrg]at hx
  split at hx
  . exact Option.some.inj hx
  cases hx
 refine Gs 3 O (Dw (fun q=>Keep (fun k=>k=r) w_o q) [] (fun wd6 hD0 _=>?_))
 have hD:Keep (fun k=>k=r) _ _:=hD0.mono (fun _ _ h=>h.elim)
 refine WD.take 0 O (by kernel_rfl) O O O hD (fun w1 hw1=>zlQ tg159 ts159 O (by rfl) (hw1.blk hB_o (fun h=>hn_r_o h.symm)).cells) (Ds [1] (by kernel_rfl) O (WD.take 2 O (by kernel_rfl) O O O hD (fun w1 hw1=>R.load tg3 O ((hw1.blk hB_o (fun h=>hn_r_o h.symm)).cells 0 _ O)) (Ds [3,4] (by kernel_rfl) O (WD.sp 41 O (fun g1=>?_) (fun g1=>?_)))))
 .
  have ho:okR p=decide (p.2<=1048576):=by unfold okR;congr 1;simp;omega
  refine Ds [5] (by kernel_rfl) O (zmH 6 O (by kernel_rfl) O O hD (.inl ⟨fun a ha=>yZ ha O O O rfl,fun w1 hw1=>R.load tg3 O ((hw1.blk hB_o (fun h=>hn_r_o h.symm)).cells 1 _ O)⟩) (Ds [7,8] (by kernel_rfl) O (zm2 9 O (by kernel_rfl) O O (zm4 ts159 O O O O (by simp[Value.oneCell']) (hD0.blk hB_r (fun h=>h)) (by simp)) ?_)))
  rintro wf ⟨_,hBf,hkf⟩
  refine⟨fun _=>hD.trans hkf (fun _ _ h=>h),?_⟩
  refine Ds [10] (by kernel_rfl) O (G.done (by kernel_rfl) ?_ _)
  refine Gs 2 O (zlD Tryz.results89 O (zj tg159 ts159 O hBf.cells) O ?_)
  exact⟨_,rfl,⟨p.1,p.2,by rw[hso,ho];rfl,hval⟩,(hE.ext hD0).trans hkf (fun q hq h=>by have h:q=r:=h;omega)⟩
 have ho:okR p=false:=by unfold okR;exact zp6 (by omega)
 refine Ds [5,6,7,8] (by kernel_rfl) O (zm2 9 O (by kernel_rfl) O O (zm4 ts159 O O O O (by simp[Value.oneCell']) (hD0.blk hB_r (fun h=>h)) (by simp)) ?_)
 rintro wf ⟨_,hBf,hkf⟩
 refine⟨fun _=>hD.trans hkf (fun _ _ h=>h),?_⟩
 refine Ds [10] (by kernel_rfl) O (G.done (by kernel_rfl) ?_ _)
 refine Gs 2 O (zlD Tryz.results89 O (zj tg159 ts159 O hBf.cells) O ?_)
 exact⟨_,rfl,⟨p.1,p.2,by rw[hso,ho];rfl,hval⟩,(hE.ext hD0).trans hkf (fun q hq h=>by have h:q=r:=h;omega)⟩
theorem zcr (a b:Int) (w:World) (ha:-1048576<=a/\a<=1048576) (hb:-1048576<=b/\b<=1048576):Calls Tryz.prog 183 #[.int .i64 a,.int .i64 b] w (Ret fun r w'=>r=.tuple #[.int .i64 (if a<0 then min (a+1) 0 else 0),.int .i64 (if 0<b then max (b - 1) 0 else 0)]/\Ext w w'):=by
 have hE:=Keep.refl (fun _=>False) w
 refine zn2 Tryz.func183 O Tryz.ntmps183 O (Gs 19 O (zlc O (fun p0=>?_) (fun p0=>?_)))
 .
  refine Ga 3 O (by omega) (G.call O tc114 (zt 0 (a+1) _) ?_)
  rintro _ wz1 ⟨rfl,hz1⟩
  replace hE:=Tr1 hz1 hE
  refine Gs 10 O (zlc O (fun p1=>?_) (fun p1=>?_))
  .
   refine Ga 3 O (by omega) (G.call O tc113 (zR 0 (b - 1) _) ?_)
   rintro _ wz2 ⟨rfl,hz2⟩
   replace hE:=Tr1 hz2 hE
   refine Gs 12 O (zlv tr183 O O ⟨_,rfl,by rw[zp4 p0,zp4 p1,Int.min_comm,Int.max_comm],hE⟩)
  refine Gs 11 O (zlv tr183 O O ⟨_,rfl,by rw[zp4 p0,zp3 p1,Int.min_comm],hE⟩)
 refine Gs 9 O (zlc O (fun p1=>?_) (fun p1=>?_))
 .
  refine Ga 3 O (by omega) (G.call O tc113 (zR 0 (b - 1) _) ?_)
  rintro _ wz3 ⟨rfl,hz3⟩
  replace hE:=Tr1 hz3 hE
  refine Gs 12 O (zlv tr183 O O ⟨_,rfl,by rw[zp3 p0,zp4 p1,Int.max_comm],hE⟩)
 refine Gs 11 O (zlv tr183 O O ⟨_,rfl,by rw[zp3 p0,zp3 p1],hE⟩)
theorem xr {l:List Rg} {i:Nat} {x:Rg} (h:l[i]?=some x):(l.map Prod.fst)[i]?=some x.1:=by simp[h]
theorem xt {l:List Rg} {i:Nat} {x:Rg} (h:l[i]?=some x):(l.map Prod.snd)[i]?=some x.2:=by simp[h]
theorem zfb (vs:List Vr) (t:Tm) (ks:List Rg) (vv lv hv:Value) (cs:List Value) (Dv D Dl Dh:Nat->Prop) (w:World) (hvs:SlR 5 RVr Dv w vv vs) (ht:RTm D w t cs) (hlo:SlR 1 yc Dl w lv (ks.map Prod.fst)) (hhi:SlR 1 yc Dh w hv (ks.map Prod.snd)) (hn:NodeOk vs t.op t.n ks) :
  Calls Tryz.prog 151 #[vv,.agg cs.toArray,lv,hv] w (Ret fun r w'=>(∃ a b:Int,r=.tuple #[.int .i64 a,.int .i64 b]/\okR (a,b)=okR (zh vs t.op t.n ks)/\(okR (a,b)=true->(a,b)=zh vs t.op t.n ks))/\Ext w w'):=by
 obtain⟨v,rfl,hk⟩:=ht.get
 obtain⟨av,nv,rfl⟩:=hvs.form
 obtain⟨al,nl,rfl⟩:=hlo.form
 obtain⟨ah,nh,rfl⟩:=hhi.form
 rw[zpd,zpd]at *
 have hmx:=hlo.max
 rw[zpd]at hmx
 have same:∀ {a b:Int} {w':World},Ext w w'->(a,b)=zh vs t.op t.n ks->∃ v,Ending.returned (.tuple #[.int .i64 a,.int .i64 b])=.returned v/\(∃ a b:Int,v=.tuple #[.int .i64 a,.int .i64 b]/\okR (a,b)=okR (zh vs t.op t.n ks)/\(okR (a,b)=true->(a,b)=zh vs t.op t.n ks))/\Ext w w' :=
  fun hk he=>⟨_,rfl,⟨_,_,rfl,by rw[he],fun _=>he⟩,hk⟩
 have hE:=Keep.refl (fun _=>False) w
 refine zn4 Tryz.func151 O Tryz.ntmps151 O (Gs 2 O (zlY O O (M.box O O) ?_))
 rintro _ w_b ⟨b,rfl,hg_b,hs_b,hB_b,hk_b⟩
 have hge_b:_<=b:=zoZ hE.size (zri hg_b.symm)
 obtain⟨hE,hvs,hlo,hhi⟩:=Tr4 hk_b hE hvs hlo hhi
 refine Gs 8 O (zmV O tg67 (hB_b.cells 0 _ O) (Gs 9 O (zlc O (fun h0=>?_) (fun h0=>?_))))
 .
  have e:zh vs t.op t.n ks=(t.n,t.n):=by rw[zh,zp4 h0]
  refine Gs 4 O (zmV O tg3 (hB_b.cells 1 _ O) (Gs 2 O (G.sp 25 O (fun n0=>?_) (fun n0=>?_))))
  .
   refine Gs 17 O (zlv tr151 O O ⟨_,rfl,⟨_,_,rfl,?_,fun h=>by cases h⟩,hE⟩)
   rw[e];unfold okR;rw[zp6 (by dsimp only;omega),zp6 (by dsimp only;omega)]
  refine Gs 1 O (zmV O tg3 (hB_b.cells 1 _ O) (Gs 4 O (zlc O (fun n1=>?_) (fun n1=>?_))))
  .
   refine Gs 10 O (zlv tr151 O O ⟨_,rfl,⟨_,_,rfl,?_,fun h=>by cases h⟩,hE⟩)
   rw[e];unfold okR;rw[zp6 (by dsimp only;omega),zp6 (by dsimp only;omega)]
  refine Gs 3 O (Qt (by kernel_rfl) (Gs 1 O (zmW O tg3 (fun w1 hw1=>((hw1.blk hB_b (fun h=>h)).cells 1 _ O)) (Gs 1 O (zmW O tg3 (fun w1 hw1=>((hw1.blk hB_b (fun h=>h)).cells 1 _ O)) (Gs 2 O (zmY (fun wz1 hz1=>?_))))))))
  obtain⟨hE,hvs,hlo,hhi,hB_b⟩:=Tr5 hz1 hE hvs hlo hhi hB_b
  refine Gs 4 O (zlv tr151 O O (same hE e.symm))
 refine Gs 6 O (zlc O (fun h24=>?_) (fun h24=>?_))
 .
  have hv:=hn.var h24
  obtain⟨x,he_x,hm_x⟩:=gE_ vs (t.n.toNat) (by omega)
  obtain⟨b_x,o_x,c_x,ha_x,_,hc_x,hR_x⟩:=hvs.at he_x
  have h1_x:=RVr.one hR_x
  obtain rfl:=hR_x
  have hlt_x:b_x<_:=zoV _ _ (hc_x 0 _ rfl)
  have e:zh vs t.op t.n ks=(x.low,x.high):=by rw[zh,zp3 h0,zp4 h24,zgc he_x]
  refine Gs 1 O (Qt (by kernel_rfl) (Gs 2 O (zmW O tg3 (fun w1 hw1=>((hw1.blk hB_b (fun h=>h)).cells 1 _ O)) (zmU O O (fun w1 hw1=>zlO tR22 ts142 O O ha_x (by omega)) (Gs 1 O (zmW O tg3 (fun w1 hw1=>((hw1.cells hc_x (fun h=>h)) 2 _ O)) (Gs 2 O (zmW O tg3 (fun w1 hw1=>((hw1.blk hB_b (fun h=>h)).cells 1 _ O)) (zmU O O (fun w1 hw1=>zlO tR22 ts142 O O ha_x (by omega)) (Gs 1 O (zmW O tg3 (fun w1 hw1=>((hw1.cells hc_x (fun h=>h)) 3 _ O)) ?_)))))))))))
  refine Gs 2 O (zmY (fun wz2 hz2=>?_))
  obtain⟨hE,hvs,hlo,hhi,hB_b,hc_x⟩:=Tr6 hz2 hE hvs hlo hhi hB_b hc_x
  refine Gs 4 O (zlv tr151 O O (same hE e.symm))
 refine Gs 6 O (zlc O (fun h6=>?_) (fun h6=>?_))
 .
  have hl:=hn.k1 (.inl h6)
  obtain⟨x,he_x⟩:∃ x,ks[0]?=some x:=⟨_,zoT (by omega)⟩
  have hgx:=hn.good x (zoU he_x)
  unfold yz at hgx
  obtain⟨b_xl,o_xl,c_xl,ha_xl,_,hc_xl,hR_xl⟩:=hlo.at (xr he_x)
  obtain rfl:=hR_xl
  have hlt_xl:b_xl<_:=zoV _ _ (hc_xl 0 _ rfl)
  obtain⟨b_xh,o_xh,c_xh,ha_xh,_,hc_xh,hR_xh⟩:=hhi.at (xt he_x)
  obtain rfl:=hR_xh
  have hlt_xh:b_xh<_:=zoV _ _ (hc_xh 0 _ rfl)
  have e:zh vs t.op t.n ks=(-x.2,-x.1):=by rw[zh,zp3 h0,zp3 h24,zp4 h6,zP he_x]
  refine Gs 1 O (Qt (by kernel_rfl) (Gs 1 O (zmU O O (fun w1 hw1=>zlO tR27 ts3 O O ha_xh (by omega)) (zmW O tg3 (fun w1 hw1=>((hw1.cells hc_xh (fun h=>h)) 0 _ O)) (Ga 2 O (by omega) (zmU O O (fun w1 hw1=>zlO tR27 ts3 O O ha_xl (by omega)) (zmW O tg3 (fun w1 hw1=>((hw1.cells hc_xl (fun h=>h)) 0 _ O)) (Ga 3 O (by omega) (zmY (fun wz3 hz3=>?_))))))))))
  obtain⟨hE,hvs,hlo,hhi,hB_b,hc_xl,hc_xh⟩:=Tr7 hz3 hE hvs hlo hhi hB_b hc_xl hc_xh
  refine Gs 4 O (zlv tr151 O O (same hE e.symm))
 refine Gs 6 O (zlc O (fun h8=>?_) (fun h8=>?_))
 .
  have hl:=hn.k2 (by omega)
  obtain⟨x,he_x⟩:∃ x,ks[0]?=some x:=⟨_,zoT (by omega)⟩
  obtain⟨y,he_y⟩:∃ y,ks[1]?=some y:=⟨_,zoT (by omega)⟩
  have hgx:=hn.good x (zoU he_x)
  have hgy:=hn.good y (zoU he_y)
  unfold yz at hgx hgy
  obtain⟨b_xl,o_xl,c_xl,ha_xl,_,hc_xl,hR_xl⟩:=hlo.at (xr he_x)
  obtain rfl:=hR_xl
  have hlt_xl:b_xl<_:=zoV _ _ (hc_xl 0 _ rfl)
  obtain⟨b_xh,o_xh,c_xh,ha_xh,_,hc_xh,hR_xh⟩:=hhi.at (xt he_x)
  obtain rfl:=hR_xh
  have hlt_xh:b_xh<_:=zoV _ _ (hc_xh 0 _ rfl)
  obtain⟨b_yl,o_yl,c_yl,ha_yl,_,hc_yl,hR_yl⟩:=hlo.at (xr he_y)
  obtain rfl:=hR_yl
  have hlt_yl:b_yl<_:=zoV _ _ (hc_yl 0 _ rfl)
  obtain⟨b_yh,o_yh,c_yh,ha_yh,_,hc_yh,hR_yh⟩:=hhi.at (xt he_y)
  obtain rfl:=hR_yh
  have hlt_yh:b_yh<_:=zoV _ _ (hc_yh 0 _ rfl)
  have e:zh vs t.op t.n ks=(x.1+y.1,x.2+y.2):=by rw[zh,zp3 h0,zp3 h24,zp3 h6,zp4 h8,zP he_x,zP he_y]
  refine Gs 1 O (Qt (by kernel_rfl) (Gs 1 O (zmU O O (fun w1 hw1=>zlO tR27 ts3 O O ha_xl (by omega)) (zmW O tg3 (fun w1 hw1=>((hw1.cells hc_xl (fun h=>h)) 0 _ O)) (Gs 1 O (zmU O O (fun w1 hw1=>zlO tR27 ts3 O O ha_yl (by omega)) (zmW O tg3 (fun w1 hw1=>((hw1.cells hc_yl (fun h=>h)) 0 _ O)) (Ga 2 O (by omega) (zmU O O (fun w1 hw1=>zlO tR27 ts3 O O ha_xh (by omega)) (zmW O tg3 (fun w1 hw1=>((hw1.cells hc_xh (fun h=>h)) 0 _ O)) ?_))))))))))
  refine Gs 1 O (zmU O O (fun w1 hw1=>zlO tR27 ts3 O O ha_yh (by omega)) (zmW O tg3 (fun w1 hw1=>((hw1.cells hc_yh (fun h=>h)) 0 _ O)) (Ga 3 O (by omega) (zmY (fun wz4 hz4=>?_)))))
  obtain⟨hE,hvs,hlo,hhi,hB_b,hc_xl,hc_xh⟩:=Tr7 hz4 hE hvs hlo hhi hB_b hc_xl hc_xh
  obtain⟨hc_yl,hc_yh⟩:=Tr2 hz4 hc_yl hc_yh
  refine Gs 4 O (zlv tr151 O O (same hE e.symm))
 refine Gs 6 O (zlc O (fun h9=>?_) (fun h9=>?_))
 .
  have hl:=hn.k2 (by omega)
  obtain⟨x,he_x⟩:∃ x,ks[0]?=some x:=⟨_,zoT (by omega)⟩
  obtain⟨y,he_y⟩:∃ y,ks[1]?=some y:=⟨_,zoT (by omega)⟩
  have hgx:=hn.good x (zoU he_x)
  have hgy:=hn.good y (zoU he_y)
  unfold yz at hgx hgy
  obtain⟨b_xl,o_xl,c_xl,ha_xl,_,hc_xl,hR_xl⟩:=hlo.at (xr he_x)
  obtain rfl:=hR_xl
  have hlt_xl:b_xl<_:=zoV _ _ (hc_xl 0 _ rfl)
  obtain⟨b_xh,o_xh,c_xh,ha_xh,_,hc_xh,hR_xh⟩:=hhi.at (xt he_x)
  obtain rfl:=hR_xh
  have hlt_xh:b_xh<_:=zoV _ _ (hc_xh 0 _ rfl)
  obtain⟨b_yl,o_yl,c_yl,ha_yl,_,hc_yl,hR_yl⟩:=hlo.at (xr he_y)
  obtain rfl:=hR_yl
  have hlt_yl:b_yl<_:=zoV _ _ (hc_yl 0 _ rfl)
  obtain⟨b_yh,o_yh,c_yh,ha_yh,_,hc_yh,hR_yh⟩:=hhi.at (xt he_y)
  obtain rfl:=hR_yh
  have hlt_yh:b_yh<_:=zoV _ _ (hc_yh 0 _ rfl)
  have e:zh vs t.op t.n ks=(x.1 - y.2,x.2 - y.1):=by rw[zh,zp3 h0,zp3 h24,zp3 h6,zp3 h8,zp4 h9,zP he_x,zP he_y]
  refine Gs 1 O (Qt (by kernel_rfl) (Gs 1 O (zmU O O (fun w1 hw1=>zlO tR27 ts3 O O ha_xl (by omega)) (zmW O tg3 (fun w1 hw1=>((hw1.cells hc_xl (fun h=>h)) 0 _ O)) (Gs 1 O (zmU O O (fun w1 hw1=>zlO tR27 ts3 O O ha_yh (by omega)) (zmW O tg3 (fun w1 hw1=>((hw1.cells hc_yh (fun h=>h)) 0 _ O)) (Ga 2 O (by omega) (zmU O O (fun w1 hw1=>zlO tR27 ts3 O O ha_xh (by omega)) (zmW O tg3 (fun w1 hw1=>((hw1.cells hc_xh (fun h=>h)) 0 _ O)) ?_))))))))))
  refine Gs 1 O (zmU O O (fun w1 hw1=>zlO tR27 ts3 O O ha_yl (by omega)) (zmW O tg3 (fun w1 hw1=>((hw1.cells hc_yl (fun h=>h)) 0 _ O)) (Ga 3 O (by omega) (zmY (fun wz5 hz5=>?_)))))
  obtain⟨hE,hvs,hlo,hhi,hB_b,hc_xl,hc_xh⟩:=Tr7 hz5 hE hvs hlo hhi hB_b hc_xl hc_xh
  obtain⟨hc_yl,hc_yh⟩:=Tr2 hz5 hc_yl hc_yh
  refine Gs 4 O (zlv tr151 O O (same hE e.symm))
 refine Gs 6 O (zlc O (fun h10=>?_) (fun h10=>?_))
 .
  have hl:=hn.k2 (by omega)
  obtain⟨x,he_x⟩:∃ x,ks[0]?=some x:=⟨_,zoT (by omega)⟩
  obtain⟨y,he_y⟩:∃ y,ks[1]?=some y:=⟨_,zoT (by omega)⟩
  have hgx:=hn.good x (zoU he_x)
  have hgy:=hn.good y (zoU he_y)
  unfold yz at hgx hgy
  obtain⟨b_xl,o_xl,c_xl,ha_xl,_,hc_xl,hR_xl⟩:=hlo.at (xr he_x)
  obtain rfl:=hR_xl
  have hlt_xl:b_xl<_:=zoV _ _ (hc_xl 0 _ rfl)
  obtain⟨b_xh,o_xh,c_xh,ha_xh,_,hc_xh,hR_xh⟩:=hhi.at (xt he_x)
  obtain rfl:=hR_xh
  have hlt_xh:b_xh<_:=zoV _ _ (hc_xh 0 _ rfl)
  obtain⟨b_yl,o_yl,c_yl,ha_yl,_,hc_yl,hR_yl⟩:=hlo.at (xr he_y)
  obtain rfl:=hR_yl
  have hlt_yl:b_yl<_:=zoV _ _ (hc_yl 0 _ rfl)
  obtain⟨b_yh,o_yh,c_yh,ha_yh,_,hc_yh,hR_yh⟩:=hhi.at (xt he_y)
  obtain rfl:=hR_yh
  have hlt_yh:b_yh<_:=zoV _ _ (hc_yh 0 _ rfl)
  have e:zh vs t.op t.n ks=xF x y:=by rw[zh,zp3 h0,zp3 h24,zp3 h6,zp3 h8,zp3 h9,zp4 h10,zP he_x,zP he_y]
  have m1:=zb5 (x:=x.1) (y:=y.1) (by omega) (by omega)
  have m2:=zb5 (x:=x.1) (y:=y.2) (by omega) (by omega)
  have m3:=zb5 (x:=x.2) (y:=y.1) (by omega) (by omega)
  have m4:=zb5 (x:=x.2) (y:=y.2) (by omega) (by omega)
  refine Gs 1 O (Qt (by kernel_rfl) (Gs 1 O (zmU O O (fun w1 hw1=>zlO tR27 ts3 O O ha_xl (by omega)) (zmW O tg3 (fun w1 hw1=>((hw1.cells hc_xl (fun h=>h)) 0 _ O)) (Gs 1 O (zmU O O (fun w1 hw1=>zlO tR27 ts3 O O ha_yl (by omega)) (zmW O tg3 (fun w1 hw1=>((hw1.cells hc_yl (fun h=>h)) 0 _ O)) (Ga 2 O (by omega) (zmU O O (fun w1 hw1=>zlO tR27 ts3 O O ha_xl (by omega)) (zmW O tg3 (fun w1 hw1=>((hw1.cells hc_xl (fun h=>h)) 0 _ O)) ?_))))))))))
  refine Gs 1 O (zmU O O (fun w1 hw1=>zlO tR27 ts3 O O ha_yh (by omega)) (zmW O tg3 (fun w1 hw1=>((hw1.cells hc_yh (fun h=>h)) 0 _ O)) (Ga 2 O (by omega) (zmU O O (fun w1 hw1=>zlO tR27 ts3 O O ha_xh (by omega)) (zmW O tg3 (fun w1 hw1=>((hw1.cells hc_xh (fun h=>h)) 0 _ O)) (Gs 1 O (zmU O O (fun w1 hw1=>zlO tR27 ts3 O O ha_yl (by omega)) (zmW O tg3 (fun w1 hw1=>((hw1.cells hc_yl (fun h=>h)) 0 _ O)) (Ga 2 O (by omega) ?_)))))))))
  refine zmU O O (fun w1 hw1=>zlO tR27 ts3 O O ha_xh (by omega)) (zmW O tg3 (fun w1 hw1=>((hw1.cells hc_xh (fun h=>h)) 0 _ O)) (Gs 1 O (zmU O O (fun w1 hw1=>zlO tR27 ts3 O O ha_yh (by omega)) (zmW O tg3 (fun w1 hw1=>((hw1.cells hc_yh (fun h=>h)) 0 _ O)) (Ga 5 O (by omega) (zmY (fun wz6 hz6=>?_)))))))
  obtain⟨hE,hvs,hlo,hhi,hB_b,hc_xl,hc_xh⟩:=Tr7 hz6 hE hvs hlo hhi hB_b hc_xl hc_xh
  obtain⟨hc_yl,hc_yh⟩:=Tr2 hz6 hc_yl hc_yh
  refine Gs 5 O (G.call O tc114 (zt _ _ _) ?_)
  rintro _ wz7 ⟨rfl,hz7⟩
  obtain⟨hE,hvs,hlo,hhi,hB_b,hc_xl,hc_xh⟩:=Tr7 hz7 hE hvs hlo hhi hB_b hc_xl hc_xh
  obtain⟨hc_yl,hc_yh⟩:=Tr2 hz7 hc_yl hc_yh
  refine Gs 2 O (G.call O tc114 (zt _ _ _) ?_)
  rintro _ wz8 ⟨rfl,hz8⟩
  obtain⟨hE,hvs,hlo,hhi,hB_b,hc_xl,hc_xh⟩:=Tr7 hz8 hE hvs hlo hhi hB_b hc_xl hc_xh
  obtain⟨hc_yl,hc_yh⟩:=Tr2 hz8 hc_yl hc_yh
  refine G.call O tc114 (zt _ _ _) ?_
  rintro _ wz9 ⟨rfl,hz9⟩
  obtain⟨hE,hvs,hlo,hhi,hB_b,hc_xl,hc_xh⟩:=Tr7 hz9 hE hvs hlo hhi hB_b hc_xl hc_xh
  obtain⟨hc_yl,hc_yh⟩:=Tr2 hz9 hc_yl hc_yh
  refine Gs 2 O (G.call O tc113 (zR _ _ _) ?_)
  rintro _ wz10 ⟨rfl,hz10⟩
  obtain⟨hE,hvs,hlo,hhi,hB_b,hc_xl,hc_xh⟩:=Tr7 hz10 hE hvs hlo hhi hB_b hc_xl hc_xh
  obtain⟨hc_yl,hc_yh⟩:=Tr2 hz10 hc_yl hc_yh
  refine Gs 2 O (G.call O tc113 (zR _ _ _) ?_)
  rintro _ wz11 ⟨rfl,hz11⟩
  obtain⟨hE,hvs,hlo,hhi,hB_b,hc_xl,hc_xh⟩:=Tr7 hz11 hE hvs hlo hhi hB_b hc_xl hc_xh
  obtain⟨hc_yl,hc_yh⟩:=Tr2 hz11 hc_yl hc_yh
  refine G.call O tc113 (zR _ _ _) ?_
  rintro _ wz12 ⟨rfl,hz12⟩
  obtain⟨hE,hvs,hlo,hhi,hB_b,hc_xl,hc_xh⟩:=Tr7 hz12 hE hvs hlo hhi hB_b hc_xl hc_xh
  obtain⟨hc_yl,hc_yh⟩:=Tr2 hz12 hc_yl hc_yh
  refine Gs 7 O (zlv tr151 O O (same hE ?_))
  rw[e]
  unfold xF yR
  simp only[zqo,List.foldl_nil]
  congr 1<;>omega
 refine Gs 6 O (zlc O (fun h11=>?_) (fun h11=>?_))
 .
  have hl:=hn.k2 (by omega)
  obtain⟨x,he_x⟩:∃ x,ks[0]?=some x:=⟨_,zoT (by omega)⟩
  obtain⟨y,he_y⟩:∃ y,ks[1]?=some y:=⟨_,zoT (by omega)⟩
  have hgx:=hn.good x (zoU he_x)
  have hgy:=hn.good y (zoU he_y)
  unfold yz at hgx hgy
  obtain⟨b_xl,o_xl,c_xl,ha_xl,_,hc_xl,hR_xl⟩:=hlo.at (xr he_x)
  obtain rfl:=hR_xl
  have hlt_xl:b_xl<_:=zoV _ _ (hc_xl 0 _ rfl)
  obtain⟨b_xh,o_xh,c_xh,ha_xh,_,hc_xh,hR_xh⟩:=hhi.at (xt he_x)
  obtain rfl:=hR_xh
  have hlt_xh:b_xh<_:=zoV _ _ (hc_xh 0 _ rfl)
  obtain⟨b_yl,o_yl,c_yl,ha_yl,_,hc_yl,hR_yl⟩:=hlo.at (xr he_y)
  obtain rfl:=hR_yl
  have hlt_yl:b_yl<_:=zoV _ _ (hc_yl 0 _ rfl)
  obtain⟨b_yh,o_yh,c_yh,ha_yh,_,hc_yh,hR_yh⟩:=hhi.at (xt he_y)
  obtain rfl:=hR_yh
  have hlt_yh:b_yh<_:=zoV _ _ (hc_yh 0 _ rfl)
  have e:zh vs t.op t.n ks=(if 0<=x.1/\0<=y.1 then 0 else -(max x.2 (-x.1)),max x.2 (-x.1)):=by rw[zh,zp3 h0,zp3 h24,zp3 h6,zp3 h8,zp3 h9,zp3 h10,zp4 h11,zP he_x,zP he_y]
  have hmx2:0<=max x.2 (-x.1)/\max x.2 (-x.1)<=1048576:=by omega
  have hm:max (if x.1<0 then -x.1 else x.1) (if x.2<0 then -x.2 else x.2)=max x.2 (-x.1):=by split<;>split<;>omega
  refine Gs 1 O (Dw (fun q=>Ext w_b q) [] (fun wd13 hD _=>?_))
  refine Ds [0] (by kernel_rfl) O (zmf 1 O (by kernel_rfl) O O O (fun w1=>zlO tR27 ts3 O O ha_xl (by omega)) (WD.take 2 O (by kernel_rfl) O O O hD (fun w1 hw1=>R.load tg3 O ((hw1.cells hc_xl (fun h=>h)) 0 _ O)) (Ds [4] (by kernel_rfl) O (zmf 5 O (by kernel_rfl) O O O (fun w1=>zlO tR27 ts3 O O ha_xh (by omega)) (WD.take 6 O (by kernel_rfl) O O O hD (fun w1 hw1=>R.load tg3 O ((hw1.cells hc_xh (fun h=>h)) 0 _ O)) (WD.call 3 O (by kernel_rfl) O O O (F.call (vs:=[_]) Tryz.call182 O) (zb1 x.1 _ (by omega)) ?_))))))
  rintro _ wz14 ⟨rfl,hz14⟩
  replace hD:=hD.ext hz14
  refine⟨fun _=>hD,?_⟩
  refine WD.call 7 O (by kernel_rfl) O O O (F.call (vs:=[_]) Tryz.call182 O) (zb1 x.2 _ (by omega)) ?_
  rintro _ wz15 ⟨rfl,hz15⟩
  replace hD:=hD.ext hz15
  refine⟨fun _=>hD,?_⟩
  refine WD.call 8 O (by kernel_rfl) O O O (F.call (vs:=[_,_]) tc113 O) (zR _ _ _) ?_
  rintro _ wz16 ⟨rfl,hz16⟩
  replace hD:=hD.ext hz16
  refine⟨fun _=>hD,?_⟩
  rw[hm]
  refine Ds [9] (by kernel_rfl) O (G.done (by kernel_rfl) ?_ _)
  obtain⟨hE,hvs,hlo,hhi,hB_b,hc_xl,hc_xh⟩:=Tr7 hD hE hvs hlo hhi hB_b hc_xl hc_xh
  obtain⟨hc_yl,hc_yh⟩:=Tr2 hD hc_yl hc_yh
  refine Gs 5 O (zmR O O (zlO tR27 ts3 O O ha_xl (by omega)) (zmV O tg3 (hc_xl 0 _ O) (Gs 2 O (G.sp 149 O (fun p0=>?_) (fun p0=>?_)))))
  .
   refine Gs 1 O (zmR O O (zlO tR27 ts3 O O ha_yl (by omega)) (zmV O tg3 (hc_yl 0 _ O) (Gs 4 O (zlc O (fun p1=>?_) (fun p1=>?_)))))
   . refine Gs 11 O (zlv tr151 O O (same hE (by rw[e,zp4 ⟨p0,p1⟩])))
   refine Ga 14 O (by omega) (zlv tr151 O O (same hE (by rw[e,zp3 (fun h=>p1 h.2)])))
  refine Ga 22 O (by omega) (zlv tr151 O O (same hE (by rw[e,zp3 (fun h=>p0 h.1)])))
 refine Gs 6 O (zlc O (fun h12=>?_) (fun h12=>?_))
 .
  have hl:=hn.k2 (by omega)
  obtain⟨x,he_x⟩:∃ x,ks[0]?=some x:=⟨_,zoT (by omega)⟩
  obtain⟨y,he_y⟩:∃ y,ks[1]?=some y:=⟨_,zoT (by omega)⟩
  have hgx:=hn.good x (zoU he_x)
  have hgy:=hn.good y (zoU he_y)
  unfold yz at hgx hgy
  obtain⟨b_xl,o_xl,c_xl,ha_xl,_,hc_xl,hR_xl⟩:=hlo.at (xr he_x)
  obtain rfl:=hR_xl
  have hlt_xl:b_xl<_:=zoV _ _ (hc_xl 0 _ rfl)
  obtain⟨b_xh,o_xh,c_xh,ha_xh,_,hc_xh,hR_xh⟩:=hhi.at (xt he_x)
  obtain rfl:=hR_xh
  have hlt_xh:b_xh<_:=zoV _ _ (hc_xh 0 _ rfl)
  obtain⟨b_yl,o_yl,c_yl,ha_yl,_,hc_yl,hR_yl⟩:=hlo.at (xr he_y)
  obtain rfl:=hR_yl
  have hlt_yl:b_yl<_:=zoV _ _ (hc_yl 0 _ rfl)
  obtain⟨b_yh,o_yh,c_yh,ha_yh,_,hc_yh,hR_yh⟩:=hhi.at (xt he_y)
  obtain rfl:=hR_yh
  have hlt_yh:b_yh<_:=zoV _ _ (hc_yh 0 _ rfl)
  have e:zh vs t.op t.n ks=(if y.1<0 then min (y.1+1) 0 else 0,if 0<y.2 then max (y.2 - 1) 0 else 0):=by rw[zh,zp3 h0,zp3 h24,zp3 h6,zp3 h8,zp3 h9,zp3 h10,zp3 h11,zp4 h12,zP he_y]
  refine Gs 1 O (Dw (fun q=>Ext w_b q) [] (fun wd17 hD _=>?_))
  refine Ds [0] (by kernel_rfl) O (zmf 1 O (by kernel_rfl) O O O (fun w1=>zlO tR27 ts3 O O ha_yl (by omega)) (WD.take 2 O (by kernel_rfl) O O O hD (fun w1 hw1=>R.load tg3 O ((hw1.cells hc_yl (fun h=>h)) 0 _ O)) (Ds [3] (by kernel_rfl) O (zmf 4 O (by kernel_rfl) O O O (fun w1=>zlO tR27 ts3 O O ha_yh (by omega)) (WD.take 5 O (by kernel_rfl) O O O hD (fun w1 hw1=>R.load tg3 O ((hw1.cells hc_yh (fun h=>h)) 0 _ O)) (WD.call 6 O (by kernel_rfl) O O O (F.call (vs:=[_,_]) Tryz.call183 O) (zcr y.1 y.2 _ (by omega) (by omega)) ?_))))))
  rintro _ wz18 ⟨rfl,hz18⟩
  replace hD:=hD.ext hz18
  refine⟨fun _=>hD,?_⟩
  refine Ds [7,8,9,10] (by kernel_rfl) O (G.done (by kernel_rfl) ?_ _)
  obtain⟨hE,hvs,hlo,hhi,hB_b,hc_xl,hc_xh⟩:=Tr7 hD hE hvs hlo hhi hB_b hc_xl hc_xh
  obtain⟨hc_yl,hc_yh⟩:=Tr2 hD hc_yl hc_yh
  refine Gs 4 O (zlv tr151 O O (same hE e.symm))
 refine Gs 6 O (zlc O (fun h21=>?_) (fun h21=>?_))
 .
  have hl:=hn.k2 (by omega)
  obtain⟨x,he_x⟩:∃ x,ks[0]?=some x:=⟨_,zoT (by omega)⟩
  obtain⟨y,he_y⟩:∃ y,ks[1]?=some y:=⟨_,zoT (by omega)⟩
  have hgx:=hn.good x (zoU he_x)
  have hgy:=hn.good y (zoU he_y)
  unfold yz at hgx hgy
  obtain⟨b_xl,o_xl,c_xl,ha_xl,_,hc_xl,hR_xl⟩:=hlo.at (xr he_x)
  obtain rfl:=hR_xl
  have hlt_xl:b_xl<_:=zoV _ _ (hc_xl 0 _ rfl)
  obtain⟨b_xh,o_xh,c_xh,ha_xh,_,hc_xh,hR_xh⟩:=hhi.at (xt he_x)
  obtain rfl:=hR_xh
  have hlt_xh:b_xh<_:=zoV _ _ (hc_xh 0 _ rfl)
  obtain⟨b_yl,o_yl,c_yl,ha_yl,_,hc_yl,hR_yl⟩:=hlo.at (xr he_y)
  obtain rfl:=hR_yl
  have hlt_yl:b_yl<_:=zoV _ _ (hc_yl 0 _ rfl)
  obtain⟨b_yh,o_yh,c_yh,ha_yh,_,hc_yh,hR_yh⟩:=hhi.at (xt he_y)
  obtain rfl:=hR_yh
  have hlt_yh:b_yh<_:=zoV _ _ (hc_yh 0 _ rfl)
  have e:zh vs t.op t.n ks=(min x.1 y.1,min x.2 y.2):=by rw[zh,zp3 h0,zp3 h24,zp3 h6,zp3 h8,zp3 h9,zp3 h10,zp3 h11,zp3 h12,zp4 h21,zP he_x,zP he_y]
  refine Gs 1 O (Dw (fun q=>Ext w_b q) [] (fun wd19 hD _=>?_))
  refine Ds [0] (by kernel_rfl) O (zmf 1 O (by kernel_rfl) O O O (fun w1=>zlO tR27 ts3 O O ha_xl (by omega)) (WD.take 2 O (by kernel_rfl) O O O hD (fun w1 hw1=>R.load tg3 O ((hw1.cells hc_xl (fun h=>h)) 0 _ O)) (Ds [3] (by kernel_rfl) O (zmf 4 O (by kernel_rfl) O O O (fun w1=>zlO tR27 ts3 O O ha_yl (by omega)) (WD.take 5 O (by kernel_rfl) O O O hD (fun w1 hw1=>R.load tg3 O ((hw1.cells hc_yl (fun h=>h)) 0 _ O)) (Ds [7] (by kernel_rfl) O (zmf 8 O (by kernel_rfl) O O O (fun w1=>zlO tR27 ts3 O O ha_xh (by omega)) ?_)))))))
  refine WD.take 9 O (by kernel_rfl) O O O hD (fun w1 hw1=>R.load tg3 O ((hw1.cells hc_xh (fun h=>h)) 0 _ O)) (Ds [10] (by kernel_rfl) O (zmf 11 O (by kernel_rfl) O O O (fun w1=>zlO tR27 ts3 O O ha_yh (by omega)) (WD.take 12 O (by kernel_rfl) O O O hD (fun w1 hw1=>R.load tg3 O ((hw1.cells hc_yh (fun h=>h)) 0 _ O)) (WD.call 6 O (by kernel_rfl) O O O (F.call (vs:=[_,_]) tc114 O) (zt _ _ _) ?_))))
  rintro _ wz20 ⟨rfl,hz20⟩
  replace hD:=hD.ext hz20
  refine⟨fun _=>hD,?_⟩
  refine WD.call 13 O (by kernel_rfl) O O O (F.call (vs:=[_,_]) tc114 O) (zt _ _ _) ?_
  rintro _ wz21 ⟨rfl,hz21⟩
  replace hD:=hD.ext hz21
  refine⟨fun _=>hD,?_⟩
  refine Ds [14,15] (by kernel_rfl) O (G.done (by kernel_rfl) ?_ _)
  obtain⟨hE,hvs,hlo,hhi,hB_b,hc_xl,hc_xh⟩:=Tr7 hD hE hvs hlo hhi hB_b hc_xl hc_xh
  obtain⟨hc_yl,hc_yh⟩:=Tr2 hD hc_yl hc_yh
  refine Gs 4 O (zlv tr151 O O (same hE e.symm))
 refine Gs 6 O (zlc O (fun h22=>?_) (fun h22=>?_))
 .
  have hl:=hn.k2 (by omega)
  obtain⟨x,he_x⟩:∃ x,ks[0]?=some x:=⟨_,zoT (by omega)⟩
  obtain⟨y,he_y⟩:∃ y,ks[1]?=some y:=⟨_,zoT (by omega)⟩
  have hgx:=hn.good x (zoU he_x)
  have hgy:=hn.good y (zoU he_y)
  unfold yz at hgx hgy
  obtain⟨b_xl,o_xl,c_xl,ha_xl,_,hc_xl,hR_xl⟩:=hlo.at (xr he_x)
  obtain rfl:=hR_xl
  have hlt_xl:b_xl<_:=zoV _ _ (hc_xl 0 _ rfl)
  obtain⟨b_xh,o_xh,c_xh,ha_xh,_,hc_xh,hR_xh⟩:=hhi.at (xt he_x)
  obtain rfl:=hR_xh
  have hlt_xh:b_xh<_:=zoV _ _ (hc_xh 0 _ rfl)
  obtain⟨b_yl,o_yl,c_yl,ha_yl,_,hc_yl,hR_yl⟩:=hlo.at (xr he_y)
  obtain rfl:=hR_yl
  have hlt_yl:b_yl<_:=zoV _ _ (hc_yl 0 _ rfl)
  obtain⟨b_yh,o_yh,c_yh,ha_yh,_,hc_yh,hR_yh⟩:=hhi.at (xt he_y)
  obtain rfl:=hR_yh
  have hlt_yh:b_yh<_:=zoV _ _ (hc_yh 0 _ rfl)
  have e:zh vs t.op t.n ks=(max x.1 y.1,max x.2 y.2):=by rw[zh,zp3 h0,zp3 h24,zp3 h6,zp3 h8,zp3 h9,zp3 h10,zp3 h11,zp3 h12,zp3 h21,zp4 h22,zP he_x,zP he_y]
  refine Gs 1 O (Dw (fun q=>Ext w_b q) [] (fun wd22 hD _=>?_))
  refine Ds [0] (by kernel_rfl) O (zmf 1 O (by kernel_rfl) O O O (fun w1=>zlO tR27 ts3 O O ha_xl (by omega)) (WD.take 2 O (by kernel_rfl) O O O hD (fun w1 hw1=>R.load tg3 O ((hw1.cells hc_xl (fun h=>h)) 0 _ O)) (Ds [3] (by kernel_rfl) O (zmf 4 O (by kernel_rfl) O O O (fun w1=>zlO tR27 ts3 O O ha_yl (by omega)) (WD.take 5 O (by kernel_rfl) O O O hD (fun w1 hw1=>R.load tg3 O ((hw1.cells hc_yl (fun h=>h)) 0 _ O)) (Ds [7] (by kernel_rfl) O (zmf 8 O (by kernel_rfl) O O O (fun w1=>zlO tR27 ts3 O O ha_xh (by omega)) ?_)))))))
  refine WD.take 9 O (by kernel_rfl) O O O hD (fun w1 hw1=>R.load tg3 O ((hw1.cells hc_xh (fun h=>h)) 0 _ O)) (Ds [10] (by kernel_rfl) O (zmf 11 O (by kernel_rfl) O O O (fun w1=>zlO tR27 ts3 O O ha_yh (by omega)) (WD.take 12 O (by kernel_rfl) O O O hD (fun w1 hw1=>R.load tg3 O ((hw1.cells hc_yh (fun h=>h)) 0 _ O)) (WD.call 6 O (by kernel_rfl) O O O (F.call (vs:=[_,_]) tc113 O) (zR _ _ _) ?_))))
  rintro _ wz23 ⟨rfl,hz23⟩
  replace hD:=hD.ext hz23
  refine⟨fun _=>hD,?_⟩
  refine WD.call 13 O (by kernel_rfl) O O O (F.call (vs:=[_,_]) tc113 O) (zR _ _ _) ?_
  rintro _ wz24 ⟨rfl,hz24⟩
  replace hD:=hD.ext hz24
  refine⟨fun _=>hD,?_⟩
  refine Ds [14,15] (by kernel_rfl) O (G.done (by kernel_rfl) ?_ _)
  obtain⟨hE,hvs,hlo,hhi,hB_b,hc_xl,hc_xh⟩:=Tr7 hD hE hvs hlo hhi hB_b hc_xl hc_xh
  obtain⟨hc_yl,hc_yh⟩:=Tr2 hD hc_yl hc_yh
  refine Gs 4 O (zlv tr151 O O (same hE e.symm))
 have hbase:¬ (t.op=23\/t.op=25)->zh vs t.op t.n ks=(0,1):=fun h=>by rw[zh,zp3 h0,zp3 h24,zp3 h6,zp3 h8,zp3 h9,zp3 h10,zp3 h11,zp3 h12,zp3 h21,zp3 h22,zp3 h]
 refine Gs 7 O (zln (σ:=Bool) (fun p=>[(2,.slice al ks.length nl),(3,.slice ah ks.length nh),(202,.bool p)]) (fun p=>fun w'=>(p=true ↔ t.op=23\/t.op=25)/\w'=w_b) ?_ ?_)
 .
  refine zlc O (fun h23=>?_) (fun h23=>?_)
  . refine Gs 1 O (zlp (decide (t.op=23)) (Sub.cons O (Sub.cons O (Sub.cons (by first | rfl | (show some (Value.bool true)=some (Value.bool _);simp[*])) Sub.nil))) (⟨by simp[h23],rfl⟩))
  refine Gs 4 O (zlp (decide (t.op=25)) (Sub.of O) (⟨by simp[h23],rfl⟩))
 rintro p w2 ⟨hp,hw2⟩
 subst hw2
 refine Gs 1 O (G.bool O (fun p1=>?_) (fun p1=>?_))
 .
  have hl:=hn.k3 (hp.1 p1)
  obtain⟨y,he_y⟩:∃ y,ks[1]?=some y:=⟨_,zoT (by omega)⟩
  have e:zh vs t.op t.n ks=yR y (ks.drop 2):=by rw[zh,zp3 h0,zp3 h24,zp3 h6,zp3 h8,zp3 h9,zp3 h10,zp3 h11,zp3 h12,zp3 h21,zp3 h22,zp4 (hp.1 p1),zP he_y]
  obtain⟨b_yl,o_yl,c_yl,ha_yl,_,hc_yl,hR_yl⟩:=hlo.at (xr he_y)
  obtain rfl:=hR_yl
  have hlt_yl:b_yl<_:=zoV _ _ (hc_yl 0 _ rfl)
  obtain⟨b_yh,o_yh,c_yh,ha_yh,_,hc_yh,hR_yh⟩:=hhi.at (xt he_y)
  obtain rfl:=hR_yh
  have hlt_yh:b_yh<_:=zoV _ _ (hc_yh 0 _ rfl)
  refine Gs 1 O (Qt (by kernel_rfl) (Gs 1 O (zmU O O (fun w1 hw1=>zlO tR27 ts3 O O ha_yl (by omega)) (zmW O tg3 (fun w1 hw1=>((hw1.cells hc_yl (fun h=>h)) 0 _ O)) (Gs 1 O (zmU O O (fun w1 hw1=>zlO tR27 ts3 O O ha_yh (by omega)) (zmW O tg3 (fun w1 hw1=>((hw1.cells hc_yh (fun h=>h)) 0 _ O)) (Gs 2 O (zmY (fun wz25 hz25=>?_))))))))))
  obtain⟨hE,hvs,hlo,hhi,hB_b,hc_yl,hc_yh⟩:=Tr7 hz25 hE hvs hlo hhi hB_b hc_yl hc_yh
  refine Gs 8 O (G.loop (σ:=Nat) (fun k=>[(2,.slice al ks.length nl),(3,.slice ah ks.length nh),(15,.int .i64 (yR y ((ks.drop 2).take k)).1),(16,.int .i64 (yR y ((ks.drop 2).take k)).2),(17,.int .i64 ((k:Int)+2))]) (fun k=>fun w'=>k+2<=ks.length/\Ext wz25 w') (fun k=>ks.length - k) (0) (Sub.of O) (⟨by omega,Keep.refl _ _⟩) ?_)
  rintro k w4 ⟨hk2,hL1⟩
  obtain⟨hE,hvs,hlo,hhi,hB_b,hc_yl,hc_yh⟩:=Tr7 hL1 hE hvs hlo hhi hB_b hc_yl hc_yh
  refine Gs 9 O (zlc O (fun hlt=>?_) (fun hlt=>?_))
  .
   obtain⟨z,he_z⟩:∃ z,ks[k+2]?=some z:=⟨_,zoT (by omega)⟩
   have he_z2:(ks.drop 2)[k]?=some z:=by rw[List.getElem?_drop,zrc];exact he_z
   obtain⟨b_zl,o_zl,c_zl,ha_zl,_,hc_zl,hR_zl⟩:=hlo.at (xr he_z)
   obtain rfl:=hR_zl
   have hlt_zl:b_zl<_:=zoV _ _ (hc_zl 0 _ rfl)
   obtain⟨b_zh,o_zh,c_zh,ha_zh,_,hc_zh,hR_zh⟩:=hhi.at (xt he_z)
   obtain rfl:=hR_zh
   have hlt_zh:b_zh<_:=zoV _ _ (hc_zh 0 _ rfl)
   have hto:((k:Int)+2).toNat=k+2:=by omega
   refine Gs 4 O (Dw (fun q=>Ext w4 q) [] (fun wd26 hD _=>?_))
   refine Ds [0,1,2] (by kernel_rfl) O (zmf 3 O (by kernel_rfl) O O O (fun w1=>zlO tR27 ts3 O O ha_zl (by omega)) (WD.take 4 O (by kernel_rfl) O O O hD (fun w1 hw1=>R.load tg3 O ((hw1.cells hc_zl (fun h=>h)) 0 _ O)) (Ds [6,7,8] (by kernel_rfl) O (zmf 9 O (by kernel_rfl) O O O (fun w1=>zlO tR27 ts3 O O ha_zh (by omega)) (WD.take 10 O (by kernel_rfl) O O O hD (fun w1 hw1=>R.load tg3 O ((hw1.cells hc_zh (fun h=>h)) 0 _ O)) (WD.call 5 O (by kernel_rfl) O O O (F.call (vs:=[_,_]) tc114 O) (zt _ _ _) ?_))))))
   rintro _ wz27 ⟨rfl,hz27⟩
   replace hD:=hD.ext hz27
   refine⟨fun _=>hD,?_⟩
   refine WD.call 11 O (by kernel_rfl) O O O (F.call (vs:=[_,_]) tc113 O) (zR _ _ _) ?_
   rintro _ wz28 ⟨rfl,hz28⟩
   replace hD:=hD.ext hz28
   refine⟨fun _=>hD,?_⟩
   refine Ds [12,13] (by kernel_rfl) O (G.done (by kernel_rfl) ?_ _)
   obtain⟨hE,hvs,hlo,hhi,hB_b,hc_yl,hc_yh⟩:=Tr7 hD hE hvs hlo hhi hB_b hc_yl hc_yh
   obtain⟨hL1,hc_zl,hc_zh⟩:=Tr3 hD hL1 hc_zl hc_zh
   refine Ga 7 O (by omega) ?_
   have htk:=kV (x:=y) he_z2
   refine G.back (k+1) (Sub.cons O (Sub.cons O (Sub.cons (yr O (by rw[htk])) (Sub.cons (yr O (by rw[htk])) (Sub.cons (yr O (by omega)) Sub.nil))))) (⟨by omega,hL1⟩) (by first | omega | (dsimp only;omega))
  have hkk:k=(ks.drop 2).length:=by rw[zqr];omega
  rw[hkk,zoY]
  refine Gs 16 O (zlv tr151 O O (same hE (by rw[e])))
 have e:=hbase (fun h=>by rw[hp.2 h]at p1;cases p1)
 refine Gs 10 O (zlv tr151 O O (same hE e.symm))
open Go.GL
def zbE (x:Int):List Value:=[.int .i64 x]
theorem xj (x:Int):(zbE x).length=1:=rfl
theorem zez (x:Int):∀ u ∈ zbE x,u.oneCell'=true:=by simp[zbE,Value.oneCell']
theorem ko (l:List Int):(l.flatMap zbE).length=l.length*1:=yk xj l
theorem zdX (vs:List Vr) (inp:Bool) (vv:Value) (Dv:Nat->Prop) (hvb:∀ v ∈ vs,yz (v.low,v.high)) (t:Tm):∀ (cs:List Value) (D:Nat->Prop) (w:World),SlR 5 RVr Dv w vv vs->RTm D w t cs->zu vs inp t=true->t.nodes<=1000000 ->
  Calls Tryz.prog 111 #[vv,.agg cs.toArray] w (Ret fun r w'=>(∃ a b:Int,r=.tuple #[.int .i64 a,.int .i64 b,.bool (rng vs t).isSome]/\∀ x,rng vs t=some x->(a,b)=x)/\Ext w w'):=by
 induction t using zmz with
 | h t ih =>
 intro cs D w hvs ht hf hsz
 rw[yO,zpv,zpv]at hf
 have hlen:=zaT t.kids
 have hse:=t.nodes_eq
 obtain⟨v,rfl,hk⟩:=ht.get
 obtain⟨ao,cap,rfl⟩:=hk.form
 obtain⟨av,nv,rfl⟩:=hvs.form
 have hE:=Keep.refl (fun _=>False) w
 refine zn2 Tryz.func111 O Tryz.ntmps111 O (Gs 2 O (zlY O O (M.box O O) ?_))
 rintro _ w_b ⟨b,rfl,hg_b,hs_b,hB_b,hk_b⟩
 have hge_b:_<=b:=zoZ hE.size (zri hg_b.symm)
 obtain⟨hE,hvs,hk⟩:=Tr3 hk_b hE hvs hk
 refine Gs 7 O (zlY O O (zmn tR27 ts3) ?_)
 rintro _ wl ⟨bl,rfl,hbl,hsl_,hBl,hkl⟩
 refine Gs 5 O (zlY O O (zmn tR27 ts3) ?_)
 rintro _ wh ⟨bh,rfl,hbh,hsh,hBh,hkh⟩
 have hol:wh.ownsRow 0 3 1 (.slice (some ⟨bl,0,none⟩) 0 0) 0 (([]:List Int).flatMap zbE):=yp (hkh.blk hBl (fun h=>h)) (zpi _) (by omega) rfl
 have hoh:wh.ownsRow 0 3 1 (.slice (some ⟨bh,0,none⟩) 0 0) 0 (([]:List Int).flatMap zbE):=yp hBh (zpi _) (by omega) rfl
 have hbllt:=hBl.lt
 refine Gs 10 O (G.loop (σ:=Nat × List Rg × Value × Value) (fun⟨i,l,vl,vh⟩=>[(0,.slice av vs.length nv),(3,.pointer (some ⟨b,0,none⟩)),(7,vl),(8,vh),(9,.int .i64 i)]) (fun⟨i,l,vl,vh⟩=>fun w'=>i<=t.kids.length/\rngL vs (t.kids.take i)=some l/\w'.ownsRow 0 3 1 vl l.length ((l.map Prod.fst).flatMap zbE)/\w'.ownsRow 0 3 1 vh l.length ((l.map Prod.snd).flatMap zbE)/\(∀ q,vl.ownBlock=some q->w_b.heap.size<=q)/\(∀ q,vh.ownBlock=some q->w_b.heap.size<=q/\vl.ownBlock ≠ some q)/\Ext w_b w') (fun⟨i,l,vl,vh⟩=>t.kids.length - i) ((0,[],.slice (some ⟨bl,0,none⟩) 0 0,.slice (some ⟨bh,0,none⟩) 0 0)) (Sub.of O) (⟨zp8 _,rfl,hol,hoh,fun q hq=>by simp[Value.ownBlock]at hq;omega,fun q hq=>by simp[Value.ownBlock]at hq ⊢;omega,hkl.ext hkh⟩) ?_)
 rintro⟨i,l,vl,vh⟩ w1 ⟨hi,hl,hol,hoh,hfl,hfh,hL⟩
 show G _ _ _ _ _ [(0,.slice av vs.length nv),(3,.pointer (some ⟨b,0,none⟩)),(7,vl),(8,vh),(9,.int .i64 i)] _
 obtain⟨hE,hvs,hk,hB_b⟩:=Tr4 hL hE hvs hk hB_b
 refine Gs 5 O (zmV O tg68 (hB_b.cells 2 _ O) (Gs 4 O (zlc O (fun hlt=>?_) (fun hlt=>?_))))
 .
  obtain⟨k,he_k,hm_k⟩:=gE_ t.kids (i) (by omega)
  obtain⟨b_k,o_k,c_k,ha_k,_,hc_k,hR_k⟩:=hk.at he_k
  have h1_k:=RTm.one hR_k
  obtain⟨v1_k,rfl,hk_k⟩:=hR_k.get
  obtain⟨a1_k,n1_k,rfl⟩:=hk_k.form
  have hlt_k:b_k<_:=zoV _ _ (hc_k 0 _ rfl)
  have hsp:=xp he_k
  have hll:=qa _ _ hl
  rw[zpn]at hll
  refine Gs 8 O (zmV O tg68 (hB_b.cells 2 _ O) (Gs 1 O (zmR O O (zlO tR68 ts70 O O ha_k (by omega)) (zmX O tg70 ts70 hc_k O (G.call O Tryz.call111 (ih k hm_k _ D _ hvs (RTm.put hk_k) (zX hf.2 hm_k) (by omega)) ?_)))))
  rintro _ wz1 ⟨⟨ka,kb,rfl,hval⟩,hz1⟩
  obtain⟨hE,hvs,hk,hB_b,hL,hol,hoh⟩:=Tr7 hz1 hE hvs hk hB_b hL hol hoh
  obtain⟨hc_k,hk_k⟩:=Tr2 hz1 hc_k hk_k
  refine Gs 13 O (zmR O O (zms O (by first | exact za | rfl)) (Gs 2 O (G.bool O (fun hb=>?_) (fun hb=>?_))))
  .
   have hb':rng vs k=none:=by cases h:rng vs k<;>simp[h]at hb ⊢
   have hnone:rng vs t=none:=by rw[zb6,zda he_k hb'];rfl
   refine Gs 14 O (zly Tryz.results111 O O O ⟨_,rfl,⟨0,0,by rw[hnone];rfl,fun x hx=>by rw[hnone]at hx;cases hx⟩,hE⟩)
  obtain⟨x,hx⟩:∃ x,rng vs k=some x:=by cases h:rng vs k with
   | none=>simp[h]at hb
   | some x=>exact⟨x,rfl⟩
  have hxv:=hval x hx
  subst hxv
  refine Gs 6 O (zlY O O (M.buildSlice (cs:=zbE ka) [(0,_)] tR27 ts3 tz3 (by decide) O (by kernel_rfl)) ?_)
  rintro _ w5 ⟨b5,rfl,hg_b5,hs_b5,hB_b5,hk_b5⟩
  obtain⟨hE,hvs,hk,hB_b,hL,hol,hoh⟩:=Tr7 hk_b5 hE hvs hk hB_b hL hol hoh
  obtain⟨hc_k,hk_k⟩:=Tr2 hk_b5 hc_k hk_k
  refine zlY O O (M.append tu27 Tryz.el3 O (by decide) O O hol O (Cells.add hB_b5.cells) (zez _) (by omega) (by omega)) ?_
  rintro vl' w6 ⟨hown6,hfr6,hk6,_⟩
  refine Gs 6 O (zlY O O (M.buildSlice (cs:=zbE kb) [(0,_)] tR27 ts3 tz3 (by decide) O (by kernel_rfl)) ?_)
  rintro _ w7 ⟨b7,rfl,hg_b7,hs_b7,hB_b7,hk_b7⟩
  have hoh7:=zk (zk hoh hk6 (fun q hq h=>(hfh q hq).2 h)) hk_b7 (fun _ _ h=>h)
  refine zlY O O (M.append tu27 Tryz.el3 O (by decide) O O hoh7 O (Cells.add hB_b7.cells) (zez _) (by omega) (by omega)) ?_
  rintro vh' w8 ⟨hown8,hfr8,hk8,_⟩
  have hszL:=hL.size
  have hsz6:=hk6.size
  have hsz7:=hk_b7.size
  have hfl':∀ q,vl'.ownBlock=some q->w_b.heap.size<=q/\vh.ownBlock ≠ some q/\q<w6.heap.size:=by
   intro q hq
   refine⟨?_,?_,qj hown6 hq⟩
   .
    rcases hfr6 with h | ⟨q',h,h'⟩
    . exact hfl q (by rw[<- h];exact hq)
    rw[h]at hq;cases hq;omega
   intro h0
   have:=qj hoh h0
   rcases hfr6 with h | ⟨q',h,h'⟩
   . exact(hfh q h0).2 (by rw[<- h];exact hq)
   rw[h]at hq;cases hq;omega
  have hE8:Ext w_b w8:=((hL.trans hk6 (fun q hq h=>by have:=hfl q h;omega)).ext hk_b7).trans hk8 (fun q hq h=>by have:=(hfh q h).1;omega)
  refine Ga 9 O (by omega) (G.back ((i+1,l++[(ka,kb)],vl',vh')) (Sub.of O) (⟨by omega,zd9 he_k hl hx,?_,?_,fun q hq=>(hfl' q hq).1,?_,hE8⟩) (by first | omega | (dsimp only;omega)))
  .
   rw[zp1,zqw,zqi]
   exact zk (zk hown6 hk_b7 (fun _ _ h=>h)) hk8 (fun q hq h=>(hfl' q hq).2.1 h)
  .
   rw[zp1,zqw,zqi]
   exact hown8
  intro q hq
  rcases hfr8 with h | ⟨q',h,h'⟩
  .
   have hq':vh.ownBlock=some q:=by rw[<- h];exact hq
   refine⟨(hfh q hq').1,fun h0=>(hfl' q h0).2.1 hq'⟩
  rw[h]at hq
  cases hq
  exact⟨by omega,fun h0=>by have:=(hfl' _ h0).2.2;omega⟩
 have hii:i=t.kids.length:=by omega
 subst hii
 rw[zoY]at hl
 have hll:=qa _ _ hl
 have hsl:SlR 1 yc (fun _=>True) w1 vl (l.map Prod.fst):=zmk (by omega) zbE xj (fun x _=>rfl) hol (fun _ _=>trivial)
 have hsh:SlR 1 yc (fun _=>True) w1 vh (l.map Prod.snd):=zmk (by omega) zbE xj (fun x _=>rfl) hoh (fun _ _=>trivial)
 have hn:NodeOk vs t.op t.n l:=qW hll hf.1.1 hf.1.2 (fun x hx=>by
  obtain⟨k,hk,hkx⟩:=jp _ _ hl x hx
  exact kn hvb k (zX hf.2 hk) x hkx) hvb
 have hrg:rng vs t=if okR (zh vs t.op t.n l) then some (zh vs t.op t.n l) else none:=by rw[zb6,hl];rfl
 refine Gs 8 O (zmX O tg70 ts70 hB_b.cells O (Gs 2 O (G.call O Tryz.call151 (zfb vs t l _ vl vh _ Dv D (fun _=>True) (fun _=>True) _ hvs (RTm.put hk) hsl hsh hn) ?_)))
 rintro _ wz2 ⟨⟨a,c,rfl,hok,hval⟩,hz2⟩
 obtain⟨hE,hvs,hk,hB_b,hL,hol,hoh⟩:=Tr7 hz2 hE hvs hk hB_b hL hol hoh
 have hso:(rng vs t).isSome=okR (a,c):=by rw[hrg,hok];cases okR (zh vs t.op t.n l)<;>rfl
 have hvv:∀ x,rng vs t=some x->(a,c)=x:=by
  intro x hx
  have h1:okR (a,c)=true:=by rw[<- hso,hx];rfl
  rw[hrg,<- hok,h1,zp4 rfl]at hx
  rw[hval h1]
  exact Option.some.inj hx
 refine Gs 14 O (G.sp 57 O (fun g1=>?_) (fun g1=>?_))
 .
  have ho:okR (a,c)=decide (c<=1048576):=by unfold okR;congr 1;simp;omega
  refine Gs 9 O (zly Tryz.results111 O O O ⟨_,rfl,⟨a,c,by rw[hso,ho]<;>rfl,hvv⟩,hE⟩)
 have ho:okR (a,c)=false:=by unfold okR;exact zp6 (by dsimp only;omega)
 refine Gs 9 O (zly Tryz.results111 O O O ⟨_,rfl,⟨a,c,by rw[hso,ho]<;>rfl,hvv⟩,hE⟩)
def zD (vs:List Vr) (inp:Bool) (t:Tm):Int:=if zu vs inp t then (if (rng vs t).isSome then 0 else 3) else 1
theorem xN (vs:List Vr) (inp:Bool) (vv:Value) (cs:List Value) (Dv D:Nat->Prop) (w:World) (t:Tm) (hvb:∀ v ∈ vs,yz (v.low,v.high)) (hvs:SlR 5 RVr Dv w vv vs) (ht:RTm D w t cs) (hsz:t.nodes<=1000000):Calls Tryz.prog 63 #[vv,.agg cs.toArray,.bool inp] w (Ret fun r w'=>r=.int .i64 (zD vs inp t)/\Ext w w'):=by
 obtain⟨v,rfl,hk⟩:=ht.get
 have hE:=Keep.refl (fun _=>False) w
 refine zn3 Tryz.func63 O Tryz.ntmps63 O (Gs 2 O (zlY O O (M.box O O) ?_))
 rintro _ w_b ⟨b,rfl,hg_b,hs_b,hB_b,hk_b⟩
 have hge_b:_<=b:=zoZ hE.size (zri hg_b.symm)
 obtain⟨hE,hvs,hk⟩:=Tr3 hk_b hE hvs hk
 refine Gs 7 O (zmX O tg70 ts70 hB_b.cells O (Gs 1 O (G.call O Tryz.call110 (zd8 vs inp vv Dv t _ D _ hvs (RTm.put hk)) ?_)))
 rintro _ wz1 ⟨rfl,hz1⟩
 obtain⟨hE,hvs,hk,hB_b⟩:=Tr4 hz1 hE hvs hk hB_b
 refine zmR O O (zms O (by first | exact za | rfl)) (Gs 2 O (G.bool O (fun hf=>?_) (fun hf=>?_)))
 .
  have hf':zu vs inp t=false:=by simpa using hf
  refine Gs 7 O (zls Tryz.results63 O ⟨_,rfl,by rw[zD,hf'];rfl,hE⟩)
 have hf':zu vs inp t=true:=by simpa using hf
 refine Gs 5 O (zmX O tg70 ts70 hB_b.cells O (G.call O Tryz.call111 (zdX vs inp vv Dv hvb t _ D _ hvs (RTm.put hk) hf' hsz) ?_))
 rintro _ wz2 ⟨⟨a,c,rfl,_⟩,hz2⟩
 obtain⟨hE,hvs,hk,hB_b⟩:=Tr4 hz2 hE hvs hk hB_b
 refine Gs 13 O (zmR O O (zms O (by first | exact za | rfl)) (Gs 2 O (G.bool O (fun ho=>?_) (fun ho=>?_))))
 .
  have ho':(rng vs t).isSome=false:=by simpa using ho
  refine Gs 7 O (zls Tryz.results63 O ⟨_,rfl,by rw[zD,hf',ho'];rfl,hE⟩)
 have ho':(rng vs t).isSome=true:=by simpa using ho
 refine Gs 8 O (zls Tryz.results63 O ⟨_,rfl,by rw[zD,hf',ho'];rfl,hE⟩)
theorem zb8 (vs:List Vr) (inp:Bool) (vv:Value) (cs:List Value) (Dv D:Nat->Prop) (w:World) (t:Tm) (hvb:∀ v ∈ vs,yz (v.low,v.high)) (hvs:SlR 5 RVr Dv w vv vs) (ht:RTm D w t cs) (hsz:t.nodes<=1000000):Calls Tryz.prog 162 #[vv,.agg cs.toArray,.bool inp] w (Ret fun r w'=>r=.int .i64 (zD vs inp t)/\Ext w w'):=by
 obtain⟨v,rfl,hk⟩:=ht.get
 have hE:=Keep.refl (fun _=>False) w
 refine zn3 Tryz.func162 O Tryz.ntmps162 O (Gs 2 O (zlY O O (M.box O O) ?_))
 rintro _ w_b ⟨b,rfl,hg_b,hs_b,hB_b,hk_b⟩
 have hge_b:_<=b:=zoZ hE.size (zri hg_b.symm)
 obtain⟨hE,hvs,hk⟩:=Tr3 hk_b hE hvs hk
 refine Gs 7 O (zmX O tg70 ts70 hB_b.cells O (Gs 1 O (G.call O Tryz.call87 (km vs inp vv Dv t _ D _ hvs (RTm.put hk)) ?_)))
 rintro _ wz1 ⟨rfl,hz1⟩
 obtain⟨hE,hvs,hk,hB_b⟩:=Tr4 hz1 hE hvs hk hB_b
 refine zmR O O (zms O (by first | exact za | rfl)) (Gs 2 O (G.bool O (fun hf=>?_) (fun hf=>?_)))
 .
  have hf':zu vs inp t=false:=by simpa using hf
  refine Gs 7 O (zls Tryz.results162 O ⟨_,rfl,by rw[zD,hf'];rfl,hE⟩)
 have hf':zu vs inp t=true:=by simpa using hf
 refine Gs 6 O (zmX O tg70 ts70 hB_b.cells O (G.call O Tryz.call89 (zdb vs inp vv Dv hvb t _ D _ hvs (RTm.put hk) hf' hsz) ?_))
 rintro _ wz2 ⟨⟨a,c,rfl,_⟩,hz2⟩
 obtain⟨hE,hvs,hk,hB_b⟩:=Tr4 hz2 hE hvs hk hB_b
 refine Gs 3 O (zlY O O (M.alloc (cs:=_) tz159 O) ?_)
 rintro _ wa3 ⟨o,rfl,hg_o,hs_o,hB_o,hk_o⟩
 refine zm3 O (zm4 ts159 O O O O (by simp[Value.oneCell']) hB_o (by simp)) ?_
 rintro w_o ⟨_,hB_o,hkk_o⟩
 replace hk_o:=hk_o.trans hkk_o (fun q hq h=>by have h:q=o:=h;omega)
 have hn_b_o:b ≠ o:=by have:=hB_b.lt;omega
 have hge_o:_<=o:=zoZ hE.size (zri hg_o.symm)
 obtain⟨hE,hvs,hk,hB_b⟩:=Tr4 hk_o hE hvs hk hB_b
 refine Gs 6 O (zmR O O (zms O (by first | exact za | rfl)) (Gs 2 O (G.bool O (fun ho=>?_) (fun ho=>?_))))
 .
  have ho':(rng vs t).isSome=false:=by simpa using ho
  refine Gs 7 O (zls Tryz.results162 O ⟨_,rfl,by rw[zD,hf',ho'];rfl,hE⟩)
 have ho':(rng vs t).isSome=true:=by simpa using ho
 refine Gs 8 O (zls Tryz.results162 O ⟨_,rfl,by rw[zD,hf',ho'];rfl,hE⟩)
def yj (k:Int):List Vr->Int->Option Int
 | [],n=>some n
 | v::r,n=>if v.kind=k then (if 4096<n*(v.high - v.low+1) then none else yj k r (n*(v.high - v.low+1))) else yj k r n
def zo (k:Int) (vs:List Vr):Option Int:=yj k vs 1
theorem zU (k:Int):∀ (a b:List Vr) (n:Int),yj k (a++b) n=(yj k a n).bind (yj k b)
 | [],b,n=>rfl
 | v::r,b,n=>by
  simp only[zq5,yj]
  split
  .
   split
   . rfl
   exact zU k r b _
  exact zU k r b _
theorem yP (k:Int):∀ (a:List Vr) (n m:Int),(∀ v ∈ a,yz (v.low,v.high))->1<=n->n<=4096->yj k a n=some m->1<=m/\m<=4096
 | [],n,m,_,h1,h2,h=>by simp[yj]at h;omega
 | v::r,n,m,hg,h1,h2,h=>by
  have hv:=hg v (zoX ..)
  have hr:=fun x hx=>hg x (zoW _ hx)
  unfold yz at hv
  simp only[yj]at h
  split at h
  .
   split at h
   . cases h
   rename_i h3
   refine yP k r _ m hr ?_ (by omega) h
   have:(1:Int)*1<=n*(v.high - v.low+1):=zpU h1 (by dsimp only at hv;omega) (by omega) (by omega)
   omega
  exact yP k r n m hr h1 h2 h
theorem zdY {n s:Int} (h1:1<=n) (h2:n<=4096) (h3:1<=s) (h4:s<=2097153):1<=n*s/\n*s<=4096*2097153:=by
 have a:(1:Int)*1<=n*s:=zpU h1 h3 (by omega) (by omega)
 have b:n*s<=4096*2097153:=zpU h2 h4 (by omega) (by omega)
 omega
theorem qA (vs:List Vr) (k:Int) (vv:Value) (D:Nat->Prop) (w:World) (hg:∀ v ∈ vs,yz (v.low,v.high)) (hvs:SlR 5 RVr D w vv vs):Calls Tryz.prog 109 #[vv,.int .i64 k] w (Ret fun r w'=>r=.int .i64 ((zo k vs).getD 4097)/\Ext w w'):=by
 have hmx:=hvs.max
 obtain⟨av,nv,rfl⟩:=hvs.form
 refine zn2 Tryz.func109 O Tryz.ntmps109 O (Gs 17 O (G.loop (σ:=Nat × Int) (fun⟨i,n⟩=>[(0,.slice av vs.length nv),(1,.int .i64 k),(5,.int .i64 n),(6,.int .i64 i)]) (fun⟨i,n⟩=>fun w'=>i<=vs.length/\yj k (vs.take i) 1=some n/\Ext w w') (fun⟨i,n⟩=>vs.length - i) ((0,1)) (Sub.of O) (⟨zp8 _,rfl,Keep.refl _ _⟩) ?_))
 rintro⟨i,n⟩ w1 ⟨hi,hs,hL1⟩
 show G _ _ _ _ _ [(0,.slice av vs.length nv),(1,.int .i64 k),(5,.int .i64 n),(6,.int .i64 i)] _
 replace hvs:=Tr1 hL1 hvs
 have hn:=yP k (vs.take i) 1 n (fun v hv=>hg v (zqK hv)) (by omega) (by omega) hs
 refine Gs 9 O (zlc O (fun hlt=>?_) (fun hlt=>?_))
 .
  obtain⟨x,he_x,hm_x⟩:=gE_ vs (i) (by omega)
  obtain⟨b_x,o_x,c_x,ha_x,_,hc_x,hR_x⟩:=hvs.at he_x
  have h1_x:=RVr.one hR_x
  obtain rfl:=hR_x
  have hlt_x:b_x<_:=zoV _ _ (hc_x 0 _ rfl)
  have hgx:=hg x hm_x
  unfold yz at hgx
  dsimp only at hgx
  have hp:=zdY (n:=n) (s:=x.high - x.low+1) hn.1 hn.2 (by omega) (by omega)
  have hst:yj k (vs.take (i+1)) 1=if x.kind=k then (if 4096<n*(x.high - x.low+1) then none else some (n*(x.high - x.low+1))) else some n:=by
   rw[zd he_x,zU,hs];simp[yj]
  have hbad:yj k (vs.take (i+1)) 1=none->zo k vs=none:=by
   intro h
   unfold zo
   rw[<- zr5 (i+1) vs,zU,h];rfl
  refine Gs 9 O (zmR O O (zlO tR22 ts142 O O ha_x (by omega)) (Gs 1 O (zmV O tg100 (hc_x 1 _ O) (Gs 4 O (zlc O (fun hk=>?_) (fun hk=>?_))))))
  . refine Ga 9 O (by omega) (G.back ((i+1,n)) (Sub.of O) (⟨by omega,by rw[hst,zp3 hk],hL1⟩) (by first | omega | (dsimp only;omega)))
  have hk':x.kind=k:=zp2.1 hk
  rw[zp4 hk']at hst
  refine Gs 3 O (Qt (by kernel_rfl) (Gs 3 O (zmU O O (fun w1 hw1=>zlO tR22 ts142 O O ha_x (by omega)) (Gs 1 O (zmW O tg3 (fun w1 hw1=>((hw1.cells hc_x (fun h=>h)) 3 _ O)) (Gs 2 O (zmU O O (fun w1 hw1=>zlO tR22 ts142 O O ha_x (by omega)) (Gs 1 O (zmW O tg3 (fun w1 hw1=>((hw1.cells hc_x (fun h=>h)) 2 _ O)) (Ga 4 O (by omega) (zmY (fun wz1 hz1=>?_))))))))))))
  obtain⟨hvs,hL1,hc_x⟩:=Tr3 hz1 hvs hL1 hc_x
  refine Gs 7 O (zlc O (fun hb=>?_) (fun hb=>?_))
  .
   rw[zp4 hb]at hst
   refine Gs 11 O (zls Tryz.results109 O ⟨_,rfl,by rw[hbad hst];rfl,hL1⟩)
  refine Ga 8 O (by omega) (G.back ((i+1,n*(x.high - x.low+1))) (Sub.of O) (⟨by omega,by rw[hst,zp3 hb],hL1⟩) (by first | omega | (dsimp only;omega)))
 have:i=vs.length:=by omega
 subst this
 rw[zoY]at hs
 refine Gs 12 O (zls Tryz.results109 O ⟨_,rfl,by rw[zo,hs];rfl,hL1⟩)
theorem zfc (v:Vr) (w:World) (hg:yz (v.low,v.high)):Calls Tryz.prog 214 #[.agg #[.string v.name,.int .i64 v.kind,.int .i64 v.low,.int .i64 v.high,.int .i64 v.init]] w (Ret fun r w'=>r=.int .i64 (v.high - v.low+1)/\Ext w w'):=by
 unfold yz at hg
 dsimp only at hg
 have hE:=Keep.refl (fun _=>False) w
 refine zn1 Tryz.func214 O Tryz.ntmps214 O (Gs 2 O (zlY O O (M.box O O) ?_))
 rintro _ w_b ⟨b,rfl,hg_b,hs_b,hB_b,hk_b⟩
 have hge_b:_<=b:=zoZ hE.size (zri hg_b.symm)
 replace hE:=Tr1 hk_b hE
 refine Gs 6 O (zmV O tg3 (hB_b.cells 3 _ O) (Gs 1 O (zmV O tg3 (hB_b.cells 2 _ O) (Ga 6 O (by omega) (zls Tryz.results214 O ⟨_,rfl,rfl,hE⟩)))))
def zdZ (v:Vr):List Value:=[.string v.name,.int .i64 v.kind,.int .i64 v.low,.int .i64 v.high,.int .i64 v.init]
theorem zeA (v:Vr):(zdZ v).length=5:=rfl
theorem zeB (v:Vr):∀ u ∈ zdZ v,u.oneCell'=true:=by simp[zdZ,Value.oneCell']
def zp (k:Int) (vs:List Vr):List Vr:=vs.filter fun v=>decide (v.kind=k)
theorem zb9 {k:Int} {vs:List Vr} {i:Nat} {x:Vr} (h:vs[i]?=some x):zp k (vs.take (i+1))=zp k (vs.take i)++(if x.kind=k then [x] else []):=by
 unfold zp
 rw[zd h,zqf]
 congr 1
 by_cases e:x.kind=k<;>simp[e]
theorem jq (k:Int) (vs:List Vr):(zp k vs).length<=vs.length:=zqt _ _
theorem xG (k:Int):∀ (vs:List Vr) (n:Int),yj k (zp k vs) n=yj k vs n
 | [],n=>rfl
 | v::r,n=>by
  unfold zp
  by_cases e:v.kind=k
  .
   rw[zqh (by simpa using e)]
   simp only[yj,e,if_true]
   split
   . rfl
   exact xG k r _
  rw[zqg (by simpa using e)]
  simp only[yj,e,if_false]
  exact xG k r n
theorem zgf (vs:List Vr) (k:Int) (vv:Value) (D:Nat->Prop) (w:World) (hk:0<=k/\k<=3) (hg:∀ v ∈ vs,yz (v.low,v.high)) (hvs:SlR 5 RVr D w vv vs) (hlen:vs.length<=1000000):Calls Tryz.prog 196 #[vv,.int .i64 k] w (Ret fun r w'=>(∃ vl,r=.tuple #[vl,.int .i64 ((zo k vs).getD 0),.int .i64 (if (zo k vs).isSome then 0 else 4)]/\((zo k vs).isSome=true->SlR 5 RVr (fun b=>w.heap.size<=b) w' vl (zp k vs))/\((zo k vs).isSome=false->vl=.slice none 0 0))/\Ext w w'):=by
 obtain⟨av,nv,rfl⟩:=hvs.form
 have hE:=Keep.refl (fun _=>False) w
 refine zn2 Tryz.func196 O Tryz.ntmps196 O (Gs 13 O (zln (σ:=Unit) (fun u=>[(0,.slice av vs.length nv),(1,.int .i64 k)]) (fun u=>fun w'=>w'=w) ?_ ?_))
 .
  refine Gs 8 O (zlc O (fun h0=>?_) (fun h0=>?_))
  . refine Gs 5 O (zlp (()) (Sub.of O) (rfl))
  refine Gs 6 O (zlc O (fun h1=>?_) (fun h1=>?_))
  . refine Gs 5 O (zlp (()) (Sub.of O) (rfl))
  refine Gs 6 O (zlc O (fun h2=>?_) (fun h2=>?_))
  . refine Gs 5 O (zlp (()) (Sub.of O) (rfl))
  refine Gs 5 O (zlc O (fun h3=>?_) (fun h3=>?_))
  . refine Gs 2 O (zlp (()) (Sub.of O) (rfl))
  exact absurd hk (by omega)
 rintro u w1 hw1
 subst hw1
 refine Gs 14 O (zln (σ:=Value) (fun vl=>[(0,.slice av vs.length nv),(1,.int .i64 k),(7,vl)]) (fun vl=>fun w'=>w'.ownsRow 0 142 5 vl (zp k vs).length ((zp k vs).flatMap zdZ)/\(∀ q,vl.ownBlock=some q->w1.heap.size<=q)/\Ext w1 w') ?_ ?_)
 .
  refine Gs 1 O (G.loop (σ:=Nat × Value) (fun⟨i,vl⟩=>[(0,.slice av vs.length nv),(1,.int .i64 k),(7,vl),(19,.slice av vs.length nv),(20,.int .i64 vs.length),(21,.int .i64 i)]) (fun⟨i,vl⟩=>fun w'=>i<=vs.length/\w'.ownsRow 0 142 5 vl (zp k (vs.take i)).length ((zp k (vs.take i)).flatMap zdZ)/\(∀ q,vl.ownBlock=some q->w1.heap.size<=q)/\Ext w1 w') (fun⟨i,vl⟩=>vs.length - i) ((0,.slice none 0 0)) (Sub.of O) (⟨zp8 _,kQ _ _ _,fun q hq=>by simp[Value.ownBlock]at hq,Keep.refl _ _⟩) ?_)
  rintro⟨i,vl⟩ w2 ⟨hi,hown,hfr,hL1⟩
  show G _ _ _ _ _ [(0,.slice av vs.length nv),(1,.int .i64 k),(7,vl),(19,.slice av vs.length nv),(20,.int .i64 vs.length),(21,.int .i64 i)] _
  obtain⟨hE,hvs⟩:=Tr2 hL1 hE hvs
  refine Gs 6 O (zlc O (fun hlt=>?_) (fun hlt=>?_))
  .
   obtain⟨x,he_x,hm_x⟩:=gE_ vs (i) (by omega)
   obtain⟨b_x,o_x,c_x,ha_x,_,hc_x,hR_x⟩:=hvs.at he_x
   have h1_x:=RVr.one hR_x
   obtain rfl:=hR_x
   have hlt_x:b_x<_:=zoV _ _ (hc_x 0 _ rfl)
   have hgx:=hg x hm_x
   unfold yz at hgx
   dsimp only at hgx
   have hot:=zb9 (k:=k) he_x
   have hol:=jq k (vs.take i)
   rw[zpn]at hol
   refine Gs 6 O (zmR O O (zlO tR22 ts142 O O ha_x (by omega)) (zmX O tg142 ts142 hc_x O (zlY O O (M.alloc (cs:=_) tz142 O) ?_)))
   rintro _ wa1 ⟨c,rfl,hg_c,hs_c,hB_c,hk_c⟩
   refine zm3 O (zm4 ts142 O O O O h1_x hB_c (by simp)) ?_
   rintro w_c ⟨_,hB_c,hkk_c⟩
   replace hk_c:=hk_c.trans hkk_c (fun q hq h=>by have h:q=c:=h;omega)
   have hge_c:_<=c:=zoZ hE.size (zri hg_c.symm)
   obtain⟨hE,hvs,hL1,hown,hc_x⟩:=Tr5 hk_c hE hvs hL1 hown hc_x
   refine Gs 6 O (zmV O tg100 (hB_c.cells 1 _ O) (Gs 4 O (zlc O (fun hkx=>?_) (fun hkx=>?_))))
   .
    rw[zp3 hkx,zq4]at hot
    refine Ga 8 O (by omega) (G.back ((i+1,vl)) (Sub.of O) (⟨by omega,by rw[hot];exact hown,hfr,hL1⟩) (by first | omega | (dsimp only;omega)))
   have hkx':x.kind=k:=zp2.1 hkx
   rw[zp4 hkx']at hot
   refine Gs 6 O (zmV O tg3 (hB_c.cells 2 _ O) (Gs 1 O (zmV O tg3 (hB_c.cells 3 _ O) (Gs 2 O (G.sp 34 O (fun b0=>?_) (fun b0=>?_))))))
   . exact absurd b0 (by omega)
   refine Gs 1 O (zmV O tg3 (hB_c.cells 2 _ O) (Gs 3 O (G.sp 39 O (fun b1=>?_) (fun b1=>?_))))
   . exact absurd b1 (by omega)
   refine Gs 1 O (zmV O tg3 (hB_c.cells 3 _ O) (Gs 4 O (zlc O (fun b2=>?_) (fun b2=>?_))))
   . exact absurd b2 (by omega)
   refine Gs 4 O (zmX O tg142 ts142 hB_c.cells O (zlY O O (M.buildSlice (cs:=zdZ x) [(0,_)] tR22 ts142 tz142 (by decide) O (by kernel_rfl)) ?_))
   rintro _ w5 ⟨b5,rfl,hg_b5,hs_b5,hB_b5,hk_b5⟩
   obtain⟨hE,hvs,hL1,hown,hc_x,hB_c⟩:=Tr6 hk_b5 hE hvs hL1 hown hc_x hB_c
   refine zlY O O (M.append tu22 Tryz.el142 O (by decide) O O hown O (Cells.add hB_b5.cells) (zeB _) (by omega) (by omega)) ?_
   rintro vl' w6 ⟨hown6,hfr6,hk6,_⟩
   have hszL:=hL1.size
   refine Ga 8 O (by omega) (G.back ((i+1,vl')) (Sub.of O) (⟨by omega,?_,?_,hL1.trans hk6 (fun q hq h=>by have:=hfr q h;omega)⟩) (by first | omega | (dsimp only;omega)))
   .
    rw[hot,zp1,zqi]
    exact hown6
   intro q hq
   rcases hfr6 with h | ⟨q',h,h'⟩
   . exact hfr q (by rw[<- h];exact hq)
   rw[h]at hq;cases hq;omega
  have:i=vs.length:=by omega
  subst this
  rw[zoY]at hown
  refine Gs 4 O (zlp (vl) (Sub.of O) (⟨hown,hfr,hL1⟩))
 rintro vl w2 ⟨hown,hfr,hX⟩
 obtain⟨hE,hvs⟩:=Tr2 hX hE hvs
 have hsl:SlR 5 RVr (fun b=>w1.heap.size<=b) w2 vl (zp k vs):=zmk (by omega) zdZ zeA (fun x _=>rfl) hown hfr
 obtain⟨al,nl,rfl⟩:=hsl.form
 have hol:=jq k vs
 have hgo:∀ v ∈ zp k vs,yz (v.low,v.high):=fun v hv=>hg v (zqF.1 hv).1
 have hsp:yj k (zp k vs) 1=zo k vs:=xG k vs 1
 have hall:∀ v ∈ zp k vs,v.kind=k:=fun v hv=>by simpa using (zqF.1 hv).2
 refine Gs 15 O (G.loop (σ:=Nat × Int) (fun⟨i,n⟩=>[(7,.slice al (zp k vs).length nl),(10,.int .i64 n),(49,.slice al (zp k vs).length nl),(50,.int .i64 (zp k vs).length),(51,.int .i64 i)]) (fun⟨i,n⟩=>fun w'=>i<=(zp k vs).length/\yj k ((zp k vs).take i) 1=some n/\Ext w2 w') (fun⟨i,n⟩=>(zp k vs).length - i) ((0,1)) (Sub.of O) (⟨zp8 _,rfl,Keep.refl _ _⟩) ?_)
 rintro⟨i,n⟩ w3 ⟨hi,hs,hL2⟩
 show G _ _ _ _ _ [(7,.slice al (zp k vs).length nl),(10,.int .i64 n),(49,.slice al (zp k vs).length nl),(50,.int .i64 (zp k vs).length),(51,.int .i64 i)] _
 obtain⟨hE,hvs,hsl⟩:=Tr3 hL2 hE hvs hsl
 have hn:=yP k ((zp k vs).take i) 1 n (fun v hv=>hgo v (zqK hv)) (by omega) (by omega) hs
 refine Gs 6 O (zlc O (fun hlt=>?_) (fun hlt=>?_))
 .
  obtain⟨x,he_x,hm_x⟩:=gE_ (zp k vs) (i) (by omega)
  obtain⟨b_x,o_x,c_x,ha_x,_,hc_x,hR_x⟩:=hsl.at he_x
  have h1_x:=RVr.one hR_x
  obtain rfl:=hR_x
  have hlt_x:b_x<_:=zoV _ _ (hc_x 0 _ rfl)
  have hgx:=hgo x hm_x
  have hgx':=hgx
  unfold yz at hgx'
  dsimp only at hgx'
  have hp:=zdY (n:=n) (s:=x.high - x.low+1) hn.1 hn.2 (by omega) (by omega)
  have hst:yj k ((zp k vs).take (i+1)) 1=if 4096<n*(x.high - x.low+1) then none else some (n*(x.high - x.low+1)):=by
   rw[zd he_x,zU,hs];simp[yj,hall x hm_x]
  refine Gs 6 O (zmR O O (zlO tR22 ts142 O O ha_x (by omega)) (zmX O tg142 ts142 hc_x O (zlY O O (M.alloc (cs:=_) tz142 O) ?_)))
  rintro _ wa2 ⟨c,rfl,hg_c,hs_c,hB_c,hk_c⟩
  refine zm3 O (zm4 ts142 O O O O h1_x hB_c (by simp)) ?_
  rintro w_c ⟨_,hB_c,hkk_c⟩
  replace hk_c:=hk_c.trans hkk_c (fun q hq h=>by have h:q=c:=h;omega)
  have hge_c:_<=c:=zoZ hE.size (zri hg_c.symm)
  obtain⟨hE,hvs,hsl,hL2,hc_x⟩:=Tr5 hk_c hE hvs hsl hL2 hc_x
  refine Gs 5 O (zmX O tg142 ts142 hB_c.cells O (G.call O Tryz.call214 (zfc x _ hgx) ?_))
  rintro _ wz3 ⟨rfl,hz3⟩
  obtain⟨hE,hvs,hsl,hL2,hc_x,hB_c⟩:=Tr6 hz3 hE hvs hsl hL2 hc_x hB_c
  refine Ga 10 O (by omega) (zlc O (fun hb=>?_) (fun hb=>?_))
  .
   rw[zp4 hb]at hst
   have hnone:zo k vs=none:=by
    rw[<- hsp,<- zr5 (i+1) (zp k vs),zU,hst];rfl
   refine Gs 13 O (zly Tryz.results196 O O O ⟨_,rfl,⟨.slice none 0 0,by rw[hnone];rfl,(fun (h:(zo k vs).isSome=true)=>by rw[hnone]at h;cases h),fun _=>rfl⟩,hE⟩)
  refine Ga 7 O (by omega) (G.back ((i+1,n*(x.high - x.low+1))) (Sub.of O) (⟨by omega,by rw[hst,zp3 hb],hL2⟩) (by first | omega | (dsimp only;omega)))
 have:i=(zp k vs).length:=by omega
 subst this
 rw[zoY,hsp]at hs
 refine Gs 15 O (zly Tryz.results196 O O O ⟨_,rfl,⟨_,by rw[hs];rfl,fun _=>hsl,(fun (h:(zo k vs).isSome=false)=>by rw[hs]at h;cases h)⟩,hE⟩)
theorem ze0 (vs:List Vr) (k:Int) (vv:Value) (D:Nat->Prop) (w:World) (hk:0<=k/\k<=3) (hg:∀ v ∈ vs,yz (v.low,v.high)) (hvs:SlR 5 RVr D w vv vs) (hlen:vs.length<=1000000):Calls Tryz.prog 159 #[vv,.int .i64 k] w (Ret fun r w'=>r=.tuple #[.int .i64 ((zo k vs).getD 0),.int .i64 (if (zo k vs).isSome then 0 else 4)]/\Ext w w'):=by
 have hE:=Keep.refl (fun _=>False) w
 refine zn2 Tryz.func159 O Tryz.ntmps159 O (Gs 10 O (G.call O Tryz.call196 (zgf vs k vv D w hk hg hvs hlen) ?_))
 rintro _ wz1 ⟨⟨vl,rfl,_,_⟩,hz1⟩
 replace hE:=Tr1 hz1 hE
 refine Gs 18 O (zlv Tryz.results159 O O ⟨_,rfl,rfl,hE⟩)
def yA (f:Nat->Int):Nat->Nat->Int
 | _,0=>0
 | i,n+1=>if f i ≠ 0 then f i else yA f (i+1) n
theorem qB (f:Nat->Int):∀ (k i m:Nat),(∀ j,i<=j->j<i+k->f j=0)->yA f i (k+m)=yA f (i+k) m
 | 0,i,m,_=>by simp
 | k+1,i,m,h=>by
  rw[show k+1+m=(k+m)+1 by omega,yA,zp3 (by simp[h i (zpi _) (by omega)]),qB f k (i+1) m (fun j h1 h2=>h j (by omega) (by omega))]
  congr 1;omega
theorem qC {f:Nat->Int} {i n:Nat} (h:∀ j,j<i->f j=0) (hi:i<n) (hb:f i ≠ 0):yA f 0 n=f i:=by
 obtain⟨m,rfl⟩:∃ m,n=i+(m+1):=⟨n - i - 1,by omega⟩
 rw[qB f i 0 (m+1) (fun j _ h2=>h j (by omega)),zrq,yA,zp4 hb]
theorem xH {f:Nat->Int} {n:Nat} (h:∀ j,j<n->f j=0):yA f 0 n=0:=by
 have:=qB f n 0 0 (fun j _ h2=>h j (by omega))
 simpa[yA] using this
theorem qb {f:Nat->Int}:∀ (n i:Nat),yA f i n=0->∀ j,i<=j->j<i+n->f j=0
 | 0,i,_,j,h1,h2=>by omega
 | n+1,i,h,j,h1,h2=>by
  rw[yA]at h
  split at h
  . rename_i h3;exact absurd h h3
  rename_i h3
  by_cases e:j=i
  . subst e;simpa using h3
  exact qb n (i+1) h j (by omega) (by omega)
def zN (a b:ByteArray):Bool:=decide (a.toList=b.toList)
def zK (prev:List Vr) (v:Vr):Int :=
 if zb3 v.name=false then 7
 else if prev.any (fun u=>zN u.name v.name)=true then 8
 else if ¬ (0<=v.kind/\v.kind<=3) then 1
 else if zar v.low v.high=false then 3
 else if v.kind=0/\(v.init<v.low\/v.high<v.init)\/v.kind ≠ 0/\v.init ≠ 0 then 3
 else 0
def kq (vs:List Vr) (i:Nat):Int:=match vs[i]? with
 | some v=>zK (vs.take i) v
 | none=>0
theorem zcs {vs:List Vr} {i:Nat} {v:Vr} (h:vs[i]?=some v):kq vs i=zK (vs.take i) v:=by simp[kq,h]
def yI (vs:List Vr):Bool:=(zo 1 vs).isNone || (zo 2 vs).isNone || (match zo 3 vs with
 | some n=>decide (256<n)
 | none=>true)
def zr (vs:List Vr):Int:=if yA (kq vs) 0 vs.length ≠ 0 then yA (kq vs) 0 vs.length else if yI vs then 4 else 0
theorem zdc {prev:List Vr} {v:Vr} (h:zK prev v=0):yz (v.low,v.high)/\0<=v.kind/\v.kind<=3:=by
 unfold zK at h
 split at h
 . cases h
 split at h
 . cases h
 split at h
 . cases h
 split at h
 . cases h
 rename_i h1 h2 h3 h4
 have h5:zar v.low v.high=true:=by simpa using h4
 unfold zar at h5
 have:=of_decide_eq_true h5
 have h3:=zp2.1 h3
 exact⟨⟨this.2.1,this.1,this.2.2⟩,h3.1,h3.2⟩
theorem qc {vs:List Vr} (h:∀ j,j<vs.length->kq vs j=0):∀ v ∈ vs,yz (v.low,v.high)/\0<=v.kind/\v.kind<=3:=by
 intro v hv
 obtain⟨i,hi⟩:=zqH.1 hv
 have:=h i (zp7.1 hi).1
 rw[zcs hi]at this
 exact zdc this
theorem zba (vs:List Vr) (vv:Value) (D:Nat->Prop) (w:World) (hvs:SlR 5 RVr D w vv vs):Calls Tryz.prog 60 #[vv] w (Ret fun r w'=>r=.int .i64 (zr vs)/\Ext w w'):=by
 have hmx:=hvs.max
 obtain⟨av,nv,rfl⟩:=hvs.form
 refine zn1 Tryz.func60 O Tryz.ntmps60 O (Gs 12 O (G.loop (σ:=Nat) (fun i=>[(0,.slice av vs.length nv),(3,.int .i64 i)]) (fun i=>fun w'=>i<=vs.length/\(∀ j,j<i->kq vs j=0)/\Ext w w') (fun i=>vs.length - i) (0) (Sub.of O) (⟨zp8 _,fun j h=>absurd h (zrn _),Keep.refl _ _⟩) ?_))
 rintro i w1 ⟨hi,hall,hL1⟩
 replace hvs:=Tr1 hL1 hvs
 refine Gs 9 O (zlc O (fun hlt=>?_) (fun hlt=>?_))
 .
  obtain⟨x,he_x,hm_x⟩:=gE_ vs (i) (by omega)
  obtain⟨b_x,o_x,c_x,ha_x,_,hc_x,hR_x⟩:=hvs.at he_x
  have h1_x:=RVr.one hR_x
  obtain rfl:=hR_x
  have hlt_x:b_x<_:=zoV _ _ (hc_x 0 _ rfl)
  have hat:=zcs he_x
  have hbad:∀ c:Int,zK (vs.take i) x=c->c ≠ 0->zr vs=c:=by
   intro c h1 h2
   have h3:kq vs i ≠ 0:=by rw[hat,h1];exact h2
   rw[zr,qC hall (by omega) h3,zp4 h3,hat,h1]
  have hnext:zK (vs.take i) x=0->∀ j,j<i+1->kq vs j=0:=by
   intro h j hj
   by_cases e:j=i
   . subst e;rw[hat,h]
   exact hall j (by omega)
  refine Gs 8 O (zmR O O (zlO tR22 ts142 O O ha_x (by omega)) (zmX O tg142 ts142 hc_x O (zlY O O (M.alloc (cs:=_) tz142 O) ?_)))
  rintro _ wa1 ⟨c,rfl,hg_c,hs_c,hB_c,hk_c⟩
  refine zm3 O (zm4 ts142 O O O O h1_x hB_c (by simp)) ?_
  rintro w_c ⟨_,hB_c,hkk_c⟩
  replace hk_c:=hk_c.trans hkk_c (fun q hq h=>by have h:q=c:=h;omega)
  obtain⟨hvs,hL1,hc_x⟩:=Tr3 hk_c hvs hL1 hc_x
  refine Gs 6 O (zmV O tg9 (hB_c.cells 0 _ O) (G.call O Tryz.call61 (za8 x.name _) ?_))
  rintro _ wz2 ⟨rfl,hz2⟩
  obtain⟨hvs,hL1,hc_x,hB_c⟩:=Tr4 hz2 hvs hL1 hc_x hB_c
  refine zmR O O (zms O (by first | exact za | rfl)) (Gs 2 O (G.bool O (fun n0=>?_) (fun n0=>?_)))
  .
   have n0':zb3 x.name=false:=by simpa using n0
   refine Gs 12 O (zls tr60 O ⟨_,rfl,by rw[hbad 7 (by rw[zK,zp4 n0']) (by decide)],hL1⟩)
  have n0':¬ zb3 x.name=false:=by simpa using n0
  refine Gs 9 O (G.loop (σ:=Nat) (fun j=>[(0,.slice av vs.length nv),(3,.int .i64 i),(4,.pointer (some ⟨c,0,none⟩)),(5,.int .i64 j)]) (fun j=>fun w'=>j<=i/\(vs.take j).any (fun u=>zN u.name x.name)=false/\Ext wz2 w') (fun j=>i - j) (0) (Sub.of O) (⟨zp8 _,rfl,Keep.refl _ _⟩) ?_)
  rintro j w2 ⟨hj,hno,hL2⟩
  obtain⟨hvs,hL1,hc_x,hB_c⟩:=Tr4 hL2 hvs hL1 hc_x hB_c
  refine Gs 8 O (zlc O (fun hjl=>?_) (fun hjl=>?_))
  .
   obtain⟨y,he_y,hm_y⟩:=gE_ vs (j) (by omega)
   obtain⟨b_y,o_y,c_y,ha_y,_,hc_y,hR_y⟩:=hvs.at he_y
   have h1_y:=RVr.one hR_y
   obtain rfl:=hR_y
   have hlt_y:b_y<_:=zoV _ _ (hc_y 0 _ rfl)
   refine Gs 5 O (Qt (by kernel_rfl) (Gs 2 O (zmU O O (fun w1 hw1=>zlO tR22 ts142 O O ha_y (by omega)) (Gs 1 O (zmW O tg9 (fun w1 hw1=>((hw1.cells hc_y (fun h=>h)) 0 _ O)) (Gs 1 O (zmW O tg9 (fun w1 hw1=>((hw1.blk hB_c (fun h=>h)).cells 0 _ O)) (Gs 1 O (zmY (fun wz3 hz3=>?_))))))))))
   obtain⟨hvs,hL1,hc_x,hB_c,hL2,hc_y⟩:=Tr6 hz3 hvs hL1 hc_x hB_c hL2 hc_y
   refine Gs 1 O (zlc O (fun hd=>?_) (fun hd=>?_))
   .
    have hany:(vs.take i).any (fun u=>zN u.name x.name)=true:=by
     rw[zq2]
     refine⟨y,zoU (i:=j) (by rw[zpp,zp4 (by omega)];exact he_y),?_⟩
     unfold zN;exact zp5 hd
    refine Gs 16 O (zls tr60 O ⟨_,rfl,by rw[hbad 8 (by rw[zK,zp3 n0',zp4 hany]) (by decide)],hL1⟩)
   refine Ga 8 O (by omega) (G.back (j+1) (Sub.of O) (⟨by omega,by rw[zd he_y,zq1,hno];simp[zN,hd],hL2⟩) (by first | omega | (dsimp only;omega)))
  have hji:j=i:=by omega
  subst hji
  have n1:¬ (vs.take j).any (fun u=>zN u.name x.name)=true:=by rw[hno];decide
  refine Gs 7 O (zln (σ:=Bool) (fun q=>[(0,.slice av vs.length nv),(3,.int .i64 j),(4,.pointer (some ⟨c,0,none⟩)),(50,.bool q)]) (fun q=>fun w'=>(q=true ↔ ¬ (0<=x.kind/\x.kind<=3))/\w'=w2) ?_ ?_)
  .
   refine Gs 2 O (zmV O tg100 (hB_c.cells 1 _ O) (Gs 2 O (G.sp 36 O (fun k0=>?_) (fun k0=>?_))))
   .
    refine Gs 1 O (zmV O tg100 (hB_c.cells 1 _ O) (Gs 3 O (G.sp 41 O (fun k1=>?_) (fun k1=>?_))))
    .
     refine Gs 1 O (zmV O tg100 (hB_c.cells 1 _ O) (Gs 3 O (G.sp 46 O (fun k2=>?_) (fun k2=>?_))))
     . refine Gs 1 O (zmV O tg100 (hB_c.cells 1 _ O) (Gs 3 O (zlp (decide (x.kind ≠ 3)) (Sub.of O) (⟨by simp;omega,rfl⟩))))
     refine Gs 5 O (zlp (false) (Sub.cons O (Sub.cons O (Sub.cons O (Sub.cons (by first | rfl | (show some (Value.bool false)=some (Value.bool _);simp[*])) Sub.nil)))) (⟨by simp;omega,rfl⟩))
    refine Gs 10 O (zlp (false) (Sub.cons O (Sub.cons O (Sub.cons O (Sub.cons (by first | rfl | (show some (Value.bool false)=some (Value.bool _);simp[*])) Sub.nil)))) (⟨by simp;omega,rfl⟩))
   refine Gs 15 O (zlp (false) (Sub.cons O (Sub.cons O (Sub.cons O (Sub.cons (by first | rfl | (show some (Value.bool false)=some (Value.bool _);simp[*])) Sub.nil)))) (⟨by simp;omega,rfl⟩))
  rintro q w3 ⟨hq,hw3⟩
  subst hw3
  refine Gs 1 O (G.bool O (fun q1=>?_) (fun q1=>?_))
  .
   have n2:=hq.1 q1
   refine Gs 12 O (zls tr60 O ⟨_,rfl,by rw[hbad 1 (by rw[zK,zp3 n0',zp3 n1,zp4 n2]) (by decide)],hL1⟩)
  have n2:¬ ¬ (0<=x.kind/\x.kind<=3):=fun h=>by rw[hq.2 h]at q1;cases q1
  refine Gs 6 O (zmV O tg3 (hB_c.cells 2 _ O) (Gs 1 O (zmV O tg3 (hB_c.cells 3 _ O) (G.call O Tryz.call62 (ki x.low x.high _) ?_))))
  rintro _ wz4 ⟨rfl,hz4⟩
  obtain⟨hvs,hL1,hc_x,hB_c,hL2⟩:=Tr5 hz4 hvs hL1 hc_x hB_c hL2
  refine zmR O O (zms O (by first | exact za | rfl)) (Gs 2 O (G.bool O (fun n3=>?_) (fun n3=>?_)))
  .
   have n3':zar x.low x.high=false:=by simpa using n3
   refine Gs 12 O (zls tr60 O ⟨_,rfl,by rw[hbad 3 (by rw[zK,zp3 n0',zp3 n1,zp3 n2,zp4 n3']) (by decide)],hL1⟩)
  have n3':¬ zar x.low x.high=false:=by simpa using n3
  have b4:x.kind=0/\(x.init<x.low\/x.high<x.init)\/x.kind ≠ 0/\x.init ≠ 0->zr vs=3:=fun h=>hbad 3 (by rw[zK,zp3 n0',zp3 n1,zp3 n2,zp3 n3',zp4 h]) (by decide)
  have g4:¬ (x.kind=0/\(x.init<x.low\/x.high<x.init)\/x.kind ≠ 0/\x.init ≠ 0)->zK (vs.take j) x=0:=fun h=>by rw[zK,zp3 n0',zp3 n1,zp3 n2,zp3 n3',zp3 h]
  refine Gs 5 O (zmV O tg100 (hB_c.cells 1 _ O) (Gs 2 O (G.sp 60 O (fun k0=>?_) (fun k0=>?_))))
  .
   refine Gs 1 O (zmV O tg3 (hB_c.cells 4 _ O) (Gs 1 O (zmV O tg3 (hB_c.cells 2 _ O) (Gs 2 O (G.sp 66 O (fun i0=>?_) (fun i0=>?_))))))
   . refine Gs 31 O (zls tr60 O ⟨_,rfl,by rw[b4 (by omega)],hL1⟩)
   refine Gs 1 O (zmV O tg3 (hB_c.cells 4 _ O) (Gs 1 O (zmV O tg3 (hB_c.cells 3 _ O) (Gs 4 O (G.sp 74 O (fun i1=>?_) (fun i1=>?_))))))
   . refine Gs 23 O (zls tr60 O ⟨_,rfl,by rw[b4 (by omega)],hL1⟩)
   refine Gs 1 O (zmV O tg100 (hB_c.cells 1 _ O) (Gs 2 O (G.sp 78 O (fun kk=>?_) (fun kk=>?_))))
   . exact absurd k0 kk
   refine Ga 16 O (by omega) (G.back (j+1) (Sub.of O) (⟨by omega,hnext (g4 (by omega)),hL1⟩) (by first | omega | (dsimp only;omega)))
  refine Gs 15 O (zmV O tg100 (hB_c.cells 1 _ O) (Gs 2 O (G.sp 78 O (fun kk=>?_) (fun kk=>?_))))
  .
   refine Gs 1 O (zmV O tg3 (hB_c.cells 4 _ O) (Gs 5 O (zlc O (fun i2=>?_) (fun i2=>?_))))
   . refine Gs 11 O (zls tr60 O ⟨_,rfl,by rw[b4 (by omega)],hL1⟩)
   refine Ga 8 O (by omega) (G.back (j+1) (Sub.of O) (⟨by omega,hnext (g4 (by omega)),hL1⟩) (by first | omega | (dsimp only;omega)))
  exact absurd k0 kk
 have hii:i=vs.length:=by omega
 subst hii
 have hg:=qc hall
 have hz:=xH hall
 have hgo:∀ v ∈ vs,yz (v.low,v.high):=fun v hv=>(hg v hv).1
 have hv:zr vs=if yI vs then 4 else 0:=by rw[zr,zp3 (by simp[hz])]
 have sp:∀ k n,zo k vs=some n->1<=n/\n<=4096:=fun k n h=>yP k vs 1 n hgo (by omega) (by omega) h
 have isN:∀ k,(4096:Int)<(zo k vs).getD 4097 ↔ (zo k vs).isNone=true:=by
  intro k
  cases h:zo k vs with
  | none=>simp
  | some n=>have:=sp k n h;simp;omega
 have is3:(256:Int)<(zo 3 vs).getD 4097 ↔ (match zo 3 vs with | some n=>decide (256<n) | none=>true)=true:=by
  cases h:zo 3 vs with
  | none=>simp
  | some n=>simp
 refine Gs 9 O (G.call O Tryz.call109 (qA vs 1 _ D _ hgo hvs) ?_)
 rintro _ wz5 ⟨rfl,hz5⟩
 obtain⟨hvs,hL1⟩:=Tr2 hz5 hvs hL1
 refine Gs 2 O (G.sp 87 O (fun s1=>?_) (fun s1=>?_))
 . refine Gs 19 O (zls tr60 O ⟨_,rfl,by rw[hv,yI,(isN 1).1 s1];rfl,hL1⟩)
 have s1':(zo 1 vs).isNone=false:=by rw[zpy];exact fun h=>s1 ((isN 1).2 h)
 refine Gs 1 O (G.call O Tryz.call109 (qA vs 2 _ D _ hgo hvs) ?_)
 rintro _ wz6 ⟨rfl,hz6⟩
 obtain⟨hvs,hL1⟩:=Tr2 hz6 hvs hL1
 refine Gs 3 O (G.sp 92 O (fun s2=>?_) (fun s2=>?_))
 . refine Gs 14 O (zls tr60 O ⟨_,rfl,by rw[hv,yI,s1',(isN 2).1 s2];rfl,hL1⟩)
 have s2':(zo 2 vs).isNone=false:=by rw[zpy];exact fun h=>s2 ((isN 2).2 h)
 refine Gs 1 O (G.call O Tryz.call109 (qA vs 3 _ D _ hgo hvs) ?_)
 rintro _ wz7 ⟨rfl,hz7⟩
 obtain⟨hvs,hL1⟩:=Tr2 hz7 hvs hL1
 refine Gs 4 O (zlc O (fun s3=>?_) (fun s3=>?_))
 . refine Gs 7 O (zls tr60 O ⟨_,rfl,by rw[hv,yI,s1',s2',is3.1 s3];rfl,hL1⟩)
 have s3':(match zo 3 vs with | some n=>decide (256<n) | none=>true)=false:=by rw[zpy];exact fun h=>s3 (is3.2 h)
 refine Gs 8 O (zls tr60 O ⟨_,rfl,by rw[hv,yI,s1',s2',s3'];rfl,hL1⟩)
theorem zaa {α:Type} {p:α->Bool} {l:List α} {k:Nat} {x:α} (hx:l[k]?=some x) (h:(l.take k).any p=false) (hp:p x=false):(l.take (k+1)).any p=false:=by rw[zd hx,zq1,h];simp[hp]
theorem zj9 {α:Type} {p:α->Bool} {l:List α} {x:α} (hx:x ∈ l) (hp:p x=true):l.any p=true:=zq2.2 ⟨x,hx,hp⟩
theorem zgg (vs:List Vr) (vv:Value) (D:Nat->Prop) (w:World) (hvs:SlR 5 RVr D w vv vs) (p:Vr->Bool) (g:FuncId) (cp:Value) (hf:∀ args w,(callFunc g args).run Tryz.prog w=.ok (.enter g args) w)
  (hc:∀ x ∈ vs,∀ w',Ext w w'->Calls Tryz.prog g #[.agg (zdZ x).toArray,cp] w' (Ret fun r w''=>r=.bool (p x)/\Ext w' w'')) :
  Calls Tryz.prog 195 #[vv,.func (.func g) #[] #[cp]] w (Ret fun r w'=>(∃ i:Int,r=.int .i64 i/\(0<=i ↔ vs.any p=true))/\Ext w w'):=by
 have hmx:=hvs.max
 obtain⟨av,nv,rfl⟩:=hvs.form
 refine zn2 Tryz.func195 O Tryz.ntmps195 O (Gs 14 O (G.loop (σ:=Nat) (fun i=>[(0,.slice av vs.length nv),(1,.func (.func g) #[] #[cp]),(7,.int .i64 vs.length),(8,.int .i64 i)]) (fun i=>fun w'=>i<=vs.length/\(vs.take i).any p=false/\Ext w w') (fun i=>vs.length - i) (0) (Sub.of O) (⟨zp8 _,rfl,Keep.refl _ _⟩) ?_))
 rintro i w1 ⟨hi,hno,hL1⟩
 replace hvs:=Tr1 hL1 hvs
 refine Gs 6 O (zlc O (fun hlt=>?_) (fun hlt=>?_))
 .
  obtain⟨x,he_x,hm_x⟩:=gE_ vs (i) (by omega)
  obtain⟨b_x,o_x,c_x,ha_x,_,hc_x,hR_x⟩:=hvs.at he_x
  have h1_x:=RVr.one hR_x
  obtain rfl:=hR_x
  have hlt_x:b_x<_:=zoV _ _ (hc_x 0 _ rfl)
  refine Gs 15 O (zmR O O (zlO tR22 ts142 O O ha_x (by omega)) (zmX O tg142 ts142 hc_x O (zlV O hf (hc x hm_x _ hL1) ?_)))
  rintro _ wz1 ⟨rfl,hz1⟩
  obtain⟨hvs,hL1,hc_x⟩:=Tr3 hz1 hvs hL1 hc_x
  refine Gs 2 O (G.bool O (fun hp=>?_) (fun hp=>?_))
  . refine Gs 12 O (zls Tryz.results195 O ⟨_,rfl,⟨_,rfl,by rw[zj9 hm_x hp];simp⟩,hL1⟩)
  refine Ga 7 O (by omega) (G.back (i+1) (Sub.of O) (⟨by omega,zaa he_x hno hp,hL1⟩) (by first | omega | (dsimp only;omega)))
 have:i=vs.length:=by omega
 subst this
 rw[zoY]at hno
 refine Gs 11 O (zls Tryz.results195 O ⟨_,rfl,⟨_,rfl,by rw[hno];simp⟩,hL1⟩)
theorem zdd (vs:List Vr) (vv:Value) (D:Nat->Prop) (w:World) (hvs:SlR 5 RVr D w vv vs) (p:Vr->Bool) (g:FuncId) (cp:Value) (hf:∀ args w,(callFunc g args).run Tryz.prog w=.ok (.enter g args) w)
  (hc:∀ x ∈ vs,∀ w',Ext w w'->Calls Tryz.prog g #[.agg (zdZ x).toArray,cp] w' (Ret fun r w''=>r=.bool (p x)/\Ext w' w'')) :
  Calls Tryz.prog 158 #[vv,.func (.func g) #[] #[cp]] w (Ret fun r w'=>r=.bool (vs.any p)/\Ext w w'):=by
 have hE:=Keep.refl (fun _=>False) w
 refine zn2 Tryz.func158 O Tryz.ntmps158 O (Gs 9 O (G.call O Tryz.call195 (zgg vs vv D w hvs p g cp hf hc) ?_))
 rintro _ wz1 ⟨⟨i,rfl,hi⟩,hz1⟩
 replace hE:=Tr1 hz1 hE
 refine Gs 5 O (zls Tryz.results158 O ⟨_,rfl,by cases h:vs.any p<;>simp[h]at hi ⊢<;>omega,hE⟩)
theorem zhU (v x:Vr) (c:Nat) (w:World) (hB:Blk w c (zdZ x) 142):Calls Tryz.prog 156 #[.agg (zdZ v).toArray,.pointer (some ⟨c,0,none⟩)] w (Ret fun r w'=>r=.bool (zN v.name x.name)/\Ext w w'):=by
 have hE:=Keep.refl (fun _=>False) w
 refine zn2 Tryz.func156 O Tryz.ntmps156 O (Gs 2 O (zlY O O (M.box O O) ?_))
 rintro _ w_b ⟨b,rfl,hg_b,hs_b,hB_b,hk_b⟩
 have hge_b:_<=b:=zoZ hE.size (zri hg_b.symm)
 obtain⟨hE,hB⟩:=Tr2 hk_b hE hB
 refine Gs 6 O (zmV O tg9 (hB_b.cells 0 _ O) (Gs 1 O (zmV O tg9 (hB.cells 0 _ O) (Gs 5 O (zls Tryz.results156 O ⟨_,rfl,rfl,hE⟩)))))
theorem ze1 (vs:List Vr) (vv:Value) (D:Nat->Prop) (w:World) (hvs:SlR 5 RVr D w vv vs) (hlen:vs.length<=1000000):Calls Tryz.prog 121 #[vv] w (Ret fun r w'=>r=.int .i64 (zr vs)/\Ext w w'):=by
 obtain⟨av,nv,rfl⟩:=hvs.form
 have hlc:=hvs.len_cap.2
 refine zn1 Tryz.func121 O Tryz.ntmps121 O (Gs 13 O (zln (σ:=Unit) (fun u=>[(0,.slice av vs.length nv)]) (fun u=>fun w'=>(∀ j,j<vs.length->kq vs j=0)/\Ext w w') ?_ ?_))
 .
  refine Gs 1 O (G.loop (σ:=Nat) (fun i=>[(0,.slice av vs.length nv),(10,.slice av vs.length nv),(11,.int .i64 vs.length),(12,.int .i64 i)]) (fun i=>fun w'=>i<=vs.length/\(∀ j,j<i->kq vs j=0)/\Ext w w') (fun i=>vs.length - i) (0) (Sub.of O) (⟨zp8 _,fun j h=>absurd h (zrn _),Keep.refl _ _⟩) ?_)
  rintro i w1 ⟨hi,hall,hL1⟩
  replace hvs:=Tr1 hL1 hvs
  refine Gs 6 O (zlc O (fun hlt=>?_) (fun hlt=>?_))
  .
   obtain⟨x,he_x,hm_x⟩:=gE_ vs (i) (by omega)
   obtain⟨b_x,o_x,c_x,ha_x,_,hc_x,hR_x⟩:=hvs.at he_x
   have h1_x:=RVr.one hR_x
   obtain rfl:=hR_x
   have hlt_x:b_x<_:=zoV _ _ (hc_x 0 _ rfl)
   have hat:=zcs he_x
   have hbad:∀ c:Int,zK (vs.take i) x=c->c ≠ 0->zr vs=c:=by
    intro c h1 h2
    have h3:kq vs i ≠ 0:=by rw[hat,h1];exact h2
    rw[zr,qC hall (by omega) h3,zp4 h3,hat,h1]
   have hnext:zK (vs.take i) x=0->∀ j,j<i+1->kq vs j=0:=by
    intro h j hj
    by_cases e:j=i
    . subst e;rw[hat,h]
    exact hall j (by omega)
   refine Gs 7 O (zmR O O (zlO tR22 ts142 O O ha_x (by omega)) (zmX O tg142 ts142 hc_x O (zlY O O (M.alloc (cs:=_) tz142 O) ?_)))
   rintro _ wa1 ⟨c,rfl,hg_c,hs_c,hB_c,hk_c⟩
   refine Gs 1 O (zm3 O (zm4 ts142 O O O O h1_x hB_c (by simp)) ?_)
   rintro w_c ⟨_,hB_c,hkk_c⟩
   replace hk_c:=hk_c.trans hkk_c (fun q hq h=>by have h:q=c:=h;omega)
   obtain⟨hvs,hL1,hc_x⟩:=Tr3 hk_c hvs hL1 hc_x
   refine Gs 12 O (zmV O tg9 (hB_c.cells 0 _ O) (G.call O Tryz.call157 (kg x.name _) ?_))
   rintro _ wz2 ⟨rfl,hz2⟩
   obtain⟨hvs,hL1,hc_x,hB_c⟩:=Tr4 hz2 hvs hL1 hc_x hB_c
   refine zmR O O (zms O (by first | exact za | rfl)) (Gs 3 O (G.bool O (fun n0=>?_) (fun n0=>?_)))
   .
    have n0':zb3 x.name=false:=by simpa using n0
    refine Gs 13 O (zls tr121 O ⟨_,rfl,by rw[hbad 7 (by rw[zK,zp4 n0']) (by decide)],hL1⟩)
   have n0':¬ zb3 x.name=false:=by simpa using n0
   refine Gs 4 O (zmR O O (zml tR22 ts142 O O (by omega)) (Gs 1 O ?_))
   have htk:=hvs.take i (by omega)
   have hBx:Blk _ c (zdZ x) 142:=hB_c
   refine G.call O Tryz.call158 (zdd (vs.take i) _ D _ htk (fun u=>zN u.name x.name) 156 (.pointer (some ⟨c,0,none⟩)) Tryz.call156 (fun y _ w' hw'=>zhU y x c w' (hw'.blk hBx (fun h=>h)))) ?_
   rintro _ wz3 ⟨rfl,hz3⟩
   obtain⟨hvs,hL1,hc_x,hB_c⟩:=Tr4 hz3 hvs hL1 hc_x hB_c
   refine Gs 3 O (G.bool O (fun d0=>?_) (fun d0=>?_))
   . refine Gs 13 O (zls tr121 O ⟨_,rfl,by rw[hbad 8 (by rw[zK,zp3 n0',zp4 d0]) (by decide)],hL1⟩)
   have n1:¬ (vs.take i).any (fun u=>zN u.name x.name)=true:=by rw[d0];decide
   refine Gs 3 O (zmV O tg100 (hB_c.cells 1 _ O) (Gs 2 O (G.sp 33 O (fun k0=>?_) (fun k0=>?_))))
   .
    have n2:¬ (0<=x.kind/\x.kind<=3):=by omega
    refine Gs 21 O (zls tr121 O ⟨_,rfl,by rw[hbad 1 (by rw[zK,zp3 n0',zp3 n1,zp4 n2]) (by decide)],hL1⟩)
   refine Gs 1 O (zmV O tg100 (hB_c.cells 1 _ O) (Gs 5 O (zlc O (fun k1=>?_) (fun k1=>?_))))
   .
    have n2:¬ (0<=x.kind/\x.kind<=3):=by omega
    refine Gs 13 O (zls tr121 O ⟨_,rfl,by rw[hbad 1 (by rw[zK,zp3 n0',zp3 n1,zp4 n2]) (by decide)],hL1⟩)
   have n2:¬ ¬ (0<=x.kind/\x.kind<=3):=by omega
   refine Gs 4 O (zmV O tg3 (hB_c.cells 2 _ O) (Gs 1 O (zmV O tg3 (hB_c.cells 3 _ O) (G.call O Tryz.call88 (qe x.low x.high _) ?_))))
   rintro _ wz4 ⟨rfl,hz4⟩
   obtain⟨hvs,hL1,hc_x,hB_c⟩:=Tr4 hz4 hvs hL1 hc_x hB_c
   refine zmR O O (zms O (by first | exact za | rfl)) (Gs 3 O (G.bool O (fun n3=>?_) (fun n3=>?_)))
   .
    have n3':zar x.low x.high=false:=by simpa using n3
    refine Gs 16 O (zls tr121 O ⟨_,rfl,by rw[hbad 3 (by rw[zK,zp3 n0',zp3 n1,zp3 n2,zp4 n3']) (by decide)],hL1⟩)
   have n3':¬ zar x.low x.high=false:=by simpa using n3
   have b4:x.kind=0/\(x.init<x.low\/x.high<x.init)\/x.kind ≠ 0/\x.init ≠ 0->zr vs=3:=fun h=>hbad 3 (by rw[zK,zp3 n0',zp3 n1,zp3 n2,zp3 n3',zp4 h]) (by decide)
   have g4:¬ (x.kind=0/\(x.init<x.low\/x.high<x.init)\/x.kind ≠ 0/\x.init ≠ 0)->zK (vs.take i) x=0:=fun h=>by rw[zK,zp3 n0',zp3 n1,zp3 n2,zp3 n3',zp3 h]
   refine Gs 3 O (zmV O tg100 (hB_c.cells 1 _ O) (Gs 2 O (G.sp 48 O (fun kk=>?_) (fun kk=>?_))))
   .
    refine Gs 1 O (zmV O tg3 (hB_c.cells 4 _ O) (Gs 5 O (zlc O (fun i2=>?_) (fun i2=>?_))))
    . refine Gs 16 O (zls tr121 O ⟨_,rfl,by rw[b4 (by omega)],hL1⟩)
    refine Gs 2 O (zmV O tg100 (hB_c.cells 1 _ O) (Gs 2 O (G.sp 56 O (fun k0'=>?_) (fun k0'=>?_))))
    . exact absurd k0' kk
    refine Ga 25 O (by omega) (G.back (i+1) (Sub.of O) (⟨by omega,hnext (g4 (by omega)),hL1⟩) (by first | omega | (dsimp only;omega)))
   refine Gs 10 O (zmV O tg100 (hB_c.cells 1 _ O) (Gs 2 O (G.sp 56 O (fun k0'=>?_) (fun k0'=>?_))))
   .
    refine Gs 1 O (zmV O tg3 (hB_c.cells 4 _ O) (Gs 1 O (zmV O tg3 (hB_c.cells 2 _ O) (Gs 2 O (G.sp 62 O (fun i0=>?_) (fun i0=>?_))))))
    . refine Gs 24 O (zls tr121 O ⟨_,rfl,by rw[b4 (by omega)],hL1⟩)
    refine Gs 1 O (zmV O tg3 (hB_c.cells 4 _ O) (Gs 1 O (zmV O tg3 (hB_c.cells 3 _ O) (Gs 6 O (zlc O (fun i1=>?_) (fun i1=>?_))))))
    . refine Gs 13 O (zls tr121 O ⟨_,rfl,by rw[b4 (by omega)],hL1⟩)
    refine Ga 8 O (by omega) (G.back (i+1) (Sub.of O) (⟨by omega,hnext (g4 (by omega)),hL1⟩) (by first | omega | (dsimp only;omega)))
   exact absurd k0' kk
  have hii:i=vs.length:=by omega
  subst hii
  refine Gs 4 O (zlp (()) (Sub.of O) (⟨hall,hL1⟩))
 rintro u w2 ⟨hall,hX⟩
 replace hvs:=Tr1 hX hvs
 have hg:=qc hall
 have hz:=xH hall
 have hgo:∀ v ∈ vs,yz (v.low,v.high):=fun v hv=>(hg v hv).1
 have hv:zr vs=if yI vs then 4 else 0:=by rw[zr,zp3 (by simp[hz])]
 refine Gs 4 O (zlY O O (M.buildSlice (cs:=[.int .i64 1,.int .i64 2,.int .i64 3]) [(0,_),(1,_),(2,_)] Tryz.runUnderlying226 ts100 Tryz.zeroValue100 (by decide) O (by kernel_rfl)) ?_)
 rintro _ w3 ⟨b3,rfl,hg_b3,hs_b3,hB_b3,hk_b3⟩
 obtain⟨hvs,hX⟩:=Tr2 hk_b3 hvs hX
 have hBe:Blk w3 b3 (((List.range 3).map (fun (j:Nat)=>(j:Int)+1)).map (.int .i64)) 100:=hB_b3
 refine Gs 5 O (G.loop (σ:=Nat) (fun k=>[(0,.slice av vs.length nv),(71,.slice (some ⟨b3,0,none⟩) 3 3),(72,.int .i64 3),(73,.int .i64 k)]) (fun k=>fun w'=>k<=3/\(∀ j,j<k->∃ n,zo ((j:Int)+1) vs=some n/\(j=2->n<=256))/\Ext w3 w') (fun k=>3 - k) (0) (Sub.of O) (⟨zp8 _,fun j h=>absurd h (zrn _),Keep.refl _ _⟩) ?_)
 rintro k w4 ⟨hk,hall2,hL2⟩
 obtain⟨hvs,hX,hB_b3,hBe⟩:=Tr4 hL2 hvs hX hB_b3 hBe
 refine Gs 6 O (zlc O (fun hlt=>?_) (fun hlt=>?_))
 .
  have hkx:((List.range 3).map (fun (j:Nat)=>(j:Int)+1))[k]?=some ((k:Int)+1):=by
   rw[zpa,List.getElem?_range (by omega)];rfl
  have hbadk:(zo ((k:Int)+1) vs=none\/∃ n,zo ((k:Int)+1) vs=some n/\k=2/\256<n)->zr vs=4:=by
   intro h
   rw[hv]
   have:yI vs=true:=by
    unfold yI
    rcases (show k=0\/k=1\/k=2 by omega) with rfl | rfl | rfl
    .
     rcases h with h | ⟨n,h,h2,_⟩
     . simp at h;simp[h]
     omega
    .
     rcases h with h | ⟨n,h,h2,_⟩
     . simp at h;simp[h]
     omega
    rcases h with h | ⟨n,h,_,h3⟩
    . simp at h;simp[h]
    simp at h;simp[h,h3]
   rw[this];rfl
  refine Ga 7 O (by omega) (zmV O tg100 (hBe.cells.el1 k O (by rw[zpa,hkx];rfl)) ?_)
  refine Gs 7 O (G.call O Tryz.call159 (ze0 vs ((k:Int)+1) _ D _ (by omega) hgo hvs hlen) ?_)
  rintro _ wz5 ⟨rfl,hz5⟩
  obtain⟨hvs,hX,hB_b3,hBe,hL2⟩:=Tr5 hz5 hvs hX hB_b3 hBe hL2
  refine Gs 12 O ?_
  have hstep:(∃ n,zo ((k:Int)+1) vs=some n/\(k=2->n<=256))->∀ j,j<k+1->∃ n,zo ((j:Int)+1) vs=some n/\(j=2->n<=256):=by
   intro h j hj
   by_cases e:j=k
   . subst e;exact h
   exact hall2 j (by omega)
  rcases hs:zo ((k:Int)+1) vs with _ | n
  .
   refine G.sp 85 O (fun c0=>?_) (fun c0=>?_)
   . refine Gs 21 O (zls tr121 O ⟨_,rfl,by rw[hbadk (.inl hs)],hX⟩)
   exact absurd (by decide) c0
  refine G.sp 85 O (fun c0=>?_) (fun c0=>?_)
  . exact absurd c0 (by simp)
  refine Gs 3 O (G.sp 88 O (fun k3=>?_) (fun k3=>?_))
  .
   refine Gs 6 O (zlc O (fun n3=>?_) (fun n3=>?_))
   .
    have n3':(256:Int)<n:=n3
    refine Gs 11 O (zls tr121 O ⟨_,rfl,by rw[hbadk (.inr ⟨n,hs,by omega,n3'⟩)],hX⟩)
   have n3':¬ (256:Int)<n:=n3
   refine Ga 7 O (by omega) (G.back (k+1) (Sub.of O) (⟨by omega,hstep ⟨n,hs,fun _=>by omega⟩,hL2⟩) (by first | omega | (dsimp only;omega)))
  refine Ga 14 O (by omega) (G.back (k+1) (Sub.of O) (⟨by omega,hstep ⟨n,hs,fun h=>absurd (by omega) k3⟩,hL2⟩) (by first | omega | (dsimp only;omega)))
 have hk3:k=3:=by omega
 subst hk3
 obtain⟨n1,h1,_⟩:=hall2 0 (by omega)
 obtain⟨n2,h2,_⟩:=hall2 1 (by omega)
 obtain⟨n3,h3,h4⟩:=hall2 2 (by omega)
 have hsb:yI vs=false:=by
  simp at h1 h2 h3
  unfold yI
  simp[h1,h2,h3]
  exact h4 O
 rw[hsb]at hv
 refine Gs 11 O (zls tr121 O ⟨_,rfl,by rw[hv];rfl,hX⟩)
def plainB (t:Tm):Bool:=decide (t.op=0)&&decide (t.n=0)&&decide (t.kids.length=0)
theorem jH (t:Tm) (cs:List Value) (D:Nat->Prop) (w:World) (ht:RTm D w t cs):Calls Tryz.prog 152 #[.agg cs.toArray] w (Ret fun r w'=>r=.bool (plainB t)/\Ext w w'):=by
 obtain⟨v,rfl,hk⟩:=ht.get
 obtain⟨ao,cap,rfl⟩:=hk.form
 have hE:=Keep.refl (fun _=>False) w
 refine zn1 Tryz.func152 O Tryz.ntmps152 O (Gs 2 O (zlY O O (M.box O O) ?_))
 rintro _ w_b ⟨b,rfl,hg_b,hs_b,hB_b,hk_b⟩
 have hge_b:_<=b:=zoZ hE.size (zri hg_b.symm)
 replace hE:=Tr1 hk_b hE
 refine Gs 6 O (zmV O tg67 (hB_b.cells 0 _ O) (Gs 2 O (G.sp 6 O (fun hh1=>?_) (fun hh1=>?_))))
 .
  refine Gs 1 O (zmV O tg3 (hB_b.cells 1 _ O) (Gs 3 O (G.sp 11 O (fun hh2=>?_) (fun hh2=>?_))))
  . refine Gs 1 O (zmV O tg68 (hB_b.cells 2 _ O) (Gs 7 O (zls Tryz.results152 O ⟨_,rfl,by simp[plainB, *],hE⟩)))
  refine Gs 9 O (zls Tryz.results152 O ⟨_,rfl,by simp[plainB, *],hE⟩)
 refine Gs 14 O (zls Tryz.results152 O ⟨_,rfl,by simp[plainB, *],hE⟩)
theorem ze2 (t:Tm) (cs:List Value) (D:Nat->Prop) (w:World) (ht:RTm D w t cs):Calls Tryz.prog 201 #[.agg cs.toArray] w (Ret fun r w'=>r=.bool (plainB t)/\Ext w w'):=by
 obtain⟨v,rfl,hk⟩:=ht.get
 obtain⟨ao,cap,rfl⟩:=hk.form
 have hE:=Keep.refl (fun _=>False) w
 refine zn1 Tryz.func201 O Tryz.ntmps201 O (Gs 2 O (zlY O O (M.box O O) ?_))
 rintro _ w_b ⟨b,rfl,hg_b,hs_b,hB_b,hk_b⟩
 have hge_b:_<=b:=zoZ hE.size (zri hg_b.symm)
 replace hE:=Tr1 hk_b hE
 refine Gs 6 O (zmV O tg67 (hB_b.cells 0 _ O) (Gs 2 O (G.sp 6 O (fun hh1=>?_) (fun hh1=>?_))))
 .
  refine Gs 1 O (zmV O tg3 (hB_b.cells 1 _ O) (Gs 3 O (G.sp 11 O (fun hh2=>?_) (fun hh2=>?_))))
  . refine Gs 1 O (zmV O tg68 (hB_b.cells 2 _ O) (Gs 7 O (zls Tryz.results201 O ⟨_,rfl,by simp[plainB, *],hE⟩)))
  refine Gs 9 O (zls Tryz.results201 O ⟨_,rfl,by simp[plainB, *],hE⟩)
 refine Gs 14 O (zls Tryz.results201 O ⟨_,rfl,by simp[plainB, *],hE⟩)
@[irreducible] def uvB (a:Int):Bool:=decide (a=0\/a=5)
@[irreducible] def unB (a:Int):Bool:=decide (a=4\/a=5)
@[irreducible] def utB (a:Int):Bool:=decide (a=0\/a=1\/a=3\/a=4)
theorem kW (a:Int) (w:World):Calls Tryz.prog 198 #[.int .i64 a] w (Ret fun r w'=>r=.bool (uvB a)/\Ext w w'):=by
 refine zn1 Tryz.func198 O Tryz.ntmps198 O (Gs 10 O (G.sp 5 O (fun hh1=>?_) (fun hh1=>?_)))
 . refine Gs 7 O (zls Tryz.results198 O ⟨_,rfl,by unfold uvB;simp[*],Keep.refl _ _⟩)
 refine Gs 7 O (zls Tryz.results198 O ⟨_,rfl,by unfold uvB;simp[*],Keep.refl _ _⟩)
theorem zhV (a:Int) (w:World):Calls Tryz.prog 199 #[.int .i64 a] w (Ret fun r w'=>r=.bool (unB a)/\Ext w w'):=by
 refine zn1 Tryz.func199 O Tryz.ntmps199 O (Gs 10 O (G.sp 5 O (fun hh1=>?_) (fun hh1=>?_)))
 . refine Gs 7 O (zls Tryz.results199 O ⟨_,rfl,by unfold unB;simp[*],Keep.refl _ _⟩)
 refine Gs 7 O (zls Tryz.results199 O ⟨_,rfl,by unfold unB;simp[*],Keep.refl _ _⟩)
theorem ze3 (a:Int) (w:World):Calls Tryz.prog 200 #[.int .i64 a] w (Ret fun r w'=>r=.bool (utB a)/\Ext w w'):=by
 refine zn1 Tryz.func200 O Tryz.ntmps200 O (Gs 10 O (G.sp 5 O (fun hh1=>?_) (fun hh1=>?_)))
 . refine Gs 15 O (zls tr200 O ⟨_,rfl,by unfold utB;simp[*],Keep.refl _ _⟩)
 refine Gs 4 O (G.sp 9 O (fun hh2=>?_) (fun hh2=>?_))
 . refine Gs 11 O (zls tr200 O ⟨_,rfl,by unfold utB;simp[*],Keep.refl _ _⟩)
 refine Gs 4 O (G.sp 13 O (fun hh3=>?_) (fun hh3=>?_))
 . refine Gs 7 O (zls tr200 O ⟨_,rfl,by unfold utB;simp[*],Keep.refl _ _⟩)
 refine Gs 7 O (zls tr200 O ⟨_,rfl,by unfold utB;simp[*],Keep.refl _ _⟩)
def yU:List Int->Bool
 | x::y::r=>decide (x<y)&&yU (y::r)
 | _=>true
theorem xg:∀ l:List Int,yU l=true ↔ ∀ i x y,l[i]?=some x->l[i+1]?=some y->x<y
 | []=>by simp[yU]
 | [a]=>by simp[yU]
 | a::b::r=>by
  simp only[yU,zpv,decide_eq_true_eq,xg (b::r)]
  constructor
  .
   rintro⟨h1,h2⟩ i x y hx hy
   cases i with
   | zero=>simp at hx hy;subst hx;subst hy;exact h1
   | succ i=>exact h2 i x y (by simpa using hx) (by simpa using hy)
  intro h
  exact⟨h 0 a b O rfl,fun i x y hx hy=>h (i+1) x y (by simpa using hx) (by simpa using hy)⟩
theorem zct (l:List Int) (v:Value) (D:Nat->Prop) (w:World) (hl:SlR 1 yc D w v l):Calls Tryz.prog 202 #[v] w (Ret fun r w'=>r=.bool (yU l)/\Ext w w'):=by
 have hmx:=hl.max
 obtain⟨al,nl,rfl⟩:=hl.form
 refine zn1 Tryz.func202 O Tryz.ntmps202 O (Gs 14 O (G.loop (σ:=Nat) (fun i=>[(0,.slice al l.length nl),(5,.int .i64 l.length),(6,.int .i64 i)]) (fun i=>fun w'=>i<=l.length/\(∀ j x y,j+1<i->l[j]?=some x->l[j+1]?=some y->x<y)/\Ext w w') (fun i=>l.length - i) (0) (Sub.of O) (⟨zp8 _,fun j x y h=>absurd h (zrn _),Keep.refl _ _⟩) ?_))
 rintro i w1 ⟨hi,hall,hL1⟩
 replace hl:=Tr1 hL1 hl
 refine Gs 6 O (zlc O (fun hlt=>?_) (fun hlt=>?_))
 .
  refine Gs 11 O (Qt (by kernel_rfl) (Gs 3 O (G.sp 11 O (fun h0=>?_) (fun h0=>?_))))
  .
   obtain⟨k,rfl⟩:∃ k,i=k+1:=⟨i - 1,by omega⟩
   obtain⟨x,hx⟩:∃ x,l[k]?=some x:=⟨_,zoT (by omega)⟩
   obtain⟨y,hy⟩:∃ y,l[k+1]?=some y:=⟨_,zoT (by omega)⟩
   obtain⟨b_ey,o_ey,c_ey,ha_ey,_,hc_ey,hR_ey⟩:=hl.at (hy)
   obtain rfl:=hR_ey
   have hlt_ey:b_ey<_:=zoV _ _ (hc_ey 0 _ rfl)
   obtain⟨b_x,o_x,c_x,ha_x,_,hc_x,hR_x⟩:=hl.at hx
   obtain rfl:=hR_x
   have hto:(((k+1:Nat):Int) - 1).toNat=k:=by omega
   refine Gs 2 O (zmU O O (fun w1 hw1=>zlO tR27 ts3 O O ha_ey (by omega)) (zmW O tg3 (fun w1 hw1=>((hw1.cells hc_ey (fun h=>h)) 0 _ O)) (Ga 3 O (by omega) (zmU O O (fun w1 hw1=>zlO tR27 ts3 O O ha_x (by omega)) (zmW O tg3 (fun w1 hw1=>(by rw[hto];exact(hw1.cells hc_x (fun h=>h)) 0 _ O)) (Gs 2 O (zmY (fun wz1 hz1=>?_))))))))
   obtain⟨hl,hL1,hc_ey⟩:=Tr3 hz1 hl hL1 hc_ey
   refine Gs 1 O (zlc O (fun hb=>?_) (fun hb=>?_))
   .
    refine Gs 11 O ?_
    have hno:yU l=false:=by rw[zpy];intro h;have:=(xg l).1 h k x y hx hy;omega
    refine zls Tryz.results202 O ⟨_,rfl,by rw[hno],hL1⟩
   refine Ga 7 O (by omega) (G.back (k+1+1) (Sub.of O) (⟨by omega,?_,hL1⟩) (by first | omega | (dsimp only;omega)))
   intro j x' y' hj hx' hy'
   by_cases e:j=k
   .
    subst e
    rw[hx]at hx';cases hx'
    rw[hy]at hy';cases hy'
    omega
   exact hall j x' y' (by omega) hx' hy'
  have hi0:i=0:=by omega
  subst hi0
  refine Gs 11 O (zmY (fun wz2 hz2=>?_))
  obtain⟨hl,hL1⟩:=Tr2 hz2 hl hL1
  refine Ga 9 O (by omega) (G.back (1) (Sub.of O) (⟨by omega,fun j x y h=>by omega,hL1⟩) (by first | omega | (dsimp only;omega)))
 refine Gs 11 O ?_
 have hyes:yU l=true:=(xg l).2 (fun j x y hx hy=>hall j x y (by have:=(zp7.1 hy).1;omega) hx hy)
 refine zls Tryz.results202 O ⟨_,rfl,by rw[hyes],hL1⟩
def yg (l:List Int):Bool:=decide (1<=l.length)&&decide (l.length<=32)&&decide ((0:Int)<=l[0]?.getD 0)&&yU l
theorem zde (l:List Int) (v:Value) (D:Nat->Prop) (w:World) (hl:SlR 1 yc D w v l):Calls Tryz.prog 153 #[v] w (Ret fun r w'=>r=.bool (yg l)/\Ext w w'):=by
 have hmx:=hl.max
 obtain⟨al,nl,rfl⟩:=hl.form
 refine zn1 Tryz.func153 O Tryz.ntmps153 O (Gs 12 O (G.sp 7 O (fun h1=>?_) (fun h1=>?_)))
 .
  have hno:yg l=false:=by unfold yg;rw[zp6 (show ¬ 1<=l.length by omega)];rfl
  refine Gs 20 O (zls tr153 O ⟨_,rfl,by rw[hno],Keep.refl _ _⟩)
 refine Gs 5 O (G.sp 12 O (fun h2=>?_) (fun h2=>?_))
 .
  have hno:yg l=false:=by unfold yg;rw[zp6 (show ¬ l.length<=32 by omega)];simp
  refine Gs 15 O (zls tr153 O ⟨_,rfl,by rw[hno],Keep.refl _ _⟩)
 obtain⟨x0,hx0⟩:∃ x,l[0]?=some x:=⟨_,zoT (by omega)⟩
 obtain⟨b_e0,o_e0,c_e0,ha_e0,_,hc_e0,hR_e0⟩:=hl.at (hx0)
 obtain rfl:=hR_e0
 have hlt_e0:b_e0<_:=zoV _ _ (hc_e0 0 _ rfl)
 refine Gs 1 O (zmR O O (zlO tR27 ts3 O O ha_e0 (by omega)) (zmV O tg3 (hc_e0 0 _ O) (Gs 4 O (zlc O (fun h3=>?_) (fun h3=>?_)))))
 .
  have hno:yg l=false:=by unfold yg;rw[hx0,zp6 (show ¬ (0:Int)<=(some x0).getD 0 by simpa using h3)];simp
  refine Gs 7 O (zls tr153 O ⟨_,rfl,by rw[hno],Keep.refl _ _⟩)
 have hg:yg l=yU l:=by unfold yg;rw[hx0,zp5 (show 1<=l.length by omega),zp5 (show l.length<=32 by omega),zp5 (show (0:Int)<=(some x0).getD 0 by simpa using h3)];rfl
 refine Gs 9 O (G.loop (σ:=Nat) (fun i=>[(0,.slice al l.length nl),(3,.int .i64 ((i:Int)+1))]) (fun i=>fun w'=>i+1<=l.length/\(∀ (j:Nat) (x y:Int),j<i->l[j]?=some x->l[j+1]?=some y->x<y)/\Ext w w') (fun i=>l.length - i) (0) (Sub.of O) (⟨by omega,fun j x y h=>absurd h (zrn _),Keep.refl _ _⟩) ?_)
 rintro i w1 ⟨hi,hall,hL1⟩
 obtain⟨hl,hc_e0⟩:=Tr2 hL1 hl hc_e0
 refine Gs 9 O (zlc O (fun hlt=>?_) (fun hlt=>?_))
 .
  obtain⟨x,hx⟩:∃ x,l[i]?=some x:=⟨_,zoT (by omega)⟩
  obtain⟨y,hy⟩:∃ y,l[i+1]?=some y:=⟨_,zoT (by omega)⟩
  obtain⟨b_ex,o_ex,c_ex,ha_ex,_,hc_ex,hR_ex⟩:=hl.at (hx)
  obtain rfl:=hR_ex
  have hlt_ex:b_ex<_:=zoV _ _ (hc_ex 0 _ rfl)
  obtain⟨b_ey,o_ey,c_ey,ha_ey,_,hc_ey,hR_ey⟩:=hl.at (hy)
  obtain rfl:=hR_ey
  have hlt_ey:b_ey<_:=zoV _ _ (hc_ey 0 _ rfl)
  have hto:((i:Int)+1).toNat=i+1:=by omega
  have hto2:((i:Int)+1 - 1).toNat=i:=by omega
  refine Gs 5 O (Qt (by kernel_rfl) (Gs 2 O (zmU O O (fun w1 hw1=>zlO tR27 ts3 O O ha_ey (by omega)) (zmW O tg3 (fun w1 hw1=>(by rw[hto];exact(hw1.cells hc_ey (fun h=>h)) 0 _ O)) (Ga 3 O (by omega) (zmU O O (fun w1 hw1=>zlO tR27 ts3 O O ha_ex (by omega)) (zmW O tg3 (fun w1 hw1=>(by rw[hto2];exact(hw1.cells hc_ex (fun h=>h)) 0 _ O)) (Gs 1 O (zmY (fun wz1 hz1=>?_))))))))))
  obtain⟨hl,hc_e0,hL1,hc_ex,hc_ey⟩:=Tr5 hz1 hl hc_e0 hL1 hc_ex hc_ey
  refine Gs 1 O (zlc O (fun hb=>?_) (fun hb=>?_))
  .
   have hno:yU l=false:=by rw[zpy];intro h;have:=(xg l).1 h i x y hx hy;omega
   refine Gs 11 O (zls tr153 O ⟨_,rfl,by rw[hg,hno],hL1⟩)
  refine Ga 8 O (by omega) (G.back (i+1) (Sub.cons O (Sub.cons (yr O (by omega)) Sub.nil)) (⟨by omega,?_,hL1⟩) (by first | omega | (dsimp only;omega)))
  intro j x' y' hj hx' hy'
  by_cases e:j=i
  .
   subst e
   rw[hx]at hx';cases hx'
   rw[hy]at hy';cases hy'
   omega
  exact hall j x' y' (by omega) hx' hy'
 have hyes:yU l=true:=(xg l).2 (fun j x y hx hy=>hall j x y (by have:=(zp7.1 hy).1;omega) hx hy)
 refine Gs 11 O (zls tr153 O ⟨_,rfl,by rw[hg,hyes],hL1⟩)
def zaj (s:St):Bool:=decide ((s.thn.length:Int)=0)&&decide ((s.els.length:Int)=0)
def yV (vs:List Vr) (n:Int):Bool:=decide (0<=n)&&decide (n<(vs.length:Int))&&kU vs n
def zf (vs:List Vr) (nh:Nat) (s:St) (last:Bool):Bool :=
 if s.act=0 then zaj s&&yV vs s.var&&decide (s.n=0)&&decide ((s.bounds.length:Int)=0)
 else if s.act=1 then zaj s&&decide (s.var=0)&&decide (s.n=0)&&decide ((s.bounds.length:Int)=0)
 else if s.act=2 then zaj s&&decide (s.var=0)&&decide (s.n=0)&&decide ((s.bounds.length:Int)=0)&&plainB s.term
 else if s.act=3 then decide (s.var=0)&&decide (s.n=0)&&decide ((s.bounds.length:Int)=0)
 else if s.act=4 then decide (s.var=0)&&decide ((s.els.length:Int)=0)&&decide ((s.bounds.length:Int)=0)
 else if s.act=5 then zaj s&&yV vs s.var&&decide (0<=s.n)&&decide (s.n<(nh:Int))&&decide ((s.bounds.length:Int)=0)&&plainB s.term
 else if s.act=6 then zaj s&&last&&decide (s.var=0)&&decide (s.n=0)&&plainB s.term&&yg s.bounds
 else false
theorem zab (f:Fl) (s:St) (last:Bool) (v1 v2 v3:Value) (cs:List Value) (D D':Nat->Prop) (w:World) (hf:RFl D w f v1 v2 v3) (hs:RSt D' w s cs):Calls Tryz.prog 112 #[.agg #[v1,v2,v3],.agg cs.toArray,.bool last] w (Ret fun r w'=>r=.bool (zf f.vars f.hatches.length s last)/\Ext w w'):=by
 obtain⟨hvs,hhs,hbd⟩:=hf
 obtain⟨a1,n1,rfl⟩:=hvs.form
 obtain⟨a2,n2,rfl⟩:=hhs.form
 obtain⟨u1,u2,u3,u4,rfl,hk,ht,he,hb⟩:=hs.get
 obtain⟨a4,n4,rfl⟩:=hk.form
 obtain⟨a5,n5,rfl⟩:=ht.form
 obtain⟨a6,n6,rfl⟩:=he.form
 obtain⟨a7,n7,rfl⟩:=hb.form
 have hE:=Keep.refl (fun _=>False) w
 refine zn3 Tryz.func112 O Tryz.ntmps112 O (Gs 2 O (zlY O O (M.box O O) ?_))
 rintro _ w_b ⟨b,rfl,hg_b,hs_b,hB_b,hk_b⟩
 have hge_b:_<=b:=zoZ hE.size (zri hg_b.symm)
 obtain⟨hE,hvs,hk,hb⟩:=Tr4 hk_b hE hvs hk hb
 refine zlY O O (M.box O O) ?_
 rintro _ w_c ⟨c,rfl,hg_c,hs_c,hB_c,hk_c⟩
 have hn_b_c:b ≠ c:=by have:=hB_b.lt;omega
 have hge_c:_<=c:=zoZ hE.size (zri hg_c.symm)
 obtain⟨hE,hvs,hk,hb,hB_b⟩:=Tr5 hk_c hE hvs hk hb hB_b
 refine Gs 4 O (zln (σ:=Bool) (fun q=>[(2,.bool last),(3,.pointer (some ⟨b,0,none⟩)),(4,.pointer (some ⟨c,0,none⟩)),(7,.bool q)]) (fun q=>fun w'=>q=zaj s/\w'=w_c) ?_ ?_)
 .
  refine Gs 2 O (zmV O tg24 (hB_c.cells 7 _ O) (Gs 3 O (G.sp 13 O (fun hh1=>?_) (fun hh1=>?_))))
  .
   refine Gs 1 O (zmV O tg24 (hB_c.cells 8 _ O) (Gs 5 O ?_))
   refine zlp (_) (Sub.of O) (⟨by simp only[zaj,hh1,decide_true,zpL],rfl⟩)
  refine Gs 7 O ?_
  refine zlp (_) (Sub.cons O (Sub.cons O (Sub.cons O (Sub.cons (by first | rfl | (show some (Value.bool false)=some (Value.bool _);simp[*])) Sub.nil)))) (⟨by simp only[zaj,hh1,decide_false,zpA],rfl⟩)
 rintro q w2 ⟨hq,hw2⟩
 subst hw2
 subst hq
 refine Gs 2 O (zln (σ:=Bool) (fun q=>[(2,.bool last),(3,.pointer (some ⟨b,0,none⟩)),(4,.pointer (some ⟨c,0,none⟩)),(7,.bool (zaj s)),(8,.bool q)]) (fun q=>fun w'=>q=yV f.vars s.var/\w'=w2) ?_ ?_)
 .
  by_cases hv:0<=s.var/\s.var<f.vars.length
  .
   obtain⟨x,he_x,hm_x⟩:=gE_ f.vars (s.var.toNat) (by omega)
   obtain⟨b_x,o_x,c_x,ha_x,_,hc_x,hR_x⟩:=hvs.at he_x
   have h1_x:=RVr.one hR_x
   obtain rfl:=hR_x
   have hlt_x:b_x<_:=zoV _ _ (hc_x 0 _ rfl)
   have hil:kU f.vars s.var=decide (x.kind=0):=by unfold kU;rw[he_x]
   refine Gs 2 O (zmV O tg3 (hB_c.cells 2 _ O) (Gs 2 O (G.sp 22 O (fun hh2=>?_) (fun hh2=>?_))))
   .
    refine Gs 1 O (zmV O tg3 (hB_c.cells 2 _ O) (Gs 1 O (zmV O tg22 (hB_b.cells 0 _ O) (Gs 4 O (G.sp 30 O (fun hh3=>?_) (fun hh3=>?_))))))
    .
     refine Gs 1 O (zmV O tg22 (hB_b.cells 0 _ O) (Gs 1 O (zmV O tg3 (hB_c.cells 2 _ O) (zmR O O (zlO tR22 ts142 O O ha_x (by omega)) (Gs 1 O (zmV O tg100 (hc_x 1 _ O) (Gs 4 O ?_)))))))
     refine zlp (_) (Sub.of O) (⟨by simp only[yV,hil,hh2,hh3,decide_true,zpx,zpL],rfl⟩)
    refine Gs 11 O ?_
    refine zlp (_) (Sub.cons O (Sub.cons O (Sub.cons O (Sub.cons O (Sub.cons (by first | rfl | (show some (Value.bool false)=some (Value.bool _);simp[*])) Sub.nil))))) (⟨by simp only[yV,hil,hh2,hh3,decide_true,decide_false,zpw,zpA],rfl⟩)
   refine Gs 19 O ?_
   refine zlp (_) (Sub.cons O (Sub.cons O (Sub.cons O (Sub.cons O (Sub.cons (by first | rfl | (show some (Value.bool false)=some (Value.bool _);simp[*])) Sub.nil))))) (⟨by simp only[yV,hil,hh2,decide_false,zpA],rfl⟩)
  refine Gs 2 O (zmV O tg3 (hB_c.cells 2 _ O) (Gs 2 O (G.sp 22 O (fun hh4=>?_) (fun hh4=>?_))))
  .
   refine Gs 1 O (zmV O tg3 (hB_c.cells 2 _ O) (Gs 1 O (zmV O tg22 (hB_b.cells 0 _ O) (Gs 4 O (G.sp 30 O (fun hh5=>?_) (fun hh5=>?_))))))
   .
    refine Gs 1 O (zmV O tg22 (hB_b.cells 0 _ O) (Gs 1 O (zmV O tg3 (hB_c.cells 2 _ O) ?_)))
    exfalso
    omega
   refine Gs 11 O ?_
   refine zlp (_) (Sub.cons O (Sub.cons O (Sub.cons O (Sub.cons O (Sub.cons (by first | rfl | (show some (Value.bool false)=some (Value.bool _);simp[*])) Sub.nil))))) (⟨by simp[yV,hh4,hh5],rfl⟩)
  refine Gs 19 O ?_
  refine zlp (_) (Sub.cons O (Sub.cons O (Sub.cons O (Sub.cons O (Sub.cons (by first | rfl | (show some (Value.bool false)=some (Value.bool _);simp[*])) Sub.nil))))) (⟨by simp[yV,hh4],rfl⟩)
 rintro q w3 ⟨hq,hw3⟩
 subst hw3
 subst hq
 refine Gs 5 O (zmV O tg66 (hB_c.cells 0 _ O) (Gs 9 O (zlc O (fun hh6=>?_) (fun hh6=>?_))))
 .
  refine Gs 4 O (zmP 45 O (fun hh7=>?_) (fun hh7=>?_))
  .
   refine Gs 3 O (zmP 48 O (fun hh8=>?_) (fun hh8=>?_))
   .
    refine Gs 1 O (zmV O tg3 (hB_c.cells 3 _ O) (Gs 3 O (G.sp 53 O (fun hh9=>?_) (fun hh9=>?_))))
    . refine Gs 1 O (zmV O tg27 (hB_c.cells 9 _ O) (Gs 9 O (zls tr112 O ⟨_,rfl,by simp only[zf,hh6,hh7,hh8,hh9,if_true,if_false,decide_true,zpx,zpL,Int.reduceEq],hE⟩)))
    refine Gs 11 O (zls tr112 O ⟨_,rfl,by simp only[zf,hh6,hh7,hh8,hh9,if_true,if_false,decide_false,zpx,zpL,zpw,zpA,Int.reduceEq],hE⟩)
   refine Gs 16 O (zls tr112 O ⟨_,rfl,by simp only[zf,hh6,hh7,hh8,if_true,if_false,zpL,zpw,zpA,Int.reduceEq],hE⟩)
  refine Gs 19 O (zls tr112 O ⟨_,rfl,by simp only[zf,hh6,hh7,if_true,if_false,zpA,Int.reduceEq],hE⟩)
 refine Gs 6 O (zlc O (fun hh10=>?_) (fun hh10=>?_))
 .
  refine Gs 4 O (zmP 62 O (fun hh11=>?_) (fun hh11=>?_))
  .
   refine Gs 1 O (zmV O tg3 (hB_c.cells 2 _ O) (Gs 3 O (G.sp 67 O (fun hh12=>?_) (fun hh12=>?_))))
   .
    refine Gs 1 O (zmV O tg3 (hB_c.cells 3 _ O) (Gs 3 O (G.sp 72 O (fun hh13=>?_) (fun hh13=>?_))))
    . refine Gs 1 O (zmV O tg27 (hB_c.cells 9 _ O) (Gs 9 O (zls tr112 O ⟨_,rfl,by simp only[zf,hh10,hh11,hh12,hh13,if_true,if_false,decide_true,zpx,zpL,Int.reduceEq],hE⟩)))
    refine Gs 11 O (zls tr112 O ⟨_,rfl,by simp only[zf,hh10,hh11,hh12,hh13,if_true,if_false,decide_true,decide_false,zpx,zpL,zpw,zpA,Int.reduceEq],hE⟩)
   refine Gs 16 O (zls tr112 O ⟨_,rfl,by simp only[zf,hh10,hh11,hh12,if_true,if_false,decide_false,zpL,zpw,zpA,Int.reduceEq],hE⟩)
  refine Gs 21 O (zls tr112 O ⟨_,rfl,by simp only[zf,hh10,hh11,if_true,if_false,zpA,Int.reduceEq],hE⟩)
 refine Gs 6 O (zlc O (fun hh14=>?_) (fun hh14=>?_))
 .
  refine Gs 4 O (zmP 81 O (fun hh15=>?_) (fun hh15=>?_))
  .
   refine Gs 1 O (zmV O tg3 (hB_c.cells 2 _ O) (Gs 3 O (G.sp 86 O (fun hh16=>?_) (fun hh16=>?_))))
   .
    refine Gs 1 O (zmV O tg3 (hB_c.cells 3 _ O) (Gs 3 O (G.sp 91 O (fun hh17=>?_) (fun hh17=>?_))))
    .
     refine Gs 1 O (zmV O tg27 (hB_c.cells 9 _ O) (Gs 4 O (G.sp 97 O (fun hh18=>?_) (fun hh18=>?_))))
     .
      refine Gs 1 O (zmX O tg70 ts70 (hB_c.cells.sub 4 3) O (G.call O Tryz.call152 (jH s.term _ D' _ (RTm.put hk)) ?_))
      rintro _ wz19 ⟨rfl,hz19⟩
      obtain⟨hE,hvs,hk,hb,hB_b,hB_c⟩:=Tr6 hz19 hE hvs hk hb hB_b hB_c
      refine Gs 7 O (zls tr112 O ⟨_,rfl,by simp only[zf,hh14,hh15,hh16,hh17,hh18,if_true,if_false,decide_true,zpx,zpL,Int.reduceEq],hE⟩)
     refine Gs 10 O (zls tr112 O ⟨_,rfl,by simp only[zf,hh14,hh15,hh16,hh17,hh18,if_true,if_false,decide_true,decide_false,zpx,zpL,zpw,zpA,Int.reduceEq],hE⟩)
    refine Gs 16 O (zls tr112 O ⟨_,rfl,by simp only[zf,hh14,hh15,hh16,hh17,if_true,if_false,decide_true,decide_false,zpx,zpL,zpw,zpA,Int.reduceEq],hE⟩)
   refine Gs 21 O (zls tr112 O ⟨_,rfl,by simp only[zf,hh14,hh15,hh16,if_true,if_false,decide_false,zpL,zpw,zpA,Int.reduceEq],hE⟩)
  refine Gs 26 O (zls tr112 O ⟨_,rfl,by simp only[zf,hh14,hh15,if_true,if_false,zpA,Int.reduceEq],hE⟩)
 refine Gs 6 O (zlc O (fun hh20=>?_) (fun hh20=>?_))
 .
  refine Gs 3 O (zmV O tg3 (hB_c.cells 2 _ O) (Gs 2 O (G.sp 107 O (fun hh21=>?_) (fun hh21=>?_))))
  .
   refine Gs 1 O (zmV O tg3 (hB_c.cells 3 _ O) (Gs 3 O (G.sp 112 O (fun hh22=>?_) (fun hh22=>?_))))
   . refine Gs 1 O (zmV O tg27 (hB_c.cells 9 _ O) (Gs 9 O (zls tr112 O ⟨_,rfl,by simp only[zf,hh20,hh21,hh22,if_true,if_false,decide_true,zpx,zpL,Int.reduceEq],hE⟩)))
   refine Gs 11 O (zls tr112 O ⟨_,rfl,by simp only[zf,hh20,hh21,hh22,if_true,if_false,decide_true,decide_false,zpx,zpL,zpw,zpA,Int.reduceEq],hE⟩)
  refine Gs 16 O (zls tr112 O ⟨_,rfl,by simp only[zf,hh20,hh21,if_true,if_false,decide_false,zpw,zpA,Int.reduceEq],hE⟩)
 refine Gs 6 O (zlc O (fun hh23=>?_) (fun hh23=>?_))
 .
  refine Gs 3 O (zmV O tg3 (hB_c.cells 2 _ O) (Gs 2 O (G.sp 123 O (fun hh24=>?_) (fun hh24=>?_))))
  .
   refine Gs 1 O (zmV O tg24 (hB_c.cells 8 _ O) (Gs 4 O (G.sp 129 O (fun hh25=>?_) (fun hh25=>?_))))
   . refine Gs 1 O (zmV O tg27 (hB_c.cells 9 _ O) (Gs 9 O (zls tr112 O ⟨_,rfl,by simp only[zf,hh23,hh24,hh25,if_true,if_false,decide_true,zpx,zpL,Int.reduceEq],hE⟩)))
   refine Gs 11 O (zls tr112 O ⟨_,rfl,by simp only[zf,hh23,hh24,hh25,if_true,if_false,decide_true,decide_false,zpx,zpL,zpw,zpA,Int.reduceEq],hE⟩)
  refine Gs 17 O (zls tr112 O ⟨_,rfl,by simp only[zf,hh23,hh24,if_true,if_false,decide_false,zpw,zpA,Int.reduceEq],hE⟩)
 refine Gs 6 O (zlc O (fun hh26=>?_) (fun hh26=>?_))
 .
  refine Gs 4 O (zmP 138 O (fun hh27=>?_) (fun hh27=>?_))
  .
   refine Gs 3 O (zmP 141 O (fun hh28=>?_) (fun hh28=>?_))
   .
    refine Gs 1 O (zmV O tg3 (hB_c.cells 3 _ O) (Gs 3 O (G.sp 146 O (fun hh29=>?_) (fun hh29=>?_))))
    .
     refine Gs 1 O (zmV O tg3 (hB_c.cells 3 _ O) (Gs 1 O (zmV O tg23 (hB_b.cells 1 _ O) (Gs 4 O (G.sp 154 O (fun hh30=>?_) (fun hh30=>?_))))))
     .
      refine Gs 1 O (zmV O tg27 (hB_c.cells 9 _ O) (Gs 4 O (G.sp 160 O (fun hh31=>?_) (fun hh31=>?_))))
      .
       refine Gs 1 O (zmX O tg70 ts70 (hB_c.cells.sub 4 3) O (G.call O Tryz.call152 (jH s.term _ D' _ (RTm.put hk)) ?_))
       rintro _ wz32 ⟨rfl,hz32⟩
       obtain⟨hE,hvs,hk,hb,hB_b,hB_c⟩:=Tr6 hz32 hE hvs hk hb hB_b hB_c
       refine Gs 7 O (zls tr112 O ⟨_,rfl,by simp only[zf,hh26,hh27,hh28,hh29,hh30,hh31,if_true,if_false,decide_true,zpx,zpL,Int.reduceEq],hE⟩)
      refine Gs 10 O (zls tr112 O ⟨_,rfl,by simp only[zf,hh26,hh27,hh28,hh29,hh30,hh31,if_true,if_false,decide_true,decide_false,zpx,zpL,zpw,zpA,Int.reduceEq],hE⟩)
     refine Gs 16 O (zls tr112 O ⟨_,rfl,by simp only[zf,hh26,hh27,hh28,hh29,hh30,if_true,if_false,decide_true,decide_false,zpx,zpL,zpw,zpA,Int.reduceEq],hE⟩)
    refine Gs 24 O (zls tr112 O ⟨_,rfl,by simp only[zf,hh26,hh27,hh28,hh29,if_true,if_false,decide_false,zpx,zpL,zpw,zpA,Int.reduceEq],hE⟩)
   refine Gs 29 O (zls tr112 O ⟨_,rfl,by simp only[zf,hh26,hh27,hh28,if_true,if_false,zpL,zpw,zpA,Int.reduceEq],hE⟩)
  refine Gs 32 O (zls tr112 O ⟨_,rfl,by simp only[zf,hh26,hh27,if_true,if_false,zpA,Int.reduceEq],hE⟩)
 refine Gs 6 O (zlc O (fun hh33=>?_) (fun hh33=>?_))
 .
  refine Gs 4 O (zmP 168 O (fun hh34=>?_) (fun hh34=>?_))
  .
   refine Gs 3 O (zmP 171 O (fun hh35=>?_) (fun hh35=>?_))
   .
    refine Gs 1 O (zmV O tg3 (hB_c.cells 2 _ O) (Gs 3 O (G.sp 176 O (fun hh36=>?_) (fun hh36=>?_))))
    .
     refine Gs 1 O (zmV O tg3 (hB_c.cells 3 _ O) (Gs 3 O (G.sp 181 O (fun hh37=>?_) (fun hh37=>?_))))
     .
      refine Gs 1 O (zmX O tg70 ts70 (hB_c.cells.sub 4 3) O (G.call O Tryz.call152 (jH s.term _ D' _ (RTm.put hk)) ?_))
      rintro _ wz38 ⟨rfl,hz38⟩
      obtain⟨hE,hvs,hk,hb,hB_b,hB_c⟩:=Tr6 hz38 hE hvs hk hb hB_b hB_c
      refine Gs 2 O (zmP 186 O (fun hh39=>?_) (fun hh39=>?_))
      .
       refine Gs 1 O (zmV O tg27 (hB_c.cells 9 _ O) (G.call O Tryz.call153 (zde s.bounds _ D' _ hb) ?_))
       rintro _ wz40 ⟨rfl,hz40⟩
       obtain⟨hE,hvs,hk,hb,hB_b,hB_c⟩:=Tr6 hz40 hE hvs hk hb hB_b hB_c
       refine Gs 7 O (zls tr112 O ⟨_,rfl,by simp only[zf,hh33,hh34,hh35,hh36,hh37,hh39,if_true,if_false,decide_true,zpx,zpL,Int.reduceEq],hE⟩)
      refine Gs 10 O (zls tr112 O ⟨_,rfl,by simp only[zf,hh33,hh34,hh35,hh36,hh37,hh39,if_true,if_false,decide_true,zpx,zpL,zpw,zpA,Int.reduceEq],hE⟩)
     refine Gs 15 O (zls tr112 O ⟨_,rfl,by simp only[zf,hh33,hh34,hh35,hh36,hh37,if_true,if_false,decide_true,decide_false,zpx,zpL,zpw,zpA,Int.reduceEq],hE⟩)
    refine Gs 20 O (zls tr112 O ⟨_,rfl,by simp only[zf,hh33,hh34,hh35,hh36,if_true,if_false,decide_false,zpx,zpL,zpw,zpA,Int.reduceEq],hE⟩)
   refine Gs 25 O (zls tr112 O ⟨_,rfl,by simp only[zf,hh33,hh34,hh35,if_true,if_false,zpL,zpw,zpA,Int.reduceEq],hE⟩)
  refine Gs 28 O (zls tr112 O ⟨_,rfl,by simp only[zf,hh33,hh34,if_true,if_false,zpA,Int.reduceEq],hE⟩)
 refine Gs 9 O (zls tr112 O ⟨_,rfl,by simp only[zf,hh6,hh10,hh14,hh20,hh23,hh26,hh33,if_false],hE⟩)
theorem zbb (vs:List Vr) (nh:Nat) (s:St) (last:Bool):zf vs nh s last=(!(decide (s.act<0) || decide (6<s.act))&&!(!uvB s.act&&decide (s.var ≠ 0))&&!(!unB s.act&&decide (s.n ≠ 0))&&!(!utB s.act&&!plainB s.term)
  && !(decide (s.act ≠ 3)&&decide (s.act ≠ 4)&&decide (0<(s.thn.length:Int)))&&!(decide (s.act ≠ 3)&&decide (0<(s.els.length:Int)))&&!(decide (s.act ≠ 6)&&decide (0<(s.bounds.length:Int)))
  && !(uvB s.act&&!yV vs s.var)&&!(decide (s.act=5)&&(decide (s.n<0) || decide ((nh:Int)<=s.n)))
  && (decide (s.act ≠ 6) || (last&&yg s.bounds))):=by
 have c0:∀ n:Nat,decide ((n:Int)=0)=!decide (0<(n:Int)):=by intro n;rw[za];congr 1;simp
 have c1:decide (s.var=0)=!decide (s.var ≠ 0):=by rw[za];congr 1;simp
 have c2:decide (s.n=0)=!decide (s.n ≠ 0):=by rw[za];congr 1;simp
 have c3:decide (0<=s.n)=!decide (s.n<0):=by rw[za];congr 1;simp
 have c4:decide (s.n<(nh:Int))=!decide ((nh:Int)<=s.n):=by rw[za];congr 1;simp
 unfold zf zaj uvB unB utB
 simp only[c0,c1,c2,c3,c4]
 generalize decide (0<(s.thn.length:Int))=p1
 generalize decide (0<(s.els.length:Int))=p2
 generalize decide (0<(s.bounds.length:Int))=p3
 generalize decide (s.var ≠ 0)=p4
 generalize decide (s.n ≠ 0)=p5
 generalize decide (s.n<0)=p6
 generalize decide ((nh:Int)<=s.n)=p7
 generalize plainB s.term=p8
 generalize yV vs s.var=p9
 generalize yg s.bounds=p10
 rcases (show s.act<0\/s.act=0\/s.act=1\/s.act=2\/s.act=3\/s.act=4\/s.act=5\/s.act=6\/6<s.act by omega) with h | h | h | h | h | h | h | h | h
 . rw[zp3 (by omega),zp3 (by omega),zp3 (by omega),zp3 (by omega),zp3 (by omega),zp3 (by omega),zp3 (by omega),zp5 h];rfl
 . rw[h];revert p1 p2 p3 p4 p5 p6 p7 p8 p9 p10 last;decide
 . rw[h];revert p1 p2 p3 p4 p5 p6 p7 p8 p9 p10 last;decide
 . rw[h];revert p1 p2 p3 p4 p5 p6 p7 p8 p9 p10 last;decide
 . rw[h];revert p1 p2 p3 p4 p5 p6 p7 p8 p9 p10 last;decide
 . rw[h];revert p1 p2 p3 p4 p5 p6 p7 p8 p9 p10 last;decide
 . rw[h];revert p1 p2 p3 p4 p5 p6 p7 p8 p9 p10 last;decide
 . rw[h];revert p1 p2 p3 p4 p5 p6 p7 p8 p9 p10 last;decide
 rw[zp3 (by omega),zp3 (by omega),zp3 (by omega),zp3 (by omega),zp3 (by omega),zp3 (by omega),zp3 (by omega),zp5 h];simp
theorem kr (f:Fl) (s:St) (last:Bool) (v1 v2 v3:Value) (cs:List Value) (D D':Nat->Prop) (w:World) (hf:RFl D w f v1 v2 v3) (hs:RSt D' w s cs):Calls Tryz.prog 163 #[.agg #[v1,v2,v3],.agg cs.toArray,.bool last] w (Ret fun r w'=>r=.bool (zf f.vars f.hatches.length s last)/\Ext w w'):=by
 obtain⟨hvs,hhs,hbd⟩:=hf
 obtain⟨a1,n1,rfl⟩:=hvs.form
 obtain⟨a2,n2,rfl⟩:=hhs.form
 obtain⟨u1,u2,u3,u4,rfl,hk,ht,he,hb⟩:=hs.get
 obtain⟨a4,n4,rfl⟩:=hk.form
 obtain⟨a5,n5,rfl⟩:=ht.form
 obtain⟨a6,n6,rfl⟩:=he.form
 obtain⟨a7,n7,rfl⟩:=hb.form
 rw[zbb]
 have hE:=Keep.refl (fun _=>False) w
 refine zn3 Tryz.func163 O Tryz.ntmps163 O (Gs 2 O (zlY O O (M.box O O) ?_))
 rintro _ w_b ⟨b,rfl,hg_b,hs_b,hB_b,hk_b⟩
 have hge_b:_<=b:=zoZ hE.size (zri hg_b.symm)
 obtain⟨hE,hvs,hk,hb⟩:=Tr4 hk_b hE hvs hk hb
 refine zlY O O (M.box O O) ?_
 rintro _ w_c ⟨c,rfl,hg_c,hs_c,hB_c,hk_c⟩
 have hn_b_c:b ≠ c:=by have:=hB_b.lt;omega
 have hge_c:_<=c:=zoZ hE.size (zri hg_c.symm)
 obtain⟨hE,hvs,hk,hb,hB_b⟩:=Tr5 hk_c hE hvs hk hb hB_b
 refine Gs 6 O (zmV O tg66 (hB_c.cells 0 _ O) (Gs 7 O ?_))
 have hC2:=Keep.refl (fun _=>False) w_c
 refine zln (σ:=Bool) (fun q=>[(2,.bool last),(3,.pointer (some ⟨b,0,none⟩)),(4,.pointer (some ⟨c,0,none⟩)),(7,.int .i64 s.act),(10,.bool q)]) (fun q=>fun w'=>q=(decide (s.act<0) || decide (6<s.act))/\Ext w_c w') ?_ ?_
 .
  refine Gs 4 O (G.sp 13 O (fun hh1=>?_) (fun hh1=>?_))
  .
   refine Gs 5 O ?_
   refine zlp (_) (Sub.cons O (Sub.cons O (Sub.cons O (Sub.cons O (Sub.cons (by first | rfl | (show some (Value.bool true)=some (Value.bool _);simp[*])) Sub.nil))))) (⟨by first | (simp only[hh1,decide_true,zpM];done) | (exfalso;omega),hC2⟩)
  refine Gs 5 O ?_
  refine zlp (_) (Sub.of O) (⟨by first | (simp only[hh1,decide_false,zpC];done) | (exfalso;omega),hC2⟩)
 rintro q x2 ⟨hq2,hX2⟩
 subst hq2
 obtain⟨hE,hvs,hk,hb,hB_b,hB_c⟩:=Tr6 hX2 hE hvs hk hb hB_b hB_c
 refine Gs 1 O (G.bool O (fun hh102=>?_) (fun hh102=>?_))
 . refine Gs 11 O (zls tr163 O ⟨_,rfl,by simp only[hh102,zpF,zpA],hE⟩)
 refine Gs 1 O ?_
 have hC3:=Keep.refl (fun _=>False) x2
 refine zln (σ:=Bool) (fun q=>[(2,.bool last),(3,.pointer (some ⟨b,0,none⟩)),(4,.pointer (some ⟨c,0,none⟩)),(7,.int .i64 s.act),(10,.bool q)]) (fun q=>fun w'=>q=(!uvB s.act&&decide (s.var ≠ 0))/\Ext x2 w') ?_ ?_
 .
  refine Gs 2 O (G.call O Tryz.call198 (kW s.act _) ?_)
  rintro _ wz2 ⟨rfl,hz2⟩
  obtain⟨hE,hvs,hk,hb,hB_b,hB_c,hC3⟩:=Tr7 hz2 hE hvs hk hb hB_b hB_c hC3
  refine zmR O O (zms O (by first | exact za | rfl)) (Gs 1 O (zmP 20 O (fun hh3=>?_) (fun hh3=>?_)))
  .
   refine Gs 1 O (zmV O tg3 (hB_c.cells 2 _ O) (Gs 4 O ?_))
   refine zlp (_) (Sub.of O) (⟨by first | (simp only[hh3,zpL,ne_eq,decide_not];done) | (exfalso;omega),hC3⟩)
  refine Gs 6 O ?_
  refine zlp (_) (Sub.cons O (Sub.cons O (Sub.cons O (Sub.cons O (Sub.cons (by first | rfl | (show some (Value.bool false)=some (Value.bool _);simp[*])) Sub.nil))))) (⟨by first | (simp only[hh3,zpA,ne_eq,decide_not];done) | (exfalso;omega),hC3⟩)
 rintro q x3 ⟨hq3,hX3⟩
 subst hq3
 obtain⟨hE,hvs,hk,hb,hB_b,hB_c⟩:=Tr6 hX3 hE hvs hk hb hB_b hB_c
 refine Gs 1 O (G.bool O (fun hh103=>?_) (fun hh103=>?_))
 . refine Gs 11 O (zls tr163 O ⟨_,rfl,by simp only[hh102,hh103,zpF,zpw,zpA],hE⟩)
 .
  refine Gs 1 O ?_
  have hC4:=Keep.refl (fun _=>False) x3
  refine zln (σ:=Bool) (fun q=>[(2,.bool last),(3,.pointer (some ⟨b,0,none⟩)),(4,.pointer (some ⟨c,0,none⟩)),(7,.int .i64 s.act),(10,.bool q)]) (fun q=>fun w'=>q=(!unB s.act&&decide (s.n ≠ 0))/\Ext x3 w') ?_ ?_
  .
   refine Gs 2 O (G.call O Tryz.call199 (zhV s.act _) ?_)
   rintro _ wz4 ⟨rfl,hz4⟩
   obtain⟨hE,hvs,hk,hb,hB_b,hB_c,hC4⟩:=Tr7 hz4 hE hvs hk hb hB_b hB_c hC4
   refine zmR O O (zms O (by first | exact za | rfl)) (Gs 1 O (zmP 28 O (fun hh5=>?_) (fun hh5=>?_)))
   .
    refine Gs 1 O (zmV O tg3 (hB_c.cells 3 _ O) (Gs 4 O ?_))
    refine zlp (_) (Sub.of O) (⟨by first | (simp only[hh5,zpL,ne_eq,decide_not];done) | (exfalso;omega),hC4⟩)
   refine Gs 6 O ?_
   refine zlp (_) (Sub.cons O (Sub.cons O (Sub.cons O (Sub.cons O (Sub.cons (by first | rfl | (show some (Value.bool false)=some (Value.bool _);simp[*])) Sub.nil))))) (⟨by first | (simp only[hh5,zpA,ne_eq,decide_not];done) | (exfalso;omega),hC4⟩)
  rintro q x4 ⟨hq4,hX4⟩
  subst hq4
  obtain⟨hE,hvs,hk,hb,hB_b,hB_c⟩:=Tr6 hX4 hE hvs hk hb hB_b hB_c
  refine Gs 1 O (G.bool O (fun hh104=>?_) (fun hh104=>?_))
  . refine Gs 11 O (zls tr163 O ⟨_,rfl,by simp only[hh102,hh103,hh104,zpF,zpw,zpA],hE⟩)
  .
   refine Gs 1 O ?_
   have hC5:=Keep.refl (fun _=>False) x4
   refine zln (σ:=Bool) (fun q=>[(2,.bool last),(3,.pointer (some ⟨b,0,none⟩)),(4,.pointer (some ⟨c,0,none⟩)),(7,.int .i64 s.act),(10,.bool q)]) (fun q=>fun w'=>q=(!utB s.act&&!plainB s.term)/\Ext x4 w') ?_ ?_
   .
    refine Gs 2 O (G.call O Tryz.call200 (ze3 s.act _) ?_)
    rintro _ wz6 ⟨rfl,hz6⟩
    obtain⟨hE,hvs,hk,hb,hB_b,hB_c,hC5⟩:=Tr7 hz6 hE hvs hk hb hB_b hB_c hC5
    refine zmR O O (zms O (by first | exact za | rfl)) (Gs 1 O (zmP 36 O (fun hh7=>?_) (fun hh7=>?_)))
    .
     refine Gs 1 O (zmX O tg70 ts70 (hB_c.cells.sub 4 3) O (G.call O Tryz.call201 (ze2 s.term _ D' _ (RTm.put hk)) ?_))
     rintro _ wz8 ⟨rfl,hz8⟩
     obtain⟨hE,hvs,hk,hb,hB_b,hB_c,hC5⟩:=Tr7 hz8 hE hvs hk hb hB_b hB_c hC5
     refine zmR O O (zms O (by first | exact za | rfl)) (Gs 3 O ?_)
     refine zlp (_) (Sub.of O) (⟨by first | (simp only[hh7,zpL];done) | (exfalso;omega),hC5⟩)
    refine Gs 7 O ?_
    refine zlp (_) (Sub.cons O (Sub.cons O (Sub.cons O (Sub.cons O (Sub.cons (by first | rfl | (show some (Value.bool false)=some (Value.bool _);simp[*])) Sub.nil))))) (⟨by first | (simp only[hh7,zpA];done) | (exfalso;omega),hC5⟩)
   rintro q x5 ⟨hq5,hX5⟩
   subst hq5
   obtain⟨hE,hvs,hk,hb,hB_b,hB_c⟩:=Tr6 hX5 hE hvs hk hb hB_b hB_c
   refine Gs 1 O (G.bool O (fun hh105=>?_) (fun hh105=>?_))
   . refine Gs 11 O (zls tr163 O ⟨_,rfl,by simp only[hh102,hh103,hh104,hh105,zpF,zpw,zpA],hE⟩)
   .
    refine Gs 1 O ?_
    have hC6:=Keep.refl (fun _=>False) x5
    refine zln (σ:=Bool) (fun q=>[(2,.bool last),(3,.pointer (some ⟨b,0,none⟩)),(4,.pointer (some ⟨c,0,none⟩)),(7,.int .i64 s.act),(10,.bool q)]) (fun q=>fun w'=>q=(decide (s.act ≠ 3)&&decide (s.act ≠ 4)&&decide (0<(s.thn.length:Int)))/\Ext x5 w') ?_ ?_
    .
     refine Gs 4 O (G.sp 44 O (fun hh9=>?_) (fun hh9=>?_))
     .
      refine Gs 4 O (G.sp 48 O (fun hh10=>?_) (fun hh10=>?_))
      .
       refine Gs 1 O (zmV O tg24 (hB_c.cells 7 _ O) (Gs 5 O ?_))
       refine zlp (_) (Sub.of O) (⟨by first | (simp only[hh9,hh10,decide_true,zpx,zpL,not_false_eq_true,ne_eq];done) | (exfalso;omega),hC6⟩)
      refine Gs 7 O ?_
      refine zlp (_) (Sub.cons O (Sub.cons O (Sub.cons O (Sub.cons O (Sub.cons (by first | rfl | (show some (Value.bool false)=some (Value.bool _);simp[*])) Sub.nil))))) (⟨by first | (simp only[hh9,hh10,decide_true,decide_false,zpw,zpA,not_false_eq_true,ne_eq];done) | (exfalso;omega),hC6⟩)
     refine Gs 11 O ?_
     refine zlp (_) (Sub.cons O (Sub.cons O (Sub.cons O (Sub.cons O (Sub.cons (by first | rfl | (show some (Value.bool false)=some (Value.bool _);simp[*])) Sub.nil))))) (⟨by first | (simp only[hh9,decide_false,zpA,ne_eq,decide_not];done) | (exfalso;omega),hC6⟩)
    rintro q x6 ⟨hq6,hX6⟩
    subst hq6
    obtain⟨hE,hvs,hk,hb,hB_b,hB_c⟩:=Tr6 hX6 hE hvs hk hb hB_b hB_c
    refine Gs 1 O (G.bool O (fun hh106=>?_) (fun hh106=>?_))
    . refine Gs 11 O (zls tr163 O ⟨_,rfl,by simp only[hh102,hh103,hh104,hh105,hh106,zpF,zpw,zpA],hE⟩)
    .
     refine Gs 1 O ?_
     have hC7:=Keep.refl (fun _=>False) x6
     refine zln (σ:=Bool) (fun q=>[(2,.bool last),(3,.pointer (some ⟨b,0,none⟩)),(4,.pointer (some ⟨c,0,none⟩)),(7,.int .i64 s.act),(10,.bool q)]) (fun q=>fun w'=>q=(decide (s.act ≠ 3)&&decide (0<(s.els.length:Int)))/\Ext x6 w') ?_ ?_
     .
      refine Gs 4 O (G.sp 56 O (fun hh11=>?_) (fun hh11=>?_))
      .
       refine Gs 1 O (zmV O tg24 (hB_c.cells 8 _ O) (Gs 5 O ?_))
       refine zlp (_) (Sub.of O) (⟨by first | (simp only[hh11,decide_true,zpL,not_false_eq_true,ne_eq];done) | (exfalso;omega),hC7⟩)
      refine Gs 7 O ?_
      refine zlp (_) (Sub.cons O (Sub.cons O (Sub.cons O (Sub.cons O (Sub.cons (by first | rfl | (show some (Value.bool false)=some (Value.bool _);simp[*])) Sub.nil))))) (⟨by first | (simp only[hh11,decide_false,zpA];done) | (exfalso;omega),hC7⟩)
     rintro q x7 ⟨hq7,hX7⟩
     subst hq7
     obtain⟨hE,hvs,hk,hb,hB_b,hB_c⟩:=Tr6 hX7 hE hvs hk hb hB_b hB_c
     refine Gs 1 O (G.bool O (fun hh107=>?_) (fun hh107=>?_))
     . refine Gs 11 O (zls tr163 O ⟨_,rfl,by simp only[hh102,hh103,hh104,hh105,hh106,hh107,zpF,zpw,zpA],hE⟩)
     .
      refine Gs 1 O ?_
      have hC8:=Keep.refl (fun _=>False) x7
      refine zln (σ:=Bool) (fun q=>[(2,.bool last),(3,.pointer (some ⟨b,0,none⟩)),(4,.pointer (some ⟨c,0,none⟩)),(7,.int .i64 s.act),(10,.bool q)]) (fun q=>fun w'=>q=(decide (s.act ≠ 6)&&decide (0<(s.bounds.length:Int)))/\Ext x7 w') ?_ ?_
      .
       refine Gs 4 O (G.sp 64 O (fun hh12=>?_) (fun hh12=>?_))
       .
        refine Gs 1 O (zmV O tg27 (hB_c.cells 9 _ O) (Gs 5 O ?_))
        refine zlp (_) (Sub.of O) (⟨by first | (simp only[hh12,decide_true,zpL,not_false_eq_true,ne_eq];done) | (exfalso;omega),hC8⟩)
       refine Gs 7 O ?_
       refine zlp (_) (Sub.cons O (Sub.cons O (Sub.cons O (Sub.cons O (Sub.cons (by first | rfl | (show some (Value.bool false)=some (Value.bool _);simp[*])) Sub.nil))))) (⟨by first | (simp only[hh12,decide_false,zpA];done) | (exfalso;omega),hC8⟩)
      rintro q x8 ⟨hq8,hX8⟩
      subst hq8
      obtain⟨hE,hvs,hk,hb,hB_b,hB_c⟩:=Tr6 hX8 hE hvs hk hb hB_b hB_c
      refine Gs 1 O (G.bool O (fun hh108=>?_) (fun hh108=>?_))
      . refine Gs 11 O (zls tr163 O ⟨_,rfl,by simp only[hh102,hh103,hh104,hh105,hh106,hh107,hh108,zpF,zpw,zpA],hE⟩)
      .
       refine Gs 1 O ?_
       have hC9:=Keep.refl (fun _=>False) x8
       refine zln (σ:=Bool) (fun q=>[(2,.bool last),(3,.pointer (some ⟨b,0,none⟩)),(4,.pointer (some ⟨c,0,none⟩)),(7,.int .i64 s.act),(10,.bool q)]) (fun q=>fun w'=>q=(uvB s.act&&!yV f.vars s.var)/\Ext x8 w') ?_ ?_
       .
        by_cases hv:0<=s.var/\s.var<f.vars.length
        .
         obtain⟨x,he_x,hm_x⟩:=gE_ f.vars (s.var.toNat) (by omega)
         obtain⟨b_x,o_x,c_x,ha_x,_,hc_x,hR_x⟩:=hvs.at he_x
         have h1_x:=RVr.one hR_x
         obtain rfl:=hR_x
         have hlt_x:b_x<_:=zoV _ _ (hc_x 0 _ rfl)
         have hil:yV f.vars s.var=decide (x.kind=0):=by unfold yV kU;rw[he_x,zp5 hv.1,zp5 hv.2];rfl
         refine Gs 2 O (G.call O Tryz.call198 (kW s.act _) ?_)
         rintro _ wz13 ⟨rfl,hz13⟩
         obtain⟨hE,hvs,hk,hb,hB_b,hB_c,hC9⟩:=Tr7 hz13 hE hvs hk hb hB_b hB_c hC9
         replace hc_x:=Tr1 hz13 hc_x
         refine Gs 1 O (zmP 72 O (fun hh14=>?_) (fun hh14=>?_))
         .
          refine Gs 1 O (zmV O tg3 (hB_c.cells 2 _ O) (Gs 2 O (G.sp 76 O (fun hh15=>?_) (fun hh15=>?_))))
          .
           refine Gs 20 O ?_
           refine zlp (_) (Sub.cons O (Sub.cons O (Sub.cons O (Sub.cons O (Sub.cons (by first | rfl | (show some (Value.bool true)=some (Value.bool _);simp[*])) Sub.nil))))) (⟨by first | (simp only[hil,hh14,zpL];done) | (simp only[hh14,zpL];done) | (exfalso;omega),hC9⟩)
          refine Gs 1 O (zmV O tg3 (hB_c.cells 2 _ O) (Gs 1 O (zmV O tg22 (hB_b.cells 0 _ O) (Gs 4 O (G.sp 84 O (fun hh16=>?_) (fun hh16=>?_))))))
          .
           refine Gs 12 O ?_
           refine zlp (_) (Sub.cons O (Sub.cons O (Sub.cons O (Sub.cons O (Sub.cons (by first | rfl | (show some (Value.bool true)=some (Value.bool _);simp[*])) Sub.nil))))) (⟨by first | (simp only[hil,hh14,zpL];done) | (simp only[hh14,zpL];done) | (exfalso;omega),hC9⟩)
          refine Gs 1 O (zmV O tg22 (hB_b.cells 0 _ O) (Gs 1 O (zmV O tg3 (hB_c.cells 2 _ O) (zmR O O (zlO tR22 ts142 O O ha_x (by omega)) (Gs 1 O (zmV O tg100 (hc_x 1 _ O) (Gs 5 O ?_)))))))
          refine zlp (_) (Sub.of O) (⟨by first | (simp only[hil,hh14,zpL,ne_eq,decide_not];done) | (simp only[hh102,hh103,hh104,hh105,hh106,hh107,hh108,hh14,hh15,hh16,decide_true,decide_false,zpx,zpL,zpw,zpA,zpJ,zpM,zpI,zpC,zpF,zpE,not_true,not_false_eq_true,ne_eq,decide_not];done) | (exfalso;omega),hC9⟩)
         refine Gs 24 O ?_
         refine zlp (_) (Sub.cons O (Sub.cons O (Sub.cons O (Sub.cons O (Sub.cons (by first | rfl | (show some (Value.bool false)=some (Value.bool _);simp[*])) Sub.nil))))) (⟨by first | (simp only[hil,hh14,zpA];done) | (simp only[hh102,hh103,hh104,hh105,hh106,hh107,hh108,hh14,decide_true,decide_false,zpx,zpL,zpw,zpA,zpJ,zpM,zpI,zpC,zpF,zpE,not_true,not_false_eq_true,ne_eq,decide_not];done) | (exfalso;omega),hC9⟩)
        have hil:yV f.vars s.var=false:=by unfold yV;by_cases h0:0<=s.var<;>simp[h0]<;>omega
        refine Gs 2 O (G.call O Tryz.call198 (kW s.act _) ?_)
        rintro _ wz17 ⟨rfl,hz17⟩
        obtain⟨hE,hvs,hk,hb,hB_b,hB_c,hC9⟩:=Tr7 hz17 hE hvs hk hb hB_b hB_c hC9
        refine Gs 1 O (zmP 72 O (fun hh18=>?_) (fun hh18=>?_))
        .
         refine Gs 1 O (zmV O tg3 (hB_c.cells 2 _ O) (Gs 2 O (G.sp 76 O (fun hh19=>?_) (fun hh19=>?_))))
         .
          refine Gs 20 O ?_
          refine zlp (_) (Sub.cons O (Sub.cons O (Sub.cons O (Sub.cons O (Sub.cons (by first | rfl | (show some (Value.bool true)=some (Value.bool _);simp[*])) Sub.nil))))) (⟨by first | (simp only[hil,hh18,zpx,zpE];done) | (simp only[hh102,hh103,hh104,hh105,hh106,hh107,hh108,hh18,hh19,decide_true,decide_false,zpx,zpL,zpw,zpA,zpJ,zpM,zpI,zpC,zpF,zpE,not_true,not_false_eq_true,ne_eq,decide_not];done) | (exfalso;omega),hC9⟩)
         refine Gs 1 O (zmV O tg3 (hB_c.cells 2 _ O) (Gs 1 O (zmV O tg22 (hB_b.cells 0 _ O) (Gs 4 O (G.sp 84 O (fun hh20=>?_) (fun hh20=>?_))))))
         .
          refine Gs 12 O ?_
          refine zlp (_) (Sub.cons O (Sub.cons O (Sub.cons O (Sub.cons O (Sub.cons (by first | rfl | (show some (Value.bool true)=some (Value.bool _);simp[*])) Sub.nil))))) (⟨by first | (simp only[hil,hh18,zpx,zpE];done) | (simp only[hh102,hh103,hh104,hh105,hh106,hh107,hh108,hh18,hh19,hh20,decide_true,decide_false,zpx,zpL,zpw,zpA,zpJ,zpM,zpI,zpC,zpF,zpE,not_true,not_false_eq_true,ne_eq,decide_not];done) | (exfalso;omega),hC9⟩)
         refine Gs 1 O (zmV O tg22 (hB_b.cells 0 _ O) (Gs 1 O (zmV O tg3 (hB_c.cells 2 _ O) ?_)))
         exfalso
         omega
        refine Gs 24 O ?_
        refine zlp (_) (Sub.cons O (Sub.cons O (Sub.cons O (Sub.cons O (Sub.cons (by first | rfl | (show some (Value.bool false)=some (Value.bool _);simp[*])) Sub.nil))))) (⟨by first | (simp only[hil,hh18,zpx,zpE];done) | (simp only[hh102,hh103,hh104,hh105,hh106,hh107,hh108,hh18,decide_true,decide_false,zpx,zpL,zpw,zpA,zpJ,zpM,zpI,zpC,zpF,zpE,not_true,not_false_eq_true,ne_eq,decide_not];done) | (exfalso;omega),hC9⟩)
       rintro q x9 ⟨hq9,hX9⟩
       subst hq9
       obtain⟨hE,hvs,hk,hb,hB_b,hB_c⟩:=Tr6 hX9 hE hvs hk hb hB_b hB_c
       refine Gs 1 O (G.bool O (fun hh109=>?_) (fun hh109=>?_))
       . refine Gs 11 O (zls tr163 O ⟨_,rfl,by simp only[hh102,hh103,hh104,hh105,hh106,hh107,hh108,hh109,zpF,zpw,zpA],hE⟩)
       .
        have hC10:=Keep.refl (fun _=>False) x9
        refine zln (σ:=Bool) (fun q=>[(2,.bool last),(3,.pointer (some ⟨b,0,none⟩)),(4,.pointer (some ⟨c,0,none⟩)),(7,.int .i64 s.act),(10,.bool q)]) (fun q=>fun w'=>q=(decide (s.act=5)&&(decide (s.n<0) || decide ((f.hatches.length:Int)<=s.n)))/\Ext x9 w') ?_ ?_
        .
         refine Gs 4 O (G.sp 97 O (fun hh21=>?_) (fun hh21=>?_))
         .
          refine Gs 1 O (zmV O tg3 (hB_c.cells 3 _ O) (Gs 2 O (G.sp 101 O (fun hh22=>?_) (fun hh22=>?_))))
          .
           refine Gs 10 O ?_
           refine zlp (_) (Sub.cons O (Sub.cons O (Sub.cons O (Sub.cons O (Sub.cons (by first | rfl | (show some (Value.bool true)=some (Value.bool _);simp[*])) Sub.nil))))) (⟨by first | (simp only[hh21,hh22,decide_true,zpx,zpM];done) | (exfalso;omega),hC10⟩)
          refine Gs 1 O (zmV O tg3 (hB_c.cells 3 _ O) (Gs 1 O (zmV O tg23 (hB_b.cells 1 _ O) (Gs 6 O ?_))))
          refine zlp (_) (Sub.of O) (⟨by first | (simp only[hh21,hh22,decide_true,decide_false,zpL,zpC];done) | (exfalso;omega),hC10⟩)
         refine Gs 14 O ?_
         refine zlp (_) (Sub.cons O (Sub.cons O (Sub.cons O (Sub.cons O (Sub.cons (by first | rfl | (show some (Value.bool false)=some (Value.bool _);simp[*])) Sub.nil))))) (⟨by first | (simp only[hh21,decide_false,zpA];done) | (exfalso;omega),hC10⟩)
        rintro q x10 ⟨hq10,hX10⟩
        subst hq10
        obtain⟨hE,hvs,hk,hb,hB_b,hB_c⟩:=Tr6 hX10 hE hvs hk hb hB_b hB_c
        refine Gs 1 O (G.bool O (fun hh110=>?_) (fun hh110=>?_))
        . refine Gs 8 O (zls tr163 O ⟨_,rfl,by simp only[hh102,hh103,hh104,hh105,hh106,hh107,hh108,hh109,hh110,zpF,zpw,zpA],hE⟩)
        .
         have hres:∀ q:Bool,q=(decide (s.act ≠ 6) || (last&&yg s.bounds))->∀ {w':World},Ext w w'->∃ v,Ending.returned (.bool q)=.returned v/\v=.bool (!(decide (s.act<0) || decide (6<s.act))&&!(!uvB s.act&&decide (s.var ≠ 0))&&!(!unB s.act&&decide (s.n ≠ 0))&&!(!utB s.act&&!plainB s.term)
 && !(decide (s.act ≠ 3)&&decide (s.act ≠ 4)&&decide (0<(s.thn.length:Int)))&&!(decide (s.act ≠ 3)&&decide (0<(s.els.length:Int)))&&!(decide (s.act ≠ 6)&&decide (0<(s.bounds.length:Int)))
 && !(uvB s.act&&!yV f.vars s.var)&&!(decide (s.act=5)&&(decide (s.n<0) || decide ((f.hatches.length:Int)<=s.n)))
 && (decide (s.act ≠ 6) || (last&&yg s.bounds)))/\Ext w w':=by
          intro q hq w' hw
          refine⟨_,rfl,?_,hw⟩
          rw[hq]
          simp only[hh102,hh103,hh104,hh105,hh106,hh107,hh108,hh109,hh110,zpE,zpL,zpx]
         by_cases hbl:0<s.bounds.length
         .
          obtain⟨x0,hx0⟩:∃ x,s.bounds[0]?=some x:=⟨_,zoT hbl⟩
          obtain⟨b_e0,o_e0,c_e0,ha_e0,_,hc_e0,hR_e0⟩:=hb.at (hx0)
          obtain rfl:=hR_e0
          have hlt_e0:b_e0<_:=zoV _ _ (hc_e0 0 _ rfl)
          have hg:yg s.bounds=(decide ((s.bounds.length:Int)<=32)&&decide (0<=x0)&&yU s.bounds):=by
           unfold yg
           rw[hx0,zp5 (show 1<=s.bounds.length from hbl)]
           congr 2
           simp;omega
          refine Gs 8 O (G.sp 112 O (fun hh23=>?_) (fun hh23=>?_))
          . refine Gs 30 O (zls tr163 O (hres _ (by first | (simp only[hg,hh23,decide_true,zpM,not_false_eq_true,ne_eq];done) | (exfalso;omega)) hE))
          refine Gs 2 O (zmP 114 O (fun hh24=>?_) (fun hh24=>?_))
          .
           refine Gs 1 O (zmV O tg27 (hB_c.cells 9 _ O) (Gs 4 O (G.sp 120 O (fun hh25=>?_) (fun hh25=>?_))))
           .
            refine Gs 1 O (zmV O tg27 (hB_c.cells 9 _ O) (Gs 4 O (G.sp 126 O (fun hh26=>?_) (fun hh26=>?_))))
            .
             refine Gs 1 O (zmV O tg27 (hB_c.cells 9 _ O) (zmR O O (zlO tR27 ts3 O O ha_e0 (by omega)) (zmV O tg3 (hc_e0 0 _ O) (Gs 3 O (G.sp 133 O (fun hh27=>?_) (fun hh27=>?_))))))
             .
              refine Gs 1 O (zmV O tg27 (hB_c.cells 9 _ O) (G.call O Tryz.call202 (zct s.bounds _ D' _ hb) ?_))
              rintro _ wz28 ⟨rfl,hz28⟩
              obtain⟨hE,hvs,hk,hb,hB_b,hB_c,hc_e0⟩:=Tr7 hz28 hE hvs hk hb hB_b hB_c hc_e0
              refine Gs 6 O (zls tr163 O (hres _ (by first | (simp only[hg,hh23,hh24,hh26,hh27,decide_true,decide_false,zpx,zpL,zpC];done) | (exfalso;omega)) hE))
             refine Gs 9 O (zls tr163 O (hres _ (by first | (simp only[hg,hh23,hh24,hh26,hh27,decide_true,decide_false,zpw,zpA,zpI];done) | (exfalso;omega)) hE))
            refine Gs 16 O (zls tr163 O (hres _ (by first | (simp only[hg,hh23,hh24,hh26,decide_false,zpw,zpA,zpI];done) | (exfalso;omega)) hE))
           refine Gs 22 O (zls tr163 O (hres _ (by first | (simp only[hg,hh23,hh24,decide_false,zpL,zpC];done) | (exfalso;omega)) hE))
          refine Gs 28 O (zls tr163 O (hres _ (by first | (simp only[hg,hh23,hh24,decide_false,zpA,zpI];done) | (exfalso;omega)) hE))
         have hg:yg s.bounds=false:=by unfold yg;rw[zp6 (show ¬ 1<=s.bounds.length by omega)];rfl
         refine Gs 8 O (G.sp 112 O (fun hh29=>?_) (fun hh29=>?_))
         . refine Gs 30 O (zls tr163 O (hres _ (by first | (simp only[hg,hh29,decide_true,zpw,zpI,not_false_eq_true,ne_eq];done) | (exfalso;omega)) hE))
         refine Gs 2 O (zmP 114 O (fun hh30=>?_) (fun hh30=>?_))
         .
          refine Gs 1 O (zmV O tg27 (hB_c.cells 9 _ O) (Gs 4 O (G.sp 120 O (fun hh31=>?_) (fun hh31=>?_))))
          .
           refine Gs 1 O (zmV O tg27 (hB_c.cells 9 _ O) (Gs 4 O (G.sp 126 O (fun hh32=>?_) (fun hh32=>?_))))
           .
            refine Gs 1 O (zmV O tg27 (hB_c.cells 9 _ O) ?_)
            exfalso
            omega
           refine Gs 16 O (zls tr163 O (hres _ (by first | (simp only[hg,hh29,hh30,decide_false,zpw,zpI];done) | (exfalso;omega)) hE))
          refine Gs 22 O (zls tr163 O (hres _ (by first | (simp only[hg,hh29,hh30,decide_false,zpw,zpI];done) | (exfalso;omega)) hE))
         refine Gs 28 O (zls tr163 O (hres _ (by first | (simp only[hg,hh29,hh30,decide_false,zpw,zpI];done) | (exfalso;omega)) hE))
def xO (a:Int):Int:=if a=2 then 67108864 else 10000
def zL (s:St):Bool:=!(decide (s.cost<0) || decide (xO s.act<s.cost) || (decide (s.act=4)&&(decide (s.n<0) || decide (4096<s.n))))&&(decide (s.act ≠ 6) || decide (s.bounds[s.bounds.length - 1]?.getD 0<=67108864))
theorem ze4 (s:St) (cs:List Value) (D:Nat->Prop) (w:World) (hs:RSt D w s cs) (hb:s.act=6->0<s.bounds.length):Calls Tryz.prog 164 #[.agg cs.toArray] w (Ret fun r w'=>r=.bool (zL s)/\Ext w w'):=by
 obtain⟨v1,v2,v3,v4,rfl,hk,ht,he,hbd⟩:=hs.get
 have hmx:=hbd.max
 obtain⟨av4,nv4,rfl⟩:=hbd.form
 have hlc:=hbd.len_cap.2
 have hE:=Keep.refl (fun _=>False) w
 refine zn1 Tryz.func164 O Tryz.ntmps164 O (Gs 2 O (zlY O O (M.box O O) ?_))
 rintro _ w_b ⟨b,rfl,hg_b,hs_b,hB_b,hk_b⟩
 have hge_b:_<=b:=zoZ hE.size (zri hg_b.symm)
 obtain⟨hE,hbd⟩:=Tr2 hk_b hE hbd
 refine Gs 12 O (zmV O tg66 (hB_b.cells 0 _ O) (Gs 3 O (zlc O (fun a2=>?_) (fun a2=>?_))))
 .
  have hct:xO s.act=67108864:=by rw[xO,zp4 a2]
  have NB:zL s=(!((decide (s.cost<0) || decide (67108864<s.cost) || (decide (s.act=4)&&(decide (s.n<0) || decide (4096<s.n)))))&&(decide (s.act ≠ 6) || decide (s.bounds[s.bounds.length - 1]?.getD 0<=67108864))):=by rw[zL,hct]
  refine Gs 6 O ?_
  have hC:=Keep.refl (fun _=>False) w_b
  refine zln (σ:=Bool) (fun q=>[(1,.pointer (some ⟨b,0,none⟩)),(30,.bool q)]) (fun q=>fun w'=>q=(decide (s.cost<0) || decide (67108864<s.cost) || (decide (s.act=4)&&(decide (s.n<0) || decide (4096<s.n))))/\Ext w_b w') ?_ ?_
  .
   refine Gs 2 O (zmV O tg3 (hB_b.cells 1 _ O) (Gs 2 O (G.sp 10 O (fun hh1=>?_) (fun hh1=>?_))))
   .
    refine Gs 21 O ?_
    refine zlp (_) (Sub.cons O (Sub.cons (by first | rfl | (show some (Value.bool true)=some (Value.bool _);simp[*])) Sub.nil)) (⟨by first | (simp only[a2,hh1,decide_true,zpM];done) | (simp[a2,hh1];done) | (exfalso;omega),hC⟩)
   refine Gs 1 O (zmV O tg3 (hB_b.cells 1 _ O) (Gs 4 O (G.sp 16 O (fun hh2=>?_) (fun hh2=>?_))))
   .
    refine Gs 15 O ?_
    refine zlp (_) (Sub.cons O (Sub.cons (by first | rfl | (show some (Value.bool true)=some (Value.bool _);simp[*])) Sub.nil)) (⟨by first | (simp only[a2,hh1,hh2,decide_true,decide_false,zpJ,zpM];done) | (simp[a2,hh1,hh2];done) | (exfalso;omega),hC⟩)
   refine Gs 1 O (zmV O tg66 (hB_b.cells 0 _ O) (Gs 2 O (G.sp 20 O (fun hh3=>?_) (fun hh3=>?_))))
   .
    refine Gs 1 O (zmV O tg3 (hB_b.cells 3 _ O) (Gs 2 O (G.sp 24 O (fun hh4=>?_) (fun hh4=>?_))))
    .
     refine Gs 7 O ?_
     refine zlp (_) (Sub.cons O (Sub.cons (by first | rfl | (show some (Value.bool true)=some (Value.bool _);simp[*])) Sub.nil)) (⟨by first | (simp only[a2,hh1,hh2,hh4,decide_true,decide_false,zpx,zpM,zpI,zpC];done) | (simp[a2,hh1,hh2,hh4];done) | (exfalso;omega),hC⟩)
    refine Gs 1 O (zmV O tg3 (hB_b.cells 3 _ O) (Gs 5 O ?_))
    refine zlp (_) (Sub.of O) (⟨by first | (simp only[a2,hh1,hh2,hh4,decide_false,zpI,zpC];done) | (simp[a2,hh1,hh2,hh4];done) | (exfalso;omega),hC⟩)
   refine Gs 11 O ?_
   refine zlp (_) (Sub.cons O (Sub.cons (by first | rfl | (show some (Value.bool false)=some (Value.bool _);simp[*])) Sub.nil)) (⟨by first | (simp only[a2,hh1,hh2,decide_false,zpI,zpC];done) | (simp[a2,hh1,hh2];done) | (exfalso;omega),hC⟩)
  rintro q x1 ⟨hq1,hX1⟩
  subst hq1
  obtain⟨hE,hbd,hB_b⟩:=Tr3 hX1 hE hbd hB_b
  refine Gs 1 O (G.bool O (fun hh1=>?_) (fun hh1=>?_))
  . refine Gs 7 O (zls tr164 O ⟨_,rfl,by rw[NB,hh1];rfl,hE⟩)
  refine Gs 5 O (zmV O tg66 (hB_b.cells 0 _ O) (Gs 2 O (G.sp 34 O (fun a6=>?_) (fun a6=>?_))))
  . refine Gs 14 O (zls tr164 O ⟨_,rfl,by rw[NB,hh1];simp[a6],hE⟩)
  have h6:s.act=6:=by omega
  have hb0:=hb h6
  obtain⟨x,hx⟩:∃ x,s.bounds[s.bounds.length - 1]?=some x:=⟨_,zoT (by omega)⟩
  obtain⟨b_e,o_e,c_e,ha_e,_,hc_e,hR_e⟩:=hbd.at hx
  obtain rfl:=hR_e
  have hto:((s.bounds.length:Int) - 1).toNat=s.bounds.length - 1:=by omega
  refine Gs 1 O (zmV O tg27 (hB_b.cells 9 _ O) (Gs 1 O (zmV O tg27 (hB_b.cells 9 _ O) (Ga 2 O (by omega) (zmR O O (zlO tR27 ts3 O O ha_e (by omega)) (zmV O tg3 (by rw[hto];exact hc_e 0 _ O) (Gs 6 O (zls tr164 O ⟨_,rfl,by rw[NB,hh1,hx];simp[h6],hE⟩))))))))
 have hct:xO s.act=10000:=by rw[xO,zp3 a2]
 have NB:zL s=(!((decide (s.cost<0) || decide (10000<s.cost) || (decide (s.act=4)&&(decide (s.n<0) || decide (4096<s.n)))))&&(decide (s.act ≠ 6) || decide (s.bounds[s.bounds.length - 1]?.getD 0<=67108864))):=by rw[zL,hct]
 refine Gs 4 O ?_
 have hC:=Keep.refl (fun _=>False) w_b
 refine zln (σ:=Bool) (fun q=>[(1,.pointer (some ⟨b,0,none⟩)),(30,.bool q)]) (fun q=>fun w'=>q=(decide (s.cost<0) || decide (10000<s.cost) || (decide (s.act=4)&&(decide (s.n<0) || decide (4096<s.n))))/\Ext w_b w') ?_ ?_
 .
  refine Gs 2 O (zmV O tg3 (hB_b.cells 1 _ O) (Gs 2 O (G.sp 10 O (fun hh5=>?_) (fun hh5=>?_))))
  .
   refine Gs 21 O ?_
   refine zlp (_) (Sub.cons O (Sub.cons (by first | rfl | (show some (Value.bool true)=some (Value.bool _);simp[*])) Sub.nil)) (⟨by first | (simp only[hh5,decide_true,zpM];done) | (simp[a2,hh5];done) | (exfalso;omega),hC⟩)
  refine Gs 1 O (zmV O tg3 (hB_b.cells 1 _ O) (Gs 4 O (G.sp 16 O (fun hh6=>?_) (fun hh6=>?_))))
  .
   refine Gs 15 O ?_
   refine zlp (_) (Sub.cons O (Sub.cons (by first | rfl | (show some (Value.bool true)=some (Value.bool _);simp[*])) Sub.nil)) (⟨by first | (simp only[hh5,hh6,decide_true,decide_false,zpJ,zpM];done) | (simp[a2,hh5,hh6];done) | (exfalso;omega),hC⟩)
  refine Gs 1 O (zmV O tg66 (hB_b.cells 0 _ O) (Gs 2 O (G.sp 20 O (fun hh7=>?_) (fun hh7=>?_))))
  .
   refine Gs 1 O (zmV O tg3 (hB_b.cells 3 _ O) (Gs 2 O (G.sp 24 O (fun hh8=>?_) (fun hh8=>?_))))
   .
    refine Gs 7 O ?_
    refine zlp (_) (Sub.cons O (Sub.cons (by first | rfl | (show some (Value.bool true)=some (Value.bool _);simp[*])) Sub.nil)) (⟨by first | (simp only[hh5,hh6,hh7,hh8,decide_true,decide_false,zpx,zpJ,zpM,zpI];done) | (simp[a2,hh5,hh6,hh7,hh8];done) | (exfalso;omega),hC⟩)
   refine Gs 1 O (zmV O tg3 (hB_b.cells 3 _ O) (Gs 5 O ?_))
   refine zlp (_) (Sub.of O) (⟨by first | (simp only[hh5,hh6,hh7,hh8,decide_true,decide_false,zpL,zpI,zpC];done) | (simp[a2,hh5,hh6,hh7,hh8];done) | (exfalso;omega),hC⟩)
  refine Gs 11 O ?_
  refine zlp (_) (Sub.cons O (Sub.cons (by first | rfl | (show some (Value.bool false)=some (Value.bool _);simp[*])) Sub.nil)) (⟨by first | (simp only[hh5,hh6,hh7,decide_false,zpA,zpI];done) | (simp[a2,hh5,hh6,hh7];done) | (exfalso;omega),hC⟩)
 rintro q x2 ⟨hq2,hX2⟩
 subst hq2
 obtain⟨hE,hbd,hB_b⟩:=Tr3 hX2 hE hbd hB_b
 refine Gs 1 O (G.bool O (fun hh2=>?_) (fun hh2=>?_))
 . refine Gs 7 O (zls tr164 O ⟨_,rfl,by rw[NB,hh2];rfl,hE⟩)
 refine Gs 5 O (zmV O tg66 (hB_b.cells 0 _ O) (Gs 2 O (G.sp 34 O (fun a6=>?_) (fun a6=>?_))))
 . refine Gs 14 O (zls tr164 O ⟨_,rfl,by rw[NB,hh2];simp[a6],hE⟩)
 have h6:s.act=6:=by omega
 have hb0:=hb h6
 obtain⟨x,hx⟩:∃ x,s.bounds[s.bounds.length - 1]?=some x:=⟨_,zoT (by omega)⟩
 obtain⟨b_e,o_e,c_e,ha_e,_,hc_e,hR_e⟩:=hbd.at hx
 obtain rfl:=hR_e
 have hto:((s.bounds.length:Int) - 1).toNat=s.bounds.length - 1:=by omega
 refine Gs 1 O (zmV O tg27 (hB_b.cells 9 _ O) (Gs 1 O (zmV O tg27 (hB_b.cells 9 _ O) (Ga 2 O (by omega) (zmR O O (zlO tR27 ts3 O O ha_e (by omega)) (zmV O tg3 (by rw[hto];exact hc_e 0 _ O) (Gs 6 O (zls tr164 O ⟨_,rfl,by rw[NB,hh2,hx];simp[h6],hE⟩))))))))
theorem zgh (vs:List Ht) (vv:Value) (D:Nat->Prop) (w:World) (hvs:SlR 6 RHt D w vv vs) (p:Ht->Bool) (g:FuncId) (cp:Value) (hf:∀ args w,(callFunc g args).run Tryz.prog w=.ok (.enter g args) w)
  (hc:∀ x ∈ vs,∀ kv w',Ext w w'->Calls Tryz.prog g #[.agg #[.string x.name,.int .i64 x.low,.int .i64 x.high,.int .i64 x.term.op,.int .i64 x.term.n,kv],cp] w' (Ret fun r w''=>r=.bool (p x)/\Ext w' w'')) :
  Calls Tryz.prog 197 #[vv,.func (.func g) #[] #[cp]] w (Ret fun r w'=>(∃ i:Int,r=.int .i64 i/\(0<=i ↔ vs.any p=true))/\Ext w w'):=by
 have hmx:=hvs.max
 obtain⟨av,nv,rfl⟩:=hvs.form
 refine zn2 Tryz.func197 O Tryz.ntmps197 O (Gs 14 O (G.loop (σ:=Nat) (fun i=>[(0,.slice av vs.length nv),(1,.func (.func g) #[] #[cp]),(7,.int .i64 vs.length),(8,.int .i64 i)]) (fun i=>fun w'=>i<=vs.length/\(vs.take i).any p=false/\Ext w w') (fun i=>vs.length - i) (0) (Sub.of O) (⟨zp8 _,rfl,Keep.refl _ _⟩) ?_))
 rintro i w1 ⟨hi,hno,hL1⟩
 replace hvs:=Tr1 hL1 hvs
 refine Gs 6 O (zlc O (fun hlt=>?_) (fun hlt=>?_))
 .
  obtain⟨x,he_x,hm_x⟩:=gE_ vs (i) (by omega)
  obtain⟨b_x,o_x,c_x,ha_x,_,hc_x,hR_x⟩:=hvs.at he_x
  have h1_x:=RHt.one hR_x
  obtain⟨v1_x,rfl,hk_x⟩:=hR_x
  obtain⟨a1_x,n1_x,rfl⟩:=hk_x.form
  have hlt_x:b_x<_:=zoV _ _ (hc_x 0 _ rfl)
  refine Gs 15 O (zmR O O (zlO tR23 ts109 O O ha_x (by omega)) (zmX O tg109 ts109 hc_x O (zlV O hf (hc x hm_x _ _ hL1) ?_)))
  rintro _ wz1 ⟨rfl,hz1⟩
  obtain⟨hvs,hL1,hc_x,hk_x⟩:=Tr4 hz1 hvs hL1 hc_x hk_x
  refine Gs 2 O (G.bool O (fun hp=>?_) (fun hp=>?_))
  . refine Gs 12 O (zls Tryz.results197 O ⟨_,rfl,⟨_,rfl,by rw[zj9 hm_x hp];simp⟩,hL1⟩)
  refine Ga 7 O (by omega) (G.back (i+1) (Sub.of O) (⟨by omega,zaa he_x hno hp,hL1⟩) (by first | omega | (dsimp only;omega)))
 have:i=vs.length:=by omega
 subst this
 rw[zoY]at hno
 refine Gs 11 O (zls Tryz.results197 O ⟨_,rfl,⟨_,rfl,by rw[hno];simp⟩,hL1⟩)
theorem zdf (vs:List Ht) (vv:Value) (D:Nat->Prop) (w:World) (hvs:SlR 6 RHt D w vv vs) (p:Ht->Bool) (g:FuncId) (cp:Value) (hf:∀ args w,(callFunc g args).run Tryz.prog w=.ok (.enter g args) w)
  (hc:∀ x ∈ vs,∀ kv w',Ext w w'->Calls Tryz.prog g #[.agg #[.string x.name,.int .i64 x.low,.int .i64 x.high,.int .i64 x.term.op,.int .i64 x.term.n,kv],cp] w' (Ret fun r w''=>r=.bool (p x)/\Ext w' w'')) :
  Calls Tryz.prog 161 #[vv,.func (.func g) #[] #[cp]] w (Ret fun r w'=>r=.bool (vs.any p)/\Ext w w'):=by
 have hE:=Keep.refl (fun _=>False) w
 refine zn2 Tryz.func161 O Tryz.ntmps161 O (Gs 9 O (G.call O Tryz.call197 (zgh vs vv D w hvs p g cp hf hc) ?_))
 rintro _ wz1 ⟨⟨i,rfl,hi⟩,hz1⟩
 replace hE:=Tr1 hz1 hE
 refine Gs 5 O (zls Tryz.results161 O ⟨_,rfl,by cases h:vs.any p<;>simp[h]at hi ⊢<;>omega,hE⟩)
theorem zhW (h x:Ht) (kv kx:Value) (c:Nat) (w:World) (hB:Blk w c [.string x.name,.int .i64 x.low,.int .i64 x.high,.int .i64 x.term.op,.int .i64 x.term.n,kx] 109):Calls Tryz.prog 160 #[.agg #[.string h.name,.int .i64 h.low,.int .i64 h.high,.int .i64 h.term.op,.int .i64 h.term.n,kv],.pointer (some ⟨c,0,none⟩)] w (Ret fun r w'=>r=.bool (zN h.name x.name)/\Ext w w'):=by
 have hE:=Keep.refl (fun _=>False) w
 refine zn2 Tryz.func160 O Tryz.ntmps160 O (Gs 2 O (zlY O O (M.box O O) ?_))
 rintro _ w_b ⟨b,rfl,hg_b,hs_b,hB_b,hk_b⟩
 have hge_b:_<=b:=zoZ hE.size (zri hg_b.symm)
 obtain⟨hE,hB⟩:=Tr2 hk_b hE hB
 refine Gs 6 O (zmV O tg9 (hB_b.cells 0 _ O) (Gs 1 O (zmV O tg9 (hB.cells 0 _ O) (Gs 5 O (zls Tryz.results160 O ⟨_,rfl,rfl,hE⟩)))))
def zF (vs:List Vr) (prev:List Ht) (h:Ht):Int :=
 if zb3 h.name=false then 7
 else if prev.any (fun u=>zN u.name h.name)=true then 8
 else if zar h.low h.high=false then 3
 else zD vs true h.term
def qD (vs:List Vr) (hs:List Ht) (i:Nat):Int:=match hs[i]? with
 | some h=>zF vs (hs.take i) h
 | none=>0
theorem kX {vs:List Vr} {hs:List Ht} {i:Nat} {h:Ht} (e:hs[i]?=some h):qD vs hs i=zF vs (hs.take i) h:=by simp[qD,e]
def zv (vs:List Vr) (hs:List Ht):Int:=yA (qD vs hs) 0 hs.length
theorem zbH (f:Fl) (v1 v2 v3:Value) (D:Nat->Prop) (w:World) (hf:RFl D w f v1 v2 v3) (hg:∀ v ∈ f.vars,yz (v.low,v.high)) (hsz:∀ h ∈ f.hatches,h.term.nodes<=1000000) (hlen:f.hatches.length<=1000000):Calls Tryz.prog 122 #[.agg #[v1,v2,v3]] w (Ret fun r w'=>r=.int .i64 (zv f.vars f.hatches)/\Ext w w'):=by
 have hvs:=hf.vars
 have hhs:=hf.hatches
 obtain⟨av,nv,rfl⟩:=hhs.form
 have hlc:=hhs.len_cap.2
 have hE:=Keep.refl (fun _=>False) w
 refine zn1 Tryz.func122 O Tryz.ntmps122 O (Gs 2 O (zlY O O (M.box O O) ?_))
 rintro _ w_b ⟨b,rfl,hg_b,hs_b,hB_b,hk_b⟩
 have hge_b:_<=b:=zoZ hE.size (zri hg_b.symm)
 obtain⟨hvs,hhs,hE⟩:=Tr3 hk_b hvs hhs hE
 refine Gs 7 O (zmV O tg23 (hB_b.cells 1 _ O) (Gs 5 O (G.loop (σ:=Nat) (fun i=>[(1,.pointer (some ⟨b,0,none⟩)),(8,.slice av f.hatches.length nv),(9,.int .i64 f.hatches.length),(10,.int .i64 i)]) (fun i=>fun w'=>i<=f.hatches.length/\(∀ j,j<i->qD f.vars f.hatches j=0)/\Ext w_b w') (fun i=>f.hatches.length - i) (0) (Sub.of O) (⟨zp8 _,fun j h=>absurd h (zrn _),Keep.refl _ _⟩) ?_)))
 rintro i w1 ⟨hi,hall,hL1⟩
 obtain⟨hvs,hhs,hE,hB_b⟩:=Tr4 hL1 hvs hhs hE hB_b
 refine Gs 6 O (zlc O (fun hlt=>?_) (fun hlt=>?_))
 .
  obtain⟨x,he_x,hm_x⟩:=gE_ f.hatches (i) (by omega)
  obtain⟨b_x,o_x,c_x,ha_x,_,hc_x,hR_x⟩:=hhs.at he_x
  have h1_x:=RHt.one hR_x
  obtain⟨v1_x,rfl,hk_x⟩:=hR_x
  obtain⟨a1_x,n1_x,rfl⟩:=hk_x.form
  have hlt_x:b_x<_:=zoV _ _ (hc_x 0 _ rfl)
  have hat:=kX (vs:=f.vars) he_x
  have hbad:∀ c:Int,zF f.vars (f.hatches.take i) x=c->c ≠ 0->zv f.vars f.hatches=c:=by
   intro c h1 h2
   have h3:qD f.vars f.hatches i ≠ 0:=by rw[hat,h1];exact h2
   rw[zv,qC hall (by omega) h3,hat,h1]
  have hnext:zF f.vars (f.hatches.take i) x=0->∀ j,j<i+1->qD f.vars f.hatches j=0:=by
   intro h j hj
   by_cases e:j=i
   . subst e;rw[hat,h]
   exact hall j (by omega)
  refine Gs 7 O (zmR O O (zlO tR23 ts109 O O ha_x (by omega)) (zmX O tg109 ts109 hc_x O (zlY O O (M.alloc (cs:=_) tz109 O) ?_)))
  rintro _ wa1 ⟨c,rfl,hg_c,hs_c,hB_c,hk_c⟩
  refine Gs 1 O (zm3 O (zm4 ts109 O O O O h1_x hB_c (by simp)) ?_)
  rintro w_c ⟨_,hB_c,hkk_c⟩
  replace hk_c:=hk_c.trans hkk_c (fun q hq h=>by have h:q=c:=h;omega)
  have hn_b_c:b ≠ c:=by have:=hB_b.lt;omega
  have hge_c:_<=c:=zoZ hE.size (zri hg_c.symm)
  obtain⟨hvs,hhs,hE,hB_b,hL1,hc_x,hk_x⟩:=Tr7 hk_c hvs hhs hE hB_b hL1 hc_x hk_x
  refine Gs 13 O (zmV O tg9 (hB_c.cells 0 _ O) (G.call O Tryz.call157 (kg x.name _) ?_))
  rintro _ wz2 ⟨rfl,hz2⟩
  obtain⟨hvs,hhs,hE,hB_b,hL1,hc_x,hk_x⟩:=Tr7 hz2 hvs hhs hE hB_b hL1 hc_x hk_x
  replace hB_c:=Tr1 hz2 hB_c
  refine zmR O O (zms O (by first | exact za | rfl)) (Gs 3 O (G.bool O (fun n0=>?_) (fun n0=>?_)))
  .
   have n0':zb3 x.name=false:=by simpa using n0
   refine Gs 13 O (zls tr122 O ⟨_,rfl,by rw[hbad 7 (by rw[zF,zp4 n0']) (by decide)],hE⟩)
  have n0':¬ zb3 x.name=false:=by simpa using n0
  refine Gs 3 O (zmV O tg23 (hB_b.cells 1 _ O) (Gs 1 O (zmR O O (zml tR23 ts109 O O (by omega)) (Gs 1 O ?_))))
  have htk:=hhs.take i (by omega)
  refine G.call O Tryz.call161 (zdf (f.hatches.take i) _ D _ htk (fun u=>zN u.name x.name) 160 (.pointer (some ⟨c,0,none⟩)) Tryz.call160 (fun y _ kv w' hw'=>zhW y x kv _ c w' (hw'.blk hB_c (fun h=>h)))) ?_
  rintro _ wz3 ⟨rfl,hz3⟩
  obtain⟨hvs,hhs,hE,hB_b,hL1,hc_x,hk_x⟩:=Tr7 hz3 hvs hhs hE hB_b hL1 hc_x hk_x
  replace hB_c:=Tr1 hz3 hB_c
  refine Gs 3 O (G.bool O (fun d0=>?_) (fun d0=>?_))
  . refine Gs 13 O (zls tr122 O ⟨_,rfl,by rw[hbad 8 (by rw[zF,zp3 n0',zp4 d0]) (by decide)],hE⟩)
  have n1:¬ (f.hatches.take i).any (fun u=>zN u.name x.name)=true:=by rw[d0];decide
  refine Gs 3 O (zmV O tg3 (hB_c.cells 1 _ O) (Gs 1 O (zmV O tg3 (hB_c.cells 2 _ O) (G.call O Tryz.call88 (qe x.low x.high _) ?_))))
  rintro _ wz4 ⟨rfl,hz4⟩
  obtain⟨hvs,hhs,hE,hB_b,hL1,hc_x,hk_x⟩:=Tr7 hz4 hvs hhs hE hB_b hL1 hc_x hk_x
  replace hB_c:=Tr1 hz4 hB_c
  refine zmR O O (zms O (by first | exact za | rfl)) (Gs 3 O (G.bool O (fun n3=>?_) (fun n3=>?_)))
  .
   have n3':zar x.low x.high=false:=by simpa using n3
   refine Gs 13 O (zls tr122 O ⟨_,rfl,by rw[hbad 3 (by rw[zF,zp3 n0',zp3 n1,zp4 n3']) (by decide)],hE⟩)
  have n3':¬ zar x.low x.high=false:=by simpa using n3
  have hcc:zF f.vars (f.hatches.take i) x=zD f.vars true x.term:=by rw[zF,zp3 n0',zp3 n1,zp3 n3']
  refine Gs 6 O (zmV O tg22 (hB_b.cells 0 _ O) (Gs 1 O (zmX O tg70 ts70 (hB_c.cells.sub 3 3) O (G.call O Tryz.call162 (zb8 f.vars true v1 _ D D _ x.term hg hvs (RTm.put hk_x) (hsz x hm_x)) ?_))))
  rintro _ wz5 ⟨rfl,hz5⟩
  obtain⟨hvs,hhs,hE,hB_b,hL1,hc_x,hk_x⟩:=Tr7 hz5 hvs hhs hE hB_b hL1 hc_x hk_x
  replace hB_c:=Tr1 hz5 hB_c
  refine Gs 9 O (zlc O (fun tz=>?_) (fun tz=>?_))
  . refine Gs 12 O (zls tr122 O ⟨_,rfl,by rw[hbad _ hcc tz],hE⟩)
  refine Ga 7 O (by omega) (G.back (i+1) (Sub.of O) (⟨by omega,hnext (by rw[hcc];omega),hL1⟩) (by first | omega | (dsimp only;omega)))
 have hii:i=f.hatches.length:=by omega
 subst hii
 refine Gs 11 O (zls tr122 O ⟨_,rfl,by rw[zv,xH hall],hE⟩)
mutual
def zz (vs:List Vr) (nh:Nat):St->Bool->Int
 | .mk a c v n t f g bs,last =>
  if zf vs nh (.mk a c v n t f g bs) last=false then 1
  else if zL (.mk a c v n t f g bs)=false then 3
  else if zD vs false t ≠ 0 then zD vs false t
  else if stepsCodeN vs nh f false ≠ 0 then stepsCodeN vs nh f false
  else stepsCodeN vs nh g false
def stepsCodeN (vs:List Vr) (nh:Nat):List St->Bool->Int
 | [],_=>0
 | s::r,top=>if zz vs nh s (top&&r.isEmpty) ≠ 0 then zz vs nh s (top&&r.isEmpty) else stepsCodeN vs nh r top
end
theorem zy (vs:List Vr) (nh:Nat) (s:St) (last:Bool):zz vs nh s last =
  if zf vs nh s last=false then 1 else if zL s=false then 3 else if zD vs false s.term ≠ 0 then zD vs false s.term
  else if stepsCodeN vs nh s.thn false ≠ 0 then stepsCodeN vs nh s.thn false else stepsCodeN vs nh s.els false:=by
 cases s;rw[zz];rfl
theorem jx (vs:List Vr) (nh:Nat) (top:Bool) (l:List St) (i:Nat) (x:St) (h:l[i]?=some x) :
  stepsCodeN vs nh (l.drop i) top=if zz vs nh x (top&&decide (i=l.length - 1)) ≠ 0 then zz vs nh x (top&&decide (i=l.length - 1)) else stepsCodeN vs nh (l.drop (i+1)) top:=by
 obtain⟨hi,hx⟩:=zp7.1 h
 rw[zq9 hi,hx,stepsCodeN]
 have:(l.drop (i+1)).isEmpty=decide (i=l.length - 1):=by
  rw[zpz];simp;omega
 rw[this]
theorem ku {vs:List Vr} {nh:Nat} {s:St} {last:Bool} (h:zf vs nh s last=true):s.act=6->0<s.bounds.length:=by
 intro h6
 rw[zbb]at h
 simp[h6,yg]at h
 omega
theorem zdg (f:Fl) (v1 v2 v3:Value) (hg:∀ v ∈ f.vars,yz (v.low,v.high)) (Df:Nat->Prop) (l:List St):∀ (v:Value) (D:Nat->Prop) (w:World) (top:Bool),RFl Df w f v1 v2 v3->SlR 10 RSt D w v l->sbulk l<=1000000->Calls Tryz.prog 123 #[.agg #[v1,v2,v3],v,.bool top] w (Ret fun r w'=>r=.int .i64 (stepsCodeN f.vars f.hatches.length l top)/\Ext w w'):=by
 induction l using zmB with
 | h l ih =>
 intro v D w top hf hl hb
 obtain⟨hvs,hhs,hbd⟩:=hf
 have hmx:=hl.max
 obtain⟨av,nv,rfl⟩:=hl.form
 have hE:=Keep.refl (fun _=>False) w
 refine zn3 Tryz.func123 O Tryz.ntmps123 O (Gs 2 O (zlY O O (M.box O O) ?_))
 rintro _ w_b ⟨b,rfl,hg_b,hs_b,hB_b,hk_b⟩
 have hge_b:_<=b:=zoZ hE.size (zri hg_b.symm)
 obtain⟨hE,hvs,hhs,hbd,hl⟩:=Tr5 hk_b hE hvs hhs hbd hl
 refine Gs 12 O (G.loop (σ:=Nat) (fun i=>[(1,.slice av l.length nv),(2,.bool top),(3,.pointer (some ⟨b,0,none⟩)),(13,.slice av l.length nv),(14,.int .i64 l.length),(15,.int .i64 i)]) (fun i=>fun w'=>i<=l.length/\stepsCodeN f.vars f.hatches.length l top=stepsCodeN f.vars f.hatches.length (l.drop i) top/\Ext w_b w') (fun i=>l.length - i) (0) (Sub.of O) (⟨zp8 _,rfl,Keep.refl _ _⟩) ?_)
 rintro i w1 ⟨hi,hall,hL1⟩
 obtain⟨hE,hvs,hhs,hbd,hl,hB_b⟩:=Tr6 hL1 hE hvs hhs hbd hl hB_b
 refine Gs 6 O (zlc O (fun hlt=>?_) (fun hlt=>?_))
 .
  obtain⟨x,he_x,hm_x⟩:=gE_ l (i) (by omega)
  obtain⟨b_x,o_x,c_x,ha_x,_,hc_x,hR_x⟩:=hl.at he_x
  have h1_x:=RSt.one hR_x
  obtain⟨v1_x,v2_x,v3_x,v4_x,rfl,hk_x,ht_x,hs_x,hb_x⟩:=hR_x.get
  obtain⟨a1_x,n1_x,rfl⟩:=hk_x.form
  obtain⟨a2_x,n2_x,rfl⟩:=ht_x.form
  obtain⟨a3_x,n3_x,rfl⟩:=hs_x.form
  obtain⟨a4_x,n4_x,rfl⟩:=hb_x.form
  have hlt_x:b_x<_:=zoV _ _ (hc_x 0 _ rfl)
  have hst:=jx f.vars f.hatches.length top l i x he_x
  refine Gs 7 O (zmR O O (zlO tR24 ts72 O O ha_x (by omega)) (zmX O tg72 ts72 hc_x O (zlY O O (M.alloc (cs:=_) tz72 O) ?_)))
  rintro _ wa1 ⟨c,rfl,hg_c,hs_c,hB_c,hk_c⟩
  refine Gs 1 O (zm3 O (zm4 ts72 O O O O h1_x hB_c (by simp)) ?_)
  rintro w_c ⟨_,hB_c,hkk_c⟩
  replace hk_c:=hk_c.trans hkk_c (fun q hq h=>by have h:q=c:=h;omega)
  have hn_b_c:b ≠ c:=by have:=hB_b.lt;omega
  have hge_c:_<=c:=zoZ hE.size (zri hg_c.symm)
  obtain⟨hE,hvs,hhs,hbd,hl,hB_b,hL1⟩:=Tr7 hk_c hE hvs hhs hbd hl hB_b hL1
  obtain⟨hc_x,hk_x,ht_x,hs_x,hb_x⟩:=Tr5 hk_c hc_x hk_x ht_x hs_x hb_x
  have hnl:((l.length:Int) - 1=((l.length - 1:Nat):Int)):=by omega
  refine Gs 4 O ?_
  have hC:=Keep.refl (fun _=>False) w_c
  refine zln (σ:=Bool) (fun q=>[(1,.slice av l.length nv),(2,.bool top),(3,.pointer (some ⟨b,0,none⟩)),(7,.int .i64 i),(8,.pointer (some ⟨c,0,none⟩)),(13,.slice av l.length nv),(14,.int .i64 l.length),(15,.int .i64 i),(31,.bool q)]) (fun q=>fun w'=>q=!(zf f.vars f.hatches.length x (top&&decide (i=l.length - 1)))/\Ext w_c w') ?_ ?_
  .
   refine Gs 1 O (zmX O tg26 ts26 hB_b.cells O (zmX O tg72 ts72 hB_c.cells O (Gs 2 O (zmP 23 O (fun tt=>?_) (fun tt=>?_)))))
   .
    refine Ga 6 O (by omega) (G.call O Tryz.call163 (kr f x _ v1 v2 v3 _ _ _ _ ⟨hvs,hhs,hbd⟩ (RSt.put hk_x ht_x hs_x hb_x)) ?_)
    rintro _ wz2 ⟨rfl,hz2⟩
    obtain⟨hE,hvs,hhs,hbd,hl,hB_b,hL1⟩:=Tr7 hz2 hE hvs hhs hbd hl hB_b hL1
    obtain⟨hc_x,hk_x,ht_x,hs_x,hb_x,hB_c,hC⟩:=Tr7 hz2 hc_x hk_x ht_x hs_x hb_x hB_c hC
    refine zmR O O (zms O (by first | exact za | rfl)) (Gs 1 O ?_)
    refine zlp (_) (Sub.of O) (⟨by rw[tt,zpL];congr 2;simp only[zpl];omega,hC⟩)
   refine Gs 6 O (G.call O Tryz.call163 (kr f x _ v1 v2 v3 _ _ _ _ ⟨hvs,hhs,hbd⟩ (RSt.put hk_x ht_x hs_x hb_x)) ?_)
   rintro _ wz3 ⟨rfl,hz3⟩
   obtain⟨hE,hvs,hhs,hbd,hl,hB_b,hL1⟩:=Tr7 hz3 hE hvs hhs hbd hl hB_b hL1
   obtain⟨hc_x,hk_x,ht_x,hs_x,hb_x,hB_c,hC⟩:=Tr7 hz3 hc_x hk_x ht_x hs_x hb_x hB_c hC
   refine zmR O O (zms O (by first | exact za | rfl)) (Gs 1 O ?_)
   refine zlp (_) (Sub.of O) (⟨by rw[tt,zpA],hC⟩)
  rintro q x1 ⟨hq,hX1⟩
  subst hq
  obtain⟨hE,hvs,hhs,hbd,hl,hB_b,hL1⟩:=Tr7 hX1 hE hvs hhs hbd hl hB_b hL1
  obtain⟨hc_x,hk_x,ht_x,hs_x,hb_x,hB_c⟩:=Tr6 hX1 hc_x hk_x ht_x hs_x hb_x hB_c
  generalize hlast:(top&&decide (i=l.length - 1))=last at *
  refine Gs 1 O (G.bool O (fun hsh=>?_) (fun hsh=>?_))
  .
   have hsh':zf f.vars f.hatches.length x last=false:=by simpa using hsh
   refine Gs 12 O (zls tr123 O ⟨_,rfl,by rw[hall,hst,zy,zp4 hsh'];rfl,hE⟩)
  have hsh':zf f.vars f.hatches.length x last=true:=by simpa using hsh
  have hshn:¬ zf f.vars f.hatches.length x last=false:=by rw[hsh'];decide
  refine Gs 5 O (zmX O tg72 ts72 hB_c.cells O (G.call O Tryz.call164 (ze4 x _ D _ (RSt.put hk_x ht_x hs_x hb_x) (ku hsh')) ?_))
  rintro _ wz4 ⟨rfl,hz4⟩
  obtain⟨hE,hvs,hhs,hbd,hl,hB_b,hL1⟩:=Tr7 hz4 hE hvs hhs hbd hl hB_b hL1
  obtain⟨hc_x,hk_x,ht_x,hs_x,hb_x,hB_c⟩:=Tr6 hz4 hc_x hk_x ht_x hs_x hb_x hB_c
  refine zmR O O (zms O (by first | exact za | rfl)) (Gs 2 O (G.bool O (fun hnu=>?_) (fun hnu=>?_)))
  .
   have hnu':zL x=false:=by simpa using hnu
   refine Gs 12 O (zls tr123 O ⟨_,rfl,by rw[hall,hst,zy,zp3 hshn,zp4 hnu'];rfl,hE⟩)
  have hnu':¬ zL x=false:=by simpa using hnu
  refine Gs 6 O (zmV O tg22 (hB_b.cells 0 _ O) (Gs 1 O (zmX O tg70 ts70 (hB_c.cells.sub 4 3) O ?_)))
  have hbx:=qR hm_x
  rw[St.bulk_eq]at hbx
  refine G.call O Tryz.call162 (zb8 f.vars false v1 _ _ _ _ x.term hg hvs (RTm.put hk_x) (by omega)) ?_
  rintro _ wz5 ⟨rfl,hz5⟩
  obtain⟨hE,hvs,hhs,hbd,hl,hB_b,hL1⟩:=Tr7 hz5 hE hvs hhs hbd hl hB_b hL1
  obtain⟨hc_x,hk_x,ht_x,hs_x,hb_x,hB_c⟩:=Tr6 hz5 hc_x hk_x ht_x hs_x hb_x hB_c
  refine Gs 9 O (zlc O (fun tz=>?_) (fun tz=>?_))
  . refine Gs 13 O (zls tr123 O ⟨_,rfl,by rw[hall,hst,zy,zp3 hshn,zp3 hnu',zp4 tz,zp4 tz],hE⟩)
  have hcode:zz f.vars f.hatches.length x last=if stepsCodeN f.vars f.hatches.length x.thn false ≠ 0 then stepsCodeN f.vars f.hatches.length x.thn false else stepsCodeN f.vars f.hatches.length x.els false:=by rw[zy,zp3 hshn,zp3 hnu',zp3 tz]
  refine Gs 5 O (zmV O tg24 (hB_c.cells 7 _ O) (Gs 1 O (zmV O tg24 (hB_c.cells 8 _ O) (zlY O O (M.buildSlice (cs:=[.slice a2_x x.thn.length n2_x,.slice a3_x x.els.length n3_x]) [(0,_),(1,_)] Tryz.runUnderlying230 ts24 Tryz.zeroValue24 (by decide) O (by kernel_rfl)) ?_))))
  rintro _ w3 ⟨b3,rfl,hg_b3,hs_b3,hB_b3,hk_b3⟩
  obtain⟨hE,hvs,hhs,hbd,hl,hB_b,hL1⟩:=Tr7 hk_b3 hE hvs hhs hbd hl hB_b hL1
  obtain⟨hc_x,hk_x,ht_x,hs_x,hb_x,hB_c⟩:=Tr6 hk_b3 hc_x hk_x ht_x hs_x hb_x hB_c
  refine Gs 5 O (G.loop (σ:=Nat) (fun k=>[(1,.slice av l.length nv),(2,.bool top),(3,.pointer (some ⟨b,0,none⟩)),(7,.int .i64 i),(8,.pointer (some ⟨c,0,none⟩)),(13,.slice av l.length nv),(14,.int .i64 l.length),(15,.int .i64 i),(47,.slice (some ⟨b3,0,none⟩) 2 2),(48,.int .i64 2),(49,.int .i64 k)]) (fun k=>fun w'=>k<=2/\(1<=k->stepsCodeN f.vars f.hatches.length x.thn false=0)/\(2<=k->stepsCodeN f.vars f.hatches.length x.els false=0)/\Ext w3 w') (fun k=>2 - k) (0) (Sub.of O) (⟨zp8 _,fun h=>absurd h (by decide),fun h=>absurd h (by decide),Keep.refl _ _⟩) ?_)
  rintro k w4 ⟨hk2,hk0,hk1,hL2⟩
  obtain⟨hE,hvs,hhs,hbd,hl,hB_b,hL1⟩:=Tr7 hL2 hE hvs hhs hbd hl hB_b hL1
  obtain⟨hc_x,hk_x,ht_x,hs_x,hb_x,hB_c,hB_b3⟩:=Tr7 hL2 hc_x hk_x ht_x hs_x hb_x hB_c hB_b3
  refine Gs 6 O (zlc O (fun klt=>?_) (fun klt=>?_))
  .
   rcases (show k=0\/k=1 by omega) with rfl | rfl
   .
    refine Ga 7 O (by omega) (zmV O tg24 (hB_b3.cells 0 _ O) (Gs 5 O (zmX O tg26 ts26 hB_b.cells O (Gs 1 O (G.call O Tryz.call123 ((ih x hm_x).1 _ _ _ false ⟨hvs,hhs,hbd⟩ ht_x (by omega)) ?_)))))
    rintro _ wz6 ⟨rfl,hz6⟩
    obtain⟨hE,hvs,hhs,hbd,hl,hB_b,hL1⟩:=Tr7 hz6 hE hvs hhs hbd hl hB_b hL1
    obtain⟨hc_x,hk_x,ht_x,hs_x,hb_x,hB_c,hB_b3⟩:=Tr7 hz6 hc_x hk_x ht_x hs_x hb_x hB_c hB_b3
    replace hL2:=Tr1 hz6 hL2
    refine Gs 9 O (zlc O (fun tz1=>?_) (fun tz1=>?_))
    . refine Gs 16 O (zls tr123 O ⟨_,rfl,by rw[hall,hst,hcode,zp4 tz1,zp4 tz1],hE⟩)
    refine Ga 7 O (by omega) (G.back (1) (Sub.of O) (⟨by omega,fun _=>by omega,fun h=>absurd h (by decide),hL2⟩) (by first | omega | (dsimp only;omega)))
   refine Ga 7 O (by omega) (zmV O tg24 (hB_b3.cells 1 _ O) (Gs 5 O (zmX O tg26 ts26 hB_b.cells O (Gs 1 O (G.call O Tryz.call123 ((ih x hm_x).2 _ _ _ false ⟨hvs,hhs,hbd⟩ hs_x (by omega)) ?_)))))
   rintro _ wz7 ⟨rfl,hz7⟩
   obtain⟨hE,hvs,hhs,hbd,hl,hB_b,hL1⟩:=Tr7 hz7 hE hvs hhs hbd hl hB_b hL1
   obtain⟨hc_x,hk_x,ht_x,hs_x,hb_x,hB_c,hB_b3⟩:=Tr7 hz7 hc_x hk_x ht_x hs_x hb_x hB_c hB_b3
   replace hL2:=Tr1 hz7 hL2
   refine Gs 9 O ?_
   have hthn:=hk0 (zpi _)
   have hcode2:zz f.vars f.hatches.length x last=stepsCodeN f.vars f.hatches.length x.els false:=by rw[hcode,zp3 (by simp[hthn])]
   refine zlc O (fun tz1=>?_) (fun tz1=>?_)
   . refine Gs 16 O (zls tr123 O ⟨_,rfl,by rw[hall,hst,hcode2,zp4 tz1],hE⟩)
   refine Ga 7 O (by omega) (G.back (2) (Sub.of O) (⟨by omega,fun _=>hthn,fun _=>by omega,hL2⟩) (by first | omega | (dsimp only;omega)))
  have hx0:zz f.vars f.hatches.length x last=0:=by rw[hcode,zp3 (by simp[hk0 (by omega)]),hk1 (by omega)]
  refine Ga 10 O (by omega) (G.back (i+1) (Sub.of O) (⟨by omega,by rw[hall,hst,hx0,zp3 (by decide)],hL1⟩) (by first | omega | (dsimp only;omega)))
 have hii:i=l.length:=by omega
 subst hii
 refine Gs 11 O (zls tr123 O ⟨_,rfl,by rw[hall,zqa];rfl,hE⟩)
open Go.GL
def zkM (s:St):Bool:=decide (s.cost<0) || decide (xO s.act<s.cost) || decide (s.n<0) || (decide (s.act=4)&&decide (4096<s.n))
def zhD (s:St):Bool:=decide ((0:Int)<s.bounds.length)&&decide (67108864<s.bounds[s.bounds.length - 1]?.getD 0)
theorem zbR {vs:List Vr} {nh:Nat} {s:St} {last:Bool} (h:zf vs nh s last=true):zL s=(!zkM s&&!zhD s):=by
 have h0:(s.n<0->s.act=4)/\(s.act ≠ 6->s.bounds.length=0):=by
  unfold zf at h
  repeat' split at h
  all_goals simp[zaj]at h
  all_goals (refine⟨fun hn=>?_,fun h6=>?_⟩<;>first | omega | simp_all)
 have h1:=ku h
 unfold zL zkM zhD
 rw[zpz]
 simp only[zpv,zpD,Bool.and_eq_false_iff,zpG,zpH,decide_eq_false_iff_not,decide_eq_true_eq]
 generalize s.bounds[s.bounds.length - 1]?.getD 0=e
 omega
theorem zcu (f:Fl) (v1 v2 v3:Value) (hg:∀ v ∈ f.vars,yz (v.low,v.high)) (Df:Nat->Prop) (l:List St):∀ (v:Value) (D:Nat->Prop) (w:World) (top:Bool),RFl Df w f v1 v2 v3->SlR 10 RSt D w v l->sbulk l<=1000000->Calls Tryz.prog 64 #[.agg #[v1,v2,v3],v,.bool top] w (Ret fun r w'=>r=.int .i64 (stepsCodeN f.vars f.hatches.length l top)/\Ext w w'):=by
 induction l using zmB with
 | h l ih =>
 intro v D w top hf hl hb
 obtain⟨hvs,hhs,hbd⟩:=hf
 have hmx:=hl.max
 obtain⟨av,nv,rfl⟩:=hl.form
 have hE:=Keep.refl (fun _=>False) w
 refine zn3 Tryz.func64 O Tryz.ntmps64 O (Gs 2 O (zlY O O (M.box O O) ?_))
 rintro _ w_b ⟨b,rfl,hg_b,hs_b,hB_b,hk_b⟩
 have hge_b:_<=b:=zoZ hE.size (zri hg_b.symm)
 obtain⟨hE,hvs,hhs,hbd,hl⟩:=Tr5 hk_b hE hvs hhs hbd hl
 refine Gs 10 O (G.loop (σ:=Nat) (fun i=>[(1,.slice av l.length nv),(2,.bool top),(3,.pointer (some ⟨b,0,none⟩)),(7,.int .i64 i)]) (fun i=>fun w'=>i<=l.length/\stepsCodeN f.vars f.hatches.length l top=stepsCodeN f.vars f.hatches.length (l.drop i) top/\Ext w_b w') (fun i=>l.length - i) (0) (Sub.of O) (⟨zp8 _,rfl,Keep.refl _ _⟩) ?_)
 rintro i w1 ⟨hi,hall,hL1⟩
 obtain⟨hE,hvs,hhs,hbd,hl,hB_b⟩:=Tr6 hL1 hE hvs hhs hbd hl hB_b
 refine Gs 9 O (zlc O (fun hlt=>?_) (fun hlt=>?_))
 .
  obtain⟨x,he_x,hm_x⟩:=gE_ l (i) (by omega)
  obtain⟨b_x,o_x,c_x,ha_x,_,hc_x,hR_x⟩:=hl.at he_x
  have h1_x:=RSt.one hR_x
  obtain⟨v1_x,v2_x,v3_x,v4_x,rfl,hk_x,ht_x,hs_x,hb_x⟩:=hR_x.get
  obtain⟨a1_x,n1_x,rfl⟩:=hk_x.form
  obtain⟨a2_x,n2_x,rfl⟩:=ht_x.form
  obtain⟨a3_x,n3_x,rfl⟩:=hs_x.form
  obtain⟨a4_x,n4_x,rfl⟩:=hb_x.form
  have hlt_x:b_x<_:=zoV _ _ (hc_x 0 _ rfl)
  have hst:=jx f.vars f.hatches.length top l i x he_x
  refine Gs 8 O (zmR O O (zlO tR24 ts72 O O ha_x (by omega)) (zmX O tg72 ts72 hc_x O (zlY O O (M.alloc (cs:=_) tz72 O) ?_)))
  rintro _ wa1 ⟨c,rfl,hg_c,hs_c,hB_c,hk_c⟩
  refine zm3 O (zm4 ts72 O O O O h1_x hB_c (by simp)) ?_
  rintro w_c ⟨_,hB_c,hkk_c⟩
  replace hk_c:=hk_c.trans hkk_c (fun q hq h=>by have h:q=c:=h;omega)
  have hn_b_c:b ≠ c:=by have:=hB_b.lt;omega
  have hge_c:_<=c:=zoZ hE.size (zri hg_c.symm)
  obtain⟨hE,hvs,hhs,hbd,hl,hB_b,hL1⟩:=Tr7 hk_c hE hvs hhs hbd hl hB_b hL1
  obtain⟨hc_x,hk_x,ht_x,hs_x,hb_x⟩:=Tr5 hk_c hc_x hk_x ht_x hs_x hb_x
  have hnl:((l.length:Int) - 1=((l.length - 1:Nat):Int)):=by omega
  refine Gs 4 O ?_
  have hC:=Keep.refl (fun _=>False) w_c
  refine zln (σ:=Bool) (fun q=>[(1,.slice av l.length nv),(2,.bool top),(3,.pointer (some ⟨b,0,none⟩)),(7,.int .i64 i),(8,.pointer (some ⟨c,0,none⟩)),(32,.bool q)]) (fun q=>fun w'=>q=!(zf f.vars f.hatches.length x (top&&decide (i=l.length - 1)))/\Ext w_c w') ?_ ?_
  .
   refine Gs 1 O (zmX O tg26 ts26 hB_b.cells O (zmX O tg72 ts72 hB_c.cells O (Gs 2 O (zmP 24 O (fun tt=>?_) (fun tt=>?_)))))
   .
    refine Ga 6 O (by omega) (G.call O Tryz.call112 (zab f x _ v1 v2 v3 _ _ _ _ ⟨hvs,hhs,hbd⟩ (RSt.put hk_x ht_x hs_x hb_x)) ?_)
    rintro _ wz2 ⟨rfl,hz2⟩
    obtain⟨hE,hvs,hhs,hbd,hl,hB_b,hL1⟩:=Tr7 hz2 hE hvs hhs hbd hl hB_b hL1
    obtain⟨hc_x,hk_x,ht_x,hs_x,hb_x,hB_c,hC⟩:=Tr7 hz2 hc_x hk_x ht_x hs_x hb_x hB_c hC
    refine zmR O O (zms O (by first | exact za | rfl)) (Gs 1 O ?_)
    refine zlp (_) (Sub.of O) (⟨by rw[tt,zpL];congr 2;simp only[zpl];omega,hC⟩)
   refine Gs 6 O (G.call O Tryz.call112 (zab f x _ v1 v2 v3 _ _ _ _ ⟨hvs,hhs,hbd⟩ (RSt.put hk_x ht_x hs_x hb_x)) ?_)
   rintro _ wz3 ⟨rfl,hz3⟩
   obtain⟨hE,hvs,hhs,hbd,hl,hB_b,hL1⟩:=Tr7 hz3 hE hvs hhs hbd hl hB_b hL1
   obtain⟨hc_x,hk_x,ht_x,hs_x,hb_x,hB_c,hC⟩:=Tr7 hz3 hc_x hk_x ht_x hs_x hb_x hB_c hC
   refine zmR O O (zms O (by first | exact za | rfl)) (Gs 1 O ?_)
   refine zlp (_) (Sub.of O) (⟨by rw[tt,zpA],hC⟩)
  rintro q w_n ⟨hq,hX1⟩
  subst hq
  obtain⟨hE,hvs,hhs,hbd,hl,hB_b,hL1⟩:=Tr7 hX1 hE hvs hhs hbd hl hB_b hL1
  obtain⟨hc_x,hk_x,ht_x,hs_x,hb_x,hB_c⟩:=Tr6 hX1 hc_x hk_x ht_x hs_x hb_x hB_c
  generalize hlast:(top&&decide (i=l.length - 1))=last at *
  refine Gs 1 O (G.bool O (fun hsh=>?_) (fun hsh=>?_))
  .
   have hsh':zf f.vars f.hatches.length x last=false:=by simpa using hsh
   refine Gs 12 O (zls tr64 O ⟨_,rfl,by rw[hall,hst,zy,zp4 hsh'];rfl,hE⟩)
  have hsh':zf f.vars f.hatches.length x last=true:=by simpa using hsh
  have hshn:¬ zf f.vars f.hatches.length x last=false:=by rw[hsh'];decide
  refine Gs 11 O (zmV O tg66 (hB_c.cells 0 _ O) (Gs 3 O (zlc O (fun a2=>?_) (fun a2=>?_))))
  .
   have hct:xO x.act=67108864:=by rw[xO,zp4 a2]
   have hnb:zL x=(!(decide (x.cost<0) || decide (67108864<x.cost) || decide (x.n<0) || (decide (x.act=4)&&decide (4096<x.n)))&&!zhD x):=by rw[zbR hsh',zkM,hct]
   refine Gs 6 O ?_
   have hC:=Keep.refl (fun _=>False) w_n
   refine zln (σ:=Bool) (fun q=>[(1,.slice av l.length nv),(2,.bool top),(3,.pointer (some ⟨b,0,none⟩)),(7,.int .i64 i),(8,.pointer (some ⟨c,0,none⟩)),(59,.bool q)]) (fun q=>fun w'=>q=(decide (x.cost<0) || decide (67108864<x.cost) || decide (x.n<0) || (decide (x.act=4)&&decide (4096<x.n)))/\Ext w_n w') ?_ ?_
   .
    refine Gs 2 O (zmV O tg3 (hB_c.cells 1 _ O) (Gs 2 O (G.sp 39 O (fun hh4=>?_) (fun hh4=>?_))))
    .
     refine Gs 21 O ?_
     refine zlp (_) (Sub.cons O (Sub.cons O (Sub.cons O (Sub.cons O (Sub.cons O (Sub.cons (by first | rfl | (show some (Value.bool true)=some (Value.bool _);simp[*])) Sub.nil)))))) (⟨by first | (simp only[a2,hh4,decide_true,zpM];done) | (simp[hlt,hsh,a2,hh4];done) | (exfalso;omega),hC⟩)
    refine Gs 1 O (zmV O tg3 (hB_c.cells 1 _ O) (Gs 4 O (G.sp 45 O (fun hh5=>?_) (fun hh5=>?_))))
    .
     refine Gs 15 O ?_
     refine zlp (_) (Sub.cons O (Sub.cons O (Sub.cons O (Sub.cons O (Sub.cons O (Sub.cons (by first | rfl | (show some (Value.bool true)=some (Value.bool _);simp[*])) Sub.nil)))))) (⟨by first | (simp only[a2,hh4,hh5,decide_true,decide_false,zpJ,zpM];done) | (simp[hlt,hsh,a2,hh4,hh5];done) | (exfalso;omega),hC⟩)
    refine Gs 1 O (zmV O tg3 (hB_c.cells 3 _ O) (Gs 3 O (G.sp 50 O (fun hh6=>?_) (fun hh6=>?_))))
    .
     refine Gs 10 O ?_
     refine zlp (_) (Sub.cons O (Sub.cons O (Sub.cons O (Sub.cons O (Sub.cons O (Sub.cons (by first | rfl | (show some (Value.bool true)=some (Value.bool _);simp[*])) Sub.nil)))))) (⟨by first | (simp only[a2,hh4,hh5,hh6,decide_true,decide_false,zpJ,zpM,zpI];done) | (simp[hlt,hsh,a2,hh4,hh5,hh6];done) | (exfalso;omega),hC⟩)
    refine Gs 1 O (zmV O tg66 (hB_c.cells 0 _ O) (Gs 2 O (G.sp 54 O (fun hh7=>?_) (fun hh7=>?_))))
    .
     refine Gs 1 O (zmV O tg3 (hB_c.cells 3 _ O) (Gs 4 O ?_))
     refine zlp (_) (Sub.of O) (⟨by first | (simp only[a2,hh4,hh5,hh6,decide_false,zpI,zpC];done) | (simp[a2,hh4,hh5,hh6];done) | (exfalso;omega),hC⟩)
    refine Gs 6 O ?_
    refine zlp (_) (Sub.cons O (Sub.cons O (Sub.cons O (Sub.cons O (Sub.cons O (Sub.cons (by first | rfl | (show some (Value.bool false)=some (Value.bool _);simp[*])) Sub.nil)))))) (⟨by first | (simp only[a2,hh4,hh5,hh6,decide_false,zpI,zpC];done) | (simp[a2,hh4,hh5,hh6];done) | (exfalso;omega),hC⟩)
   rintro q x2 ⟨hq,hX2⟩
   subst hq
   obtain⟨hE,hvs,hhs,hbd,hl,hB_b,hL1⟩:=Tr7 hX2 hE hvs hhs hbd hl hB_b hL1
   obtain⟨hc_x,hk_x,ht_x,hs_x,hb_x,hB_c⟩:=Tr6 hX2 hc_x hk_x ht_x hs_x hb_x hB_c
   refine Gs 1 O (G.bool O (fun hba=>?_) (fun hba=>?_))
   . refine Gs 12 O (zls tr64 O ⟨_,rfl,by rw[hall,hst,zy,zp3 hshn,zp4 (show zL x=false by simp[hnb,hba])];rfl,hE⟩)
   rw[hba,zpE,zpL]at hnb
   refine Gs 4 O ?_
   have hC:=Keep.refl (fun _=>False) x2
   refine zln (σ:=Bool) (fun q=>[(1,.slice av l.length nv),(2,.bool top),(3,.pointer (some ⟨b,0,none⟩)),(7,.int .i64 i),(8,.pointer (some ⟨c,0,none⟩)),(74,.bool q)]) (fun q=>fun w'=>q=zhD x/\Ext x2 w') ?_ ?_
   .
    by_cases hbl:0<x.bounds.length
    .
     obtain⟨y,hy⟩:∃ y,x.bounds[x.bounds.length - 1]?=some y:=⟨_,zoT (by omega)⟩
     obtain⟨b_e,o_e,c_e,ha_e,_,hc_e,hR_e⟩:=hb_x.at hy
     obtain rfl:=hR_e
     have hmxb:=hb_x.max
     have hto:((x.bounds.length:Int) - 1).toNat=x.bounds.length - 1:=by omega
     refine Gs 2 O (zmV O tg27 (hB_c.cells 9 _ O) (Gs 3 O (G.sp 64 O (fun hb0=>?_) (fun hb0=>?_))))
     .
      refine Gs 1 O (zmV O tg27 (hB_c.cells 9 _ O) (Gs 1 O (zmV O tg27 (hB_c.cells 9 _ O) (Ga 2 O (by omega) (zmR O O (zlO tR27 ts3 O O ha_e (by omega)) (zmV O tg3 (by rw[hto];exact hc_e 0 _ O) (Gs 3 O ?_)))))))
      refine zlp (_) (Sub.of O) (⟨by unfold zhD;rw[zp5 hb0,zpL,hy];rfl,hC⟩)
     exact absurd (by omega) hb0
    refine Gs 2 O (zmV O tg27 (hB_c.cells 9 _ O) (Gs 3 O (G.sp 64 O (fun hb0=>?_) (fun hb0=>?_))))
    . exact absurd hb0 (by omega)
    refine Gs 11 O ?_
    refine zlp (_) (Sub.cons O (Sub.cons O (Sub.cons O (Sub.cons O (Sub.cons O (Sub.cons (by first | rfl | (show some (Value.bool false)=some (Value.bool _);simp[*])) Sub.nil)))))) (⟨by unfold zhD;rw[zp6 hb0];rfl,hC⟩)
   rintro q x3 ⟨hq,hX3⟩
   subst hq
   obtain⟨hE,hvs,hhs,hbd,hl,hB_b,hL1⟩:=Tr7 hX3 hE hvs hhs hbd hl hB_b hL1
   obtain⟨hc_x,hk_x,ht_x,hs_x,hb_x,hB_c⟩:=Tr6 hX3 hc_x hk_x ht_x hs_x hb_x hB_c
   refine Gs 1 O (G.bool O (fun hbb=>?_) (fun hbb=>?_))
   . refine Gs 12 O (zls tr64 O ⟨_,rfl,by rw[hall,hst,zy,zp3 hshn,zp4 (show zL x=false by simp[hnb,hbb])];rfl,hE⟩)
   have hnu':¬ zL x=false:=by rw[hnb,hbb];decide
   have hbx:=qR hm_x
   rw[St.bulk_eq]at hbx
   refine Gs 5 O (zmV O tg22 (hB_b.cells 0 _ O) (Gs 1 O (zmX O tg70 ts70 (hB_c.cells.sub 4 3) O (G.call O Tryz.call63 (xN f.vars false v1 _ _ _ _ x.term hg hvs (RTm.put hk_x) (by omega)) ?_))))
   rintro _ wz8 ⟨rfl,hz8⟩
   obtain⟨hE,hvs,hhs,hbd,hl,hB_b,hL1⟩:=Tr7 hz8 hE hvs hhs hbd hl hB_b hL1
   obtain⟨hc_x,hk_x,ht_x,hs_x,hb_x,hB_c⟩:=Tr6 hz8 hc_x hk_x ht_x hs_x hb_x hB_c
   refine Gs 10 O (zlc O (fun tz=>?_) (fun tz=>?_))
   . refine Gs 13 O (zls tr64 O ⟨_,rfl,by rw[hall,hst,zy,zp3 hshn,zp3 hnu',zp4 tz,zp4 tz],hE⟩)
   have hcode:zz f.vars f.hatches.length x last=if stepsCodeN f.vars f.hatches.length x.thn false ≠ 0 then stepsCodeN f.vars f.hatches.length x.thn false else stepsCodeN f.vars f.hatches.length x.els false:=by rw[zy,zp3 hshn,zp3 hnu',zp3 tz]
   refine Gs 4 O (zmX O tg26 ts26 hB_b.cells O (Gs 1 O (zmV O tg24 (hB_c.cells 7 _ O) (G.call O tc64 ((ih x hm_x).1 _ _ _ false ⟨hvs,hhs,hbd⟩ ht_x (by omega)) ?_))))
   rintro _ wz9 ⟨rfl,hz9⟩
   obtain⟨hE,hvs,hhs,hbd,hl,hB_b,hL1⟩:=Tr7 hz9 hE hvs hhs hbd hl hB_b hL1
   obtain⟨hc_x,hk_x,ht_x,hs_x,hb_x,hB_c⟩:=Tr6 hz9 hc_x hk_x ht_x hs_x hb_x hB_c
   refine Gs 10 O (zlc O (fun tz1=>?_) (fun tz1=>?_))
   . refine Gs 13 O (zls tr64 O ⟨_,rfl,by rw[hall,hst,hcode,zp4 tz1,zp4 tz1],hE⟩)
   have hcode2:zz f.vars f.hatches.length x last=stepsCodeN f.vars f.hatches.length x.els false:=by rw[hcode,zp3 tz1]
   refine Gs 4 O (zmX O tg26 ts26 hB_b.cells O (Gs 1 O (zmV O tg24 (hB_c.cells 8 _ O) (G.call O tc64 ((ih x hm_x).2 _ _ _ false ⟨hvs,hhs,hbd⟩ hs_x (by omega)) ?_))))
   rintro _ wz10 ⟨rfl,hz10⟩
   obtain⟨hE,hvs,hhs,hbd,hl,hB_b,hL1⟩:=Tr7 hz10 hE hvs hhs hbd hl hB_b hL1
   obtain⟨hc_x,hk_x,ht_x,hs_x,hb_x,hB_c⟩:=Tr6 hz10 hc_x hk_x ht_x hs_x hb_x hB_c
   refine Gs 9 O (zlc O (fun tz2=>?_) (fun tz2=>?_))
   . refine Gs 12 O (zls tr64 O ⟨_,rfl,by rw[hall,hst,hcode2,zp4 tz2],hE⟩)
   refine Ga 8 O (by omega) (G.back (i+1) (Sub.of O) (⟨by omega,by rw[hall,hst,hcode2,zp3 tz2],hL1⟩) (by first | omega | (dsimp only;omega)))
  have hct:xO x.act=10000:=by rw[xO,zp3 a2]
  have hnb:zL x=(!(decide (x.cost<0) || decide (10000<x.cost) || decide (x.n<0) || (decide (x.act=4)&&decide (4096<x.n)))&&!zhD x):=by rw[zbR hsh',zkM,hct]
  refine Gs 4 O ?_
  have hC:=Keep.refl (fun _=>False) w_n
  refine zln (σ:=Bool) (fun q=>[(1,.slice av l.length nv),(2,.bool top),(3,.pointer (some ⟨b,0,none⟩)),(7,.int .i64 i),(8,.pointer (some ⟨c,0,none⟩)),(59,.bool q)]) (fun q=>fun w'=>q=(decide (x.cost<0) || decide (10000<x.cost) || decide (x.n<0) || (decide (x.act=4)&&decide (4096<x.n)))/\Ext w_n w') ?_ ?_
  .
   refine Gs 2 O (zmV O tg3 (hB_c.cells 1 _ O) (Gs 2 O (G.sp 39 O (fun hh11=>?_) (fun hh11=>?_))))
   .
    refine Gs 21 O ?_
    refine zlp (_) (Sub.cons O (Sub.cons O (Sub.cons O (Sub.cons O (Sub.cons O (Sub.cons (by first | rfl | (show some (Value.bool true)=some (Value.bool _);simp[*])) Sub.nil)))))) (⟨by first | (simp only[hh11,decide_true,zpM];done) | (simp[hlt,hsh,a2,hh11];done) | (exfalso;omega),hC⟩)
   refine Gs 1 O (zmV O tg3 (hB_c.cells 1 _ O) (Gs 4 O (G.sp 45 O (fun hh12=>?_) (fun hh12=>?_))))
   .
    refine Gs 15 O ?_
    refine zlp (_) (Sub.cons O (Sub.cons O (Sub.cons O (Sub.cons O (Sub.cons O (Sub.cons (by first | rfl | (show some (Value.bool true)=some (Value.bool _);simp[*])) Sub.nil)))))) (⟨by first | (simp only[hh11,hh12,decide_true,decide_false,zpJ,zpM];done) | (simp[hlt,hsh,a2,hh11,hh12];done) | (exfalso;omega),hC⟩)
   refine Gs 1 O (zmV O tg3 (hB_c.cells 3 _ O) (Gs 3 O (G.sp 50 O (fun hh13=>?_) (fun hh13=>?_))))
   .
    refine Gs 10 O ?_
    refine zlp (_) (Sub.cons O (Sub.cons O (Sub.cons O (Sub.cons O (Sub.cons O (Sub.cons (by first | rfl | (show some (Value.bool true)=some (Value.bool _);simp[*])) Sub.nil)))))) (⟨by first | (simp only[hh11,hh12,hh13,decide_true,decide_false,zpJ,zpM,zpI];done) | (simp[hlt,hsh,a2,hh11,hh12,hh13];done) | (exfalso;omega),hC⟩)
   refine Gs 1 O (zmV O tg66 (hB_c.cells 0 _ O) (Gs 2 O (G.sp 54 O (fun hh14=>?_) (fun hh14=>?_))))
   .
    refine Gs 1 O (zmV O tg3 (hB_c.cells 3 _ O) (Gs 4 O ?_))
    refine zlp (_) (Sub.of O) (⟨by first | (simp only[hh11,hh12,hh13,hh14,decide_true,decide_false,zpL,zpI,zpC];done) | (simp[hlt,hsh,a2,hh11,hh12,hh13,hh14];done) | (exfalso;omega),hC⟩)
   refine Gs 6 O ?_
   refine zlp (_) (Sub.cons O (Sub.cons O (Sub.cons O (Sub.cons O (Sub.cons O (Sub.cons (by first | rfl | (show some (Value.bool false)=some (Value.bool _);simp[*])) Sub.nil)))))) (⟨by first | (simp only[hh11,hh12,hh13,hh14,decide_false,zpA,zpI];done) | (simp[hlt,hsh,a2,hh11,hh12,hh13,hh14];done) | (exfalso;omega),hC⟩)
  rintro q x2 ⟨hq,hX2⟩
  subst hq
  obtain⟨hE,hvs,hhs,hbd,hl,hB_b,hL1⟩:=Tr7 hX2 hE hvs hhs hbd hl hB_b hL1
  obtain⟨hc_x,hk_x,ht_x,hs_x,hb_x,hB_c⟩:=Tr6 hX2 hc_x hk_x ht_x hs_x hb_x hB_c
  refine Gs 1 O (G.bool O (fun hba=>?_) (fun hba=>?_))
  . refine Gs 12 O (zls tr64 O ⟨_,rfl,by rw[hall,hst,zy,zp3 hshn,zp4 (show zL x=false by simp[hnb,hba])];rfl,hE⟩)
  rw[hba,zpE,zpL]at hnb
  refine Gs 4 O ?_
  have hC:=Keep.refl (fun _=>False) x2
  refine zln (σ:=Bool) (fun q=>[(1,.slice av l.length nv),(2,.bool top),(3,.pointer (some ⟨b,0,none⟩)),(7,.int .i64 i),(8,.pointer (some ⟨c,0,none⟩)),(74,.bool q)]) (fun q=>fun w'=>q=zhD x/\Ext x2 w') ?_ ?_
  .
   by_cases hbl:0<x.bounds.length
   .
    obtain⟨y,hy⟩:∃ y,x.bounds[x.bounds.length - 1]?=some y:=⟨_,zoT (by omega)⟩
    obtain⟨b_e,o_e,c_e,ha_e,_,hc_e,hR_e⟩:=hb_x.at hy
    obtain rfl:=hR_e
    have hmxb:=hb_x.max
    have hto:((x.bounds.length:Int) - 1).toNat=x.bounds.length - 1:=by omega
    refine Gs 2 O (zmV O tg27 (hB_c.cells 9 _ O) (Gs 3 O (G.sp 64 O (fun hb0=>?_) (fun hb0=>?_))))
    .
     refine Gs 1 O (zmV O tg27 (hB_c.cells 9 _ O) (Gs 1 O (zmV O tg27 (hB_c.cells 9 _ O) (Ga 2 O (by omega) (zmR O O (zlO tR27 ts3 O O ha_e (by omega)) (zmV O tg3 (by rw[hto];exact hc_e 0 _ O) (Gs 3 O ?_)))))))
     refine zlp (_) (Sub.of O) (⟨by unfold zhD;rw[zp5 hb0,zpL,hy];rfl,hC⟩)
    exact absurd (by omega) hb0
   refine Gs 2 O (zmV O tg27 (hB_c.cells 9 _ O) (Gs 3 O (G.sp 64 O (fun hb0=>?_) (fun hb0=>?_))))
   . exact absurd hb0 (by omega)
   refine Gs 11 O ?_
   refine zlp (_) (Sub.cons O (Sub.cons O (Sub.cons O (Sub.cons O (Sub.cons O (Sub.cons (by first | rfl | (show some (Value.bool false)=some (Value.bool _);simp[*])) Sub.nil)))))) (⟨by unfold zhD;rw[zp6 hb0];rfl,hC⟩)
  rintro q x3 ⟨hq,hX3⟩
  subst hq
  obtain⟨hE,hvs,hhs,hbd,hl,hB_b,hL1⟩:=Tr7 hX3 hE hvs hhs hbd hl hB_b hL1
  obtain⟨hc_x,hk_x,ht_x,hs_x,hb_x,hB_c⟩:=Tr6 hX3 hc_x hk_x ht_x hs_x hb_x hB_c
  refine Gs 1 O (G.bool O (fun hbb=>?_) (fun hbb=>?_))
  . refine Gs 12 O (zls tr64 O ⟨_,rfl,by rw[hall,hst,zy,zp3 hshn,zp4 (show zL x=false by simp[hnb,hbb])];rfl,hE⟩)
  have hnu':¬ zL x=false:=by rw[hnb,hbb];decide
  have hbx:=qR hm_x
  rw[St.bulk_eq]at hbx
  refine Gs 5 O (zmV O tg22 (hB_b.cells 0 _ O) (Gs 1 O (zmX O tg70 ts70 (hB_c.cells.sub 4 3) O (G.call O Tryz.call63 (xN f.vars false v1 _ _ _ _ x.term hg hvs (RTm.put hk_x) (by omega)) ?_))))
  rintro _ wz15 ⟨rfl,hz15⟩
  obtain⟨hE,hvs,hhs,hbd,hl,hB_b,hL1⟩:=Tr7 hz15 hE hvs hhs hbd hl hB_b hL1
  obtain⟨hc_x,hk_x,ht_x,hs_x,hb_x,hB_c⟩:=Tr6 hz15 hc_x hk_x ht_x hs_x hb_x hB_c
  refine Gs 10 O (zlc O (fun tz=>?_) (fun tz=>?_))
  . refine Gs 13 O (zls tr64 O ⟨_,rfl,by rw[hall,hst,zy,zp3 hshn,zp3 hnu',zp4 tz,zp4 tz],hE⟩)
  have hcode:zz f.vars f.hatches.length x last=if stepsCodeN f.vars f.hatches.length x.thn false ≠ 0 then stepsCodeN f.vars f.hatches.length x.thn false else stepsCodeN f.vars f.hatches.length x.els false:=by rw[zy,zp3 hshn,zp3 hnu',zp3 tz]
  refine Gs 4 O (zmX O tg26 ts26 hB_b.cells O (Gs 1 O (zmV O tg24 (hB_c.cells 7 _ O) (G.call O tc64 ((ih x hm_x).1 _ _ _ false ⟨hvs,hhs,hbd⟩ ht_x (by omega)) ?_))))
  rintro _ wz16 ⟨rfl,hz16⟩
  obtain⟨hE,hvs,hhs,hbd,hl,hB_b,hL1⟩:=Tr7 hz16 hE hvs hhs hbd hl hB_b hL1
  obtain⟨hc_x,hk_x,ht_x,hs_x,hb_x,hB_c⟩:=Tr6 hz16 hc_x hk_x ht_x hs_x hb_x hB_c
  refine Gs 10 O (zlc O (fun tz1=>?_) (fun tz1=>?_))
  . refine Gs 13 O (zls tr64 O ⟨_,rfl,by rw[hall,hst,hcode,zp4 tz1,zp4 tz1],hE⟩)
  have hcode2:zz f.vars f.hatches.length x last=stepsCodeN f.vars f.hatches.length x.els false:=by rw[hcode,zp3 tz1]
  refine Gs 4 O (zmX O tg26 ts26 hB_b.cells O (Gs 1 O (zmV O tg24 (hB_c.cells 8 _ O) (G.call O tc64 ((ih x hm_x).2 _ _ _ false ⟨hvs,hhs,hbd⟩ hs_x (by omega)) ?_))))
  rintro _ wz17 ⟨rfl,hz17⟩
  obtain⟨hE,hvs,hhs,hbd,hl,hB_b,hL1⟩:=Tr7 hz17 hE hvs hhs hbd hl hB_b hL1
  obtain⟨hc_x,hk_x,ht_x,hs_x,hb_x,hB_c⟩:=Tr6 hz17 hc_x hk_x ht_x hs_x hb_x hB_c
  refine Gs 9 O (zlc O (fun tz2=>?_) (fun tz2=>?_))
  . refine Gs 12 O (zls tr64 O ⟨_,rfl,by rw[hall,hst,hcode2,zp4 tz2],hE⟩)
  refine Ga 8 O (by omega) (G.back (i+1) (Sub.of O) (⟨by omega,by rw[hall,hst,hcode2,zp3 tz2],hL1⟩) (by first | omega | (dsimp only;omega)))
 have hii:i=l.length:=by omega
 subst hii
 refine Gs 11 O (zls tr64 O ⟨_,rfl,by rw[hall,zqa];rfl,hE⟩)
mutual
def yl:St->Int × Int × Int
 | .mk a c _ n _ f g _=>if a=4 then (1+n*(1+(bds f).1),n*(bds f).2.1,n*(c+(bds f).2.2))
  else (1+max (bds f).1 (bds g).1,if a=1 then 1 else max (bds f).2.1 (bds g).2.1,c+max (bds f).2.2 (bds g).2.2)
def bds:List St->Int × Int × Int
 | []=>(0,0,0)
 | s::r=>((yl s).1+(bds r).1,(yl s).2.1+(bds r).2.1,(yl s).2.2+(bds r).2.2)
end
theorem zV (s:St):yl s=if s.act=4 then (1+s.n*(1+(bds s.thn).1),s.n*(bds s.thn).2.1,s.n*(s.cost+(bds s.thn).2.2))
  else (1+max (bds s.thn).1 (bds s.els).1,if s.act=1 then 1 else max (bds s.thn).2.1 (bds s.els).2.1,s.cost+max (bds s.thn).2.2 (bds s.els).2.2):=by cases s;rw[yl];rfl
theorem zfd (a b:List St):bds (a++b)=((bds a).1+(bds b).1,(bds a).2.1+(bds b).2.1,(bds a).2.2+(bds b).2.2):=by
 induction a with
 | nil=>simp[bds]
 | cons s r ih=>rw[zq5,bds,ih,bds];simp only[Prod.mk.injEq];omega
theorem zeC {l:List St} {i:Nat} {x:St} (h:l[i]?=some x):bds (l.take (i+1))=((bds (l.take i)).1+(yl x).1,(bds (l.take i)).2.1+(yl x).2.1,(bds (l.take i)).2.2+(yl x).2.2):=by
 rw[zd h,zfd];simp[bds]
structure OkS (s:St):Prop where
 cost:0<=s.cost/\s.cost<=67108864
 rep:s.act=4->0<=s.n/\s.n<=4096/\s.els=[]
 free:s.act ≠ 3->s.act ≠ 4->s.thn=[]/\s.els=[]
theorem qf {vs:List Vr} {nh:Nat} {s:St} {last:Bool} (h:zz vs nh s last=0):OkS s/\zD vs false s.term=0/\zf vs nh s last=true/\stepsCodeN vs nh s.thn false=0/\stepsCodeN vs nh s.els false=0:=by
 rw[zy]at h
 split at h
 . cases h
 rename_i h1
 split at h
 . cases h
 rename_i h2
 split at h
 . rename_i h3;exact absurd h h3
 rename_i h3
 split at h
 . rename_i h4;exact absurd h h4
 rename_i h4
 have h1':zf vs nh s last=true:=by simpa using h1
 refine⟨?_,by omega,h1',by omega,h⟩
 have h2':zL s=true:=by simpa using h2
 unfold zL xO at h2'
 simp at h2'
 have hz:∀ l:List St,(l.length:Int)=0->l=[]:=fun l h=>zqc (by omega)
 refine⟨by split at h2'<;>omega,fun h4=>?_,fun h3 h4=>?_⟩
 .
  have hh:=h2'.1.2.resolve_left (fun h=>h h4)
  refine⟨by omega,by omega,?_⟩
  unfold zf at h1'
  rw[zp3 (by omega),zp3 (by omega),zp3 (by omega),zp3 (by omega),zp4 h4]at h1'
  simp at h1'
  exact h1'.1.2
 unfold zf at h1'
 repeat' split at h1'
 all_goals simp[zaj]at h1'
 all_goals first | exact⟨h1'.1.1.1.1,h1'.1.1.1.2⟩ | exact⟨h1'.1.1.1.1.1,h1'.1.1.1.1.2⟩ | exact⟨h1'.1.1.1.1.1.1,h1'.1.1.1.1.1.2⟩ | omega | simp_all
theorem xu {vs:List Vr} {nh:Nat}:∀ (l:List St) (top:Bool),stepsCodeN vs nh l top=0->∀ x ∈ l,∃ last,zz vs nh x last=0
 | [],_,_,x,hx=>by simp at hx
 | s::r,top,h,x,hx=>by
  rw[stepsCodeN]at h
  split at h
  . rename_i h1;exact absurd h h1
  rename_i h1
  rcases zp9.1 hx with rfl | hx
  . exact⟨_,by simpa using h1⟩
  exact xu r top h x hx
theorem zkk (n c a K:Int) (hn:0<=n) (hc:0<=c) (ha:0<=a) (hK:0<=K):min (n*(c+min a K)) K=min (n*(c+a)) K:=by
 rcases Int.le_total a K with h | h
 . rw[Int.min_eq_left h]
 rw[Int.min_eq_right h]
 by_cases h0:n=0
 . subst h0;simp
 have h1:1*(c+K)<=n*(c+K):=zpW (by omega) (by omega)
 have h2:1*(c+a)<=n*(c+a):=zpW (by omega) (by omega)
 omega
def cap (K a:Int):Int:=min a K
theorem zE {K a:Int} (ha:0<=a) (hK:0<=K):0<=cap K a/\cap K a<=K:=by unfold cap;omega
theorem zY {K S x x':Int} (hS:0<=S) (hx:0<=x) (hx':0<=x') (h:cap K x'=cap K x):min (cap K S+x') K=cap K (S+x):=by unfold cap at *;omega
theorem zcv {K c a b:Int} (hc:0<=c) (_:0<=a) (_:0<=b):cap K (c+max (cap K a) (cap K b))=cap K (c+max a b):=by unfold cap;omega
theorem zeD {K a b:Int} (_:0<=a) (_:0<=b):cap K (max (cap K a) (cap K b))=cap K (max a b):=by unfold cap;omega
theorem zbc {K n c a:Int} (hn:0<=n) (hc:0<=c) (ha:0<=a) (hK:0<=K):cap K (n*(c+cap K a))=cap K (n*(c+a)):=by unfold cap;exact zkk n c a K hn hc ha hK
theorem zeE {K n a:Int} (hn:0<=n) (ha:0<=a) (hK:0<=K):cap K (n*cap K a)=cap K (n*a):=by
 have:=zbc (c:=0) hn (zpS 0) ha hK
 rwa [Int.zero_add,Int.zero_add]at this
theorem zgi {K a b:Int} (_:0<=a) (_:0<=b) (h:cap K a=cap K b):cap K (1+a)=cap K (1+b):=by unfold cap at *;omega
theorem qn (n a N A:Int) (hn:0<=n) (hN:n<=N) (ha:0<=a) (hA:a<=A):0<=n*a/\n*a<=N*A :=
 ⟨zpo hn ha,zpU hN hA ha (by omega)⟩
theorem yQ {vs:List Vr} {nh:Nat} (l:List St):∀ top,stepsCodeN vs nh l top=0->0<=(bds l).1/\0<=(bds l).2.1/\0<=(bds l).2.2:=by
 induction l using zmB with
 | h l ih =>
 intro top h
 have hm:=xu l top h
 have key:∀ r:List St,(∀ x ∈ r,x ∈ l)->0<=(bds r).1/\0<=(bds r).2.1/\0<=(bds r).2.2:=by
  intro r
  induction r with
  | nil=>intro _;simp[bds]
  | cons x r ihr =>
   intro hx
   have h1:=ihr (fun y hy=>hx y (zoW _ hy))
   obtain⟨last,h2⟩:=hm x (hx x (zoX ..))
   obtain⟨h3,_,_,h4,h5⟩:=qf h2
   have h6:=(ih x (hx x (zoX ..))).1 _ h4
   have h7:=(ih x (hx x (zoX ..))).2 _ h5
   have h8:=h3.cost
   rw[bds,zV]
   split
   .
    rename_i ha
    have h9:=h3.rep ha
    have p1:=zpo h9.1 (show 0<=1+(bds x.thn).1 by omega)
    have p2:=zpo h9.1 h6.2.1
    have p3:=zpo h9.1 (show 0<=x.cost+(bds x.thn).2.2 by omega)
    simp only
    omega
   simp only
   refine⟨by omega,?_,by omega⟩
   split<;>omega
 exact key l (fun x hx=>hx)
theorem zgj {vs:List Vr} {nh:Nat} {l:List St} {top:Bool} (h:stepsCodeN vs nh l top=0) (i:Nat):0<=(bds (l.take i)).1/\0<=(bds (l.take i)).2.1/\0<=(bds (l.take i)).2.2:=by
 have key:∀ r:List St,(∀ x ∈ r,x ∈ l)->0<=(bds r).1/\0<=(bds r).2.1/\0<=(bds r).2.2:=by
  intro r
  induction r with
  | nil=>intro _;simp[bds]
  | cons x r ihr =>
   intro hx
   have h1:=ihr (fun y hy=>hx y (zoW _ hy))
   obtain⟨last,h2⟩:=xu l top h x (hx x (zoX ..))
   have h3:stepsCodeN vs nh [x] true=0\/stepsCodeN vs nh [x] false=0:=by
    cases last
    . right;simp[stepsCodeN,h2]
    left;simp[stepsCodeN,h2]
   have h4:0<=(bds [x]).1/\0<=(bds [x]).2.1/\0<=(bds [x]).2.2:=by rcases h3 with h3 | h3<;>exact yQ _ _ h3
   simp only[bds]at h4 ⊢
   omega
 exact key _ (fun x hx=>zqK hx)
theorem zac {vs:List Vr} {nh:Nat} {x:St} {last:Bool} (h:zz vs nh x last=0):0<=(yl x).1/\0<=(yl x).2.1/\0<=(yl x).2.2:=by
 have h3:stepsCodeN vs nh [x] true=0\/stepsCodeN vs nh [x] false=0:=by
  cases last
  . right;simp[stepsCodeN,h]
  left;simp[stepsCodeN,h]
 have h4:0<=(bds [x]).1/\0<=(bds [x]).2.1/\0<=(bds [x]).2.2:=by rcases h3 with h3 | h3<;>exact yQ _ _ h3
 simpa[bds] using h4
theorem zad (vs:List Vr) (nh:Nat) (l:List St):∀ (v:Value) (D:Nat->Prop) (w:World) (top:Bool),stepsCodeN vs nh l top=0->SlR 10 RSt D w v l->sbulk l<=1000000->Calls Tryz.prog 65 #[v] w (Ret fun r w'=>r=.tuple #[.int .i64 (cap 4097 (bds l).1),.int .i64 (cap 9 (bds l).2.1),.int .i64 (cap 67108865 (bds l).2.2)]/\Ext w w'):=by
 induction l using zmB with
 | h l ih =>
 intro v D w top hok hl hb
 have hmx:=hl.max
 obtain⟨av,nv,rfl⟩:=hl.form
 refine zn1 Tryz.func65 O Tryz.ntmps65 O (Gs 21 O (G.loop (σ:=Nat) (fun i=>[(0,.slice av l.length nv),(5,.int .i64 (cap 4097 (bds (l.take i)).1)),(6,.int .i64 (cap 9 (bds (l.take i)).2.1)),(7,.int .i64 (cap 67108865 (bds (l.take i)).2.2)),(8,.int .i64 i)]) (fun i=>fun w'=>i<=l.length/\Ext w w') (fun i=>l.length - i) (0) (Sub.of O) (⟨zp8 _,Keep.refl _ _⟩) ?_))
 rintro i w1 ⟨hi,hL1⟩
 replace hl:=Tr1 hL1 hl
 refine Gs 9 O (zlc O (fun hlt=>?_) (fun hlt=>?_))
 .
  obtain⟨x,he_x,hm_x⟩:=gE_ l (i) (by omega)
  obtain⟨b_x,o_x,c_x,ha_x,_,hc_x,hR_x⟩:=hl.at he_x
  have h1_x:=RSt.one hR_x
  obtain⟨v1_x,v2_x,v3_x,v4_x,rfl,hk_x,ht_x,hs_x,hb_x⟩:=hR_x.get
  obtain⟨a1_x,n1_x,rfl⟩:=hk_x.form
  obtain⟨a2_x,n2_x,rfl⟩:=ht_x.form
  obtain⟨a3_x,n3_x,rfl⟩:=hs_x.form
  obtain⟨a4_x,n4_x,rfl⟩:=hb_x.form
  have hlt_x:b_x<_:=zoV _ _ (hc_x 0 _ rfl)
  have hE:=Keep.refl (fun _=>False) w1
  have htk:=zeC he_x
  have htk1:(bds (l.take (i+1))).1=(bds (l.take i)).1+(yl x).1:=by rw[htk]
  have htk2:(bds (l.take (i+1))).2.1=(bds (l.take i)).2.1+(yl x).2.1:=by rw[htk]
  have htk3:(bds (l.take (i+1))).2.2=(bds (l.take i)).2.2+(yl x).2.2:=by rw[htk]
  have hpre:0<=(bds (l.take i)).1/\0<=(bds (l.take i)).2.1/\0<=(bds (l.take i)).2.2:=zgj hok i
  obtain⟨last,hx0⟩:=xu l top hok x hm_x
  obtain⟨hS,_,_,hs1,hs2⟩:=qf hx0
  have hcost:=hS.cost
  have n1:=yQ x.thn _ hs1
  have n2:=yQ x.els _ hs2
  have r1:=zE n1.1 (show (0:Int)<=4097 by decide)
  have r2:=zE n1.2.1 (show (0:Int)<=9 by decide)
  have r3:=zE n1.2.2 (show (0:Int)<=67108865 by decide)
  have r4:=zE n2.1 (show (0:Int)<=4097 by decide)
  have r5:=zE n2.2.1 (show (0:Int)<=9 by decide)
  have r6:=zE n2.2.2 (show (0:Int)<=67108865 by decide)
  have t1:=zE hpre.1 (show (0:Int)<=4097 by decide)
  have t2:=zE hpre.2.1 (show (0:Int)<=9 by decide)
  have t3:=zE hpre.2.2 (show (0:Int)<=67108865 by decide)
  have y:=zac hx0
  have hbx:=qR hm_x
  rw[St.bulk_eq]at hbx
  refine Gs 8 O (zmR O O (zlO tR24 ts72 O O ha_x (by omega)) (zmX O tg72 ts72 hc_x O (zlY O O (M.alloc (cs:=_) tz72 O) ?_)))
  rintro _ wa1 ⟨c,rfl,hg_c,hs_c,hB_c,hk_c⟩
  refine zm3 O (zm4 ts72 O O O O h1_x hB_c (by simp)) ?_
  rintro w_c ⟨_,hB_c,hkk_c⟩
  replace hk_c:=hk_c.trans hkk_c (fun q hq h=>by have h:q=c:=h;omega)
  have hge_c:_<=c:=zoZ hE.size (zri hg_c.symm)
  obtain⟨hl,hL1,hc_x,hk_x,ht_x,hs_x,hb_x⟩:=Tr7 hk_c hl hL1 hc_x hk_x ht_x hs_x hb_x
  replace hE:=Tr1 hk_c hE
  refine Gs 5 O (zmV O tg24 (hB_c.cells 7 _ O) (G.call O Tryz.call65 ((ih x hm_x).1 _ _ _ _ hs1 ht_x (by omega)) ?_))
  rintro _ wz2 ⟨rfl,hz2⟩
  obtain⟨hl,hL1,hc_x,hk_x,ht_x,hs_x,hb_x⟩:=Tr7 hz2 hl hL1 hc_x hk_x ht_x hs_x hb_x
  obtain⟨hE,hB_c⟩:=Tr2 hz2 hE hB_c
  refine Gs 12 O (zmV O tg24 (hB_c.cells 8 _ O) (G.call O Tryz.call65 ((ih x hm_x).2 _ _ _ _ hs2 hs_x (by omega)) ?_))
  rintro _ wz3 ⟨rfl,hz3⟩
  obtain⟨hl,hL1,hc_x,hk_x,ht_x,hs_x,hb_x⟩:=Tr7 hz3 hl hL1 hc_x hk_x ht_x hs_x hb_x
  obtain⟨hE,hB_c⟩:=Tr2 hz3 hE hB_c
  refine Gs 10 O (Dw (fun q=>Ext wz3 q) [] (fun wd4 hD _=>?_))
  refine Ds [0,1,4,5,7] (by kernel_rfl) O (WD.take 8 O (by kernel_rfl) O O O hD (fun w1 hw1=>R.load tg3 O ((hw1.blk hB_c (fun h=>h)).cells 1 _ O)) (Ds [9,10] (by kernel_rfl) O (WD.call 2 O (by kernel_rfl) O O O (F.call (vs:=[_,_]) tc113 O) (zR _ _ _) ?_)))
  rintro _ wz5 ⟨rfl,hz5⟩
  replace hD:=hD.ext hz5
  refine⟨fun _=>hD,?_⟩
  refine Da [3] (by kernel_rfl) O (by omega) (WD.call 6 O (by kernel_rfl) O O O (F.call (vs:=[_,_]) tc113 O) (zR _ _ _) ?_)
  rintro _ wz6 ⟨rfl,hz6⟩
  replace hD:=hD.ext hz6
  refine⟨fun _=>hD,?_⟩
  refine WD.call 11 O (by kernel_rfl) O O O (F.call (vs:=[_,_]) tc113 O) (zR _ _ _) ?_
  rintro _ wz7 ⟨rfl,hz7⟩
  replace hD:=hD.ext hz7
  refine⟨fun _=>hD,?_⟩
  refine Da [12,13,14,15] (by kernel_rfl) O (by omega) (G.done (by kernel_rfl) ?_ _)
  obtain⟨hl,hL1,hc_x,hk_x,ht_x,hs_x,hb_x⟩:=Tr7 hD hl hL1 hc_x hk_x ht_x hs_x hb_x
  obtain⟨hE,hB_c⟩:=Tr2 hD hE hB_c
  refine Gs 5 O (zmV O tg66 (hB_c.cells 0 _ O) (Gs 3 O (zlc O (fun a4=>?_) (fun a4=>?_))))
  .
   have hr:=hS.rep a4
   have p1:=qn x.n (1+cap 4097 (bds x.thn).1) 4096 4098 hr.1 hr.2.1 (by omega) (by omega)
   have p2:=qn x.n (cap 9 (bds x.thn).2.1) 4096 9 hr.1 hr.2.1 (by omega) (by omega)
   have p3:=qn x.n (x.cost+cap 67108865 (bds x.thn).2.2) 4096 134217729 hr.1 hr.2.1 (by omega) (by omega)
   have q1:=zpo hr.1 (show 0<=1+(bds x.thn).1 by omega)
   have q2:=zpo hr.1 n1.2.1
   have q3:=zpo hr.1 (show 0<=x.cost+(bds x.thn).2.2 by omega)
   have f1:cap 4097 (1+x.n*(1+cap 4097 (bds x.thn).1))=cap 4097 (yl x).1:=by rw[zV,zp4 a4];exact zgi p1.1 q1 (zbc hr.1 (by omega) n1.1 (by omega))
   have f2:cap 9 (x.n*cap 9 (bds x.thn).2.1)=cap 9 (yl x).2.1:=by rw[zV,zp4 a4];exact zeE hr.1 n1.2.1 (by omega)
   have f3:cap 67108865 (x.n*(x.cost+cap 67108865 (bds x.thn).2.2))=cap 67108865 (yl x).2.2:=by rw[zV,zp4 a4];exact zbc hr.1 hcost.1 n1.2.2 (by omega)
   have z1:0<=1+x.n*(1+cap 4097 (bds x.thn).1):=by omega
   have z2:=p2.1
   have z3:=p3.1
   refine Qt (by kernel_rfl) (Gs 1 O (zmW O tg3 (fun w1 hw1=>((hw1.blk hB_c (fun h=>h)).cells 3 _ O)) (Ga 5 O (by omega) (zmW O tg3 (fun w1 hw1=>((hw1.blk hB_c (fun h=>h)).cells 3 _ O)) (Ga 3 O (by omega) (zmW O tg3 (fun w1 hw1=>((hw1.blk hB_c (fun h=>h)).cells 3 _ O)) (Gs 1 O (zmW O tg3 (fun w1 hw1=>((hw1.blk hB_c (fun h=>h)).cells 1 _ O)) (Ga 6 O (by omega) (zmY (fun wz8 hz8=>?_)))))))))))
   obtain⟨hl,hL1,hc_x,hk_x,ht_x,hs_x,hb_x⟩:=Tr7 hz8 hl hL1 hc_x hk_x ht_x hs_x hb_x
   obtain⟨hE,hB_c⟩:=Tr2 hz8 hE hB_c
   refine Gs 5 O (zmV O tg66 (hB_c.cells 0 _ O) (Gs 3 O (zlc O (fun a1=>?_) (fun a1=>?_))))
   . exact absurd a1 (by omega)
   refine Ga 7 O (by omega) (G.call O tc114 (zt _ _ _) ?_)
   rintro _ wz9 ⟨rfl,hz9⟩
   obtain⟨hl,hL1,hc_x,hk_x,ht_x,hs_x,hb_x⟩:=Tr7 hz9 hl hL1 hc_x hk_x ht_x hs_x hb_x
   obtain⟨hE,hB_c⟩:=Tr2 hz9 hE hB_c
   refine Ga 8 O (by omega) (G.call O tc114 (zt _ _ _) ?_)
   rintro _ wz10 ⟨rfl,hz10⟩
   obtain⟨hl,hL1,hc_x,hk_x,ht_x,hs_x,hb_x⟩:=Tr7 hz10 hl hL1 hc_x hk_x ht_x hs_x hb_x
   obtain⟨hE,hB_c⟩:=Tr2 hz10 hE hB_c
   refine Ga 7 O (by omega) (G.call O tc114 (zt _ _ _) ?_)
   rintro _ wz11 ⟨rfl,hz11⟩
   obtain⟨hl,hL1,hc_x,hk_x,ht_x,hs_x,hb_x⟩:=Tr7 hz11 hl hL1 hc_x hk_x ht_x hs_x hb_x
   obtain⟨hE,hB_c⟩:=Tr2 hz11 hE hB_c
   refine Ga 9 O (by omega) (G.back (i+1) (Sub.cons O (Sub.cons (yr O (by rw[htk1];exact zY hpre.1 y.1 z1 f1)) (Sub.cons (yr O (by rw[htk2];exact zY hpre.2.1 y.2.1 z2 f2)) (Sub.cons (yr O (by rw[htk3];exact zY hpre.2.2 y.2.2 z3 f3)) (Sub.of O))))) (⟨by omega,hL1⟩) (by first | omega | (dsimp only;omega)))
  have f1:cap 4097 (1+max (cap 4097 (bds x.thn).1) (cap 4097 (bds x.els).1))=cap 4097 (yl x).1:=by rw[zV,zp3 a4];exact zcv (by omega) n1.1 n2.1
  have f3:cap 67108865 (x.cost+max (cap 67108865 (bds x.thn).2.2) (cap 67108865 (bds x.els).2.2))=cap 67108865 (yl x).2.2:=by rw[zV,zp3 a4];exact zcv hcost.1 n1.2.2 n2.2.2
  have z1:0<=1+max (cap 4097 (bds x.thn).1) (cap 4097 (bds x.els).1):=by omega
  have z3:0<=x.cost+max (cap 67108865 (bds x.thn).2.2) (cap 67108865 (bds x.els).2.2):=by omega
  refine Gs 6 O (zmV O tg66 (hB_c.cells 0 _ O) (Gs 3 O (zlc O (fun a1=>?_) (fun a1=>?_))))
  .
   have f2:cap 9 1=cap 9 (yl x).2.1:=by rw[zV,zp3 a4];simp[a1]
   have z2:(0:Int)<=1:=by decide
   refine Ga 9 O (by omega) (G.call O tc114 (zt _ _ _) ?_)
   rintro _ wz12 ⟨rfl,hz12⟩
   obtain⟨hl,hL1,hc_x,hk_x,ht_x,hs_x,hb_x⟩:=Tr7 hz12 hl hL1 hc_x hk_x ht_x hs_x hb_x
   obtain⟨hE,hB_c⟩:=Tr2 hz12 hE hB_c
   refine Ga 8 O (by omega) (G.call O tc114 (zt _ _ _) ?_)
   rintro _ wz13 ⟨rfl,hz13⟩
   obtain⟨hl,hL1,hc_x,hk_x,ht_x,hs_x,hb_x⟩:=Tr7 hz13 hl hL1 hc_x hk_x ht_x hs_x hb_x
   obtain⟨hE,hB_c⟩:=Tr2 hz13 hE hB_c
   refine Ga 7 O (by omega) (G.call O tc114 (zt _ _ _) ?_)
   rintro _ wz14 ⟨rfl,hz14⟩
   obtain⟨hl,hL1,hc_x,hk_x,ht_x,hs_x,hb_x⟩:=Tr7 hz14 hl hL1 hc_x hk_x ht_x hs_x hb_x
   obtain⟨hE,hB_c⟩:=Tr2 hz14 hE hB_c
   refine Ga 9 O (by omega) (G.back (i+1) (Sub.cons O (Sub.cons (yr O (by rw[htk1];exact zY hpre.1 y.1 z1 f1)) (Sub.cons (yr O (by rw[htk2];exact zY hpre.2.1 y.2.1 z2 f2)) (Sub.cons (yr O (by rw[htk3];exact zY hpre.2.2 y.2.2 z3 f3)) (Sub.of O))))) (⟨by omega,hL1⟩) (by first | omega | (dsimp only;omega)))
  have f2:cap 9 (max (cap 9 (bds x.thn).2.1) (cap 9 (bds x.els).2.1))=cap 9 (yl x).2.1:=by rw[zV,zp3 a4];simp only[a1,if_false];exact zeD n1.2.1 n2.2.1
  have z2:0<=max (cap 9 (bds x.thn).2.1) (cap 9 (bds x.els).2.1):=by omega
  refine Ga 7 O (by omega) (G.call O tc114 (zt _ _ _) ?_)
  rintro _ wz15 ⟨rfl,hz15⟩
  obtain⟨hl,hL1,hc_x,hk_x,ht_x,hs_x,hb_x⟩:=Tr7 hz15 hl hL1 hc_x hk_x ht_x hs_x hb_x
  obtain⟨hE,hB_c⟩:=Tr2 hz15 hE hB_c
  refine Ga 8 O (by omega) (G.call O tc114 (zt _ _ _) ?_)
  rintro _ wz16 ⟨rfl,hz16⟩
  obtain⟨hl,hL1,hc_x,hk_x,ht_x,hs_x,hb_x⟩:=Tr7 hz16 hl hL1 hc_x hk_x ht_x hs_x hb_x
  obtain⟨hE,hB_c⟩:=Tr2 hz16 hE hB_c
  refine Ga 7 O (by omega) (G.call O tc114 (zt _ _ _) ?_)
  rintro _ wz17 ⟨rfl,hz17⟩
  obtain⟨hl,hL1,hc_x,hk_x,ht_x,hs_x,hb_x⟩:=Tr7 hz17 hl hL1 hc_x hk_x ht_x hs_x hb_x
  obtain⟨hE,hB_c⟩:=Tr2 hz17 hE hB_c
  refine Ga 9 O (by omega) (G.back (i+1) (Sub.cons O (Sub.cons (yr O (by rw[htk1];exact zY hpre.1 y.1 z1 f1)) (Sub.cons (yr O (by rw[htk2];exact zY hpre.2.1 y.2.1 z2 f2)) (Sub.cons (yr O (by rw[htk3];exact zY hpre.2.2 y.2.2 z3 f3)) (Sub.of O))))) (⟨by omega,hL1⟩) (by first | omega | (dsimp only;omega)))
 have hii:i=l.length:=by omega
 subst hii
 refine Gs 16 O (zly Tryz.results65 O O O ⟨_,rfl,by rw[zoY],hL1⟩)
open Go.GL
theorem qE (m:Nat) (n:Int) (d:Bool) (w:World) (hB_m:Blk w m [.int .i64 n,.bool d] 189):Calls Tryz.prog 119 #[.pointer (some ⟨m,0,none⟩)] w (Ret fun r w'=>r=.bool (d || decide (1024<n))/\Ext w w'):=by
 have hE:=Keep.refl (fun _=>False) w
 refine zn1 Tryz.func119 O Tryz.ntmps119 O (Gs 10 O (zmV O tg4 (hB_m.cells 1 _ O) (Gs 1 O (zmP 7 O (fun hd=>?_) (fun hd=>?_)))))
 . refine Gs 10 O (zls Tryz.results119 O ⟨_,rfl,by rw[hd]<;>simp,hE⟩)
 refine Gs 3 O (zmV O tg3 (hB_m.cells 0 _ O) (Gs 6 O (zls Tryz.results119 O ⟨_,rfl,by rw[hd]<;>simp,hE⟩)))
theorem zbd (t:Tm):∀ (cs:List Value) (D:Nat->Prop) (w:World) (m:Nat) (n:Int) (d:Bool) (dep:Int),RTm D w t cs->(∀ q,D q->q ≠ m)->Blk w m [.int .i64 n,.bool d] 189->0<=n->n+t.nodes<=1024->1<=dep->dep<=13->Calls Tryz.prog 120 #[.pointer (some ⟨m,0,none⟩),.agg cs.toArray,.int .i64 dep] w (Ret fun u w'=>u=.tuple #[]/\(∃ n':Int,n<=n'/\n'<=n+t.nodes/\Blk w' m [.int .i64 n',.bool (d || decide (12<dep+t.depth - 1))] 189)/\Keep (fun q=>q=m) w w'):=by
 induction t using zmz with
 | h t ih =>
 intro cs D w m n d dep ht DM hB_m hn hsz hd1 hd2
 obtain⟨v,rfl,hk⟩:=ht.get
 obtain⟨av,nv,rfl⟩:=hk.form
 have hX:=Keep.refl (fun q=>q=m) w
 have hnn:=t.nodes_eq
 have hdd:=t.depth_eq
 refine zn3 Tryz.func120 O Tryz.ntmps120 O (Gs 2 O (zlY O O (M.box O O) ?_))
 rintro _ w_b ⟨b,rfl,hg_b,hs_b,hB_b,hk_b⟩
 have hn_m_b:m ≠ b:=by have:=hB_m.lt;omega
 obtain⟨hX,hB_m,hk⟩:=Tr3 hk_b hX hB_m hk
 refine Gs 7 O (zmV O tg3 (hB_m.cells 0 _ O) (Ga 3 O (by omega) (zm3 O (M.store ts3 O O O O hB_m (by simp)) ?_)))
 rintro ws1 ⟨_,hB_m,hs1⟩
 replace hX:=hX.trans hs1 (fun q hq h=>h)
 replace hk:=hk.keep zl hs1 (fun q hd hq h=>DM q hd h)
 replace hB_b:=hs1.blk hB_b (fun h=>hn_m_b h.symm)
 refine Gs 3 O ?_
 have hC:=Keep.refl (fun q=>q=m) ws1
 refine zln (σ:=Unit) (fun u=>[(0,.pointer (some ⟨m,0,none⟩)),(2,.int .i64 dep),(4,.pointer (some ⟨b,0,none⟩))]) (fun u=>fun w'=>Blk w' m [.int .i64 (n+1),.bool (d || decide (12<dep))] 189/\Keep (fun q=>q=m) ws1 w') ?_ ?_
 .
  refine Gs 5 O (zmV O tg4 (hB_m.cells 1 _ O) (Gs 1 O (zmP 20 O (fun hd=>?_) (fun hd=>?_))))
  .
   refine Gs 5 O (zm3 O (M.store ts4 O O O O hB_m (by simp)) ?_)
   rintro ws2 ⟨_,hB_m,hs2⟩
   replace hX:=hX.trans hs2 (fun q hq h=>h)
   replace hk:=hk.keep zl hs2 (fun q hd hq h=>DM q hd h)
   replace hB_b:=hs2.blk hB_b (fun h=>hn_m_b h.symm)
   replace hC:=hC.trans hs2 (fun q hq h=>h)
   refine Gs 1 O (zlp (()) (Sub.of O) (⟨by rw[hd]at hB_m ⊢;exact hB_m,hC⟩))
  refine Gs 5 O (zm3 O (M.store ts4 O O O O hB_m (by simp)) ?_)
  rintro ws2 ⟨_,hB_m,hs2⟩
  replace hX:=hX.trans hs2 (fun q hq h=>h)
  replace hk:=hk.keep zl hs2 (fun q hd hq h=>DM q hd h)
  replace hB_b:=hs2.blk hB_b (fun h=>hn_m_b h.symm)
  replace hC:=hC.trans hs2 (fun q hq h=>h)
  refine Gs 1 O (zlp (()) (Sub.of O) (⟨by rw[hd]at hB_m ⊢;exact hB_m,hC⟩))
 rintro u x2 ⟨hB_m,hX2⟩
 replace hX:=hX.trans hX2 (fun q hq h=>h)
 replace hk:=hk.keep zl hX2 (fun q hd hq h=>DM q hd h)
 replace hB_b:=hX2.blk hB_b (fun h=>hn_m_b h.symm)
 refine Gs 5 O (G.call O Tryz.call119 (qE m _ _ _ hB_m) ?_)
 rintro _ wz1 ⟨rfl,hz1⟩
 obtain⟨hX,hk,hB_b,hB_m⟩:=Tr4 hz1 hX hk hB_b hB_m
 have ho:decide (1024<n+1)=false:=zp6 (by omega)
 rw[ho,zpI]
 refine Gs 2 O (G.bool O (fun hov=>?_) (fun hov=>?_))
 .
  refine Gs 2 O (zlG Tryz.results120 ⟨_,rfl,rfl,⟨n+1,by omega,by omega,?_⟩,hX⟩)
  have:(d || decide (12<dep+(t.depth:Int) - 1))=(d || decide (12<dep)):=by
   rw[hov];revert hov;cases d<;>simp;omega
  rw[this];exact hB_m
 have hd0:d=false/\¬ 12<dep:=by revert hov;cases d<;>simp
 have hfin:(d || decide (12<dep+(t.depth:Int) - 1))=decide (12<dep+(tdepth t.kids:Int)):=by
  rw[hd0.1,zpC,zpl];omega
 rw[hov]at hB_m
 have hlen:=zaT t.kids
 refine Gs 5 O (zmV O tg68 (hB_b.cells 2 _ O) (Gs 5 O (G.loop (σ:=Nat) (fun i=>[(0,.pointer (some ⟨m,0,none⟩)),(2,.int .i64 dep),(29,.slice av t.kids.length nv),(30,.int .i64 t.kids.length),(31,.int .i64 i)]) (fun i=>fun w'=>i<=t.kids.length/\(∃ n':Int,n<=n'/\n'<=n+1+tnodes (t.kids.take i)/\Blk w' m [.int .i64 n',.bool (decide (12<dep+(tdepth (t.kids.take i):Int)))] 189)/\SlR 3 RTm D w' (.slice av t.kids.length nv) t.kids/\Keep (fun q=>q=m) w w') (fun i=>t.kids.length - i) (0) (Sub.of O) (⟨zp8 _,⟨n+1,by omega,by simp[tnodes],by rw[show decide (12<dep+(tdepth (t.kids.take 0):Int))=false from zp6 (by simp[tdepth];omega)];exact hB_m⟩,hk,hX⟩) ?_)))
 rintro i w5 ⟨hi,⟨n',hn1,hn2,hB_m⟩,hk,hX⟩
 refine Gs 6 O (zlc O (fun hlt=>?_) (fun hlt=>?_))
 .
  obtain⟨x,he_x,hm_x⟩:=gE_ t.kids (i) (by omega)
  obtain⟨b_x,o_x,c_x,ha_x,_,hc_x,hR_x⟩:=hk.at he_x
  have h1_x:=RTm.one hR_x
  obtain⟨v1_x,rfl,hk_x⟩:=hR_x.get
  obtain⟨a1_x,n1_x,rfl⟩:=hk_x.form
  have hlt_x:b_x<_:=zoV _ _ (hc_x 0 _ rfl)
  have hsp:=xp he_x
  have htk:=jD he_x
  have hdk:=zaP he_x
  refine Gs 6 O (zmR O O (zlO tR68 ts70 O O ha_x (by omega)) (zmX O tg70 ts70 hc_x O (zlY O O (M.alloc (cs:=_) tz70 O) ?_)))
  rintro _ wa2 ⟨c,rfl,hg_c,hs_c,hB_c,hk_c⟩
  refine zm3 O (zm4 ts70 O O O O h1_x hB_c (by simp)) ?_
  rintro w_c ⟨_,hB_c,hkk_c⟩
  replace hk_c:=hk_c.trans hkk_c (fun q hq h=>by have h:q=c:=h;omega)
  have hn_m_c:m ≠ c:=by have:=hB_m.lt;omega
  obtain⟨hX,hB_m,hk,hc_x,hk_x⟩:=Tr5 hk_c hX hB_m hk hc_x hk_x
  refine Gs 4 O (zmX O tg70 ts70 hB_c.cells O (Ga 2 O (by omega) (G.call O Tryz.call120 (ih x hm_x _ _ _ m n' _ (dep+1) (RTm.put hk_x) DM hB_m (by omega) (by omega) (by omega) (by omega)) ?_)))
  rintro _ w6 ⟨rfl,⟨n2,h1,h2,hB2⟩,hz⟩
  replace hX:=hX.trans hz (fun q hq h=>h)
  replace hk:=hk.keep zl hz (fun q hd hq h=>DM q hd h)
  replace hB_c:=hz.blk hB_c (fun h=>hn_m_c h.symm)
  refine Ga 7 O (by omega) (G.back (i+1) (Sub.of O) (⟨by omega,⟨n2,by omega,by omega,?_⟩,hk,hX⟩) (by first | omega | (dsimp only;omega)))
  have hb2:(decide (12<dep+(tdepth (t.kids.take i):Int)) || decide (12<dep+1+(x.depth:Int) - 1))=decide (12<dep+(tdepth (t.kids.take (i+1)):Int)):=by
   rw[hdk,<- Bool.decide_or,zpl];omega
  rw[hb2]at hB2
  exact hB2
 have hii:i=t.kids.length:=by omega
 subst hii
 rw[zoY]at hn2 hB_m
 refine Gs 4 O (zlG Tryz.results120 ⟨_,rfl,rfl,⟨n',hn1,by omega,by rw[hfin];exact hB_m⟩,hX⟩)
def xT (dep:Int) (l:List St):Bool:=decide (12<dep+sdepth l - 1) || stdeep l
theorem zfe {l:List St} {x:St} (h:x ∈ l):1<=sdepth l:=by
 obtain⟨i,hi⟩:=zqH.1 h
 conv=>rhs;rw[ym hi]
 rw[qw,sdepth,St.depth_eq];omega
theorem zff {dep:Int} {l:List St} {i:Nat} (h:xT dep (l.take i)=true):xT dep l=true:=by
 unfold xT at *
 have h1:sdepth (l.take i)<=sdepth l:=by
  conv=>rhs;rw[<- zr5 i l]
  rw[qw];omega
 have h2:stdeep (l.take i)=true->stdeep l=true:=by
  intro h
  rw[<- zr5 i l,qx,h];rfl
 rw[zpH,decide_eq_true_eq]at *
 rcases h with h | h
 . left;omega
 exact .inr (h2 h)
theorem zdh (l:List St):∀ (v:Value) (D:Nat->Prop) (w:World) (m:Nat) (n:Int) (d:Bool) (dep:Int),SlR 10 RSt D w v l->(∀ q,D q->q ≠ m)->Blk w m [.int .i64 n,.bool d] 189->0<=n->n+snodes l<=1024->1<=dep->dep<=13->Calls Tryz.prog 118 #[.pointer (some ⟨m,0,none⟩),v,.int .i64 dep] w (Ret fun u w'=>u=.tuple #[]/\(∃ n':Int,n<=n'/\n'<=n+snodes l/\Blk w' m [.int .i64 n',.bool (d || xT dep l)] 189)/\Keep (fun q=>q=m) w w'):=by
 induction l using zmB with
 | h l ih =>
 intro v D w m n d dep hl DM hB_m hn hsz hd1 hd2
 have hmx:=hl.max
 obtain⟨av,nv,rfl⟩:=hl.form
 have hX:=Keep.refl (fun q=>q=m) w
 have hlen:=zck l
 have h00:(d || xT dep (l.take 0))=d:=by
  have:xT dep (l.take 0)=false:=by unfold xT;simp[sdepth,stdeep];omega
  rw[this,zpI]
 refine zn3 Tryz.func118 O Tryz.ntmps118 O (Gs 8 O (G.loop (σ:=Nat) (fun i=>[(0,.pointer (some ⟨m,0,none⟩)),(2,.int .i64 dep),(8,.slice av l.length nv),(9,.int .i64 l.length),(10,.int .i64 i)]) (fun i=>fun w'=>i<=l.length/\(∃ n':Int,n<=n'/\n'<=n+snodes (l.take i)/\Blk w' m [.int .i64 n',.bool (d || xT dep (l.take i))] 189)/\SlR 10 RSt D w' (.slice av l.length nv) l/\Keep (fun q=>q=m) w w') (fun i=>l.length - i) (0) (Sub.of O) (⟨zp8 _,⟨n,by omega,by simp[snodes],by rw[h00];exact hB_m⟩,hl,hX⟩) ?_))
 rintro i w5 ⟨hi,⟨n',hn1,hn2,hB_m⟩,hl,hX⟩
 refine Gs 6 O (zlc O (fun hlt=>?_) (fun hlt=>?_))
 .
  obtain⟨x,he_x,hm_x⟩:=gE_ l (i) (by omega)
  obtain⟨b_x,o_x,c_x,ha_x,_,hc_x,hR_x⟩:=hl.at he_x
  have h1_x:=RSt.one hR_x
  obtain⟨v1_x,v2_x,v3_x,v4_x,rfl,hk_x,ht_x,hs_x,hb_x⟩:=hR_x.get
  obtain⟨a1_x,n1_x,rfl⟩:=hk_x.form
  obtain⟨a2_x,n2_x,rfl⟩:=ht_x.form
  obtain⟨a3_x,n3_x,rfl⟩:=hs_x.form
  obtain⟨a4_x,n4_x,rfl⟩:=hb_x.form
  have hlt_x:b_x<_:=zoV _ _ (hc_x 0 _ rfl)
  have hsp:=xZ he_x
  have htk:=zaQ he_x
  have hxn:=x.nodes_eq
  refine Gs 6 O (zmR O O (zlO tR24 ts72 O O ha_x (by omega)) (zmX O tg72 ts72 hc_x O (zlY O O (M.alloc (cs:=_) tz72 O) ?_)))
  rintro _ wa1 ⟨c,rfl,hg_c,hs_c,hB_c,hk_c⟩
  refine zm3 O (zm4 ts72 O O O O h1_x hB_c (by simp)) ?_
  rintro w_c ⟨_,hB_c,hkk_c⟩
  replace hk_c:=hk_c.trans hkk_c (fun q hq h=>by have h:q=c:=h;omega)
  have hn_m_c:m ≠ c:=by have:=hB_m.lt;omega
  obtain⟨hX,hB_m,hl,hc_x,hk_x,ht_x,hs_x⟩:=Tr7 hk_c hX hB_m hl hc_x hk_x ht_x hs_x
  replace hb_x:=Tr1 hk_c hb_x
  refine Gs 7 O (zmV O tg3 (hB_m.cells 0 _ O) (Ga 3 O (by omega) (zm3 O (M.store ts3 O O O O hB_m (by simp)) ?_)))
  rintro ws1 ⟨_,hB_m,hs1⟩
  replace hX:=hX.trans hs1 (fun q hq h=>h)
  replace hl:=hl.keep zc hs1 (fun q hd hq h=>DM q hd h)
  replace hk_x:=hk_x.keep zl hs1 (fun q hd hq h=>DM q hd h)
  replace ht_x:=ht_x.keep zc hs1 (fun q hd hq h=>DM q hd h)
  replace hs_x:=hs_x.keep zc hs1 (fun q hd hq h=>DM q hd h)
  replace hb_x:=hb_x.keep ze hs1 (fun q hd hq h=>DM q hd h)
  replace hB_c:=hs1.blk hB_c (fun h=>hn_m_c h.symm)
  refine Gs 3 O ?_
  have hC:=Keep.refl (fun q=>q=m) ws1
  refine zln (σ:=Unit) (fun u=>[(0,.pointer (some ⟨m,0,none⟩)),(2,.int .i64 dep),(7,.pointer (some ⟨c,0,none⟩)),(8,.slice av l.length nv),(9,.int .i64 l.length),(10,.int .i64 i)]) (fun u=>fun w'=>Blk w' m [.int .i64 (n'+1),.bool ((d || xT dep (l.take i)) || decide (12<dep))] 189/\Keep (fun q=>q=m) ws1 w') ?_ ?_
  .
   refine Gs 5 O (zmV O tg4 (hB_m.cells 1 _ O) (Gs 1 O (zmP 26 O (fun hd=>?_) (fun hd=>?_))))
   .
    refine Gs 5 O (zm3 O (M.store ts4 O O O O hB_m (by simp)) ?_)
    rintro ws2 ⟨_,hB_m,hs2⟩
    replace hX:=hX.trans hs2 (fun q hq h=>h)
    replace hl:=hl.keep zc hs2 (fun q hd hq h=>DM q hd h)
    replace hk_x:=hk_x.keep zl hs2 (fun q hd hq h=>DM q hd h)
    replace ht_x:=ht_x.keep zc hs2 (fun q hd hq h=>DM q hd h)
    replace hs_x:=hs_x.keep zc hs2 (fun q hd hq h=>DM q hd h)
    replace hb_x:=hb_x.keep ze hs2 (fun q hd hq h=>DM q hd h)
    replace hB_c:=hs2.blk hB_c (fun h=>hn_m_c h.symm)
    replace hC:=hC.trans hs2 (fun q hq h=>h)
    refine Gs 1 O (zlp (()) (Sub.of O) (⟨by rw[hd]at hB_m ⊢;exact hB_m,hC⟩))
   refine Gs 5 O (zm3 O (M.store ts4 O O O O hB_m (by simp)) ?_)
   rintro ws2 ⟨_,hB_m,hs2⟩
   replace hX:=hX.trans hs2 (fun q hq h=>h)
   replace hl:=hl.keep zc hs2 (fun q hd hq h=>DM q hd h)
   replace hk_x:=hk_x.keep zl hs2 (fun q hd hq h=>DM q hd h)
   replace ht_x:=ht_x.keep zc hs2 (fun q hd hq h=>DM q hd h)
   replace hs_x:=hs_x.keep zc hs2 (fun q hd hq h=>DM q hd h)
   replace hb_x:=hb_x.keep ze hs2 (fun q hd hq h=>DM q hd h)
   replace hB_c:=hs2.blk hB_c (fun h=>hn_m_c h.symm)
   replace hC:=hC.trans hs2 (fun q hq h=>h)
   refine Gs 1 O (zlp (()) (Sub.of O) (⟨by rw[hd]at hB_m ⊢;exact hB_m,hC⟩))
  rintro u x2 ⟨hB_m,hX2⟩
  replace hX:=hX.trans hX2 (fun q hq h=>h)
  replace hl:=hl.keep zc hX2 (fun q hd hq h=>DM q hd h)
  replace hk_x:=hk_x.keep zl hX2 (fun q hd hq h=>DM q hd h)
  replace ht_x:=ht_x.keep zc hX2 (fun q hd hq h=>DM q hd h)
  replace hs_x:=hs_x.keep zc hX2 (fun q hd hq h=>DM q hd h)
  replace hb_x:=hb_x.keep ze hX2 (fun q hd hq h=>DM q hd h)
  replace hB_c:=hX2.blk hB_c (fun h=>hn_m_c h.symm)
  refine Gs 5 O (G.call O Tryz.call119 (qE m _ _ _ hB_m) ?_)
  rintro _ wz2 ⟨rfl,hz2⟩
  obtain⟨hX,hl,hk_x,ht_x,hs_x,hb_x,hB_c⟩:=Tr7 hz2 hX hl hk_x ht_x hs_x hb_x hB_c
  replace hB_m:=Tr1 hz2 hB_m
  have ho:decide (1024<n'+1)=false:=zp6 (by omega)
  rw[ho,zpI]
  refine Gs 2 O (G.bool O (fun hov=>?_) (fun hov=>?_))
  .
   refine Gs 6 O (zlG Tryz.results118 ⟨_,rfl,rfl,⟨n'+1,by omega,by omega,?_⟩,hX⟩)
   have:(d || xT dep l)=((d || xT dep (l.take i)) || decide (12<dep)):=by
    rw[hov]
    simp only[zpH,decide_eq_true_eq]at hov ⊢
    rcases hov with (h | h) | h
    . exact .inl h
    . exact .inr (zff h)
    right;unfold xT;rw[zp5 (by have:=zfe hm_x;omega)];rfl
   rw[this];exact hB_m
  rw[hov]at hB_m
  simp only[zpG,decide_eq_false_iff_not]at hov
  refine Gs 6 O (zmX O tg70 ts70 (hB_c.cells.sub 4 3) O (G.call O Tryz.call120 (zbd x.term _ D _ m _ _ 1 (RTm.put hk_x) DM hB_m (by omega) (by omega) (by omega) (by omega)) ?_))
  rintro _ w6 ⟨rfl,⟨n2,h1,h2,hB2⟩,hz⟩
  replace hX:=hX.trans hz (fun q hq h=>h)
  replace hl:=hl.keep zc hz (fun q hd hq h=>DM q hd h)
  replace hk_x:=hk_x.keep zl hz (fun q hd hq h=>DM q hd h)
  replace ht_x:=ht_x.keep zc hz (fun q hd hq h=>DM q hd h)
  replace hs_x:=hs_x.keep zc hz (fun q hd hq h=>DM q hd h)
  replace hb_x:=hb_x.keep ze hz (fun q hd hq h=>DM q hd h)
  replace hB_c:=hz.blk hB_c (fun h=>hn_m_c h.symm)
  refine Gs 6 O (zmV O tg24 (hB_c.cells 7 _ O) (Ga 2 O (by omega) (G.call O Tryz.call118 ((ih x hm_x).1 _ D _ m _ _ (dep+1) ht_x DM hB2 (by omega) (by omega) (by omega) (by omega)) ?_)))
  rintro _ w7 ⟨rfl,⟨n3,h3,h4,hB3⟩,hz3⟩
  replace hX:=hX.trans hz3 (fun q hq h=>h)
  replace hl:=hl.keep zc hz3 (fun q hd hq h=>DM q hd h)
  replace hk_x:=hk_x.keep zl hz3 (fun q hd hq h=>DM q hd h)
  replace ht_x:=ht_x.keep zc hz3 (fun q hd hq h=>DM q hd h)
  replace hs_x:=hs_x.keep zc hz3 (fun q hd hq h=>DM q hd h)
  replace hb_x:=hb_x.keep ze hz3 (fun q hd hq h=>DM q hd h)
  replace hB_c:=hz3.blk hB_c (fun h=>hn_m_c h.symm)
  refine Gs 5 O (zmV O tg24 (hB_c.cells 8 _ O) (Ga 2 O (by omega) (G.call O Tryz.call118 ((ih x hm_x).2 _ D _ m _ _ (dep+1) hs_x DM hB3 (by omega) (by omega) (by omega) (by omega)) ?_)))
  rintro _ w8 ⟨rfl,⟨n4,h5,h6,hB4⟩,hz4⟩
  replace hX:=hX.trans hz4 (fun q hq h=>h)
  replace hl:=hl.keep zc hz4 (fun q hd hq h=>DM q hd h)
  replace hk_x:=hk_x.keep zl hz4 (fun q hd hq h=>DM q hd h)
  replace ht_x:=ht_x.keep zc hz4 (fun q hd hq h=>DM q hd h)
  replace hs_x:=hs_x.keep zc hz4 (fun q hd hq h=>DM q hd h)
  replace hb_x:=hb_x.keep ze hz4 (fun q hd hq h=>DM q hd h)
  replace hB_c:=hz4.blk hB_c (fun h=>hn_m_c h.symm)
  refine Ga 7 O (by omega) (G.back (i+1) (Sub.of O) (⟨by omega,⟨n4,by omega,by omega,?_⟩,hl,hX⟩) (by first | omega | (dsimp only;omega)))
  have hb:(((false || decide (12<1+(x.term.depth:Int) - 1)) || xT (dep+1) x.thn) || xT (dep+1) x.els)=(d || xT dep (l.take (i+1))):=by
   have h9:=hov.1.2
   unfold xT at h9 ⊢
   rw[zpG,decide_eq_false_iff_not]at h9
   rw[hov.1.1,zaR he_x,zaS he_x,h9.2,St.tdeep_eq,St.depth_eq,zpz]
   simp only[zpH,decide_eq_true_eq,zpC]
   have h10:∀ a b c d e:Prop,True:=fun _ _ _ _ _=>trivial
   generalize stdeep x.thn=q1
   generalize stdeep x.els=q2
   cases q1<;>cases q2<;>simp<;>omega
  rw[hb]at hB4
  exact hB4
 have hii:i=l.length:=by omega
 subst hii
 rw[zoY]at hn2 hB_m
 refine Gs 4 O (zlG Tryz.results118 ⟨_,rfl,rfl,⟨n',hn1,hn2,hB_m⟩,hX⟩)
end Go.Proofs.YtckdhgbepmpgiaaGreat
