/-
  Contracts and the mathematics that the proof needs. Nothing here is a claim.
-/
import Derived.Test.YtckdhgbepmpgiaaGreatKX2
namespace Go.Proofs.YtckdhgbepmpgiaaGreat
open Go.GL
mutual
/-- The range of a term whose nodes all lie within the limit. -/
def rng (vs:List Vr):Tm->Option Rg
 | .mk op n ks=>(rngL vs ks).bind fun l=>if okR (zi vs op n l) then some (zi vs op n l) else none
def rngL (vs:List Vr):List Tm->Option (List Rg)
 | []=>some []
 | k::r=>(rng vs k).bind fun x=>(rngL vs r).map fun l=>x::l
end
section
variable {vs:List Vr}
theorem zbt (t:Tm):rng vs t=(rngL vs t.kids).bind fun l=>if okR (zi vs t.op t.n l) then some (zi vs t.op t.n l) else none:=by cases t;rw[rng];rfl
theorem zbu (a b:List Tm):rngL vs (a++b)=(rngL vs a).bind fun l=>(rngL vs b).map fun m=>l++m:=by
 induction a with
 | nil=>simp[rngL]
 | cons x r ih =>
  simp only[zqA,rngL,ih]
  cases rng vs x<;>cases rngL vs r<;>cases rngL vs b<;>simp
theorem zdD {l:List Tm} {i:Nat} {x:Tm} {m:List Rg} {r:Rg} (h:l[i]?=some x) (h1:rngL vs (l.take i)=some m) (h2:rng vs x=some r):rngL vs (l.take (i+1))=some (m++[r]):=by
 rw[ze h,zbu,h1];simp[rngL,h2]
theorem zdE {l:List Tm} {i:Nat} {x:Tm} (h:l[i]?=some x) (h2:rng vs x=none):rngL vs l=none:=by
 rw[yy h,zbu]
 cases rngL vs (l.take i)<;>simp[rngL,h2]
theorem qr:∀ (l:List Tm) (m:List Rg),rngL vs l=some m->m.length=l.length
 | [],m,h=>by simp[rngL]at h;subst h;rfl
 | x::r,m,h=>by
  simp only[rngL,zs5,zsa]at h
  obtain⟨y,_,z,h2,rfl⟩:=h
  simp[qr r z h2]
theorem jE:∀ (l:List Tm) (m:List Rg),rngL vs l=some m->∀ r ∈ m,∃ t ∈ l,rng vs t=some r
 | [],m,h,r,hr=>by simp[rngL]at h;subst h;simp at hr
 | x::l,m,h,r,hr=>by
  simp only[rngL,zs5,zsa]at h
  obtain⟨y,h1,z,h2,rfl⟩:=h
  rcases zpA.1 hr with rfl | hr
  . exact⟨x,zpo ..,h1⟩
  obtain⟨t,h3,h4⟩:=jE l z h2 r hr
  exact⟨t,zpn _ h3,h4⟩
theorem zff (x:Rg) (h:x.1<=x.2):∀ l:List Rg,(yY x l).1<=x.1/\x.2<=(yY x l).2:=by
 intro l
 induction l generalizing x with
 | nil=>simp[yY]
 | cons y r ih =>
  have:=ih (min x.1 y.1,max x.2 y.2) (by dsimp only;omega)
  simp only[yY,zqU]at this ⊢
  constructor<;>omega
theorem zgP {l:List Rg} {i:Nat} (h:i<l.length):at2 l i ∈ l:=by
 unfold at2
 rw[zpk h]
 exact List.getElem_mem h
theorem zit {n:Int} (hv:∀ v ∈ vs,yr (v.low,v.high)) (hn:0<=n/\n<vs.length):yr (vat vs n):=by
 unfold vat
 rw[zpk (show n.toNat<vs.length by omega)]
 exact hv _ (List.getElem_mem _)
theorem zgQ {op n:Int} {l:List Rg} (h:NodeOk vs op n l):(zi vs op n l).1<=(zi vs op n l).2:=by
 have hg:∀ i,i<l.length->yr (at2 l i):=fun i hi=>h.good _ (zgP hi)
 unfold yr at hg
 unfold zi
 split
 . exact zqj _
 split
 . rename_i h1 h2;exact(zit h.vars (h.var h2)).2.1
 split
 . rename_i h1 h2 h3;have:=h.k1 (.inl h3);have:=hg 0 (by omega);dsimp only;omega
 split
 . have:=h.k2 (by omega);have:=hg 0 (by omega);have:=hg 1 (by omega);dsimp only;omega
 split
 . have:=h.k2 (by omega);have:=hg 0 (by omega);have:=hg 1 (by omega);dsimp only;omega
 split
 .
  have:=zff ((at2 l 0).1*(at2 l 1).1,(at2 l 0).1*(at2 l 1).1) (zqj _) [((at2 l 0).1*(at2 l 1).2,(at2 l 0).1*(at2 l 1).2),((at2 l 0).2*(at2 l 1).1,(at2 l 0).2*(at2 l 1).1),((at2 l 0).2*(at2 l 1).2,(at2 l 0).2*(at2 l 1).2)]
  unfold xR
  exact Int.le_trans this.1 this.2
 split
 . have:=h.k2 (by omega);have:=hg 0 (by omega);dsimp only;split<;>omega
 split
 . have:=h.k2 (by omega);have:=hg 1 (by omega);dsimp only;split<;>split<;>omega
 split
 . have:=h.k2 (by omega);have:=hg 0 (by omega);have:=hg 1 (by omega);dsimp only;omega
 split
 . have:=h.k2 (by omega);have:=hg 0 (by omega);have:=hg 1 (by omega);dsimp only;omega
 split
 .
  rename_i hk
  have:=h.k3 hk;have h2:=hg 1 (by omega)
  have:=zff (at2 l 1) h2.2.1 (l.drop 2)
  omega
 decide
theorem kL {inp:Bool} (hv:∀ v ∈ vs,yr (v.low,v.high)) (t:Tm):zu vs inp t=true->∀ r,rng vs t=some r->yr r:=by
 induction t using znv with
 | h t ih =>
  intro hf r hr
  rw[yW,zpW,zpW]at hf
  rw[zbt,zs5]at hr
  obtain⟨l,h1,h2⟩:=hr
  have hn:NodeOk vs t.op t.n l:=jl (qr _ _ h1) hf.1.1 hf.1.2 (fun x hx=>by
   obtain⟨k,hk,hY⟩:=jE _ _ h1 x hx
   exact ih k hk (yg hf.2 hk) x hY) hv
  have:=zgQ hn
  split at h2
  .
   rename_i da
   cases h2
   have:=of_decide_eq_true da
   exact⟨this.1,by omega,this.2⟩
  cases h2
end
theorem zdF (vs:List Vr) (inp:Bool) (vv:Value) (Dv:Nat->Prop) (ea:∀ v ∈ vs,yr (v.low,v.high)) (t:Tm):∀ (cs:List Value) (D:Nat->Prop) (w:World),SlR 5 RVr Dv w vv vs->RTm D w t cs->zu vs inp t=true->t.nodes<=1000000 ->
  Calls Tryz.prog 89 #[vv,.agg cs.toArray] w (Ret fun r w'=>(∃ a b:Int,r=.tuple #[.agg #[.int .i64 a,.int .i64 b],.bool (rng vs t).isSome]/\∀ x,rng vs t=some x->(a,b)=x)/\Ext w w'):=by
 induction t using znv with
 | h t ih =>
 intro cs D w dc ht hf eO
 have eP:=hf
 rw[yW,zpW,zpW]at hf
 have en:=zbh t.kids
 have eQ:=t.nodes_eq
 obtain⟨v,rfl,hk⟩:=ht.get
 obtain⟨ao,cap,rfl⟩:=hk.form
 obtain⟨av,nv,rfl⟩:=dc.form
 have hE:=Keep.refl (fun _=>False) w
 refine znl Tryz.func89 O Tryz.ntmps89 O (Gs 2 O (zmr O O (M.box O O) ?_))
 rintro _ eR ⟨b,rfl,dK,eo,hY,dL⟩
 have eb:_<=b:=zpq hE.size (zrS dK.symm)
 obtain⟨hE,dc,hk⟩:=Tr3 dL hE dc hk
 refine zmr O O (M.alloc (cs:=_) tz159 O) ?_
 rintro _ dM ⟨r,rfl,dN,ep,da,dO⟩
 have dQ:b ≠ r:=by have:=hY.lt;omega
 have ec:_<=r:=zpq hE.size (zrS dN.symm)
 obtain⟨hE,dc,hk,hY⟩:=Tr4 dO hE dc hk hY
 refine Gs 12 O (zne O tg68 (hY.cells 2 _ O) (Gs 5 O (G.loop (σ:=Nat × List Rg × Value) (fun⟨i,l,vk⟩=>[(0,.slice av vs.length nv),(3,.pointer (some ⟨b,0,none⟩)),(4,.pointer (some ⟨r,0,none⟩)),(6,vk),(13,.slice ao t.kids.length cap),(14,.int .i64 t.kids.length),(15,.int .i64 i)]) (fun⟨i,l,vk⟩=>fun w'=>i<=t.kids.length/\rngL vs (t.kids.take i)=some l/\w'.ownsRow 0 159 2 vk l.length (l.flatMap zkH)/\(∀ q,vk.ownBlock=some q->dM.heap.size<=q)/\Ext dM w') (fun⟨i,l,vk⟩=>t.kids.length - i) ((0,[],.slice none 0 0)) (Sub.of O) (⟨zpz _,rfl,jS _ _ _,fun q hq=>by simp[Value.ownBlock]at hq,Keep.refl _ _⟩) ?_)))
 rintro⟨i,l,vk⟩ w1 ⟨hi,hl,db,ed,dh⟩
 show G _ _ _ _ _ [(0,.slice av vs.length nv),(3,.pointer (some ⟨b,0,none⟩)),(4,.pointer (some ⟨r,0,none⟩)),(6,vk),(13,.slice ao t.kids.length cap),(14,.int .i64 t.kids.length),(15,.int .i64 i)] _
 obtain⟨hE,dc,hk,hY,da⟩:=Tr5 dh hE dc hk hY da
 refine Gs 6 O (zlF O (fun er=>?_) (fun er=>?_))
 .
  obtain⟨k,dm,dA⟩:=gE_ t.kids (i) (by omega)
  obtain⟨eu,eS,eT,dR,_,de,dB⟩:=hk.at dm
  have dS:=RTm.one dB
  obtain⟨ew,rfl,df⟩:=dB.get
  obtain⟨ey,ez,rfl⟩:=df.form
  have ee:eu<_:=zpm _ _ (de 0 _ rfl)
  have eU:=xF dm
  have dT:=qr _ _ hl
  rw[zpO]at dT
  refine Gs 6 O (zna O O (zmh tR68 ts70 O O dR (by omega)) (zng O tg70 ts70 de O (zmr O O (M.alloc (cs:=_) tz70 O) ?_)))
  rintro _ wa1 ⟨c,rfl,dU,eA,dg,dr⟩
  refine zmw O (zmx ts70 O O O O dS dg (by simp)) ?_
  rintro eV ⟨_,dg,dC⟩
  replace dr:=dr.trans dC (fun q hq h=>by have h:q=c:=h;omega)
  have dV:b ≠ c:=by have:=hY.lt;omega
  have dW:r ≠ c:=by have:=da.lt;omega
  have ef:_<=c:=zpq hE.size (zrS dU.symm)
  obtain⟨hE,dc,hk,hY,da,dh,db⟩:=Tr7 dr hE dc hk hY da dh db
  obtain⟨de,df⟩:=Tr2 dr de df
  refine Gs 5 O (zng O tg70 ts70 dg.cells O (G.call O Tryz.call89 (ih k dA _ D _ dc (RTm.put df) (yg hf.2 dA) (by omega)) ?_))
  rintro _ wz2 ⟨⟨ka,kb,rfl,dt⟩,eg⟩
  obtain⟨hE,dc,hk,hY,da,dh,db⟩:=Tr7 eg hE dc hk hY da dh db
  obtain⟨de,df,dg⟩:=Tr3 eg de df dg
  refine Gs 3 O (zmr O O (M.alloc (cs:=_) tz159 O) ?_)
  rintro _ wa3 ⟨d,rfl,dX,eC,dl,du⟩
  refine zmw O (zmx ts159 O O O O (by simp[Value.oneCell']) dl (by simp)) ?_
  rintro eW ⟨_,dl,dD⟩
  replace du:=du.trans dD (fun q hq h=>by have h:q=d:=h;omega)
  have dY:b ≠ d:=by have:=hY.lt;omega
  have dZ:r ≠ d:=by have:=da.lt;omega
  have d5:c ≠ d:=by have:=dg.lt;omega
  have eh:_<=d:=zpq hE.size (zrS dX.symm)
  obtain⟨hE,dc,hk,hY,da,dh,db⟩:=Tr7 du hE dc hk hY da dh db
  obtain⟨de,df,dg⟩:=Tr3 du de df dg
  refine Gs 7 O (zna O O (zmT O (by first | exact za | rfl)) (Gs 2 O (G.bool O (fun hb=>?_) (fun hb=>?_))))
  .
   have eD:rng vs k=none:=by cases h:rng vs k<;>simp[h]at hb ⊢
   have dw:rng vs t=none:=by rw[zbt,zdE dm eD];rfl
   refine Gs 2 O (zna O O (R.build (v:=.agg #[.int .i64 0,.int .i64 0]) [] O (fun _=>by kernel_rfl)) (zmw O (zmx ts159 O O O O (by simp[Value.oneCell']) da (by simp)) ?_))
   rintro wf ⟨_,dE,dy⟩
   refine Gs 10 O (zm6 Tryz.results89 O (zn tg159 ts159 O dE.cells) O ?_)
   exact⟨_,rfl,⟨0,0,by rw[dw];rfl,fun x hx=>by rw[dw]at hx;cases hx⟩,hE.trans dy (fun q hq h=>by have h:q=r:=h;omega)⟩
  obtain⟨x,hx⟩:∃ x,rng vs k=some x:=by cases h:rng vs k with
   | none=>simp[h]at hb
   | some x=>exact⟨x,rfl⟩
  have eE:=dt x hx
  subst eE
  refine Gs 4 O (zng O tg159 ts159 dl.cells O (zmr O O (M.buildSlice (cs:=zkH (ka,kb)) [(0,_)] tR203 ts159 tz159 (by decide) O (by kernel_rfl)) ?_))
  rintro _ w5 ⟨b5,rfl,ei,ej,dF,dx⟩
  obtain⟨hE,dc,hk,hY,da,dh,db⟩:=Tr7 dx hE dc hk hY da dh db
  obtain⟨de,df,dg,dl⟩:=Tr4 dx de df dg dl
  refine zmr O O (M.append Tryz.underlying203 Tryz.el159 O (by decide) O O db O (Cells.add dF.cells) (zis _) (by omega) (by omega)) ?_
  rintro vk' w6 ⟨dG,d6,eF,_⟩
  have eG:=dh.size
  have eH:Ext dM w6:=dh.trans eF (fun q hq h=>by have:=ed q h;omega)
  refine Ga 8 O (by omega) (G.back ((i+1,l++[(ka,kb)],vk')) (Sub.of O) (⟨by omega,zdD dm hl hx,?_,?_,eH⟩) (by first | omega | (dsimp only;omega)))
  .
   rw[zps,zqO]
   exact dG
  intro q hq
  rcases d6 with h | ⟨q',h,h'⟩
  . exact ed q (by rw[<- h];exact hq)
  rw[h]at hq;cases hq;omega
 have eI:i=t.kids.length:=by omega
 subst eI
 rw[zpp]at hl
 have dT:=qr _ _ hl
 have eJ:SlR 2 zb1 (fun _=>True) w1 vk l:=zmN (by omega) zkH zir (fun x _=>rfl) db (fun _ _=>trivial)
 have hn:NodeOk vs t.op t.n l:=jl dT hf.1.1 hf.1.2 (fun x hx=>by
  obtain⟨k,hk,eK⟩:=jE _ _ hl x hx
  exact kL ea k (yg hf.2 hk) x eK) ea
 have d7:rng vs t=if okR (zi vs t.op t.n l) then some (zi vs t.op t.n l) else none:=by rw[zbt,hl];rfl
 refine Gs 8 O (zng O tg70 ts70 hY.cells O (Gs 1 O (G.call O Tryz.call129 (zk4 vs t l _ vk _ Dv D (fun _=>True) _ dc (RTm.put hk) eJ hn) ?_)))
 rintro _ wz4 ⟨rfl,eL⟩
 obtain⟨hE,dc,hk,hY,da,dh,db⟩:=Tr7 eL hE dc hk hY da dh db
 refine zmr O O (M.alloc (cs:=_) tz159 O) ?_
 rintro _ wa5 ⟨o,rfl,d8,eM,dk,dz⟩
 refine zmw O (zmx ts159 O O O O (by simp[Value.oneCell']) dk (by simp)) ?_
 rintro eN ⟨_,dk,dH⟩
 replace dz:=dz.trans dH (fun q hq h=>by have h:q=o:=h;omega)
 have d9:b ≠ o:=by have:=hY.lt;omega
 have di:r ≠ o:=by have:=da.lt;omega
 have ek:_<=o:=zpq hE.size (zrS d8.symm)
 obtain⟨hE,dc,hk,hY,da,dh,db⟩:=Tr7 dz hE dc hk hY da dh db
 obtain⟨p,hp⟩:∃ p,p=zi vs t.op t.n l:=⟨_,rfl⟩
 rw[<- hp]at d7 dk ⊢
 have em:(rng vs t).isSome=okR p:=by rw[d7];cases okR p<;>rfl
 have dt:∀ x,rng vs t=some x->(p.1,p.2)=x:=by
  intro x hx
  rw[d7]at hx
  split at hx
  . exact Option.some.inj hx
  cases hx
 refine Gs 3 O (Dw (fun q=>Keep (fun k=>k=r) eN q) [] (fun wd6 dI _=>?_))
 have hD:Keep (fun k=>k=r) _ _:=dI.mono (fun _ _ h=>h.elim)
 refine WD.take 0 O (by kernel_rfl) O O O hD (fun w1 dJ=>zmj tg159 ts159 O (by rfl) (dJ.blk dk (fun h=>di h.symm)).cells) (Ds [1] (by kernel_rfl) O (WD.take 2 O (by kernel_rfl) O O O hD (fun w1 dJ=>R.load tg3 O ((dJ.blk dk (fun h=>di h.symm)).cells 0 _ O)) (Ds [3,4] (by kernel_rfl) O (WD.sp 41 O (fun g1=>?_) (fun g1=>?_)))))
 .
  have ho:okR p=decide (p.2<=1048576):=by unfold okR;congr 1;simp;omega
  refine Ds [5] (by kernel_rfl) O (zn0 6 O (by kernel_rfl) O O hD (.inl ⟨fun a ha=>xl ha O O O rfl,fun w1 dJ=>R.load tg3 O ((dJ.blk dk (fun h=>di h.symm)).cells 1 _ O)⟩) (Ds [7,8] (by kernel_rfl) O (zmv 9 O (by kernel_rfl) O O (zmx ts159 O O O O (by simp[Value.oneCell']) (dI.blk da (fun h=>h)) (by simp)) ?_)))
  rintro wf ⟨_,dE,dy⟩
  refine⟨fun _=>hD.trans dy (fun _ _ h=>h),?_⟩
  refine Ds [10] (by kernel_rfl) O (G.done (by kernel_rfl) ?_ _)
  refine Gs 2 O (zm6 Tryz.results89 O (zn tg159 ts159 O dE.cells) O ?_)
  exact⟨_,rfl,⟨p.1,p.2,by rw[em,ho];rfl,dt⟩,(hE.ext dI).trans dy (fun q hq h=>by have h:q=r:=h;omega)⟩
 have ho:okR p=false:=by unfold okR;exact zpx (by omega)
 refine Ds [5,6,7,8] (by kernel_rfl) O (zmv 9 O (by kernel_rfl) O O (zmx ts159 O O O O (by simp[Value.oneCell']) (dI.blk da (fun h=>h)) (by simp)) ?_)
 rintro wf ⟨_,dE,dy⟩
 refine⟨fun _=>hD.trans dy (fun _ _ h=>h),?_⟩
 refine Ds [10] (by kernel_rfl) O (G.done (by kernel_rfl) ?_ _)
 refine Gs 2 O (zm6 Tryz.results89 O (zn tg159 ts159 O dE.cells) O ?_)
 exact⟨_,rfl,⟨p.1,p.2,by rw[em,ho];rfl,dt⟩,(hE.ext dI).trans dy (fun q hq h=>by have h:q=r:=h;omega)⟩
theorem zcQ (a b:Int) (w:World) (ha:-1048576<=a/\a<=1048576) (hb:-1048576<=b/\b<=1048576):Calls Tryz.prog 183 #[.int .i64 a,.int .i64 b] w (Ret fun r w'=>r=.tuple #[.int .i64 (if a<0 then min (a+1) 0 else 0),.int .i64 (if 0<b then max (b - 1) 0 else 0)]/\Ext w w'):=by
 have hE:=Keep.refl (fun _=>False) w
 refine znl Tryz.func183 O Tryz.ntmps183 O (Gs 19 O (zlF O (fun p0=>?_) (fun p0=>?_)))
 .
  refine Ga 3 O (by omega) (G.call O tc114 (zt 0 (a+1) _) ?_)
  rintro _ wz1 ⟨rfl,hY⟩
  replace hE:=Tr1 hY hE
  refine Gs 10 O (zlF O (fun p1=>?_) (fun p1=>?_))
  .
   refine Ga 3 O (by omega) (G.call O tc113 (zL 0 (b - 1) _) ?_)
   rintro _ wz2 ⟨rfl,da⟩
   replace hE:=Tr1 da hE
   refine Gs 12 O (zlY tr183 O O ⟨_,rfl,by rw[zpv p0,zpv p1,Int.min_comm,Int.max_comm],hE⟩)
  refine Gs 11 O (zlY tr183 O O ⟨_,rfl,by rw[zpv p0,zpu p1,Int.min_comm],hE⟩)
 refine Gs 9 O (zlF O (fun p1=>?_) (fun p1=>?_))
 .
  refine Ga 3 O (by omega) (G.call O tc113 (zL 0 (b - 1) _) ?_)
  rintro _ wz3 ⟨rfl,db⟩
  replace hE:=Tr1 db hE
  refine Gs 12 O (zlY tr183 O O ⟨_,rfl,by rw[zpu p0,zpv p1,Int.max_comm],hE⟩)
 refine Gs 11 O (zlY tr183 O O ⟨_,rfl,by rw[zpu p0,zpu p1],hE⟩)
theorem xH {l:List Rg} {i:Nat} {x:Rg} (h:l[i]?=some x):(l.map Prod.fst)[i]?=some x.1:=by simp[h]
theorem xI {l:List Rg} {i:Nat} {x:Rg} (h:l[i]?=some x):(l.map Prod.snd)[i]?=some x.2:=by simp[h]
theorem zfW (vs:List Vr) (t:Tm) (ks:List Rg) (vv lv hv:Value) (cs:List Value) (Dv D Dl Dh:Nat->Prop) (w:World) (dz:SlR 5 RVr Dv w vv vs) (ht:RTm D w t cs) (di:SlR 1 zC Dl w lv (ks.map Prod.fst)) (dk:SlR 1 zC Dh w hv (ks.map Prod.snd)) (hn:NodeOk vs t.op t.n ks) :
  Calls Tryz.prog 151 #[vv,.agg cs.toArray,lv,hv] w (Ret fun r w'=>(∃ a b:Int,r=.tuple #[.int .i64 a,.int .i64 b]/\okR (a,b)=okR (zi vs t.op t.n ks)/\(okR (a,b)=true->(a,b)=zi vs t.op t.n ks))/\Ext w w'):=by
 obtain⟨v,rfl,hk⟩:=ht.get
 obtain⟨av,nv,rfl⟩:=dz.form
 obtain⟨al,nl,rfl⟩:=di.form
 obtain⟨ah,nh,rfl⟩:=dk.form
 rw[zpE,zpE]at *
 have eT:=di.max
 rw[zpE]at eT
 have same:∀ {a b:Int} {w':World},Ext w w'->(a,b)=zi vs t.op t.n ks->∃ v,Ending.returned (.tuple #[.int .i64 a,.int .i64 b])=.returned v/\(∃ a b:Int,v=.tuple #[.int .i64 a,.int .i64 b]/\okR (a,b)=okR (zi vs t.op t.n ks)/\(okR (a,b)=true->(a,b)=zi vs t.op t.n ks))/\Ext w w' :=
  fun hk he=>⟨_,rfl,⟨_,_,rfl,by rw[he],fun _=>he⟩,hk⟩
 have hE:=Keep.refl (fun _=>False) w
 refine znn Tryz.func151 O Tryz.ntmps151 O (Gs 2 O (zmr O O (M.box O O) ?_))
 rintro _ d6 ⟨b,rfl,em,eU,df,en⟩
 have eK:_<=b:=zpq hE.size (zrS em.symm)
 obtain⟨hE,dz,di,dk⟩:=Tr4 en hE dz di dk
 refine Gs 8 O (zne O tg67 (df.cells 0 _ O) (Gs 9 O (zlF O (fun h0=>?_) (fun h0=>?_))))
 .
  have e:zi vs t.op t.n ks=(t.n,t.n):=by rw[zi,zpv h0]
  refine Gs 4 O (zne O tg3 (df.cells 1 _ O) (Gs 2 O (G.sp 25 O (fun n0=>?_) (fun n0=>?_))))
  .
   refine Gs 17 O (zlY tr151 O O ⟨_,rfl,⟨_,_,rfl,?_,fun h=>by cases h⟩,hE⟩)
   rw[e];unfold okR;rw[zpx (by dsimp only;omega),zpx (by dsimp only;omega)]
  refine Gs 1 O (zne O tg3 (df.cells 1 _ O) (Gs 4 O (zlF O (fun n1=>?_) (fun n1=>?_))))
  .
   refine Gs 10 O (zlY tr151 O O ⟨_,rfl,⟨_,_,rfl,?_,fun h=>by cases h⟩,hE⟩)
   rw[e];unfold okR;rw[zpx (by dsimp only;omega),zpx (by dsimp only;omega)]
  refine Gs 3 O (Qt (by kernel_rfl) (Gs 1 O (znf O tg3 (fun w1 de=>((de.blk df (fun h=>h)).cells 1 _ O)) (Gs 1 O (znf O tg3 (fun w1 de=>((de.blk df (fun h=>h)).cells 1 _ O)) (Gs 2 O (znh (fun wz1 eV=>?_))))))))
  obtain⟨hE,dz,di,dk,df⟩:=Tr5 eV hE dz di dk df
  refine Gs 4 O (zlY tr151 O O (same hE e.symm))
 refine Gs 6 O (zlF O (fun dU=>?_) (fun dU=>?_))
 .
  have hv:=hn.var dU
  obtain⟨x,dg,eW⟩:=gE_ vs (t.n.toNat) (by omega)
  obtain⟨eX,fj,fk,d7,_,dW,d8⟩:=dz.at dg
  have eY:=RVr.one d8
  obtain rfl:=d8
  have eL:eX<_:=zpm _ _ (dW 0 _ rfl)
  have e:zi vs t.op t.n ks=(x.low,x.high):=by rw[zi,zpu h0,zpv dU,zgO dg]
  refine Gs 1 O (Qt (by kernel_rfl) (Gs 2 O (znf O tg3 (fun w1 de=>((de.blk df (fun h=>h)).cells 1 _ O)) (znd O O (fun w1 de=>zmh tR22 ts142 O O d7 (by omega)) (Gs 1 O (znf O tg3 (fun w1 de=>((de.cells dW (fun h=>h)) 2 _ O)) (Gs 2 O (znf O tg3 (fun w1 de=>((de.blk df (fun h=>h)).cells 1 _ O)) (znd O O (fun w1 de=>zmh tR22 ts142 O O d7 (by omega)) (Gs 1 O (znf O tg3 (fun w1 de=>((de.cells dW (fun h=>h)) 3 _ O)) ?_)))))))))))
  refine Gs 2 O (znh (fun wz2 eZ=>?_))
  obtain⟨hE,dz,di,dk,df,dW⟩:=Tr6 eZ hE dz di dk df dW
  refine Gs 4 O (zlY tr151 O O (same hE e.symm))
 refine Gs 6 O (zlF O (fun h6=>?_) (fun h6=>?_))
 .
  have hl:=hn.k1 (.inl h6)
  obtain⟨x,dg⟩:∃ x,ks[0]?=some x:=⟨_,zpk (by omega)⟩
  have dI:=hn.good x (zpl dg)
  unfold yr at dI
  obtain⟨dA,dJ,dK,dl,_,db,dr⟩:=di.at (xH dg)
  obtain rfl:=dr
  have dB:dA<_:=zpm _ _ (db 0 _ rfl)
  obtain⟨dC,dL,dM,dt,_,dc,du⟩:=dk.at (xI dg)
  obtain rfl:=du
  have dD:dC<_:=zpm _ _ (dc 0 _ rfl)
  have e:zi vs t.op t.n ks=(-x.2,-x.1):=by rw[zi,zpu h0,zpu dU,zpv h6,zS dg]
  refine Gs 1 O (Qt (by kernel_rfl) (Gs 1 O (znd O O (fun w1 de=>zmh tR27 ts3 O O dt (by omega)) (znf O tg3 (fun w1 de=>((de.cells dc (fun h=>h)) 0 _ O)) (Ga 2 O (by omega) (znd O O (fun w1 de=>zmh tR27 ts3 O O dl (by omega)) (znf O tg3 (fun w1 de=>((de.cells db (fun h=>h)) 0 _ O)) (Ga 3 O (by omega) (znh (fun wz3 e8=>?_))))))))))
  obtain⟨hE,dz,di,dk,df,db,dc⟩:=Tr7 e8 hE dz di dk df db dc
  refine Gs 4 O (zlY tr151 O O (same hE e.symm))
 refine Gs 6 O (zlF O (fun h8=>?_) (fun h8=>?_))
 .
  have hl:=hn.k2 (by omega)
  obtain⟨x,dg⟩:∃ x,ks[0]?=some x:=⟨_,zpk (by omega)⟩
  obtain⟨y,dh⟩:∃ y,ks[1]?=some y:=⟨_,zpk (by omega)⟩
  have dI:=hn.good x (zpl dg)
  have dV:=hn.good y (zpl dh)
  unfold yr at dI dV
  obtain⟨dA,dJ,dK,dl,_,db,dr⟩:=di.at (xH dg)
  obtain rfl:=dr
  have dB:dA<_:=zpm _ _ (db 0 _ rfl)
  obtain⟨dC,dL,dM,dt,_,dc,du⟩:=dk.at (xI dg)
  obtain rfl:=du
  have dD:dC<_:=zpm _ _ (dc 0 _ rfl)
  obtain⟨dE,dN,dO,dm,_,hY,dw⟩:=di.at (xH dh)
  obtain rfl:=dw
  have dF:dE<_:=zpm _ _ (hY 0 _ rfl)
  obtain⟨dG,dQ,dR,dx,_,da,dy⟩:=dk.at (xI dh)
  obtain rfl:=dy
  have dH:dG<_:=zpm _ _ (da 0 _ rfl)
  have e:zi vs t.op t.n ks=(x.1+y.1,x.2+y.2):=by rw[zi,zpu h0,zpu dU,zpu h6,zpv h8,zS dg,zS dh]
  refine Gs 1 O (Qt (by kernel_rfl) (Gs 1 O (znd O O (fun w1 de=>zmh tR27 ts3 O O dl (by omega)) (znf O tg3 (fun w1 de=>((de.cells db (fun h=>h)) 0 _ O)) (Gs 1 O (znd O O (fun w1 de=>zmh tR27 ts3 O O dm (by omega)) (znf O tg3 (fun w1 de=>((de.cells hY (fun h=>h)) 0 _ O)) (Ga 2 O (by omega) (znd O O (fun w1 de=>zmh tR27 ts3 O O dt (by omega)) (znf O tg3 (fun w1 de=>((de.cells dc (fun h=>h)) 0 _ O)) ?_))))))))))
  refine Gs 1 O (znd O O (fun w1 de=>zmh tR27 ts3 O O dx (by omega)) (znf O tg3 (fun w1 de=>((de.cells da (fun h=>h)) 0 _ O)) (Ga 3 O (by omega) (znh (fun wz4 eM=>?_)))))
  obtain⟨hE,dz,di,dk,df,db,dc⟩:=Tr7 eM hE dz di dk df db dc
  obtain⟨hY,da⟩:=Tr2 eM hY da
  refine Gs 4 O (zlY tr151 O O (same hE e.symm))
 refine Gs 6 O (zlF O (fun h9=>?_) (fun h9=>?_))
 .
  have hl:=hn.k2 (by omega)
  obtain⟨x,dg⟩:∃ x,ks[0]?=some x:=⟨_,zpk (by omega)⟩
  obtain⟨y,dh⟩:∃ y,ks[1]?=some y:=⟨_,zpk (by omega)⟩
  have dI:=hn.good x (zpl dg)
  have dV:=hn.good y (zpl dh)
  unfold yr at dI dV
  obtain⟨dA,dJ,dK,dl,_,db,dr⟩:=di.at (xH dg)
  obtain rfl:=dr
  have dB:dA<_:=zpm _ _ (db 0 _ rfl)
  obtain⟨dC,dL,dM,dt,_,dc,du⟩:=dk.at (xI dg)
  obtain rfl:=du
  have dD:dC<_:=zpm _ _ (dc 0 _ rfl)
  obtain⟨dE,dN,dO,dm,_,hY,dw⟩:=di.at (xH dh)
  obtain rfl:=dw
  have dF:dE<_:=zpm _ _ (hY 0 _ rfl)
  obtain⟨dG,dQ,dR,dx,_,da,dy⟩:=dk.at (xI dh)
  obtain rfl:=dy
  have dH:dG<_:=zpm _ _ (da 0 _ rfl)
  have e:zi vs t.op t.n ks=(x.1 - y.2,x.2 - y.1):=by rw[zi,zpu h0,zpu dU,zpu h6,zpu h8,zpv h9,zS dg,zS dh]
  refine Gs 1 O (Qt (by kernel_rfl) (Gs 1 O (znd O O (fun w1 de=>zmh tR27 ts3 O O dl (by omega)) (znf O tg3 (fun w1 de=>((de.cells db (fun h=>h)) 0 _ O)) (Gs 1 O (znd O O (fun w1 de=>zmh tR27 ts3 O O dx (by omega)) (znf O tg3 (fun w1 de=>((de.cells da (fun h=>h)) 0 _ O)) (Ga 2 O (by omega) (znd O O (fun w1 de=>zmh tR27 ts3 O O dt (by omega)) (znf O tg3 (fun w1 de=>((de.cells dc (fun h=>h)) 0 _ O)) ?_))))))))))
  refine Gs 1 O (znd O O (fun w1 de=>zmh tR27 ts3 O O dm (by omega)) (znf O tg3 (fun w1 de=>((de.cells hY (fun h=>h)) 0 _ O)) (Ga 3 O (by omega) (znh (fun wz5 eN=>?_)))))
  obtain⟨hE,dz,di,dk,df,db,dc⟩:=Tr7 eN hE dz di dk df db dc
  obtain⟨hY,da⟩:=Tr2 eN hY da
  refine Gs 4 O (zlY tr151 O O (same hE e.symm))
 refine Gs 6 O (zlF O (fun dX=>?_) (fun dX=>?_))
 .
  have hl:=hn.k2 (by omega)
  obtain⟨x,dg⟩:∃ x,ks[0]?=some x:=⟨_,zpk (by omega)⟩
  obtain⟨y,dh⟩:∃ y,ks[1]?=some y:=⟨_,zpk (by omega)⟩
  have dI:=hn.good x (zpl dg)
  have dV:=hn.good y (zpl dh)
  unfold yr at dI dV
  obtain⟨dA,dJ,dK,dl,_,db,dr⟩:=di.at (xH dg)
  obtain rfl:=dr
  have dB:dA<_:=zpm _ _ (db 0 _ rfl)
  obtain⟨dC,dL,dM,dt,_,dc,du⟩:=dk.at (xI dg)
  obtain rfl:=du
  have dD:dC<_:=zpm _ _ (dc 0 _ rfl)
  obtain⟨dE,dN,dO,dm,_,hY,dw⟩:=di.at (xH dh)
  obtain rfl:=dw
  have dF:dE<_:=zpm _ _ (hY 0 _ rfl)
  obtain⟨dG,dQ,dR,dx,_,da,dy⟩:=dk.at (xI dh)
  obtain rfl:=dy
  have dH:dG<_:=zpm _ _ (da 0 _ rfl)
  have e:zi vs t.op t.n ks=xR x y:=by rw[zi,zpu h0,zpu dU,zpu h6,zpu h8,zpu h9,zpv dX,zS dg,zS dh]
  have m1:=zay (x:=x.1) (y:=y.1) (by omega) (by omega)
  have m2:=zay (x:=x.1) (y:=y.2) (by omega) (by omega)
  have m3:=zay (x:=x.2) (y:=y.1) (by omega) (by omega)
  have m4:=zay (x:=x.2) (y:=y.2) (by omega) (by omega)
  refine Gs 1 O (Qt (by kernel_rfl) (Gs 1 O (znd O O (fun w1 de=>zmh tR27 ts3 O O dl (by omega)) (znf O tg3 (fun w1 de=>((de.cells db (fun h=>h)) 0 _ O)) (Gs 1 O (znd O O (fun w1 de=>zmh tR27 ts3 O O dm (by omega)) (znf O tg3 (fun w1 de=>((de.cells hY (fun h=>h)) 0 _ O)) (Ga 2 O (by omega) (znd O O (fun w1 de=>zmh tR27 ts3 O O dl (by omega)) (znf O tg3 (fun w1 de=>((de.cells db (fun h=>h)) 0 _ O)) ?_))))))))))
  refine Gs 1 O (znd O O (fun w1 de=>zmh tR27 ts3 O O dx (by omega)) (znf O tg3 (fun w1 de=>((de.cells da (fun h=>h)) 0 _ O)) (Ga 2 O (by omega) (znd O O (fun w1 de=>zmh tR27 ts3 O O dt (by omega)) (znf O tg3 (fun w1 de=>((de.cells dc (fun h=>h)) 0 _ O)) (Gs 1 O (znd O O (fun w1 de=>zmh tR27 ts3 O O dm (by omega)) (znf O tg3 (fun w1 de=>((de.cells hY (fun h=>h)) 0 _ O)) (Ga 2 O (by omega) ?_)))))))))
  refine znd O O (fun w1 de=>zmh tR27 ts3 O O dt (by omega)) (znf O tg3 (fun w1 de=>((de.cells dc (fun h=>h)) 0 _ O)) (Gs 1 O (znd O O (fun w1 de=>zmh tR27 ts3 O O dx (by omega)) (znf O tg3 (fun w1 de=>((de.cells da (fun h=>h)) 0 _ O)) (Ga 5 O (by omega) (znh (fun wz6 eO=>?_)))))))
  obtain⟨hE,dz,di,dk,df,db,dc⟩:=Tr7 eO hE dz di dk df db dc
  obtain⟨hY,da⟩:=Tr2 eO hY da
  refine Gs 5 O (G.call O tc114 (zt _ _ _) ?_)
  rintro _ wz7 ⟨rfl,eP⟩
  obtain⟨hE,dz,di,dk,df,db,dc⟩:=Tr7 eP hE dz di dk df db dc
  obtain⟨hY,da⟩:=Tr2 eP hY da
  refine Gs 2 O (G.call O tc114 (zt _ _ _) ?_)
  rintro _ wz8 ⟨rfl,eQ⟩
  obtain⟨hE,dz,di,dk,df,db,dc⟩:=Tr7 eQ hE dz di dk df db dc
  obtain⟨hY,da⟩:=Tr2 eQ hY da
  refine G.call O tc114 (zt _ _ _) ?_
  rintro _ wz9 ⟨rfl,eR⟩
  obtain⟨hE,dz,di,dk,df,db,dc⟩:=Tr7 eR hE dz di dk df db dc
  obtain⟨hY,da⟩:=Tr2 eR hY da
  refine Gs 2 O (G.call O tc113 (zL _ _ _) ?_)
  rintro _ wz10 ⟨rfl,d9⟩
  obtain⟨hE,dz,di,dk,df,db,dc⟩:=Tr7 d9 hE dz di dk df db dc
  obtain⟨hY,da⟩:=Tr2 d9 hY da
  refine Gs 2 O (G.call O tc113 (zL _ _ _) ?_)
  rintro _ wz11 ⟨rfl,ea⟩
  obtain⟨hE,dz,di,dk,df,db,dc⟩:=Tr7 ea hE dz di dk df db dc
  obtain⟨hY,da⟩:=Tr2 ea hY da
  refine G.call O tc113 (zL _ _ _) ?_
  rintro _ wz12 ⟨rfl,eb⟩
  obtain⟨hE,dz,di,dk,df,db,dc⟩:=Tr7 eb hE dz di dk df db dc
  obtain⟨hY,da⟩:=Tr2 eb hY da
  refine Gs 7 O (zlY tr151 O O (same hE ?_))
  rw[e]
  unfold xR yY
  simp only[zqU,List.foldl_nil]
  congr 1<;>omega
 refine Gs 6 O (zlF O (fun dY=>?_) (fun dY=>?_))
 .
  have hl:=hn.k2 (by omega)
  obtain⟨x,dg⟩:∃ x,ks[0]?=some x:=⟨_,zpk (by omega)⟩
  obtain⟨y,dh⟩:∃ y,ks[1]?=some y:=⟨_,zpk (by omega)⟩
  have dI:=hn.good x (zpl dg)
  have dV:=hn.good y (zpl dh)
  unfold yr at dI dV
  obtain⟨dA,dJ,dK,dl,_,db,dr⟩:=di.at (xH dg)
  obtain rfl:=dr
  have dB:dA<_:=zpm _ _ (db 0 _ rfl)
  obtain⟨dC,dL,dM,dt,_,dc,du⟩:=dk.at (xI dg)
  obtain rfl:=du
  have dD:dC<_:=zpm _ _ (dc 0 _ rfl)
  obtain⟨dE,dN,dO,dm,_,hY,dw⟩:=di.at (xH dh)
  obtain rfl:=dw
  have dF:dE<_:=zpm _ _ (hY 0 _ rfl)
  obtain⟨dG,dQ,dR,dx,_,da,dy⟩:=dk.at (xI dh)
  obtain rfl:=dy
  have dH:dG<_:=zpm _ _ (da 0 _ rfl)
  have e:zi vs t.op t.n ks=(if 0<=x.1/\0<=y.1 then 0 else -(max x.2 (-x.1)),max x.2 (-x.1)):=by rw[zi,zpu h0,zpu dU,zpu h6,zpu h8,zpu h9,zpu dX,zpv dY,zS dg,zS dh]
  have e9:0<=max x.2 (-x.1)/\max x.2 (-x.1)<=1048576:=by omega
  have hm:max (if x.1<0 then -x.1 else x.1) (if x.2<0 then -x.2 else x.2)=max x.2 (-x.1):=by split<;>split<;>omega
  refine Gs 1 O (Dw (fun q=>Ext d6 q) [] (fun wd13 hD _=>?_))
  refine Ds [0] (by kernel_rfl) O (zmI 1 O (by kernel_rfl) O O O (fun w1=>zmh tR27 ts3 O O dl (by omega)) (WD.take 2 O (by kernel_rfl) O O O hD (fun w1 de=>R.load tg3 O ((de.cells db (fun h=>h)) 0 _ O)) (Ds [4] (by kernel_rfl) O (zmI 5 O (by kernel_rfl) O O O (fun w1=>zmh tR27 ts3 O O dt (by omega)) (WD.take 6 O (by kernel_rfl) O O O hD (fun w1 de=>R.load tg3 O ((de.cells dc (fun h=>h)) 0 _ O)) (WD.call 3 O (by kernel_rfl) O O O (F.call (vs:=[_]) Tryz.call182 O) (zbk x.1 _ (by omega)) ?_))))))
  rintro _ wz14 ⟨rfl,eo⟩
  replace hD:=hD.ext eo
  refine⟨fun _=>hD,?_⟩
  refine WD.call 7 O (by kernel_rfl) O O O (F.call (vs:=[_]) Tryz.call182 O) (zbk x.2 _ (by omega)) ?_
  rintro _ wz15 ⟨rfl,ep⟩
  replace hD:=hD.ext ep
  refine⟨fun _=>hD,?_⟩
  refine WD.call 8 O (by kernel_rfl) O O O (F.call (vs:=[_,_]) tc113 O) (zL _ _ _) ?_
  rintro _ wz16 ⟨rfl,er⟩
  replace hD:=hD.ext er
  refine⟨fun _=>hD,?_⟩
  rw[hm]
  refine Ds [9] (by kernel_rfl) O (G.done (by kernel_rfl) ?_ _)
  obtain⟨hE,dz,di,dk,df,db,dc⟩:=Tr7 hD hE dz di dk df db dc
  obtain⟨hY,da⟩:=Tr2 hD hY da
  refine Gs 5 O (zna O O (zmh tR27 ts3 O O dl (by omega)) (zne O tg3 (db 0 _ O) (Gs 2 O (G.sp 149 O (fun p0=>?_) (fun p0=>?_)))))
  .
   refine Gs 1 O (zna O O (zmh tR27 ts3 O O dm (by omega)) (zne O tg3 (hY 0 _ O) (Gs 4 O (zlF O (fun p1=>?_) (fun p1=>?_)))))
   . refine Gs 11 O (zlY tr151 O O (same hE (by rw[e,zpv ⟨p0,p1⟩])))
   refine Ga 14 O (by omega) (zlY tr151 O O (same hE (by rw[e,zpu (fun h=>p1 h.2)])))
  refine Ga 22 O (by omega) (zlY tr151 O O (same hE (by rw[e,zpu (fun h=>p0 h.1)])))
 refine Gs 6 O (zlF O (fun d5=>?_) (fun d5=>?_))
 .
  have hl:=hn.k2 (by omega)
  obtain⟨x,dg⟩:∃ x,ks[0]?=some x:=⟨_,zpk (by omega)⟩
  obtain⟨y,dh⟩:∃ y,ks[1]?=some y:=⟨_,zpk (by omega)⟩
  have dI:=hn.good x (zpl dg)
  have dV:=hn.good y (zpl dh)
  unfold yr at dI dV
  obtain⟨dA,dJ,dK,dl,_,db,dr⟩:=di.at (xH dg)
  obtain rfl:=dr
  have dB:dA<_:=zpm _ _ (db 0 _ rfl)
  obtain⟨dC,dL,dM,dt,_,dc,du⟩:=dk.at (xI dg)
  obtain rfl:=du
  have dD:dC<_:=zpm _ _ (dc 0 _ rfl)
  obtain⟨dE,dN,dO,dm,_,hY,dw⟩:=di.at (xH dh)
  obtain rfl:=dw
  have dF:dE<_:=zpm _ _ (hY 0 _ rfl)
  obtain⟨dG,dQ,dR,dx,_,da,dy⟩:=dk.at (xI dh)
  obtain rfl:=dy
  have dH:dG<_:=zpm _ _ (da 0 _ rfl)
  have e:zi vs t.op t.n ks=(if y.1<0 then min (y.1+1) 0 else 0,if 0<y.2 then max (y.2 - 1) 0 else 0):=by rw[zi,zpu h0,zpu dU,zpu h6,zpu h8,zpu h9,zpu dX,zpu dY,zpv d5,zS dh]
  refine Gs 1 O (Dw (fun q=>Ext d6 q) [] (fun wd17 hD _=>?_))
  refine Ds [0] (by kernel_rfl) O (zmI 1 O (by kernel_rfl) O O O (fun w1=>zmh tR27 ts3 O O dm (by omega)) (WD.take 2 O (by kernel_rfl) O O O hD (fun w1 de=>R.load tg3 O ((de.cells hY (fun h=>h)) 0 _ O)) (Ds [3] (by kernel_rfl) O (zmI 4 O (by kernel_rfl) O O O (fun w1=>zmh tR27 ts3 O O dx (by omega)) (WD.take 5 O (by kernel_rfl) O O O hD (fun w1 de=>R.load tg3 O ((de.cells da (fun h=>h)) 0 _ O)) (WD.call 6 O (by kernel_rfl) O O O (F.call (vs:=[_,_]) Tryz.call183 O) (zcQ y.1 y.2 _ (by omega) (by omega)) ?_))))))
  rintro _ wz18 ⟨rfl,eu⟩
  replace hD:=hD.ext eu
  refine⟨fun _=>hD,?_⟩
  refine Ds [7,8,9,10] (by kernel_rfl) O (G.done (by kernel_rfl) ?_ _)
  obtain⟨hE,dz,di,dk,df,db,dc⟩:=Tr7 hD hE dz di dk df db dc
  obtain⟨hY,da⟩:=Tr2 hD hY da
  refine Gs 4 O (zlY tr151 O O (same hE e.symm))
 refine Gs 6 O (zlF O (fun ec=>?_) (fun ec=>?_))
 .
  have hl:=hn.k2 (by omega)
  obtain⟨x,dg⟩:∃ x,ks[0]?=some x:=⟨_,zpk (by omega)⟩
  obtain⟨y,dh⟩:∃ y,ks[1]?=some y:=⟨_,zpk (by omega)⟩
  have dI:=hn.good x (zpl dg)
  have dV:=hn.good y (zpl dh)
  unfold yr at dI dV
  obtain⟨dA,dJ,dK,dl,_,db,dr⟩:=di.at (xH dg)
  obtain rfl:=dr
  have dB:dA<_:=zpm _ _ (db 0 _ rfl)
  obtain⟨dC,dL,dM,dt,_,dc,du⟩:=dk.at (xI dg)
  obtain rfl:=du
  have dD:dC<_:=zpm _ _ (dc 0 _ rfl)
  obtain⟨dE,dN,dO,dm,_,hY,dw⟩:=di.at (xH dh)
  obtain rfl:=dw
  have dF:dE<_:=zpm _ _ (hY 0 _ rfl)
  obtain⟨dG,dQ,dR,dx,_,da,dy⟩:=dk.at (xI dh)
  obtain rfl:=dy
  have dH:dG<_:=zpm _ _ (da 0 _ rfl)
  have e:zi vs t.op t.n ks=(min x.1 y.1,min x.2 y.2):=by rw[zi,zpu h0,zpu dU,zpu h6,zpu h8,zpu h9,zpu dX,zpu dY,zpu d5,zpv ec,zS dg,zS dh]
  refine Gs 1 O (Dw (fun q=>Ext d6 q) [] (fun wd19 hD _=>?_))
  refine Ds [0] (by kernel_rfl) O (zmI 1 O (by kernel_rfl) O O O (fun w1=>zmh tR27 ts3 O O dl (by omega)) (WD.take 2 O (by kernel_rfl) O O O hD (fun w1 de=>R.load tg3 O ((de.cells db (fun h=>h)) 0 _ O)) (Ds [3] (by kernel_rfl) O (zmI 4 O (by kernel_rfl) O O O (fun w1=>zmh tR27 ts3 O O dm (by omega)) (WD.take 5 O (by kernel_rfl) O O O hD (fun w1 de=>R.load tg3 O ((de.cells hY (fun h=>h)) 0 _ O)) (Ds [7] (by kernel_rfl) O (zmI 8 O (by kernel_rfl) O O O (fun w1=>zmh tR27 ts3 O O dt (by omega)) ?_)))))))
  refine WD.take 9 O (by kernel_rfl) O O O hD (fun w1 de=>R.load tg3 O ((de.cells dc (fun h=>h)) 0 _ O)) (Ds [10] (by kernel_rfl) O (zmI 11 O (by kernel_rfl) O O O (fun w1=>zmh tR27 ts3 O O dx (by omega)) (WD.take 12 O (by kernel_rfl) O O O hD (fun w1 de=>R.load tg3 O ((de.cells da (fun h=>h)) 0 _ O)) (WD.call 6 O (by kernel_rfl) O O O (F.call (vs:=[_,_]) tc114 O) (zt _ _ _) ?_))))
  rintro _ wz20 ⟨rfl,ew⟩
  replace hD:=hD.ext ew
  refine⟨fun _=>hD,?_⟩
  refine WD.call 13 O (by kernel_rfl) O O O (F.call (vs:=[_,_]) tc114 O) (zt _ _ _) ?_
  rintro _ wz21 ⟨rfl,ey⟩
  replace hD:=hD.ext ey
  refine⟨fun _=>hD,?_⟩
  refine Ds [14,15] (by kernel_rfl) O (G.done (by kernel_rfl) ?_ _)
  obtain⟨hE,dz,di,dk,df,db,dc⟩:=Tr7 hD hE dz di dk df db dc
  obtain⟨hY,da⟩:=Tr2 hD hY da
  refine Gs 4 O (zlY tr151 O O (same hE e.symm))
 refine Gs 6 O (zlF O (fun ej=>?_) (fun ej=>?_))
 .
  have hl:=hn.k2 (by omega)
  obtain⟨x,dg⟩:∃ x,ks[0]?=some x:=⟨_,zpk (by omega)⟩
  obtain⟨y,dh⟩:∃ y,ks[1]?=some y:=⟨_,zpk (by omega)⟩
  have dI:=hn.good x (zpl dg)
  have dV:=hn.good y (zpl dh)
  unfold yr at dI dV
  obtain⟨dA,dJ,dK,dl,_,db,dr⟩:=di.at (xH dg)
  obtain rfl:=dr
  have dB:dA<_:=zpm _ _ (db 0 _ rfl)
  obtain⟨dC,dL,dM,dt,_,dc,du⟩:=dk.at (xI dg)
  obtain rfl:=du
  have dD:dC<_:=zpm _ _ (dc 0 _ rfl)
  obtain⟨dE,dN,dO,dm,_,hY,dw⟩:=di.at (xH dh)
  obtain rfl:=dw
  have dF:dE<_:=zpm _ _ (hY 0 _ rfl)
  obtain⟨dG,dQ,dR,dx,_,da,dy⟩:=dk.at (xI dh)
  obtain rfl:=dy
  have dH:dG<_:=zpm _ _ (da 0 _ rfl)
  have e:zi vs t.op t.n ks=(max x.1 y.1,max x.2 y.2):=by rw[zi,zpu h0,zpu dU,zpu h6,zpu h8,zpu h9,zpu dX,zpu dY,zpu d5,zpu ec,zpv ej,zS dg,zS dh]
  refine Gs 1 O (Dw (fun q=>Ext d6 q) [] (fun wd22 hD _=>?_))
  refine Ds [0] (by kernel_rfl) O (zmI 1 O (by kernel_rfl) O O O (fun w1=>zmh tR27 ts3 O O dl (by omega)) (WD.take 2 O (by kernel_rfl) O O O hD (fun w1 de=>R.load tg3 O ((de.cells db (fun h=>h)) 0 _ O)) (Ds [3] (by kernel_rfl) O (zmI 4 O (by kernel_rfl) O O O (fun w1=>zmh tR27 ts3 O O dm (by omega)) (WD.take 5 O (by kernel_rfl) O O O hD (fun w1 de=>R.load tg3 O ((de.cells hY (fun h=>h)) 0 _ O)) (Ds [7] (by kernel_rfl) O (zmI 8 O (by kernel_rfl) O O O (fun w1=>zmh tR27 ts3 O O dt (by omega)) ?_)))))))
  refine WD.take 9 O (by kernel_rfl) O O O hD (fun w1 de=>R.load tg3 O ((de.cells dc (fun h=>h)) 0 _ O)) (Ds [10] (by kernel_rfl) O (zmI 11 O (by kernel_rfl) O O O (fun w1=>zmh tR27 ts3 O O dx (by omega)) (WD.take 12 O (by kernel_rfl) O O O hD (fun w1 de=>R.load tg3 O ((de.cells da (fun h=>h)) 0 _ O)) (WD.call 6 O (by kernel_rfl) O O O (F.call (vs:=[_,_]) tc113 O) (zL _ _ _) ?_))))
  rintro _ wz23 ⟨rfl,ez⟩
  replace hD:=hD.ext ez
  refine⟨fun _=>hD,?_⟩
  refine WD.call 13 O (by kernel_rfl) O O O (F.call (vs:=[_,_]) tc113 O) (zL _ _ _) ?_
  rintro _ wz24 ⟨rfl,eA⟩
  replace hD:=hD.ext eA
  refine⟨fun _=>hD,?_⟩
  refine Ds [14,15] (by kernel_rfl) O (G.done (by kernel_rfl) ?_ _)
  obtain⟨hE,dz,di,dk,df,db,dc⟩:=Tr7 hD hE dz di dk df db dc
  obtain⟨hY,da⟩:=Tr2 hD hY da
  refine Gs 4 O (zlY tr151 O O (same hE e.symm))
 have ed:¬ (t.op=23\/t.op=25)->zi vs t.op t.n ks=(0,1):=fun h=>by rw[zi,zpu h0,zpu dU,zpu h6,zpu h8,zpu h9,zpu dX,zpu dY,zpu d5,zpu ec,zpu ej,zpu h]
 refine Gs 7 O (zlQ (σ:=Bool) (fun p=>[(2,.slice al ks.length nl),(3,.slice ah ks.length nh),(202,.bool p)]) (fun p=>fun w'=>(p=true ↔ t.op=23\/t.op=25)/\w'=d6) ?_ ?_)
 .
  refine zlF O (fun eC=>?_) (fun eC=>?_)
  . refine Gs 1 O (zlS (decide (t.op=23)) (Sub.cons O (Sub.cons O (Sub.cons (by first | rfl | (show some (Value.bool true)=some (Value.bool _);simp[*])) Sub.nil))) (⟨by simp[eC],rfl⟩))
  refine Gs 4 O (zlS (decide (t.op=25)) (Sub.of O) (⟨by simp[eC],rfl⟩))
 rintro p w2 ⟨hp,fa⟩
 subst fa
 refine Gs 1 O (G.bool O (fun p1=>?_) (fun p1=>?_))
 .
  have hl:=hn.k3 (hp.1 p1)
  obtain⟨y,dh⟩:∃ y,ks[1]?=some y:=⟨_,zpk (by omega)⟩
  have e:zi vs t.op t.n ks=yY y (ks.drop 2):=by rw[zi,zpu h0,zpu dU,zpu h6,zpu h8,zpu h9,zpu dX,zpu dY,zpu d5,zpu ec,zpu ej,zpv (hp.1 p1),zS dh]
  obtain⟨dE,dN,dO,dm,_,hY,dw⟩:=di.at (xH dh)
  obtain rfl:=dw
  have dF:dE<_:=zpm _ _ (hY 0 _ rfl)
  obtain⟨dG,dQ,dR,dx,_,da,dy⟩:=dk.at (xI dh)
  obtain rfl:=dy
  have dH:dG<_:=zpm _ _ (da 0 _ rfl)
  refine Gs 1 O (Qt (by kernel_rfl) (Gs 1 O (znd O O (fun w1 de=>zmh tR27 ts3 O O dm (by omega)) (znf O tg3 (fun w1 de=>((de.cells hY (fun h=>h)) 0 _ O)) (Gs 1 O (znd O O (fun w1 de=>zmh tR27 ts3 O O dx (by omega)) (znf O tg3 (fun w1 de=>((de.cells da (fun h=>h)) 0 _ O)) (Gs 2 O (znh (fun wz25 eD=>?_))))))))))
  obtain⟨hE,dz,di,dk,df,hY,da⟩:=Tr7 eD hE dz di dk df hY da
  refine Gs 8 O (G.loop (σ:=Nat) (fun k=>[(2,.slice al ks.length nl),(3,.slice ah ks.length nh),(15,.int .i64 (yY y ((ks.drop 2).take k)).1),(16,.int .i64 (yY y ((ks.drop 2).take k)).2),(17,.int .i64 ((k:Int)+2))]) (fun k=>fun w'=>k+2<=ks.length/\Ext wz25 w') (fun k=>ks.length - k) (0) (Sub.of O) (⟨by omega,Keep.refl _ _⟩) ?_)
  rintro k w4 ⟨fm,ek⟩
  obtain⟨hE,dz,di,dk,df,hY,da⟩:=Tr7 ek hE dz di dk df hY da
  refine Gs 9 O (zlF O (fun fb=>?_) (fun fb=>?_))
  .
   obtain⟨z,dZ⟩:∃ z,ks[k+2]?=some z:=⟨_,zpk (by omega)⟩
   have ee:(ks.drop 2)[k]?=some z:=by rw[List.getElem?_drop,zrK];exact dZ
   obtain⟨eE,fc,fe,ef,_,dS,eg⟩:=di.at (xH dZ)
   obtain rfl:=eg
   have eF:eE<_:=zpm _ _ (dS 0 _ rfl)
   obtain⟨eG,fg,fh,eh,_,dT,ei⟩:=dk.at (xI dZ)
   obtain rfl:=ei
   have eH:eG<_:=zpm _ _ (dT 0 _ rfl)
   have fp:((k:Int)+2).toNat=k+2:=by omega
   refine Gs 4 O (Dw (fun q=>Ext w4 q) [] (fun wd26 hD _=>?_))
   refine Ds [0,1,2] (by kernel_rfl) O (zmI 3 O (by kernel_rfl) O O O (fun w1=>zmh tR27 ts3 O O ef (by omega)) (WD.take 4 O (by kernel_rfl) O O O hD (fun w1 de=>R.load tg3 O ((de.cells dS (fun h=>h)) 0 _ O)) (Ds [6,7,8] (by kernel_rfl) O (zmI 9 O (by kernel_rfl) O O O (fun w1=>zmh tR27 ts3 O O eh (by omega)) (WD.take 10 O (by kernel_rfl) O O O hD (fun w1 de=>R.load tg3 O ((de.cells dT (fun h=>h)) 0 _ O)) (WD.call 5 O (by kernel_rfl) O O O (F.call (vs:=[_,_]) tc114 O) (zt _ _ _) ?_))))))
   rintro _ wz27 ⟨rfl,eI⟩
   replace hD:=hD.ext eI
   refine⟨fun _=>hD,?_⟩
   refine WD.call 11 O (by kernel_rfl) O O O (F.call (vs:=[_,_]) tc113 O) (zL _ _ _) ?_
   rintro _ wz28 ⟨rfl,eJ⟩
   replace hD:=hD.ext eJ
   refine⟨fun _=>hD,?_⟩
   refine Ds [12,13] (by kernel_rfl) O (G.done (by kernel_rfl) ?_ _)
   obtain⟨hE,dz,di,dk,df,hY,da⟩:=Tr7 hD hE dz di dk df hY da
   obtain⟨ek,dS,dT⟩:=Tr3 hD ek dS dT
   refine Ga 7 O (by omega) ?_
   have eS:=zae (x:=y) ee
   refine G.back (k+1) (Sub.cons O (Sub.cons O (Sub.cons (yC O (by rw[eS])) (Sub.cons (yC O (by rw[eS])) (Sub.cons (yC O (by omega)) Sub.nil))))) (⟨by omega,ek⟩) (by first | omega | (dsimp only;omega))
  have fi:k=(ks.drop 2).length:=by rw[zqX];omega
  rw[fi,zpp]
  refine Gs 16 O (zlY tr151 O O (same hE (by rw[e])))
 have e:=ed (fun h=>by rw[hp.2 h]at p1;cases p1)
 refine Gs 10 O (zlY tr151 O O (same hE e.symm))
open Go.GL
def zc3 (x:Int):List Value:=[.int .i64 x]
theorem xA (x:Int):(zc3 x).length=1:=rfl
theorem zfg (x:Int):∀ u ∈ zc3 x,u.oneCell'=true:=by simp[zc3,Value.oneCell']
theorem kM (l:List Int):(l.flatMap zc3).length=l.length*1:=yu xA l
theorem zeE (vs:List Vr) (inp:Bool) (vv:Value) (Dv:Nat->Prop) (dK:∀ v ∈ vs,yr (v.low,v.high)) (t:Tm):∀ (cs:List Value) (D:Nat->Prop) (w:World),SlR 5 RVr Dv w vv vs->RTm D w t cs->zu vs inp t=true->t.nodes<=1000000 ->
  Calls Tryz.prog 111 #[vv,.agg cs.toArray] w (Ret fun r w'=>(∃ a b:Int,r=.tuple #[.int .i64 a,.int .i64 b,.bool (rng vs t).isSome]/\∀ x,rng vs t=some x->(a,b)=x)/\Ext w w'):=by
 induction t using znv with
 | h t ih =>
 intro cs D w db ht hf ez
 rw[yW,zpW,zpW]at hf
 have d8:=zbh t.kids
 have eA:=t.nodes_eq
 obtain⟨v,rfl,hk⟩:=ht.get
 obtain⟨ao,cap,rfl⟩:=hk.form
 obtain⟨av,nv,rfl⟩:=db.form
 have hE:=Keep.refl (fun _=>False) w
 refine znl Tryz.func111 O Tryz.ntmps111 O (Gs 2 O (zmr O O (M.box O O) ?_))
 rintro _ dt ⟨b,rfl,dC,d9,hY,dD⟩
 have dL:_<=b:=zpq hE.size (zrS dC.symm)
 obtain⟨hE,db,hk⟩:=Tr3 dD hE db hk
 refine Gs 7 O (zmr O O (zmQ tR27 ts3) ?_)
 rintro _ wl ⟨bl,rfl,eC,ea,dM,eb⟩
 refine Gs 5 O (zmr O O (zmQ tR27 ts3) ?_)
 rintro _ wh ⟨bh,rfl,eD,dN,ec,dO⟩
 have dg:wh.ownsRow 0 3 1 (.slice (some ⟨bl,0,none⟩) 0 0) 0 (([]:List Int).flatMap zc3):=ye (dO.blk dM (fun h=>h)) (zpJ _) (by omega) rfl
 have df:wh.ownsRow 0 3 1 (.slice (some ⟨bh,0,none⟩) 0 0) 0 (([]:List Int).flatMap zc3):=ye ec (zpJ _) (by omega) rfl
 have dQ:=dM.lt
 refine Gs 10 O (G.loop (σ:=Nat × List Rg × Value × Value) (fun⟨i,l,vl,vh⟩=>[(0,.slice av vs.length nv),(3,.pointer (some ⟨b,0,none⟩)),(7,vl),(8,vh),(9,.int .i64 i)]) (fun⟨i,l,vl,vh⟩=>fun w'=>i<=t.kids.length/\rngL vs (t.kids.take i)=some l/\w'.ownsRow 0 3 1 vl l.length ((l.map Prod.fst).flatMap zc3)/\w'.ownsRow 0 3 1 vh l.length ((l.map Prod.snd).flatMap zc3)/\(∀ q,vl.ownBlock=some q->dt.heap.size<=q)/\(∀ q,vh.ownBlock=some q->dt.heap.size<=q/\vl.ownBlock ≠ some q)/\Ext dt w') (fun⟨i,l,vl,vh⟩=>t.kids.length - i) ((0,[],.slice (some ⟨bl,0,none⟩) 0 0,.slice (some ⟨bh,0,none⟩) 0 0)) (Sub.of O) (⟨zpz _,rfl,dg,df,fun q hq=>by simp[Value.ownBlock]at hq;omega,fun q hq=>by simp[Value.ownBlock]at hq ⊢;omega,eb.ext dO⟩) ?_)
 rintro⟨i,l,vl,vh⟩ w1 ⟨hi,hl,dg,df,dR,dB,hL⟩
 show G _ _ _ _ _ [(0,.slice av vs.length nv),(3,.pointer (some ⟨b,0,none⟩)),(7,vl),(8,vh),(9,.int .i64 i)] _
 obtain⟨hE,db,hk,hY⟩:=Tr4 hL hE db hk hY
 refine Gs 5 O (zne O tg68 (hY.cells 2 _ O) (Gs 4 O (zlF O (fun ed=>?_) (fun ed=>?_))))
 .
  obtain⟨k,dh,du⟩:=gE_ t.kids (i) (by omega)
  obtain⟨ee,eE,eF,dE,_,dc,dw⟩:=hk.at dh
  have ef:=RTm.one dw
  obtain⟨eg,rfl,de⟩:=dw.get
  obtain⟨eh,ei,rfl⟩:=de.form
  have dS:ee<_:=zpm _ _ (dc 0 _ rfl)
  have eG:=xF dh
  have dF:=qr _ _ hl
  rw[zpO]at dF
  refine Gs 8 O (zne O tg68 (hY.cells 2 _ O) (Gs 1 O (zna O O (zmh tR68 ts70 O O dE (by omega)) (zng O tg70 ts70 dc O (G.call O Tryz.call111 (ih k du _ D _ db (RTm.put de) (yg hf.2 du) (by omega)) ?_)))))
  rintro _ wz1 ⟨⟨ka,kb,rfl,dr⟩,dT⟩
  obtain⟨hE,db,hk,hY,hL,dg,df⟩:=Tr7 dT hE db hk hY hL dg df
  obtain⟨dc,de⟩:=Tr2 dT dc de
  refine Gs 13 O (zna O O (zmT O (by first | exact za | rfl)) (Gs 2 O (G.bool O (fun hb=>?_) (fun hb=>?_))))
  .
   have ej:rng vs k=none:=by cases h:rng vs k<;>simp[h]at hb ⊢
   have dk:rng vs t=none:=by rw[zbt,zdE dh ej];rfl
   refine Gs 14 O (zm1 Tryz.results111 O O O ⟨_,rfl,⟨0,0,by rw[dk];rfl,fun x hx=>by rw[dk]at hx;cases hx⟩,hE⟩)
  obtain⟨x,hx⟩:∃ x,rng vs k=some x:=by cases h:rng vs k with
   | none=>simp[h]at hb
   | some x=>exact⟨x,rfl⟩
  have ek:=dr x hx
  subst ek
  refine Gs 6 O (zmr O O (M.buildSlice (cs:=zc3 ka) [(0,_)] tR27 ts3 tz3 (by decide) O (by kernel_rfl)) ?_)
  rintro _ w5 ⟨b5,rfl,dU,dV,dx,dl⟩
  obtain⟨hE,db,hk,hY,hL,dg,df⟩:=Tr7 dl hE db hk hY hL dg df
  obtain⟨dc,de⟩:=Tr2 dl dc de
  refine zmr O O (M.append tu27 Tryz.el3 O (by decide) O O dg O (Cells.add dx.cells) (zfg _) (by omega) (by omega)) ?_
  rintro vl' w6 ⟨dm,dy,dG,_⟩
  refine Gs 6 O (zmr O O (M.buildSlice (cs:=zc3 kb) [(0,_)] tR27 ts3 tz3 (by decide) O (by kernel_rfl)) ?_)
  rintro _ w7 ⟨b7,rfl,dW,dX,dz,da⟩
  have dH:=zm (zm df dG (fun q hq h=>(dB q hq).2 h)) da (fun _ _ h=>h)
  refine zmr O O (M.append tu27 Tryz.el3 O (by decide) O O dH O (Cells.add dz.cells) (zfg _) (by omega) (by omega)) ?_
  rintro vh' w8 ⟨dA,dI,dY,_⟩
  have em:=hL.size
  have en:=dG.size
  have eo:=da.size
  have di:∀ q,vl'.ownBlock=some q->dt.heap.size<=q/\vh.ownBlock ≠ some q/\q<w6.heap.size:=by
   intro q hq
   refine⟨?_,?_,xB dm hq⟩
   .
    rcases dy with h | ⟨q',h,h'⟩
    . exact dR q (by rw[<- h];exact hq)
    rw[h]at hq;cases hq;omega
   intro h0
   have:=xB df h0
   rcases dy with h | ⟨q',h,h'⟩
   . exact(dB q h0).2 (by rw[<- h];exact hq)
   rw[h]at hq;cases hq;omega
  have ep:Ext dt w8:=((hL.trans dG (fun q hq h=>by have:=dR q h;omega)).ext da).trans dY (fun q hq h=>by have:=(dB q h).1;omega)
  refine Ga 9 O (by omega) (G.back ((i+1,l++[(ka,kb)],vl',vh')) (Sub.of O) (⟨by omega,zdD dh hl hx,?_,?_,fun q hq=>(di q hq).1,?_,ep⟩) (by first | omega | (dsimp only;omega)))
  .
   rw[zps,zr3,zqO]
   exact zm (zm dm da (fun _ _ h=>h)) dY (fun q hq h=>(di q hq).2.1 h)
  .
   rw[zps,zr3,zqO]
   exact dA
  intro q hq
  rcases dI with h | ⟨q',h,h'⟩
  .
   have dZ:vh.ownBlock=some q:=by rw[<- h];exact hq
   refine⟨(dB q dZ).1,fun h0=>(di q h0).2.1 dZ⟩
  rw[h]at hq
  cases hq
  exact⟨by omega,fun h0=>by have:=(di _ h0).2.2;omega⟩
 have er:i=t.kids.length:=by omega
 subst er
 rw[zpp]at hl
 have dF:=qr _ _ hl
 have eu:SlR 1 zC (fun _=>True) w1 vl (l.map Prod.fst):=zmN (by omega) zc3 xA (fun x _=>rfl) dg (fun _ _=>trivial)
 have dN:SlR 1 zC (fun _=>True) w1 vh (l.map Prod.snd):=zmN (by omega) zc3 xA (fun x _=>rfl) df (fun _ _=>trivial)
 have hn:NodeOk vs t.op t.n l:=jl dF hf.1.1 hf.1.2 (fun x hx=>by
  obtain⟨k,hk,ew⟩:=jE _ _ hl x hx
  exact kL dK k (yg hf.2 hk) x ew) dK
 have d5:rng vs t=if okR (zi vs t.op t.n l) then some (zi vs t.op t.n l) else none:=by rw[zbt,hl];rfl
 refine Gs 8 O (zng O tg70 ts70 hY.cells O (Gs 2 O (G.call O Tryz.call151 (zfW vs t l _ vl vh _ Dv D (fun _=>True) (fun _=>True) _ db (RTm.put hk) eu dN hn) ?_)))
 rintro _ wz2 ⟨⟨a,c,rfl,d6,dr⟩,ey⟩
 obtain⟨hE,db,hk,hY,hL,dg,df⟩:=Tr7 ey hE db hk hY hL dg df
 have dJ:(rng vs t).isSome=okR (a,c):=by rw[d5,d6];cases okR (zi vs t.op t.n l)<;>rfl
 have d7:∀ x,rng vs t=some x->(a,c)=x:=by
  intro x hx
  have h1:okR (a,c)=true:=by rw[<- dJ,hx];rfl
  rw[d5,<- d6,h1,zpv rfl]at hx
  rw[dr h1]
  exact Option.some.inj hx
 refine Gs 14 O (G.sp 57 O (fun g1=>?_) (fun g1=>?_))
 .
  have ho:okR (a,c)=decide (c<=1048576):=by unfold okR;congr 1;simp;omega
  refine Gs 9 O (zm1 Tryz.results111 O O O ⟨_,rfl,⟨a,c,by rw[dJ,ho]<;>rfl,d7⟩,hE⟩)
 have ho:okR (a,c)=false:=by unfold okR;exact zpx (by dsimp only;omega)
 refine Gs 9 O (zm1 Tryz.results111 O O O ⟨_,rfl,⟨a,c,by rw[dJ,ho]<;>rfl,d7⟩,hE⟩)
def zD (vs:List Vr) (inp:Bool) (t:Tm):Int:=if zu vs inp t then (if (rng vs t).isSome then 0 else 3) else 1
theorem qb (vs:List Vr) (inp:Bool) (vv:Value) (cs:List Value) (Dv D:Nat->Prop) (w:World) (t:Tm) (dh:∀ v ∈ vs,yr (v.low,v.high)) (da:SlR 5 RVr Dv w vv vs) (ht:RTm D w t cs) (di:t.nodes<=1000000):Calls Tryz.prog 63 #[vv,.agg cs.toArray,.bool inp] w (Ret fun r w'=>r=.int .i64 (zD vs inp t)/\Ext w w'):=by
 obtain⟨v,rfl,hk⟩:=ht.get
 have hE:=Keep.refl (fun _=>False) w
 refine znm Tryz.func63 O Tryz.ntmps63 O (Gs 2 O (zmr O O (M.box O O) ?_))
 rintro _ dr ⟨b,rfl,dc,dk,hY,de⟩
 have dg:_<=b:=zpq hE.size (zrS dc.symm)
 obtain⟨hE,da,hk⟩:=Tr3 de hE da hk
 refine Gs 7 O (zng O tg70 ts70 hY.cells O (Gs 1 O (G.call O Tryz.call110 (zdC vs inp vv Dv t _ D _ da (RTm.put hk)) ?_)))
 rintro _ wz1 ⟨rfl,dl⟩
 obtain⟨hE,da,hk,hY⟩:=Tr4 dl hE da hk hY
 refine zna O O (zmT O (by first | exact za | rfl)) (Gs 2 O (G.bool O (fun hf=>?_) (fun hf=>?_)))
 .
  have db:zu vs inp t=false:=by simpa using hf
  refine Gs 7 O (zlV Tryz.results63 O ⟨_,rfl,by rw[zD,db];rfl,hE⟩)
 have db:zu vs inp t=true:=by simpa using hf
 refine Gs 5 O (zng O tg70 ts70 hY.cells O (G.call O Tryz.call111 (zeE vs inp vv Dv dh t _ D _ da (RTm.put hk) db di) ?_))
 rintro _ wz2 ⟨⟨a,c,rfl,_⟩,dm⟩
 obtain⟨hE,da,hk,hY⟩:=Tr4 dm hE da hk hY
 refine Gs 13 O (zna O O (zmT O (by first | exact za | rfl)) (Gs 2 O (G.bool O (fun ho=>?_) (fun ho=>?_))))
 .
  have df:(rng vs t).isSome=false:=by simpa using ho
  refine Gs 7 O (zlV Tryz.results63 O ⟨_,rfl,by rw[zD,db,df];rfl,hE⟩)
 have df:(rng vs t).isSome=true:=by simpa using ho
 refine Gs 8 O (zlV Tryz.results63 O ⟨_,rfl,by rw[zD,db,df];rfl,hE⟩)
theorem zbv (vs:List Vr) (inp:Bool) (vv:Value) (cs:List Value) (Dv D:Nat->Prop) (w:World) (t:Tm) (dt:∀ v ∈ vs,yr (v.low,v.high)) (da:SlR 5 RVr Dv w vv vs) (ht:RTm D w t cs) (du:t.nodes<=1000000):Calls Tryz.prog 162 #[vv,.agg cs.toArray,.bool inp] w (Ret fun r w'=>r=.int .i64 (zD vs inp t)/\Ext w w'):=by
 obtain⟨v,rfl,hk⟩:=ht.get
 have hE:=Keep.refl (fun _=>False) w
 refine znm Tryz.func162 O Tryz.ntmps162 O (Gs 2 O (zmr O O (M.box O O) ?_))
 rintro _ dA ⟨b,rfl,dg,dw,hY,dh⟩
 have dm:_<=b:=zpq hE.size (zrS dg.symm)
 obtain⟨hE,da,hk⟩:=Tr3 dh hE da hk
 refine Gs 7 O (zng O tg70 ts70 hY.cells O (Gs 1 O (G.call O Tryz.call87 (kK vs inp vv Dv t _ D _ da (RTm.put hk)) ?_)))
 rintro _ wz1 ⟨rfl,dx⟩
 obtain⟨hE,da,hk,hY⟩:=Tr4 dx hE da hk hY
 refine zna O O (zmT O (by first | exact za | rfl)) (Gs 2 O (G.bool O (fun hf=>?_) (fun hf=>?_)))
 .
  have dc:zu vs inp t=false:=by simpa using hf
  refine Gs 7 O (zlV Tryz.results162 O ⟨_,rfl,by rw[zD,dc];rfl,hE⟩)
 have dc:zu vs inp t=true:=by simpa using hf
 refine Gs 6 O (zng O tg70 ts70 hY.cells O (G.call O Tryz.call89 (zdF vs inp vv Dv dt t _ D _ da (RTm.put hk) dc du) ?_))
 rintro _ wz2 ⟨⟨a,c,rfl,_⟩,dy⟩
 obtain⟨hE,da,hk,hY⟩:=Tr4 dy hE da hk hY
 refine Gs 3 O (zmr O O (M.alloc (cs:=_) tz159 O) ?_)
 rintro _ wa3 ⟨o,rfl,di,dz,de,db⟩
 refine zmw O (zmx ts159 O O O O (by simp[Value.oneCell']) de (by simp)) ?_
 rintro dB ⟨_,de,df⟩
 replace db:=db.trans df (fun q hq h=>by have h:q=o:=h;omega)
 have dk:b ≠ o:=by have:=hY.lt;omega
 have dr:_<=o:=zpq hE.size (zrS di.symm)
 obtain⟨hE,da,hk,hY⟩:=Tr4 db hE da hk hY
 refine Gs 6 O (zna O O (zmT O (by first | exact za | rfl)) (Gs 2 O (G.bool O (fun ho=>?_) (fun ho=>?_))))
 .
  have dl:(rng vs t).isSome=false:=by simpa using ho
  refine Gs 7 O (zlV Tryz.results162 O ⟨_,rfl,by rw[zD,dc,dl];rfl,hE⟩)
 have dl:(rng vs t).isSome=true:=by simpa using ho
 refine Gs 8 O (zlV Tryz.results162 O ⟨_,rfl,by rw[zD,dc,dl];rfl,hE⟩)
def zZ (k:Int):List Vr->Int->Option Int
 | [],n=>some n
 | v::r,n=>if v.kind=k then (if 4096<n*(v.high - v.low+1) then none else zZ k r (n*(v.high - v.low+1))) else zZ k r n
def zo (k:Int) (vs:List Vr):Option Int:=zZ k vs 1
theorem ya (k:Int):∀ (a b:List Vr) (n:Int),zZ k (a++b) n=(zZ k a n).bind (zZ k b)
 | [],b,n=>rfl
 | v::r,b,n=>by
  simp only[zqA,zZ]
  split
  .
   split
   . rfl
   exact ya k r b _
  exact ya k r b _
theorem zU (k:Int):∀ (a:List Vr) (n m:Int),(∀ v ∈ a,yr (v.low,v.high))->1<=n->n<=4096->zZ k a n=some m->1<=m/\m<=4096
 | [],n,m,_,h1,h2,h=>by simp[zZ]at h;omega
 | v::r,n,m,hg,h1,h2,h=>by
  have hv:=hg v (zpo ..)
  have hr:=fun x hx=>hg x (zpn _ hx)
  unfold yr at hv
  simp only[zZ]at h
  split at h
  .
   split at h
   . cases h
   rename_i h3
   refine zU k r _ m hr ?_ (by omega) h
   have:(1:Int)*1<=n*(v.high - v.low+1):=zql h1 (by dsimp only at hv;omega) (by omega) (by omega)
   omega
  exact zU k r n m hr h1 h2 h
theorem zeF {n s:Int} (h1:1<=n) (h2:n<=4096) (h3:1<=s) (h4:s<=2097153):1<=n*s/\n*s<=4096*2097153:=by
 have a:(1:Int)*1<=n*s:=zql h1 h3 (by omega) (by omega)
 have b:n*s<=4096*2097153:=zql h2 h4 (by omega) (by omega)
 omega
theorem qN (vs:List Vr) (k:Int) (vv:Value) (D:Nat->Prop) (w:World) (hg:∀ v ∈ vs,yr (v.low,v.high)) (da:SlR 5 RVr D w vv vs):Calls Tryz.prog 109 #[vv,.int .i64 k] w (Ret fun r w'=>r=.int .i64 ((zo k vs).getD 4097)/\Ext w w'):=by
 have dy:=da.max
 obtain⟨av,nv,rfl⟩:=da.form
 refine znl Tryz.func109 O Tryz.ntmps109 O (Gs 17 O (G.loop (σ:=Nat × Int) (fun⟨i,n⟩=>[(0,.slice av vs.length nv),(1,.int .i64 k),(5,.int .i64 n),(6,.int .i64 i)]) (fun⟨i,n⟩=>fun w'=>i<=vs.length/\zZ k (vs.take i) 1=some n/\Ext w w') (fun⟨i,n⟩=>vs.length - i) ((0,1)) (Sub.of O) (⟨zpz _,rfl,Keep.refl _ _⟩) ?_))
 rintro⟨i,n⟩ w1 ⟨hi,hs,db⟩
 show G _ _ _ _ _ [(0,.slice av vs.length nv),(1,.int .i64 k),(5,.int .i64 n),(6,.int .i64 i)] _
 replace da:=Tr1 db da
 have hn:=zU k (vs.take i) 1 n (fun v hv=>hg v (zri hv)) (by omega) (by omega) hs
 refine Gs 9 O (zlF O (fun dr=>?_) (fun dr=>?_))
 .
  obtain⟨x,de,di⟩:=gE_ vs (i) (by omega)
  obtain⟨dt,dz,dA,dc,_,hY,df⟩:=da.at de
  have du:=RVr.one df
  obtain rfl:=df
  have dl:dt<_:=zpm _ _ (hY 0 _ rfl)
  have dm:=hg x di
  unfold yr at dm
  dsimp only at dm
  have hp:=zeF (n:=n) (s:=x.high - x.low+1) hn.1 hn.2 (by omega) (by omega)
  have dg:zZ k (vs.take (i+1)) 1=if x.kind=k then (if 4096<n*(x.high - x.low+1) then none else some (n*(x.high - x.low+1))) else some n:=by
   rw[ze de,ya,hs];simp[zZ]
  have dk:zZ k (vs.take (i+1)) 1=none->zo k vs=none:=by
   intro h
   unfold zo
   rw[<- zrD (i+1) vs,ya,h];rfl
  refine Gs 9 O (zna O O (zmh tR22 ts142 O O dc (by omega)) (Gs 1 O (zne O tg100 (hY 1 _ O) (Gs 4 O (zlF O (fun hk=>?_) (fun hk=>?_))))))
  . refine Ga 9 O (by omega) (G.back ((i+1,n)) (Sub.of O) (⟨by omega,by rw[dg,zpu hk],db⟩) (by first | omega | (dsimp only;omega)))
  have dw:x.kind=k:=zpt.1 hk
  rw[zpv dw]at dg
  refine Gs 3 O (Qt (by kernel_rfl) (Gs 3 O (znd O O (fun w1 dh=>zmh tR22 ts142 O O dc (by omega)) (Gs 1 O (znf O tg3 (fun w1 dh=>((dh.cells hY (fun h=>h)) 3 _ O)) (Gs 2 O (znd O O (fun w1 dh=>zmh tR22 ts142 O O dc (by omega)) (Gs 1 O (znf O tg3 (fun w1 dh=>((dh.cells hY (fun h=>h)) 2 _ O)) (Ga 4 O (by omega) (znh (fun wz1 dx=>?_))))))))))))
  obtain⟨da,db,hY⟩:=Tr3 dx da db hY
  refine Gs 7 O (zlF O (fun hb=>?_) (fun hb=>?_))
  .
   rw[zpv hb]at dg
   refine Gs 11 O (zlV Tryz.results109 O ⟨_,rfl,by rw[dk dg];rfl,db⟩)
  refine Ga 8 O (by omega) (G.back ((i+1,n*(x.high - x.low+1))) (Sub.of O) (⟨by omega,by rw[dg,zpu hb],db⟩) (by first | omega | (dsimp only;omega)))
 have:i=vs.length:=by omega
 subst this
 rw[zpp]at hs
 refine Gs 12 O (zlV Tryz.results109 O ⟨_,rfl,by rw[zo,hs];rfl,db⟩)
theorem zfX (v:Vr) (w:World) (hg:yr (v.low,v.high)):Calls Tryz.prog 214 #[.agg #[.string v.name,.int .i64 v.kind,.int .i64 v.low,.int .i64 v.high,.int .i64 v.init]] w (Ret fun r w'=>r=.int .i64 (v.high - v.low+1)/\Ext w w'):=by
 unfold yr at hg
 dsimp only at hg
 have hE:=Keep.refl (fun _=>False) w
 refine znk Tryz.func214 O Tryz.ntmps214 O (Gs 2 O (zmr O O (M.box O O) ?_))
 rintro _ df ⟨b,rfl,da,de,hY,db⟩
 have dc:_<=b:=zpq hE.size (zrS da.symm)
 replace hE:=Tr1 db hE
 refine Gs 6 O (zne O tg3 (hY.cells 3 _ O) (Gs 1 O (zne O tg3 (hY.cells 2 _ O) (Ga 6 O (by omega) (zlV Tryz.results214 O ⟨_,rfl,rfl,hE⟩)))))
def zeG (v:Vr):List Value:=[.string v.name,.int .i64 v.kind,.int .i64 v.low,.int .i64 v.high,.int .i64 v.init]
theorem zfh (v:Vr):(zeG v).length=5:=rfl
theorem zfi (v:Vr):∀ u ∈ zeG v,u.oneCell'=true:=by simp[zeG,Value.oneCell']
def zf (k:Int) (vs:List Vr):List Vr:=vs.filter fun v=>decide (v.kind=k)
theorem qc {k:Int} {vs:List Vr} {i:Nat} {x:Vr} (h:vs[i]?=some x):zf k (vs.take (i+1))=zf k (vs.take i)++(if x.kind=k then [x] else []):=by
 unfold zf
 rw[ze h,zqL]
 congr 1
 by_cases e:x.kind=k<;>simp[e]
theorem xW (k:Int) (vs:List Vr):(zf k vs).length<=vs.length:=zqZ _ _
theorem xf (k:Int):∀ (vs:List Vr) (n:Int),zZ k (zf k vs) n=zZ k vs n
 | [],n=>rfl
 | v::r,n=>by
  unfold zf
  by_cases e:v.kind=k
  .
   rw[zqN (by simpa using e)]
   simp only[zZ,e,if_true]
   split
   . rfl
   exact xf k r _
  rw[zqM (by simpa using e)]
  simp only[zZ,e,if_false]
  exact xf k r n
theorem zgR (vs:List Vr) (k:Int) (vv:Value) (D:Nat->Prop) (w:World) (hk:0<=k/\k<=3) (hg:∀ v ∈ vs,yr (v.low,v.high)) (dc:SlR 5 RVr D w vv vs) (dU:vs.length<=1000000):Calls Tryz.prog 196 #[vv,.int .i64 k] w (Ret fun r w'=>(∃ vl,r=.tuple #[vl,.int .i64 ((zo k vs).getD 0),.int .i64 (if (zo k vs).isSome then 0 else 4)]/\((zo k vs).isSome=true->SlR 5 RVr (fun b=>w.heap.size<=b) w' vl (zf k vs))/\((zo k vs).isSome=false->vl=.slice none 0 0))/\Ext w w'):=by
 obtain⟨av,nv,rfl⟩:=dc.form
 have hE:=Keep.refl (fun _=>False) w
 refine znl Tryz.func196 O Tryz.ntmps196 O (Gs 13 O (zlQ (σ:=Unit) (fun u=>[(0,.slice av vs.length nv),(1,.int .i64 k)]) (fun u=>fun w'=>w'=w) ?_ ?_))
 .
  refine Gs 8 O (zlF O (fun h0=>?_) (fun h0=>?_))
  . refine Gs 5 O (zlS (()) (Sub.of O) (rfl))
  refine Gs 6 O (zlF O (fun h1=>?_) (fun h1=>?_))
  . refine Gs 5 O (zlS (()) (Sub.of O) (rfl))
  refine Gs 6 O (zlF O (fun h2=>?_) (fun h2=>?_))
  . refine Gs 5 O (zlS (()) (Sub.of O) (rfl))
  refine Gs 5 O (zlF O (fun h3=>?_) (fun h3=>?_))
  . refine Gs 2 O (zlS (()) (Sub.of O) (rfl))
  exact absurd hk (by omega)
 rintro u w1 dV
 subst dV
 refine Gs 14 O (zlQ (σ:=Value) (fun vl=>[(0,.slice av vs.length nv),(1,.int .i64 k),(7,vl)]) (fun vl=>fun w'=>w'.ownsRow 0 142 5 vl (zf k vs).length ((zf k vs).flatMap zeG)/\(∀ q,vl.ownBlock=some q->w1.heap.size<=q)/\Ext w1 w') ?_ ?_)
 .
  refine Gs 1 O (G.loop (σ:=Nat × Value) (fun⟨i,vl⟩=>[(0,.slice av vs.length nv),(1,.int .i64 k),(7,vl),(19,.slice av vs.length nv),(20,.int .i64 vs.length),(21,.int .i64 i)]) (fun⟨i,vl⟩=>fun w'=>i<=vs.length/\w'.ownsRow 0 142 5 vl (zf k (vs.take i)).length ((zf k (vs.take i)).flatMap zeG)/\(∀ q,vl.ownBlock=some q->w1.heap.size<=q)/\Ext w1 w') (fun⟨i,vl⟩=>vs.length - i) ((0,.slice none 0 0)) (Sub.of O) (⟨zpz _,jS _ _ _,fun q hq=>by simp[Value.ownBlock]at hq,Keep.refl _ _⟩) ?_)
  rintro⟨i,vl⟩ w2 ⟨hi,db,dw,di⟩
  show G _ _ _ _ _ [(0,.slice av vs.length nv),(1,.int .i64 k),(7,vl),(19,.slice av vs.length nv),(20,.int .i64 vs.length),(21,.int .i64 i)] _
  obtain⟨hE,dc⟩:=Tr2 di hE dc
  refine Gs 6 O (zlF O (fun dG=>?_) (fun dG=>?_))
  .
   obtain⟨x,df,dk⟩:=gE_ vs (i) (by omega)
   obtain⟨dH,dW,dX,dr,_,da,dg⟩:=dc.at df
   have dt:=RVr.one dg
   obtain rfl:=dg
   have dy:dH<_:=zpm _ _ (da 0 _ rfl)
   have dz:=hg x dk
   unfold yr at dz
   dsimp only at dz
   have dF:=qc (k:=k) df
   have dO:=xW k (vs.take i)
   rw[zpO]at dO
   refine Gs 6 O (zna O O (zmh tR22 ts142 O O dr (by omega)) (zng O tg142 ts142 da O (zmr O O (M.alloc (cs:=_) tz142 O) ?_)))
   rintro _ wa1 ⟨c,rfl,du,dI,hY,de⟩
   refine zmw O (zmx ts142 O O O O dt hY (by simp)) ?_
   rintro dY ⟨_,hY,dh⟩
   replace de:=de.trans dh (fun q hq h=>by have h:q=c:=h;omega)
   have dA:_<=c:=zpq hE.size (zrS du.symm)
   obtain⟨hE,dc,di,db,da⟩:=Tr5 de hE dc di db da
   refine Gs 6 O (zne O tg100 (hY.cells 1 _ O) (Gs 4 O (zlF O (fun dJ=>?_) (fun dJ=>?_))))
   .
    rw[zpu dJ,zqz]at dF
    refine Ga 8 O (by omega) (G.back ((i+1,vl)) (Sub.of O) (⟨by omega,by rw[dF];exact db,dw,di⟩) (by first | omega | (dsimp only;omega)))
   have dK:x.kind=k:=zpt.1 dJ
   rw[zpv dK]at dF
   refine Gs 6 O (zne O tg3 (hY.cells 2 _ O) (Gs 1 O (zne O tg3 (hY.cells 3 _ O) (Gs 2 O (G.sp 34 O (fun b0=>?_) (fun b0=>?_))))))
   . exact absurd b0 (by omega)
   refine Gs 1 O (zne O tg3 (hY.cells 2 _ O) (Gs 3 O (G.sp 39 O (fun b1=>?_) (fun b1=>?_))))
   . exact absurd b1 (by omega)
   refine Gs 1 O (zne O tg3 (hY.cells 3 _ O) (Gs 4 O (zlF O (fun b2=>?_) (fun b2=>?_))))
   . exact absurd b2 (by omega)
   refine Gs 4 O (zng O tg142 ts142 hY.cells O (zmr O O (M.buildSlice (cs:=zeG x) [(0,_)] tR22 ts142 tz142 (by decide) O (by kernel_rfl)) ?_))
   rintro _ w5 ⟨b5,rfl,dQ,dR,dB,dC⟩
   obtain⟨hE,dc,di,db,da,hY⟩:=Tr6 dC hE dc di db da hY
   refine zmr O O (M.append Tryz.underlying22 Tryz.el142 O (by decide) O O db O (Cells.add dB.cells) (zfi _) (by omega) (by omega)) ?_
   rintro vl' w6 ⟨dD,dL,dZ,_⟩
   have d5:=di.size
   refine Ga 8 O (by omega) (G.back ((i+1,vl')) (Sub.of O) (⟨by omega,?_,?_,di.trans dZ (fun q hq h=>by have:=dw q h;omega)⟩) (by first | omega | (dsimp only;omega)))
   .
    rw[dF,zps,zqO]
    exact dD
   intro q hq
   rcases dL with h | ⟨q',h,h'⟩
   . exact dw q (by rw[<- h];exact hq)
   rw[h]at hq;cases hq;omega
  have:i=vs.length:=by omega
  subst this
  rw[zpp]at db
  refine Gs 4 O (zlS (vl) (Sub.of O) (⟨db,dw,di⟩))
 rintro vl w2 ⟨db,dw,hX⟩
 obtain⟨hE,dc⟩:=Tr2 hX hE dc
 have dl:SlR 5 RVr (fun b=>w1.heap.size<=b) w2 vl (zf k vs):=zmN (by omega) zeG zfh (fun x _=>rfl) db dw
 obtain⟨al,nl,rfl⟩:=dl.form
 have dO:=xW k vs
 have dS:∀ v ∈ zf k vs,yr (v.low,v.high):=fun v hv=>hg v (zrc.1 hv).1
 have dT:zZ k (zf k vs) 1=zo k vs:=xf k vs 1
 have dM:∀ v ∈ zf k vs,v.kind=k:=fun v hv=>by simpa using (zrc.1 hv).2
 refine Gs 15 O (G.loop (σ:=Nat × Int) (fun⟨i,n⟩=>[(7,.slice al (zf k vs).length nl),(10,.int .i64 n),(49,.slice al (zf k vs).length nl),(50,.int .i64 (zf k vs).length),(51,.int .i64 i)]) (fun⟨i,n⟩=>fun w'=>i<=(zf k vs).length/\zZ k ((zf k vs).take i) 1=some n/\Ext w2 w') (fun⟨i,n⟩=>(zf k vs).length - i) ((0,1)) (Sub.of O) (⟨zpz _,rfl,Keep.refl _ _⟩) ?_)
 rintro⟨i,n⟩ w3 ⟨hi,hs,dx⟩
 show G _ _ _ _ _ [(7,.slice al (zf k vs).length nl),(10,.int .i64 n),(49,.slice al (zf k vs).length nl),(50,.int .i64 (zf k vs).length),(51,.int .i64 i)] _
 obtain⟨hE,dc,dl⟩:=Tr3 dx hE dc dl
 have hn:=zU k ((zf k vs).take i) 1 n (fun v hv=>dS v (zri hv)) (by omega) (by omega) hs
 refine Gs 6 O (zlF O (fun dG=>?_) (fun dG=>?_))
 .
  obtain⟨x,df,dk⟩:=gE_ (zf k vs) (i) (by omega)
  obtain⟨dH,dW,dX,dr,_,da,dg⟩:=dl.at df
  have dt:=RVr.one dg
  obtain rfl:=dg
  have dy:dH<_:=zpm _ _ (da 0 _ rfl)
  have dz:=dS x dk
  have dE:=dz
  unfold yr at dE
  dsimp only at dE
  have hp:=zeF (n:=n) (s:=x.high - x.low+1) hn.1 hn.2 (by omega) (by omega)
  have dN:zZ k ((zf k vs).take (i+1)) 1=if 4096<n*(x.high - x.low+1) then none else some (n*(x.high - x.low+1)):=by
   rw[ze df,ya,hs];simp[zZ,dM x dk]
  refine Gs 6 O (zna O O (zmh tR22 ts142 O O dr (by omega)) (zng O tg142 ts142 da O (zmr O O (M.alloc (cs:=_) tz142 O) ?_)))
  rintro _ wa2 ⟨c,rfl,du,dI,hY,de⟩
  refine zmw O (zmx ts142 O O O O dt hY (by simp)) ?_
  rintro dY ⟨_,hY,dh⟩
  replace de:=de.trans dh (fun q hq h=>by have h:q=c:=h;omega)
  have dA:_<=c:=zpq hE.size (zrS du.symm)
  obtain⟨hE,dc,dl,dx,da⟩:=Tr5 de hE dc dl dx da
  refine Gs 5 O (zng O tg142 ts142 hY.cells O (G.call O Tryz.call214 (zfX x _ dz) ?_))
  rintro _ wz3 ⟨rfl,d6⟩
  obtain⟨hE,dc,dl,dx,da,hY⟩:=Tr6 d6 hE dc dl dx da hY
  refine Ga 10 O (by omega) (zlF O (fun hb=>?_) (fun hb=>?_))
  .
   rw[zpv hb]at dN
   have dm:zo k vs=none:=by
    rw[<- dT,<- zrD (i+1) (zf k vs),ya,dN];rfl
   refine Gs 13 O (zm1 Tryz.results196 O O O ⟨_,rfl,⟨.slice none 0 0,by rw[dm];rfl,(fun (h:(zo k vs).isSome=true)=>by rw[dm]at h;cases h),fun _=>rfl⟩,hE⟩)
  refine Ga 7 O (by omega) (G.back ((i+1,n*(x.high - x.low+1))) (Sub.of O) (⟨by omega,by rw[dN,zpu hb],dx⟩) (by first | omega | (dsimp only;omega)))
 have:i=(zf k vs).length:=by omega
 subst this
 rw[zpp,dT]at hs
 refine Gs 15 O (zm1 Tryz.results196 O O O ⟨_,rfl,⟨_,by rw[hs];rfl,fun _=>dl,(fun (h:(zo k vs).isSome=false)=>by rw[hs]at h;cases h)⟩,hE⟩)
theorem zeH (vs:List Vr) (k:Int) (vv:Value) (D:Nat->Prop) (w:World) (hk:0<=k/\k<=3) (hg:∀ v ∈ vs,yr (v.low,v.high)) (da:SlR 5 RVr D w vv vs) (hY:vs.length<=1000000):Calls Tryz.prog 159 #[vv,.int .i64 k] w (Ret fun r w'=>r=.tuple #[.int .i64 ((zo k vs).getD 0),.int .i64 (if (zo k vs).isSome then 0 else 4)]/\Ext w w'):=by
 have hE:=Keep.refl (fun _=>False) w
 refine znl Tryz.func159 O Tryz.ntmps159 O (Gs 10 O (G.call O Tryz.call196 (zgR vs k vv D w hk hg da hY) ?_))
 rintro _ wz1 ⟨⟨vl,rfl,_,_⟩,db⟩
 replace hE:=Tr1 db hE
 refine Gs 18 O (zlY Tryz.results159 O O ⟨_,rfl,rfl,hE⟩)
def yJ (f:Nat->Int):Nat->Nat->Int
 | _,0=>0
 | i,n+1=>if f i ≠ 0 then f i else yJ f (i+1) n
theorem qO (f:Nat->Int):∀ (k i m:Nat),(∀ j,i<=j->j<i+k->f j=0)->yJ f i (k+m)=yJ f (i+k) m
 | 0,i,m,_=>by simp
 | k+1,i,m,h=>by
  rw[show k+1+m=(k+m)+1 by omega,yJ,zpu (by simp[h i (zpJ _) (by omega)]),qO f k (i+1) m (fun j h1 h2=>h j (by omega) (by omega))]
  congr 1;omega
theorem qP {f:Nat->Int} {i n:Nat} (h:∀ j,j<i->f j=0) (hi:i<n) (hb:f i ≠ 0):yJ f 0 n=f i:=by
 obtain⟨m,rfl⟩:∃ m,n=i+(m+1):=⟨n - i - 1,by omega⟩
 rw[qO f i 0 (m+1) (fun j _ h2=>h j (by omega)),zs3,yJ,zpv hb]
theorem xS {f:Nat->Int} {n:Nat} (h:∀ j,j<n->f j=0):yJ f 0 n=0:=by
 have:=qO f n 0 0 (fun j _ h2=>h j (by omega))
 simpa[yJ] using this
theorem xJ {f:Nat->Int}:∀ (n i:Nat),yJ f i n=0->∀ j,i<=j->j<i+n->f j=0
 | 0,i,_,j,h1,h2=>by omega
 | n+1,i,h,j,h1,h2=>by
  rw[yJ]at h
  split at h
  . rename_i h3;exact absurd h h3
  rename_i h3
  by_cases e:j=i
  . subst e;simpa using h3
  exact xJ n (i+1) h j (by omega) (by omega)
def zQ (a b:ByteArray):Bool:=decide (a.toList=b.toList)
def zI (prev:List Vr) (v:Vr):Int :=
 if zbr v.name=false then 7
 else if prev.any (fun u=>zQ u.name v.name)=true then 8
 else if ¬ (0<=v.kind/\v.kind<=3) then 1
 else if zaO v.low v.high=false then 3
 else if v.kind=0/\(v.init<v.low\/v.high<v.init)\/v.kind ≠ 0/\v.init ≠ 0 then 3
 else 0
def kN (vs:List Vr) (i:Nat):Int:=match vs[i]? with
 | some v=>zI (vs.take i) v
 | none=>0
theorem zaP {vs:List Vr} {i:Nat} {v:Vr} (h:vs[i]?=some v):kN vs i=zI (vs.take i) v:=by simp[kN,h]
def yO (vs:List Vr):Bool:=(zo 1 vs).isNone || (zo 2 vs).isNone || (match zo 3 vs with
 | some n=>decide (256<n)
 | none=>true)
def zv (vs:List Vr):Int:=if yJ (kN vs) 0 vs.length ≠ 0 then yJ (kN vs) 0 vs.length else if yO vs then 4 else 0
theorem zdG {prev:List Vr} {v:Vr} (h:zI prev v=0):yr (v.low,v.high)/\0<=v.kind/\v.kind<=3:=by
 unfold zI at h
 split at h
 . cases h
 split at h
 . cases h
 split at h
 . cases h
 split at h
 . cases h
 rename_i h1 h2 h3 h4
 have h5:zaO v.low v.high=true:=by simpa using h4
 unfold zaO at h5
 have:=of_decide_eq_true h5
 have h3:=zpt.1 h3
 exact⟨⟨this.2.1,this.1,this.2.2⟩,h3.1,h3.2⟩
theorem qs {vs:List Vr} (h:∀ j,j<vs.length->kN vs j=0):∀ v ∈ vs,yr (v.low,v.high)/\0<=v.kind/\v.kind<=3:=by
 intro v hv
 obtain⟨i,hi⟩:=zre.1 hv
 have:=h i (zpy.1 hi).1
 rw[zaP hi]at this
 exact zdG this
theorem zbw (vs:List Vr) (vv:Value) (D:Nat->Prop) (w:World) (db:SlR 5 RVr D w vv vs):Calls Tryz.prog 60 #[vv] w (Ret fun r w'=>r=.int .i64 (zv vs)/\Ext w w'):=by
 have dZ:=db.max
 obtain⟨av,nv,rfl⟩:=db.form
 refine znk Tryz.func60 O Tryz.ntmps60 O (Gs 12 O (G.loop (σ:=Nat) (fun i=>[(0,.slice av vs.length nv),(3,.int .i64 i)]) (fun i=>fun w'=>i<=vs.length/\(∀ j,j<i->kN vs j=0)/\Ext w w') (fun i=>vs.length - i) (0) (Sub.of O) (⟨zpz _,fun j h=>absurd h (zrZ _),Keep.refl _ _⟩) ?_))
 rintro i w1 ⟨hi,df,da⟩
 replace db:=Tr1 da db
 refine Gs 9 O (zlF O (fun dG=>?_) (fun dG=>?_))
 .
  obtain⟨x,dm,dH⟩:=gE_ vs (i) (by omega)
  obtain⟨dI,d5,d6,dy,_,dc,dr⟩:=db.at dm
  have dz:=RVr.one dr
  obtain rfl:=dr
  have dD:dI<_:=zpm _ _ (dc 0 _ rfl)
  have dA:=zaP dm
  have de:∀ c:Int,zI (vs.take i) x=c->c ≠ 0->zv vs=c:=by
   intro c h1 h2
   have h3:kN vs i ≠ 0:=by rw[dA,h1];exact h2
   rw[zv,qP df (by omega) h3,zpv h3,dA,h1]
  have dh:zI (vs.take i) x=0->∀ j,j<i+1->kN vs j=0:=by
   intro h j hj
   by_cases e:j=i
   . subst e;rw[dA,h]
   exact df j (by omega)
  refine Gs 8 O (zna O O (zmh tR22 ts142 O O dy (by omega)) (zng O tg142 ts142 dc O (zmr O O (M.alloc (cs:=_) tz142 O) ?_)))
  rintro _ wa1 ⟨c,rfl,dJ,dK,hY,di⟩
  refine zmw O (zmx ts142 O O O O dz hY (by simp)) ?_
  rintro d7 ⟨_,hY,dt⟩
  replace di:=di.trans dt (fun q hq h=>by have h:q=c:=h;omega)
  obtain⟨db,da,dc⟩:=Tr3 di db da dc
  refine Gs 6 O (zne O tg9 (hY.cells 0 _ O) (G.call O Tryz.call61 (zaw x.name _) ?_))
  rintro _ wz2 ⟨rfl,dL⟩
  obtain⟨db,da,dc,hY⟩:=Tr4 dL db da dc hY
  refine zna O O (zmT O (by first | exact za | rfl)) (Gs 2 O (G.bool O (fun n0=>?_) (fun n0=>?_)))
  .
   have n0':zbr x.name=false:=by simpa using n0
   refine Gs 12 O (zlV tr60 O ⟨_,rfl,by rw[de 7 (by rw[zI,zpv n0']) (by decide)],da⟩)
  have n0':¬ zbr x.name=false:=by simpa using n0
  refine Gs 9 O (G.loop (σ:=Nat) (fun j=>[(0,.slice av vs.length nv),(3,.int .i64 i),(4,.pointer (some ⟨c,0,none⟩)),(5,.int .i64 j)]) (fun j=>fun w'=>j<=i/\(vs.take j).any (fun u=>zQ u.name x.name)=false/\Ext wz2 w') (fun j=>i - j) (0) (Sub.of O) (⟨zpz _,rfl,Keep.refl _ _⟩) ?_)
  rintro j w2 ⟨hj,dE,dl⟩
  obtain⟨db,da,dc,hY⟩:=Tr4 dl db da dc hY
  refine Gs 8 O (zlF O (fun dM=>?_) (fun dM=>?_))
  .
   obtain⟨y,dk,dN⟩:=gE_ vs (j) (by omega)
   obtain⟨dO,d8,d9,dB,_,dg,du⟩:=db.at dk
   have dQ:=RVr.one du
   obtain rfl:=du
   have dF:dO<_:=zpm _ _ (dg 0 _ rfl)
   refine Gs 5 O (Qt (by kernel_rfl) (Gs 2 O (znd O O (fun w1 dw=>zmh tR22 ts142 O O dB (by omega)) (Gs 1 O (znf O tg9 (fun w1 dw=>((dw.cells dg (fun h=>h)) 0 _ O)) (Gs 1 O (znf O tg9 (fun w1 dw=>((dw.blk hY (fun h=>h)).cells 0 _ O)) (Gs 1 O (znh (fun wz3 dR=>?_))))))))))
   obtain⟨db,da,dc,hY,dl,dg⟩:=Tr6 dR db da dc hY dl dg
   refine Gs 1 O (zlF O (fun hd=>?_) (fun hd=>?_))
   .
    have dC:(vs.take i).any (fun u=>zQ u.name x.name)=true:=by
     rw[zqx]
     refine⟨y,zpl (i:=j) (by rw[zpQ,zpv (by omega)];exact dk),?_⟩
     unfold zQ;exact zpw hd
    refine Gs 16 O (zlV tr60 O ⟨_,rfl,by rw[de 8 (by rw[zI,zpu n0',zpv dC]) (by decide)],da⟩)
   refine Ga 8 O (by omega) (G.back (j+1) (Sub.of O) (⟨by omega,by rw[ze dk,zqw,dE];simp[zQ,hd],dl⟩) (by first | omega | (dsimp only;omega)))
  have dS:j=i:=by omega
  subst dS
  have n1:¬ (vs.take j).any (fun u=>zQ u.name x.name)=true:=by rw[dE];decide
  refine Gs 7 O (zlQ (σ:=Bool) (fun q=>[(0,.slice av vs.length nv),(3,.int .i64 j),(4,.pointer (some ⟨c,0,none⟩)),(50,.bool q)]) (fun q=>fun w'=>(q=true ↔ ¬ (0<=x.kind/\x.kind<=3))/\w'=w2) ?_ ?_)
  .
   refine Gs 2 O (zne O tg100 (hY.cells 1 _ O) (Gs 2 O (G.sp 36 O (fun k0=>?_) (fun k0=>?_))))
   .
    refine Gs 1 O (zne O tg100 (hY.cells 1 _ O) (Gs 3 O (G.sp 41 O (fun k1=>?_) (fun k1=>?_))))
    .
     refine Gs 1 O (zne O tg100 (hY.cells 1 _ O) (Gs 3 O (G.sp 46 O (fun k2=>?_) (fun k2=>?_))))
     . refine Gs 1 O (zne O tg100 (hY.cells 1 _ O) (Gs 3 O (zlS (decide (x.kind ≠ 3)) (Sub.of O) (⟨by simp;omega,rfl⟩))))
     refine Gs 5 O (zlS (false) (Sub.cons O (Sub.cons O (Sub.cons O (Sub.cons (by first | rfl | (show some (Value.bool false)=some (Value.bool _);simp[*])) Sub.nil)))) (⟨by simp;omega,rfl⟩))
    refine Gs 10 O (zlS (false) (Sub.cons O (Sub.cons O (Sub.cons O (Sub.cons (by first | rfl | (show some (Value.bool false)=some (Value.bool _);simp[*])) Sub.nil)))) (⟨by simp;omega,rfl⟩))
   refine Gs 15 O (zlS (false) (Sub.cons O (Sub.cons O (Sub.cons O (Sub.cons (by first | rfl | (show some (Value.bool false)=some (Value.bool _);simp[*])) Sub.nil)))) (⟨by simp;omega,rfl⟩))
  rintro q w3 ⟨hq,dT⟩
  subst dT
  refine Gs 1 O (G.bool O (fun q1=>?_) (fun q1=>?_))
  .
   have n2:=hq.1 q1
   refine Gs 12 O (zlV tr60 O ⟨_,rfl,by rw[de 1 (by rw[zI,zpu n0',zpu n1,zpv n2]) (by decide)],da⟩)
  have n2:¬ ¬ (0<=x.kind/\x.kind<=3):=fun h=>by rw[hq.2 h]at q1;cases q1
  refine Gs 6 O (zne O tg3 (hY.cells 2 _ O) (Gs 1 O (zne O tg3 (hY.cells 3 _ O) (G.call O Tryz.call62 (kJ x.low x.high _) ?_))))
  rintro _ wz4 ⟨rfl,dU⟩
  obtain⟨db,da,dc,hY,dl⟩:=Tr5 dU db da dc hY dl
  refine zna O O (zmT O (by first | exact za | rfl)) (Gs 2 O (G.bool O (fun n3=>?_) (fun n3=>?_)))
  .
   have n3':zaO x.low x.high=false:=by simpa using n3
   refine Gs 12 O (zlV tr60 O ⟨_,rfl,by rw[de 3 (by rw[zI,zpu n0',zpu n1,zpu n2,zpv n3']) (by decide)],da⟩)
  have n3':¬ zaO x.low x.high=false:=by simpa using n3
  have b4:x.kind=0/\(x.init<x.low\/x.high<x.init)\/x.kind ≠ 0/\x.init ≠ 0->zv vs=3:=fun h=>de 3 (by rw[zI,zpu n0',zpu n1,zpu n2,zpu n3',zpv h]) (by decide)
  have g4:¬ (x.kind=0/\(x.init<x.low\/x.high<x.init)\/x.kind ≠ 0/\x.init ≠ 0)->zI (vs.take j) x=0:=fun h=>by rw[zI,zpu n0',zpu n1,zpu n2,zpu n3',zpu h]
  refine Gs 5 O (zne O tg100 (hY.cells 1 _ O) (Gs 2 O (G.sp 60 O (fun k0=>?_) (fun k0=>?_))))
  .
   refine Gs 1 O (zne O tg3 (hY.cells 4 _ O) (Gs 1 O (zne O tg3 (hY.cells 2 _ O) (Gs 2 O (G.sp 66 O (fun i0=>?_) (fun i0=>?_))))))
   . refine Gs 31 O (zlV tr60 O ⟨_,rfl,by rw[b4 (by omega)],da⟩)
   refine Gs 1 O (zne O tg3 (hY.cells 4 _ O) (Gs 1 O (zne O tg3 (hY.cells 3 _ O) (Gs 4 O (G.sp 74 O (fun i1=>?_) (fun i1=>?_))))))
   . refine Gs 23 O (zlV tr60 O ⟨_,rfl,by rw[b4 (by omega)],da⟩)
   refine Gs 1 O (zne O tg100 (hY.cells 1 _ O) (Gs 2 O (G.sp 78 O (fun kk=>?_) (fun kk=>?_))))
   . exact absurd k0 kk
   refine Ga 16 O (by omega) (G.back (j+1) (Sub.of O) (⟨by omega,dh (g4 (by omega)),da⟩) (by first | omega | (dsimp only;omega)))
  refine Gs 15 O (zne O tg100 (hY.cells 1 _ O) (Gs 2 O (G.sp 78 O (fun kk=>?_) (fun kk=>?_))))
  .
   refine Gs 1 O (zne O tg3 (hY.cells 4 _ O) (Gs 5 O (zlF O (fun i2=>?_) (fun i2=>?_))))
   . refine Gs 11 O (zlV tr60 O ⟨_,rfl,by rw[b4 (by omega)],da⟩)
   refine Ga 8 O (by omega) (G.back (j+1) (Sub.of O) (⟨by omega,dh (g4 (by omega)),da⟩) (by first | omega | (dsimp only;omega)))
  exact absurd k0 kk
 have dV:i=vs.length:=by omega
 subst dV
 have hg:=qs df
 have hz:=xS df
 have dx:∀ v ∈ vs,yr (v.low,v.high):=fun v hv=>(hg v hv).1
 have hv:zv vs=if yO vs then 4 else 0:=by rw[zv,zpu (by simp[hz])]
 have sp:∀ k n,zo k vs=some n->1<=n/\n<=4096:=fun k n h=>zU k vs 1 n dx (by omega) (by omega) h
 have isN:∀ k,(4096:Int)<(zo k vs).getD 4097 ↔ (zo k vs).isNone=true:=by
  intro k
  cases h:zo k vs with
  | none=>simp
  | some n=>have:=sp k n h;simp;omega
 have is3:(256:Int)<(zo 3 vs).getD 4097 ↔ (match zo 3 vs with | some n=>decide (256<n) | none=>true)=true:=by
  cases h:zo 3 vs with
  | none=>simp
  | some n=>simp
 refine Gs 9 O (G.call O Tryz.call109 (qN vs 1 _ D _ dx db) ?_)
 rintro _ wz5 ⟨rfl,dW⟩
 obtain⟨db,da⟩:=Tr2 dW db da
 refine Gs 2 O (G.sp 87 O (fun s1=>?_) (fun s1=>?_))
 . refine Gs 19 O (zlV tr60 O ⟨_,rfl,by rw[hv,yO,(isN 1).1 s1];rfl,da⟩)
 have s1':(zo 1 vs).isNone=false:=by rw[zpZ];exact fun h=>s1 ((isN 1).2 h)
 refine Gs 1 O (G.call O Tryz.call109 (qN vs 2 _ D _ dx db) ?_)
 rintro _ wz6 ⟨rfl,dX⟩
 obtain⟨db,da⟩:=Tr2 dX db da
 refine Gs 3 O (G.sp 92 O (fun s2=>?_) (fun s2=>?_))
 . refine Gs 14 O (zlV tr60 O ⟨_,rfl,by rw[hv,yO,s1',(isN 2).1 s2];rfl,da⟩)
 have s2':(zo 2 vs).isNone=false:=by rw[zpZ];exact fun h=>s2 ((isN 2).2 h)
 refine Gs 1 O (G.call O Tryz.call109 (qN vs 3 _ D _ dx db) ?_)
 rintro _ wz7 ⟨rfl,dY⟩
 obtain⟨db,da⟩:=Tr2 dY db da
 refine Gs 4 O (zlF O (fun s3=>?_) (fun s3=>?_))
 . refine Gs 7 O (zlV tr60 O ⟨_,rfl,by rw[hv,yO,s1',s2',is3.1 s3];rfl,da⟩)
 have s3':(match zo 3 vs with | some n=>decide (256<n) | none=>true)=false:=by rw[zpZ];exact fun h=>s3 (is3.2 h)
 refine Gs 8 O (zlV tr60 O ⟨_,rfl,by rw[hv,yO,s1',s2',s3'];rfl,da⟩)
theorem zaz {α:Type} {p:α->Bool} {l:List α} {k:Nat} {x:α} (hx:l[k]?=some x) (h:(l.take k).any p=false) (hp:p x=false):(l.take (k+1)).any p=false:=by rw[ze hx,zqw,h];simp[hp]
theorem zjG {α:Type} {p:α->Bool} {l:List α} {x:α} (hx:x ∈ l) (hp:p x=true):l.any p=true:=zqx.2 ⟨x,hx,hp⟩
theorem zgS (vs:List Vr) (vv:Value) (D:Nat->Prop) (w:World) (da:SlR 5 RVr D w vv vs) (p:Vr->Bool) (g:FuncId) (cp:Value) (hf:∀ args w,(callFunc g args).run Tryz.prog w=.ok (.enter g args) w)
  (hc:∀ x ∈ vs,∀ w',Ext w w'->Calls Tryz.prog g #[.agg (zeG x).toArray,cp] w' (Ret fun r w''=>r=.bool (p x)/\Ext w' w'')) :
  Calls Tryz.prog 195 #[vv,.func (.func g) #[] #[cp]] w (Ret fun r w'=>(∃ i:Int,r=.int .i64 i/\(0<=i ↔ vs.any p=true))/\Ext w w'):=by
 have dt:=da.max
 obtain⟨av,nv,rfl⟩:=da.form
 refine znl Tryz.func195 O Tryz.ntmps195 O (Gs 14 O (G.loop (σ:=Nat) (fun i=>[(0,.slice av vs.length nv),(1,.func (.func g) #[] #[cp]),(7,.int .i64 vs.length),(8,.int .i64 i)]) (fun i=>fun w'=>i<=vs.length/\(vs.take i).any p=false/\Ext w w') (fun i=>vs.length - i) (0) (Sub.of O) (⟨zpz _,rfl,Keep.refl _ _⟩) ?_))
 rintro i w1 ⟨hi,dg,db⟩
 replace da:=Tr1 db da
 refine Gs 6 O (zlF O (fun dk=>?_) (fun dk=>?_))
 .
  obtain⟨x,dc,de⟩:=gE_ vs (i) (by omega)
  obtain⟨dl,du,dw,dh,_,hY,df⟩:=da.at dc
  have dm:=RVr.one df
  obtain rfl:=df
  have di:dl<_:=zpm _ _ (hY 0 _ rfl)
  refine Gs 15 O (zna O O (zmh tR22 ts142 O O dh (by omega)) (zng O tg142 ts142 hY O (zmo O hf (hc x de _ db) ?_)))
  rintro _ wz1 ⟨rfl,dr⟩
  obtain⟨da,db,hY⟩:=Tr3 dr da db hY
  refine Gs 2 O (G.bool O (fun hp=>?_) (fun hp=>?_))
  . refine Gs 12 O (zlV Tryz.results195 O ⟨_,rfl,⟨_,rfl,by rw[zjG de hp];simp⟩,db⟩)
  refine Ga 7 O (by omega) (G.back (i+1) (Sub.of O) (⟨by omega,zaz dc dg hp,db⟩) (by first | omega | (dsimp only;omega)))
 have:i=vs.length:=by omega
 subst this
 rw[zpp]at dg
 refine Gs 11 O (zlV Tryz.results195 O ⟨_,rfl,⟨_,rfl,by rw[dg];simp⟩,db⟩)
theorem zdH (vs:List Vr) (vv:Value) (D:Nat->Prop) (w:World) (hY:SlR 5 RVr D w vv vs) (p:Vr->Bool) (g:FuncId) (cp:Value) (hf:∀ args w,(callFunc g args).run Tryz.prog w=.ok (.enter g args) w)
  (hc:∀ x ∈ vs,∀ w',Ext w w'->Calls Tryz.prog g #[.agg (zeG x).toArray,cp] w' (Ret fun r w''=>r=.bool (p x)/\Ext w' w'')) :
  Calls Tryz.prog 158 #[vv,.func (.func g) #[] #[cp]] w (Ret fun r w'=>r=.bool (vs.any p)/\Ext w w'):=by
 have hE:=Keep.refl (fun _=>False) w
 refine znl Tryz.func158 O Tryz.ntmps158 O (Gs 9 O (G.call O Tryz.call195 (zgS vs vv D w hY p g cp hf hc) ?_))
 rintro _ wz1 ⟨⟨i,rfl,hi⟩,da⟩
 replace hE:=Tr1 da hE
 refine Gs 5 O (zlV Tryz.results158 O ⟨_,rfl,by cases h:vs.any p<;>simp[h]at hi ⊢<;>omega,hE⟩)
theorem ziu (v x:Vr) (c:Nat) (w:World) (hB:Blk w c (zeG x) 142):Calls Tryz.prog 156 #[.agg (zeG v).toArray,.pointer (some ⟨c,0,none⟩)] w (Ret fun r w'=>r=.bool (zQ v.name x.name)/\Ext w w'):=by
 have hE:=Keep.refl (fun _=>False) w
 refine znl Tryz.func156 O Tryz.ntmps156 O (Gs 2 O (zmr O O (M.box O O) ?_))
 rintro _ df ⟨b,rfl,hY,de,da,db⟩
 have dc:_<=b:=zpq hE.size (zrS hY.symm)
 obtain⟨hE,hB⟩:=Tr2 db hE hB
 refine Gs 6 O (zne O tg9 (da.cells 0 _ O) (Gs 1 O (zne O tg9 (hB.cells 0 _ O) (Gs 5 O (zlV Tryz.results156 O ⟨_,rfl,rfl,hE⟩)))))
theorem zeI (vs:List Vr) (vv:Value) (D:Nat->Prop) (w:World) (da:SlR 5 RVr D w vv vs) (dz:vs.length<=1000000):Calls Tryz.prog 121 #[vv] w (Ret fun r w'=>r=.int .i64 (zv vs)/\Ext w w'):=by
 obtain⟨av,nv,rfl⟩:=da.form
 have dY:=da.len_cap.2
 refine znk Tryz.func121 O Tryz.ntmps121 O (Gs 13 O (zlQ (σ:=Unit) (fun u=>[(0,.slice av vs.length nv)]) (fun u=>fun w'=>(∀ j,j<vs.length->kN vs j=0)/\Ext w w') ?_ ?_))
 .
  refine Gs 1 O (G.loop (σ:=Nat) (fun i=>[(0,.slice av vs.length nv),(10,.slice av vs.length nv),(11,.int .i64 vs.length),(12,.int .i64 i)]) (fun i=>fun w'=>i<=vs.length/\(∀ j,j<i->kN vs j=0)/\Ext w w') (fun i=>vs.length - i) (0) (Sub.of O) (⟨zpz _,fun j h=>absurd h (zrZ _),Keep.refl _ _⟩) ?_)
  rintro i w1 ⟨hi,dg,dc⟩
  replace da:=Tr1 dc da
  refine Gs 6 O (zlF O (fun dA=>?_) (fun dA=>?_))
  .
   obtain⟨x,dr,dH⟩:=gE_ vs (i) (by omega)
   obtain⟨dI,dZ,d5,dB,_,db,dt⟩:=da.at dr
   have dC:=RVr.one dt
   obtain rfl:=dt
   have dE:dI<_:=zpm _ _ (db 0 _ rfl)
   have dD:=zaP dr
   have dh:∀ c:Int,zI (vs.take i) x=c->c ≠ 0->zv vs=c:=by
    intro c h1 h2
    have h3:kN vs i ≠ 0:=by rw[dD,h1];exact h2
    rw[zv,qP dg (by omega) h3,zpv h3,dD,h1]
   have di:zI (vs.take i) x=0->∀ j,j<i+1->kN vs j=0:=by
    intro h j hj
    by_cases e:j=i
    . subst e;rw[dD,h]
    exact dg j (by omega)
   refine Gs 7 O (zna O O (zmh tR22 ts142 O O dB (by omega)) (zng O tg142 ts142 db O (zmr O O (M.alloc (cs:=_) tz142 O) ?_)))
   rintro _ wa1 ⟨c,rfl,dJ,dK,hY,dm⟩
   refine Gs 1 O (zmw O (zmx ts142 O O O O dC hY (by simp)) ?_)
   rintro d6 ⟨_,hY,du⟩
   replace dm:=dm.trans du (fun q hq h=>by have h:q=c:=h;omega)
   obtain⟨da,dc,db⟩:=Tr3 dm da dc db
   refine Gs 12 O (zne O tg9 (hY.cells 0 _ O) (G.call O Tryz.call157 (kI x.name _) ?_))
   rintro _ wz2 ⟨rfl,dL⟩
   obtain⟨da,dc,db,hY⟩:=Tr4 dL da dc db hY
   refine zna O O (zmT O (by first | exact za | rfl)) (Gs 3 O (G.bool O (fun n0=>?_) (fun n0=>?_)))
   .
    have n0':zbr x.name=false:=by simpa using n0
    refine Gs 13 O (zlV tr121 O ⟨_,rfl,by rw[dh 7 (by rw[zI,zpv n0']) (by decide)],dc⟩)
   have n0':¬ zbr x.name=false:=by simpa using n0
   refine Gs 4 O (zna O O (zmO tR22 ts142 O O (by omega)) (Gs 1 O ?_))
   have dM:=da.take i (by omega)
   have dN:Blk _ c (zeG x) 142:=hY
   refine G.call O Tryz.call158 (zdH (vs.take i) _ D _ dM (fun u=>zQ u.name x.name) 156 (.pointer (some ⟨c,0,none⟩)) Tryz.call156 (fun y _ w' dO=>ziu y x c w' (dO.blk dN (fun h=>h)))) ?_
   rintro _ wz3 ⟨rfl,dQ⟩
   obtain⟨da,dc,db,hY⟩:=Tr4 dQ da dc db hY
   refine Gs 3 O (G.bool O (fun d0=>?_) (fun d0=>?_))
   . refine Gs 13 O (zlV tr121 O ⟨_,rfl,by rw[dh 8 (by rw[zI,zpu n0',zpv d0]) (by decide)],dc⟩)
   have n1:¬ (vs.take i).any (fun u=>zQ u.name x.name)=true:=by rw[d0];decide
   refine Gs 3 O (zne O tg100 (hY.cells 1 _ O) (Gs 2 O (G.sp 33 O (fun k0=>?_) (fun k0=>?_))))
   .
    have n2:¬ (0<=x.kind/\x.kind<=3):=by omega
    refine Gs 21 O (zlV tr121 O ⟨_,rfl,by rw[dh 1 (by rw[zI,zpu n0',zpu n1,zpv n2]) (by decide)],dc⟩)
   refine Gs 1 O (zne O tg100 (hY.cells 1 _ O) (Gs 5 O (zlF O (fun k1=>?_) (fun k1=>?_))))
   .
    have n2:¬ (0<=x.kind/\x.kind<=3):=by omega
    refine Gs 13 O (zlV tr121 O ⟨_,rfl,by rw[dh 1 (by rw[zI,zpu n0',zpu n1,zpv n2]) (by decide)],dc⟩)
   have n2:¬ ¬ (0<=x.kind/\x.kind<=3):=by omega
   refine Gs 4 O (zne O tg3 (hY.cells 2 _ O) (Gs 1 O (zne O tg3 (hY.cells 3 _ O) (G.call O Tryz.call88 (qw x.low x.high _) ?_))))
   rintro _ wz4 ⟨rfl,dR⟩
   obtain⟨da,dc,db,hY⟩:=Tr4 dR da dc db hY
   refine zna O O (zmT O (by first | exact za | rfl)) (Gs 3 O (G.bool O (fun n3=>?_) (fun n3=>?_)))
   .
    have n3':zaO x.low x.high=false:=by simpa using n3
    refine Gs 16 O (zlV tr121 O ⟨_,rfl,by rw[dh 3 (by rw[zI,zpu n0',zpu n1,zpu n2,zpv n3']) (by decide)],dc⟩)
   have n3':¬ zaO x.low x.high=false:=by simpa using n3
   have b4:x.kind=0/\(x.init<x.low\/x.high<x.init)\/x.kind ≠ 0/\x.init ≠ 0->zv vs=3:=fun h=>dh 3 (by rw[zI,zpu n0',zpu n1,zpu n2,zpu n3',zpv h]) (by decide)
   have g4:¬ (x.kind=0/\(x.init<x.low\/x.high<x.init)\/x.kind ≠ 0/\x.init ≠ 0)->zI (vs.take i) x=0:=fun h=>by rw[zI,zpu n0',zpu n1,zpu n2,zpu n3',zpu h]
   refine Gs 3 O (zne O tg100 (hY.cells 1 _ O) (Gs 2 O (G.sp 48 O (fun kk=>?_) (fun kk=>?_))))
   .
    refine Gs 1 O (zne O tg3 (hY.cells 4 _ O) (Gs 5 O (zlF O (fun i2=>?_) (fun i2=>?_))))
    . refine Gs 16 O (zlV tr121 O ⟨_,rfl,by rw[b4 (by omega)],dc⟩)
    refine Gs 2 O (zne O tg100 (hY.cells 1 _ O) (Gs 2 O (G.sp 56 O (fun k0'=>?_) (fun k0'=>?_))))
    . exact absurd k0' kk
    refine Ga 25 O (by omega) (G.back (i+1) (Sub.of O) (⟨by omega,di (g4 (by omega)),dc⟩) (by first | omega | (dsimp only;omega)))
   refine Gs 10 O (zne O tg100 (hY.cells 1 _ O) (Gs 2 O (G.sp 56 O (fun k0'=>?_) (fun k0'=>?_))))
   .
    refine Gs 1 O (zne O tg3 (hY.cells 4 _ O) (Gs 1 O (zne O tg3 (hY.cells 2 _ O) (Gs 2 O (G.sp 62 O (fun i0=>?_) (fun i0=>?_))))))
    . refine Gs 24 O (zlV tr121 O ⟨_,rfl,by rw[b4 (by omega)],dc⟩)
    refine Gs 1 O (zne O tg3 (hY.cells 4 _ O) (Gs 1 O (zne O tg3 (hY.cells 3 _ O) (Gs 6 O (zlF O (fun i1=>?_) (fun i1=>?_))))))
    . refine Gs 13 O (zlV tr121 O ⟨_,rfl,by rw[b4 (by omega)],dc⟩)
    refine Ga 8 O (by omega) (G.back (i+1) (Sub.of O) (⟨by omega,di (g4 (by omega)),dc⟩) (by first | omega | (dsimp only;omega)))
   exact absurd k0' kk
  have dS:i=vs.length:=by omega
  subst dS
  refine Gs 4 O (zlS (()) (Sub.of O) (⟨dg,dc⟩))
 rintro u w2 ⟨dg,hX⟩
 replace da:=Tr1 hX da
 have hg:=qs dg
 have hz:=xS dg
 have dT:∀ v ∈ vs,yr (v.low,v.high):=fun v hv=>(hg v hv).1
 have hv:zv vs=if yO vs then 4 else 0:=by rw[zv,zpu (by simp[hz])]
 refine Gs 4 O (zmr O O (M.buildSlice (cs:=[.int .i64 1,.int .i64 2,.int .i64 3]) [(0,_),(1,_),(2,_)] Tryz.runUnderlying226 ts100 Tryz.zeroValue100 (by decide) O (by kernel_rfl)) ?_)
 rintro _ w3 ⟨b3,rfl,dF,dG,de,dw⟩
 obtain⟨da,hX⟩:=Tr2 dw da hX
 have dx:Blk w3 b3 (((List.range 3).map (fun (j:Nat)=>(j:Int)+1)).map (.int .i64)) 100:=de
 refine Gs 5 O (G.loop (σ:=Nat) (fun k=>[(0,.slice av vs.length nv),(71,.slice (some ⟨b3,0,none⟩) 3 3),(72,.int .i64 3),(73,.int .i64 k)]) (fun k=>fun w'=>k<=3/\(∀ j,j<k->∃ n,zo ((j:Int)+1) vs=some n/\(j=2->n<=256))/\Ext w3 w') (fun k=>3 - k) (0) (Sub.of O) (⟨zpz _,fun j h=>absurd h (zrZ _),Keep.refl _ _⟩) ?_)
 rintro k w4 ⟨hk,df,dy⟩
 obtain⟨da,hX,de,dx⟩:=Tr4 dy da hX de dx
 refine Gs 6 O (zlF O (fun dA=>?_) (fun dA=>?_))
 .
  have dU:((List.range 3).map (fun (j:Nat)=>(j:Int)+1))[k]?=some ((k:Int)+1):=by
   rw[zpB,List.getElem?_range (by omega)];rfl
  have dk:(zo ((k:Int)+1) vs=none\/∃ n,zo ((k:Int)+1) vs=some n/\k=2/\256<n)->zv vs=4:=by
   intro h
   rw[hv]
   have:yO vs=true:=by
    unfold yO
    rcases (show k=0\/k=1\/k=2 by omega) with rfl | rfl | rfl
    .
     rcases h with h | ⟨n,h,h2,_⟩
     . simp at h;simp[h]
     omega
    .
     rcases h with h | ⟨n,h,h2,_⟩
     . simp at h;simp[h]
     omega
    rcases h with h | ⟨n,h,_,h3⟩
    . simp at h;simp[h]
    simp at h;simp[h,h3]
   rw[this];rfl
  refine Ga 7 O (by omega) (zne O tg100 (dx.cells.el1 k O (by rw[zpB,dU];rfl)) ?_)
  refine Gs 7 O (G.call O Tryz.call159 (zeH vs ((k:Int)+1) _ D _ (by omega) dT da dz) ?_)
  rintro _ wz5 ⟨rfl,dV⟩
  obtain⟨da,hX,de,dx,dy⟩:=Tr5 dV da hX de dx dy
  refine Gs 12 O ?_
  have dl:(∃ n,zo ((k:Int)+1) vs=some n/\(k=2->n<=256))->∀ j,j<k+1->∃ n,zo ((j:Int)+1) vs=some n/\(j=2->n<=256):=by
   intro h j hj
   by_cases e:j=k
   . subst e;exact h
   exact df j (by omega)
  rcases hs:zo ((k:Int)+1) vs with _ | n
  .
   refine G.sp 85 O (fun c0=>?_) (fun c0=>?_)
   . refine Gs 21 O (zlV tr121 O ⟨_,rfl,by rw[dk (.inl hs)],hX⟩)
   exact absurd (by decide) c0
  refine G.sp 85 O (fun c0=>?_) (fun c0=>?_)
  . exact absurd c0 (by simp)
  refine Gs 3 O (G.sp 88 O (fun k3=>?_) (fun k3=>?_))
  .
   refine Gs 6 O (zlF O (fun n3=>?_) (fun n3=>?_))
   .
    have n3':(256:Int)<n:=n3
    refine Gs 11 O (zlV tr121 O ⟨_,rfl,by rw[dk (.inr ⟨n,hs,by omega,n3'⟩)],hX⟩)
   have n3':¬ (256:Int)<n:=n3
   refine Ga 7 O (by omega) (G.back (k+1) (Sub.of O) (⟨by omega,dl ⟨n,hs,fun _=>by omega⟩,dy⟩) (by first | omega | (dsimp only;omega)))
  refine Ga 14 O (by omega) (G.back (k+1) (Sub.of O) (⟨by omega,dl ⟨n,hs,fun h=>absurd (by omega) k3⟩,dy⟩) (by first | omega | (dsimp only;omega)))
 have dW:k=3:=by omega
 subst dW
 obtain⟨n1,h1,_⟩:=df 0 (by omega)
 obtain⟨n2,h2,_⟩:=df 1 (by omega)
 obtain⟨n3,h3,h4⟩:=df 2 (by omega)
 have dX:yO vs=false:=by
  simp at h1 h2 h3
  unfold yO
  simp[h1,h2,h3]
  exact h4 O
 rw[dX]at hv
 refine Gs 11 O (zlV tr121 O ⟨_,rfl,by rw[hv];rfl,hX⟩)
def plainB (t:Tm):Bool:=decide (t.op=0)&&decide (t.n=0)&&decide (t.kids.length=0)
theorem jY (t:Tm) (cs:List Value) (D:Nat->Prop) (w:World) (ht:RTm D w t cs):Calls Tryz.prog 152 #[.agg cs.toArray] w (Ret fun r w'=>r=.bool (plainB t)/\Ext w w'):=by
 obtain⟨v,rfl,hk⟩:=ht.get
 obtain⟨ao,cap,rfl⟩:=hk.form
 have hE:=Keep.refl (fun _=>False) w
 refine znk Tryz.func152 O Tryz.ntmps152 O (Gs 2 O (zmr O O (M.box O O) ?_))
 rintro _ dh ⟨b,rfl,da,de,hY,db⟩
 have dc:_<=b:=zpq hE.size (zrS da.symm)
 replace hE:=Tr1 db hE
 refine Gs 6 O (zne O tg67 (hY.cells 0 _ O) (Gs 2 O (G.sp 6 O (fun df=>?_) (fun df=>?_))))
 .
  refine Gs 1 O (zne O tg3 (hY.cells 1 _ O) (Gs 3 O (G.sp 11 O (fun dg=>?_) (fun dg=>?_))))
  . refine Gs 1 O (zne O tg68 (hY.cells 2 _ O) (Gs 7 O (zlV Tryz.results152 O ⟨_,rfl,by simp[plainB, *],hE⟩)))
  refine Gs 9 O (zlV Tryz.results152 O ⟨_,rfl,by simp[plainB, *],hE⟩)
 refine Gs 14 O (zlV Tryz.results152 O ⟨_,rfl,by simp[plainB, *],hE⟩)
theorem zeJ (t:Tm) (cs:List Value) (D:Nat->Prop) (w:World) (ht:RTm D w t cs):Calls Tryz.prog 201 #[.agg cs.toArray] w (Ret fun r w'=>r=.bool (plainB t)/\Ext w w'):=by
 obtain⟨v,rfl,hk⟩:=ht.get
 obtain⟨ao,cap,rfl⟩:=hk.form
 have hE:=Keep.refl (fun _=>False) w
 refine znk Tryz.func201 O Tryz.ntmps201 O (Gs 2 O (zmr O O (M.box O O) ?_))
 rintro _ dh ⟨b,rfl,da,de,hY,db⟩
 have dc:_<=b:=zpq hE.size (zrS da.symm)
 replace hE:=Tr1 db hE
 refine Gs 6 O (zne O tg67 (hY.cells 0 _ O) (Gs 2 O (G.sp 6 O (fun df=>?_) (fun df=>?_))))
 .
  refine Gs 1 O (zne O tg3 (hY.cells 1 _ O) (Gs 3 O (G.sp 11 O (fun dg=>?_) (fun dg=>?_))))
  . refine Gs 1 O (zne O tg68 (hY.cells 2 _ O) (Gs 7 O (zlV Tryz.results201 O ⟨_,rfl,by simp[plainB, *],hE⟩)))
  refine Gs 9 O (zlV Tryz.results201 O ⟨_,rfl,by simp[plainB, *],hE⟩)
 refine Gs 14 O (zlV Tryz.results201 O ⟨_,rfl,by simp[plainB, *],hE⟩)
@[irreducible] def uvB (a:Int):Bool:=decide (a=0\/a=5)
@[irreducible] def unB (a:Int):Bool:=decide (a=4\/a=5)
@[irreducible] def utB (a:Int):Bool:=decide (a=0\/a=1\/a=3\/a=4)
theorem zaf (a:Int) (w:World):Calls Tryz.prog 198 #[.int .i64 a] w (Ret fun r w'=>r=.bool (uvB a)/\Ext w w'):=by
 refine znk Tryz.func198 O Tryz.ntmps198 O (Gs 10 O (G.sp 5 O (fun hY=>?_) (fun hY=>?_)))
 . refine Gs 7 O (zlV Tryz.results198 O ⟨_,rfl,by unfold uvB;simp[*],Keep.refl _ _⟩)
 refine Gs 7 O (zlV Tryz.results198 O ⟨_,rfl,by unfold uvB;simp[*],Keep.refl _ _⟩)
theorem ziv (a:Int) (w:World):Calls Tryz.prog 199 #[.int .i64 a] w (Ret fun r w'=>r=.bool (unB a)/\Ext w w'):=by
 refine znk Tryz.func199 O Tryz.ntmps199 O (Gs 10 O (G.sp 5 O (fun hY=>?_) (fun hY=>?_)))
 . refine Gs 7 O (zlV Tryz.results199 O ⟨_,rfl,by unfold unB;simp[*],Keep.refl _ _⟩)
 refine Gs 7 O (zlV Tryz.results199 O ⟨_,rfl,by unfold unB;simp[*],Keep.refl _ _⟩)
theorem zeK (a:Int) (w:World):Calls Tryz.prog 200 #[.int .i64 a] w (Ret fun r w'=>r=.bool (utB a)/\Ext w w'):=by
 refine znk Tryz.func200 O Tryz.ntmps200 O (Gs 10 O (G.sp 5 O (fun hY=>?_) (fun hY=>?_)))
 . refine Gs 15 O (zlV tr200 O ⟨_,rfl,by unfold utB;simp[*],Keep.refl _ _⟩)
 refine Gs 4 O (G.sp 9 O (fun da=>?_) (fun da=>?_))
 . refine Gs 11 O (zlV tr200 O ⟨_,rfl,by unfold utB;simp[*],Keep.refl _ _⟩)
 refine Gs 4 O (G.sp 13 O (fun db=>?_) (fun db=>?_))
 . refine Gs 7 O (zlV tr200 O ⟨_,rfl,by unfold utB;simp[*],Keep.refl _ _⟩)
 refine Gs 7 O (zlV tr200 O ⟨_,rfl,by unfold utB;simp[*],Keep.refl _ _⟩)
def xg:List Int->Bool
 | x::y::r=>decide (x<y)&&xg (y::r)
 | _=>true
theorem xr:∀ l:List Int,xg l=true ↔ ∀ i x y,l[i]?=some x->l[i+1]?=some y->x<y
 | []=>by simp[xg]
 | [a]=>by simp[xg]
 | a::b::r=>by
  simp only[xg,zpW,decide_eq_true_eq,xr (b::r)]
  constructor
  .
   rintro⟨h1,h2⟩ i x y hx hy
   cases i with
   | zero=>simp at hx hy;subst hx;subst hy;exact h1
   | succ i=>exact h2 i x y (by simpa using hx) (by simpa using hy)
  intro h
  exact⟨h 0 a b O rfl,fun i x y hx hy=>h (i+1) x y (by simpa using hx) (by simpa using hy)⟩
theorem zcR (l:List Int) (v:Value) (D:Nat->Prop) (w:World) (hl:SlR 1 zC D w v l):Calls Tryz.prog 202 #[v] w (Ret fun r w'=>r=.bool (xg l)/\Ext w w'):=by
 have dD:=hl.max
 obtain⟨al,nl,rfl⟩:=hl.form
 refine znk Tryz.func202 O Tryz.ntmps202 O (Gs 14 O (G.loop (σ:=Nat) (fun i=>[(0,.slice al l.length nl),(5,.int .i64 l.length),(6,.int .i64 i)]) (fun i=>fun w'=>i<=l.length/\(∀ j x y,j+1<i->l[j]?=some x->l[j+1]?=some y->x<y)/\Ext w w') (fun i=>l.length - i) (0) (Sub.of O) (⟨zpz _,fun j x y h=>absurd h (zrZ _),Keep.refl _ _⟩) ?_))
 rintro i w1 ⟨hi,db,da⟩
 replace hl:=Tr1 da hl
 refine Gs 6 O (zlF O (fun du=>?_) (fun du=>?_))
 .
  refine Gs 11 O (Qt (by kernel_rfl) (Gs 3 O (G.sp 11 O (fun h0=>?_) (fun h0=>?_))))
  .
   obtain⟨k,rfl⟩:∃ k,i=k+1:=⟨i - 1,by omega⟩
   obtain⟨x,hx⟩:∃ x,l[k]?=some x:=⟨_,zpk (by omega)⟩
   obtain⟨y,hy⟩:∃ y,l[k+1]?=some y:=⟨_,zpk (by omega)⟩
   obtain⟨dg,dw,dx,dc,_,hY,de⟩:=hl.at (hy)
   obtain rfl:=de
   have dh:dg<_:=zpm _ _ (hY 0 _ rfl)
   obtain⟨dE,dF,dG,di,_,dk,dl⟩:=hl.at hx
   obtain rfl:=dl
   have dy:(((k+1:Nat):Int) - 1).toNat=k:=by omega
   refine Gs 2 O (znd O O (fun w1 df=>zmh tR27 ts3 O O dc (by omega)) (znf O tg3 (fun w1 df=>((df.cells hY (fun h=>h)) 0 _ O)) (Ga 3 O (by omega) (znd O O (fun w1 df=>zmh tR27 ts3 O O di (by omega)) (znf O tg3 (fun w1 df=>(by rw[dy];exact(df.cells dk (fun h=>h)) 0 _ O)) (Gs 2 O (znh (fun wz1 dz=>?_))))))))
   obtain⟨hl,da,hY⟩:=Tr3 dz hl da hY
   refine Gs 1 O (zlF O (fun hb=>?_) (fun hb=>?_))
   .
    refine Gs 11 O ?_
    have dA:xg l=false:=by rw[zpZ];intro h;have:=(xr l).1 h k x y hx hy;omega
    refine zlV Tryz.results202 O ⟨_,rfl,by rw[dA],da⟩
   refine Ga 7 O (by omega) (G.back (k+1+1) (Sub.of O) (⟨by omega,?_,da⟩) (by first | omega | (dsimp only;omega)))
   intro j x' y' hj dm dr
   by_cases e:j=k
   .
    subst e
    rw[hx]at dm;cases dm
    rw[hy]at dr;cases dr
    omega
   exact db j x' y' (by omega) dm dr
  have dB:i=0:=by omega
  subst dB
  refine Gs 11 O (znh (fun wz2 dC=>?_))
  obtain⟨hl,da⟩:=Tr2 dC hl da
  refine Ga 9 O (by omega) (G.back (1) (Sub.of O) (⟨by omega,fun j x y h=>by omega,da⟩) (by first | omega | (dsimp only;omega)))
 refine Gs 11 O ?_
 have dt:xg l=true:=(xr l).2 (fun j x y hx hy=>db j x y (by have:=(zpy.1 hy).1;omega) hx hy)
 refine zlV Tryz.results202 O ⟨_,rfl,by rw[dt],da⟩
def yp (l:List Int):Bool:=decide (1<=l.length)&&decide (l.length<=32)&&decide ((0:Int)<=l[0]?.getD 0)&&xg l
theorem zdI (l:List Int) (v:Value) (D:Nat->Prop) (w:World) (hl:SlR 1 zC D w v l):Calls Tryz.prog 153 #[v] w (Ret fun r w'=>r=.bool (yp l)/\Ext w w'):=by
 have dO:=hl.max
 obtain⟨al,nl,rfl⟩:=hl.form
 refine znk Tryz.func153 O Tryz.ntmps153 O (Gs 12 O (G.sp 7 O (fun h1=>?_) (fun h1=>?_)))
 .
  have dc:yp l=false:=by unfold yp;rw[zpx (show ¬ 1<=l.length by omega)];rfl
  refine Gs 20 O (zlV tr153 O ⟨_,rfl,by rw[dc],Keep.refl _ _⟩)
 refine Gs 5 O (G.sp 12 O (fun h2=>?_) (fun h2=>?_))
 .
  have dc:yp l=false:=by unfold yp;rw[zpx (show ¬ l.length<=32 by omega)];simp
  refine Gs 15 O (zlV tr153 O ⟨_,rfl,by rw[dc],Keep.refl _ _⟩)
 obtain⟨x0,dt⟩:∃ x,l[0]?=some x:=⟨_,zpk (by omega)⟩
 obtain⟨du,dF,dG,df,_,hY,dg⟩:=hl.at (dt)
 obtain rfl:=dg
 have dw:du<_:=zpm _ _ (hY 0 _ rfl)
 refine Gs 1 O (zna O O (zmh tR27 ts3 O O df (by omega)) (zne O tg3 (hY 0 _ O) (Gs 4 O (zlF O (fun h3=>?_) (fun h3=>?_)))))
 .
  have dc:yp l=false:=by unfold yp;rw[dt,zpx (show ¬ (0:Int)<=(some x0).getD 0 by simpa using h3)];simp
  refine Gs 7 O (zlV tr153 O ⟨_,rfl,by rw[dc],Keep.refl _ _⟩)
 have hg:yp l=xg l:=by unfold yp;rw[dt,zpw (show 1<=l.length by omega),zpw (show l.length<=32 by omega),zpw (show (0:Int)<=(some x0).getD 0 by simpa using h3)];rfl
 refine Gs 9 O (G.loop (σ:=Nat) (fun i=>[(0,.slice al l.length nl),(3,.int .i64 ((i:Int)+1))]) (fun i=>fun w'=>i+1<=l.length/\(∀ (j:Nat) (x y:Int),j<i->l[j]?=some x->l[j+1]?=some y->x<y)/\Ext w w') (fun i=>l.length - i) (0) (Sub.of O) (⟨by omega,fun j x y h=>absurd h (zrZ _),Keep.refl _ _⟩) ?_)
 rintro i w1 ⟨hi,dh,de⟩
 obtain⟨hl,hY⟩:=Tr2 de hl hY
 refine Gs 9 O (zlF O (fun dH=>?_) (fun dH=>?_))
 .
  obtain⟨x,hx⟩:∃ x,l[i]?=some x:=⟨_,zpk (by omega)⟩
  obtain⟨y,hy⟩:∃ y,l[i+1]?=some y:=⟨_,zpk (by omega)⟩
  obtain⟨dx,dI,dJ,di,_,da,dk⟩:=hl.at (hx)
  obtain rfl:=dk
  have dy:dx<_:=zpm _ _ (da 0 _ rfl)
  obtain⟨dz,dK,dL,dl,_,db,dm⟩:=hl.at (hy)
  obtain rfl:=dm
  have dA:dz<_:=zpm _ _ (db 0 _ rfl)
  have dM:((i:Int)+1).toNat=i+1:=by omega
  have dB:((i:Int)+1 - 1).toNat=i:=by omega
  refine Gs 5 O (Qt (by kernel_rfl) (Gs 2 O (znd O O (fun w1 dr=>zmh tR27 ts3 O O dl (by omega)) (znf O tg3 (fun w1 dr=>(by rw[dM];exact(dr.cells db (fun h=>h)) 0 _ O)) (Ga 3 O (by omega) (znd O O (fun w1 dr=>zmh tR27 ts3 O O di (by omega)) (znf O tg3 (fun w1 dr=>(by rw[dB];exact(dr.cells da (fun h=>h)) 0 _ O)) (Gs 1 O (znh (fun wz1 dN=>?_))))))))))
  obtain⟨hl,hY,de,da,db⟩:=Tr5 dN hl hY de da db
  refine Gs 1 O (zlF O (fun hb=>?_) (fun hb=>?_))
  .
   have dc:xg l=false:=by rw[zpZ];intro h;have:=(xr l).1 h i x y hx hy;omega
   refine Gs 11 O (zlV tr153 O ⟨_,rfl,by rw[hg,dc],de⟩)
  refine Ga 8 O (by omega) (G.back (i+1) (Sub.cons O (Sub.cons (yC O (by omega)) Sub.nil)) (⟨by omega,?_,de⟩) (by first | omega | (dsimp only;omega)))
  intro j x' y' hj dC dD
  by_cases e:j=i
  .
   subst e
   rw[hx]at dC;cases dC
   rw[hy]at dD;cases dD
   omega
  exact dh j x' y' (by omega) dC dD
 have dE:xg l=true:=(xr l).2 (fun j x y hx hy=>dh j x y (by have:=(zpy.1 hy).1;omega) hx hy)
 refine Gs 11 O (zlV tr153 O ⟨_,rfl,by rw[hg,dE],de⟩)
def zaF (s:St):Bool:=decide ((s.thn.length:Int)=0)&&decide ((s.els.length:Int)=0)
def xh (vs:List Vr) (n:Int):Bool:=decide (0<=n)&&decide (n<(vs.length:Int))&&zad vs n
def zg (vs:List Vr) (nh:Nat) (s:St) (last:Bool):Bool :=
 if s.act=0 then zaF s&&xh vs s.var&&decide (s.n=0)&&decide ((s.bounds.length:Int)=0)
 else if s.act=1 then zaF s&&decide (s.var=0)&&decide (s.n=0)&&decide ((s.bounds.length:Int)=0)
 else if s.act=2 then zaF s&&decide (s.var=0)&&decide (s.n=0)&&decide ((s.bounds.length:Int)=0)&&plainB s.term
 else if s.act=3 then decide (s.var=0)&&decide (s.n=0)&&decide ((s.bounds.length:Int)=0)
 else if s.act=4 then decide (s.var=0)&&decide ((s.els.length:Int)=0)&&decide ((s.bounds.length:Int)=0)
 else if s.act=5 then zaF s&&xh vs s.var&&decide (0<=s.n)&&decide (s.n<(nh:Int))&&decide ((s.bounds.length:Int)=0)&&plainB s.term
 else if s.act=6 then zaF s&&last&&decide (s.var=0)&&decide (s.n=0)&&plainB s.term&&yp s.bounds
 else false
theorem zaA (f:Fl) (s:St) (last:Bool) (v1 v2 v3:Value) (cs:List Value) (D D':Nat->Prop) (w:World) (hf:RFl D w f v1 v2 v3) (hs:RSt D' w s cs):Calls Tryz.prog 112 #[.agg #[v1,v2,v3],.agg cs.toArray,.bool last] w (Ret fun r w'=>r=.bool (zg f.vars f.hatches.length s last)/\Ext w w'):=by
 obtain⟨dh,eh,eu⟩:=hf
 obtain⟨a1,n1,rfl⟩:=dh.form
 obtain⟨a2,n2,rfl⟩:=eh.form
 obtain⟨u1,u2,u3,u4,rfl,hk,ht,he,hb⟩:=hs.get
 obtain⟨a4,n4,rfl⟩:=hk.form
 obtain⟨a5,n5,rfl⟩:=ht.form
 obtain⟨a6,n6,rfl⟩:=he.form
 obtain⟨a7,n7,rfl⟩:=hb.form
 have hE:=Keep.refl (fun _=>False) w
 refine znm Tryz.func112 O Tryz.ntmps112 O (Gs 2 O (zmr O O (M.box O O) ?_))
 rintro _ ew ⟨b,rfl,dT,ei,da,dU⟩
 have ed:_<=b:=zpq hE.size (zrS dT.symm)
 obtain⟨hE,dh,hk,hb⟩:=Tr4 dU hE dh hk hb
 refine zmr O O (M.box O O) ?_
 rintro _ ej ⟨c,rfl,dV,ek,hY,dW⟩
 have dX:b ≠ c:=by have:=da.lt;omega
 have ee:_<=c:=zpq hE.size (zrS dV.symm)
 obtain⟨hE,dh,hk,hb,da⟩:=Tr5 dW hE dh hk hb da
 refine Gs 4 O (zlQ (σ:=Bool) (fun q=>[(2,.bool last),(3,.pointer (some ⟨b,0,none⟩)),(4,.pointer (some ⟨c,0,none⟩)),(7,.bool q)]) (fun q=>fun w'=>q=zaF s/\w'=ej) ?_ ?_)
 .
  refine Gs 2 O (zne O tg24 (hY.cells 7 _ O) (Gs 3 O (G.sp 13 O (fun dY=>?_) (fun dY=>?_))))
  .
   refine Gs 1 O (zne O tg24 (hY.cells 8 _ O) (Gs 5 O ?_))
   refine zlS (_) (Sub.of O) (⟨by simp only[zaF,dY,decide_true,zqc],rfl⟩)
  refine Gs 7 O ?_
  refine zlS (_) (Sub.cons O (Sub.cons O (Sub.cons O (Sub.cons (by first | rfl | (show some (Value.bool false)=some (Value.bool _);simp[*])) Sub.nil)))) (⟨by simp only[zaF,dY,decide_false,zq1],rfl⟩)
 rintro q w2 ⟨hq,em⟩
 subst em
 subst hq
 refine Gs 2 O (zlQ (σ:=Bool) (fun q=>[(2,.bool last),(3,.pointer (some ⟨b,0,none⟩)),(4,.pointer (some ⟨c,0,none⟩)),(7,.bool (zaF s)),(8,.bool q)]) (fun q=>fun w'=>q=xh f.vars s.var/\w'=w2) ?_ ?_)
 .
  by_cases hv:0<=s.var/\s.var<f.vars.length
  .
   obtain⟨x,dM,en⟩:=gE_ f.vars (s.var.toNat) (by omega)
   obtain⟨eo,ey,ez,dZ,_,dN,dO⟩:=dh.at dM
   have ep:=RVr.one dO
   obtain rfl:=dO
   have ef:eo<_:=zpm _ _ (dN 0 _ rfl)
   have d5:zad f.vars s.var=decide (x.kind=0):=by unfold zad;rw[dM]
   refine Gs 2 O (zne O tg3 (hY.cells 2 _ O) (Gs 2 O (G.sp 22 O (fun dR=>?_) (fun dR=>?_))))
   .
    refine Gs 1 O (zne O tg3 (hY.cells 2 _ O) (Gs 1 O (zne O tg22 (da.cells 0 _ O) (Gs 4 O (G.sp 30 O (fun d6=>?_) (fun d6=>?_))))))
    .
     refine Gs 1 O (zne O tg22 (da.cells 0 _ O) (Gs 1 O (zne O tg3 (hY.cells 2 _ O) (zna O O (zmh tR22 ts142 O O dZ (by omega)) (Gs 1 O (zne O tg100 (dN 1 _ O) (Gs 4 O ?_)))))))
     refine zlS (_) (Sub.of O) (⟨by simp only[xh,d5,dR,d6,decide_true,zpY,zqc],rfl⟩)
    refine Gs 11 O ?_
    refine zlS (_) (Sub.cons O (Sub.cons O (Sub.cons O (Sub.cons O (Sub.cons (by first | rfl | (show some (Value.bool false)=some (Value.bool _);simp[*])) Sub.nil))))) (⟨by simp only[xh,d5,dR,d6,decide_true,decide_false,zpX,zq1],rfl⟩)
   refine Gs 19 O ?_
   refine zlS (_) (Sub.cons O (Sub.cons O (Sub.cons O (Sub.cons O (Sub.cons (by first | rfl | (show some (Value.bool false)=some (Value.bool _);simp[*])) Sub.nil))))) (⟨by simp only[xh,d5,dR,decide_false,zq1],rfl⟩)
  refine Gs 2 O (zne O tg3 (hY.cells 2 _ O) (Gs 2 O (G.sp 22 O (fun d7=>?_) (fun d7=>?_))))
  .
   refine Gs 1 O (zne O tg3 (hY.cells 2 _ O) (Gs 1 O (zne O tg22 (da.cells 0 _ O) (Gs 4 O (G.sp 30 O (fun eg=>?_) (fun eg=>?_))))))
   .
    refine Gs 1 O (zne O tg22 (da.cells 0 _ O) (Gs 1 O (zne O tg3 (hY.cells 2 _ O) ?_)))
    exfalso
    omega
   refine Gs 11 O ?_
   refine zlS (_) (Sub.cons O (Sub.cons O (Sub.cons O (Sub.cons O (Sub.cons (by first | rfl | (show some (Value.bool false)=some (Value.bool _);simp[*])) Sub.nil))))) (⟨by simp[xh,d7,eg],rfl⟩)
  refine Gs 19 O ?_
  refine zlS (_) (Sub.cons O (Sub.cons O (Sub.cons O (Sub.cons O (Sub.cons (by first | rfl | (show some (Value.bool false)=some (Value.bool _);simp[*])) Sub.nil))))) (⟨by simp[xh,d7],rfl⟩)
 rintro q w3 ⟨hq,er⟩
 subst er
 subst hq
 refine Gs 5 O (zne O tg66 (hY.cells 0 _ O) (Gs 9 O (zlF O (fun dL=>?_) (fun dL=>?_))))
 .
  refine Gs 4 O (zn8 45 O (fun dQ=>?_) (fun dQ=>?_))
  .
   refine Gs 3 O (zn8 48 O (fun dS=>?_) (fun dS=>?_))
   .
    refine Gs 1 O (zne O tg3 (hY.cells 3 _ O) (Gs 3 O (G.sp 53 O (fun d8=>?_) (fun d8=>?_))))
    . refine Gs 1 O (zne O tg27 (hY.cells 9 _ O) (Gs 9 O (zlV tr112 O ⟨_,rfl,by simp only[zg,dL,dQ,dS,d8,if_true,if_false,decide_true,zpY,zqc,Int.reduceEq],hE⟩)))
    refine Gs 11 O (zlV tr112 O ⟨_,rfl,by simp only[zg,dL,dQ,dS,d8,if_true,if_false,decide_false,zpY,zqc,zpX,zq1,Int.reduceEq],hE⟩)
   refine Gs 16 O (zlV tr112 O ⟨_,rfl,by simp only[zg,dL,dQ,dS,if_true,if_false,zqc,zpX,zq1,Int.reduceEq],hE⟩)
  refine Gs 19 O (zlV tr112 O ⟨_,rfl,by simp only[zg,dL,dQ,if_true,if_false,zq1,Int.reduceEq],hE⟩)
 refine Gs 6 O (zlF O (fun di=>?_) (fun di=>?_))
 .
  refine Gs 4 O (zn8 62 O (fun dr=>?_) (fun dr=>?_))
  .
   refine Gs 1 O (zne O tg3 (hY.cells 2 _ O) (Gs 3 O (G.sp 67 O (fun dz=>?_) (fun dz=>?_))))
   .
    refine Gs 1 O (zne O tg3 (hY.cells 3 _ O) (Gs 3 O (G.sp 72 O (fun dF=>?_) (fun dF=>?_))))
    . refine Gs 1 O (zne O tg27 (hY.cells 9 _ O) (Gs 9 O (zlV tr112 O ⟨_,rfl,by simp only[zg,di,dr,dz,dF,if_true,if_false,decide_true,zpY,zqc,Int.reduceEq],hE⟩)))
    refine Gs 11 O (zlV tr112 O ⟨_,rfl,by simp only[zg,di,dr,dz,dF,if_true,if_false,decide_true,decide_false,zpY,zqc,zpX,zq1,Int.reduceEq],hE⟩)
   refine Gs 16 O (zlV tr112 O ⟨_,rfl,by simp only[zg,di,dr,dz,if_true,if_false,decide_false,zqc,zpX,zq1,Int.reduceEq],hE⟩)
  refine Gs 21 O (zlV tr112 O ⟨_,rfl,by simp only[zg,di,dr,if_true,if_false,zq1,Int.reduceEq],hE⟩)
 refine Gs 6 O (zlF O (fun de=>?_) (fun de=>?_))
 .
  refine Gs 4 O (zn8 81 O (fun dk=>?_) (fun dk=>?_))
  .
   refine Gs 1 O (zne O tg3 (hY.cells 2 _ O) (Gs 3 O (G.sp 86 O (fun dt=>?_) (fun dt=>?_))))
   .
    refine Gs 1 O (zne O tg3 (hY.cells 3 _ O) (Gs 3 O (G.sp 91 O (fun dA=>?_) (fun dA=>?_))))
    .
     refine Gs 1 O (zne O tg27 (hY.cells 9 _ O) (Gs 4 O (G.sp 97 O (fun dG=>?_) (fun dG=>?_))))
     .
      refine Gs 1 O (zng O tg70 ts70 (hY.cells.sub 4 3) O (G.call O Tryz.call152 (jY s.term _ D' _ (RTm.put hk)) ?_))
      rintro _ wz19 ⟨rfl,d9⟩
      obtain⟨hE,dh,hk,hb,da,hY⟩:=Tr6 d9 hE dh hk hb da hY
      refine Gs 7 O (zlV tr112 O ⟨_,rfl,by simp only[zg,de,dk,dt,dA,dG,if_true,if_false,decide_true,zpY,zqc,Int.reduceEq],hE⟩)
     refine Gs 10 O (zlV tr112 O ⟨_,rfl,by simp only[zg,de,dk,dt,dA,dG,if_true,if_false,decide_true,decide_false,zpY,zqc,zpX,zq1,Int.reduceEq],hE⟩)
    refine Gs 16 O (zlV tr112 O ⟨_,rfl,by simp only[zg,de,dk,dt,dA,if_true,if_false,decide_true,decide_false,zpY,zqc,zpX,zq1,Int.reduceEq],hE⟩)
   refine Gs 21 O (zlV tr112 O ⟨_,rfl,by simp only[zg,de,dk,dt,if_true,if_false,decide_false,zqc,zpX,zq1,Int.reduceEq],hE⟩)
  refine Gs 26 O (zlV tr112 O ⟨_,rfl,by simp only[zg,de,dk,if_true,if_false,zq1,Int.reduceEq],hE⟩)
 refine Gs 6 O (zlF O (fun du=>?_) (fun du=>?_))
 .
  refine Gs 3 O (zne O tg3 (hY.cells 2 _ O) (Gs 2 O (G.sp 107 O (fun dB=>?_) (fun dB=>?_))))
  .
   refine Gs 1 O (zne O tg3 (hY.cells 3 _ O) (Gs 3 O (G.sp 112 O (fun dH=>?_) (fun dH=>?_))))
   . refine Gs 1 O (zne O tg27 (hY.cells 9 _ O) (Gs 9 O (zlV tr112 O ⟨_,rfl,by simp only[zg,du,dB,dH,if_true,if_false,decide_true,zpY,zqc,Int.reduceEq],hE⟩)))
   refine Gs 11 O (zlV tr112 O ⟨_,rfl,by simp only[zg,du,dB,dH,if_true,if_false,decide_true,decide_false,zpY,zqc,zpX,zq1,Int.reduceEq],hE⟩)
  refine Gs 16 O (zlV tr112 O ⟨_,rfl,by simp only[zg,du,dB,if_true,if_false,decide_false,zpX,zq1,Int.reduceEq],hE⟩)
 refine Gs 6 O (zlF O (fun dw=>?_) (fun dw=>?_))
 .
  refine Gs 3 O (zne O tg3 (hY.cells 2 _ O) (Gs 2 O (G.sp 123 O (fun dC=>?_) (fun dC=>?_))))
  .
   refine Gs 1 O (zne O tg24 (hY.cells 8 _ O) (Gs 4 O (G.sp 129 O (fun dI=>?_) (fun dI=>?_))))
   . refine Gs 1 O (zne O tg27 (hY.cells 9 _ O) (Gs 9 O (zlV tr112 O ⟨_,rfl,by simp only[zg,dw,dC,dI,if_true,if_false,decide_true,zpY,zqc,Int.reduceEq],hE⟩)))
   refine Gs 11 O (zlV tr112 O ⟨_,rfl,by simp only[zg,dw,dC,dI,if_true,if_false,decide_true,decide_false,zpY,zqc,zpX,zq1,Int.reduceEq],hE⟩)
  refine Gs 17 O (zlV tr112 O ⟨_,rfl,by simp only[zg,dw,dC,if_true,if_false,decide_false,zpX,zq1,Int.reduceEq],hE⟩)
 refine Gs 6 O (zlF O (fun db=>?_) (fun db=>?_))
 .
  refine Gs 4 O (zn8 138 O (fun df=>?_) (fun df=>?_))
  .
   refine Gs 3 O (zn8 141 O (fun dl=>?_) (fun dl=>?_))
   .
    refine Gs 1 O (zne O tg3 (hY.cells 3 _ O) (Gs 3 O (G.sp 146 O (fun dx=>?_) (fun dx=>?_))))
    .
     refine Gs 1 O (zne O tg3 (hY.cells 3 _ O) (Gs 1 O (zne O tg23 (da.cells 1 _ O) (Gs 4 O (G.sp 154 O (fun dD=>?_) (fun dD=>?_))))))
     .
      refine Gs 1 O (zne O tg27 (hY.cells 9 _ O) (Gs 4 O (G.sp 160 O (fun dJ=>?_) (fun dJ=>?_))))
      .
       refine Gs 1 O (zng O tg70 ts70 (hY.cells.sub 4 3) O (G.call O Tryz.call152 (jY s.term _ D' _ (RTm.put hk)) ?_))
       rintro _ wz32 ⟨rfl,ea⟩
       obtain⟨hE,dh,hk,hb,da,hY⟩:=Tr6 ea hE dh hk hb da hY
       refine Gs 7 O (zlV tr112 O ⟨_,rfl,by simp only[zg,db,df,dl,dx,dD,dJ,if_true,if_false,decide_true,zpY,zqc,Int.reduceEq],hE⟩)
      refine Gs 10 O (zlV tr112 O ⟨_,rfl,by simp only[zg,db,df,dl,dx,dD,dJ,if_true,if_false,decide_true,decide_false,zpY,zqc,zpX,zq1,Int.reduceEq],hE⟩)
     refine Gs 16 O (zlV tr112 O ⟨_,rfl,by simp only[zg,db,df,dl,dx,dD,if_true,if_false,decide_true,decide_false,zpY,zqc,zpX,zq1,Int.reduceEq],hE⟩)
    refine Gs 24 O (zlV tr112 O ⟨_,rfl,by simp only[zg,db,df,dl,dx,if_true,if_false,decide_false,zpY,zqc,zpX,zq1,Int.reduceEq],hE⟩)
   refine Gs 29 O (zlV tr112 O ⟨_,rfl,by simp only[zg,db,df,dl,if_true,if_false,zqc,zpX,zq1,Int.reduceEq],hE⟩)
  refine Gs 32 O (zlV tr112 O ⟨_,rfl,by simp only[zg,db,df,if_true,if_false,zq1,Int.reduceEq],hE⟩)
 refine Gs 6 O (zlF O (fun dc=>?_) (fun dc=>?_))
 .
  refine Gs 4 O (zn8 168 O (fun dg=>?_) (fun dg=>?_))
  .
   refine Gs 3 O (zn8 171 O (fun dm=>?_) (fun dm=>?_))
   .
    refine Gs 1 O (zne O tg3 (hY.cells 2 _ O) (Gs 3 O (G.sp 176 O (fun dy=>?_) (fun dy=>?_))))
    .
     refine Gs 1 O (zne O tg3 (hY.cells 3 _ O) (Gs 3 O (G.sp 181 O (fun dE=>?_) (fun dE=>?_))))
     .
      refine Gs 1 O (zng O tg70 ts70 (hY.cells.sub 4 3) O (G.call O Tryz.call152 (jY s.term _ D' _ (RTm.put hk)) ?_))
      rintro _ wz38 ⟨rfl,eb⟩
      obtain⟨hE,dh,hk,hb,da,hY⟩:=Tr6 eb hE dh hk hb da hY
      refine Gs 2 O (zn8 186 O (fun dK=>?_) (fun dK=>?_))
      .
       refine Gs 1 O (zne O tg27 (hY.cells 9 _ O) (G.call O Tryz.call153 (zdI s.bounds _ D' _ hb) ?_))
       rintro _ wz40 ⟨rfl,ec⟩
       obtain⟨hE,dh,hk,hb,da,hY⟩:=Tr6 ec hE dh hk hb da hY
       refine Gs 7 O (zlV tr112 O ⟨_,rfl,by simp only[zg,dc,dg,dm,dy,dE,dK,if_true,if_false,decide_true,zpY,zqc,Int.reduceEq],hE⟩)
      refine Gs 10 O (zlV tr112 O ⟨_,rfl,by simp only[zg,dc,dg,dm,dy,dE,dK,if_true,if_false,decide_true,zpY,zqc,zpX,zq1,Int.reduceEq],hE⟩)
     refine Gs 15 O (zlV tr112 O ⟨_,rfl,by simp only[zg,dc,dg,dm,dy,dE,if_true,if_false,decide_true,decide_false,zpY,zqc,zpX,zq1,Int.reduceEq],hE⟩)
    refine Gs 20 O (zlV tr112 O ⟨_,rfl,by simp only[zg,dc,dg,dm,dy,if_true,if_false,decide_false,zpY,zqc,zpX,zq1,Int.reduceEq],hE⟩)
   refine Gs 25 O (zlV tr112 O ⟨_,rfl,by simp only[zg,dc,dg,dm,if_true,if_false,zqc,zpX,zq1,Int.reduceEq],hE⟩)
  refine Gs 28 O (zlV tr112 O ⟨_,rfl,by simp only[zg,dc,dg,if_true,if_false,zq1,Int.reduceEq],hE⟩)
 refine Gs 9 O (zlV tr112 O ⟨_,rfl,by simp only[zg,dL,di,de,du,dw,db,dc,if_false],hE⟩)
theorem zbx (vs:List Vr) (nh:Nat) (s:St) (last:Bool):zg vs nh s last=(!(decide (s.act<0) || decide (6<s.act))&&!(!uvB s.act&&decide (s.var ≠ 0))&&!(!unB s.act&&decide (s.n ≠ 0))&&!(!utB s.act&&!plainB s.term)
  && !(decide (s.act ≠ 3)&&decide (s.act ≠ 4)&&decide (0<(s.thn.length:Int)))&&!(decide (s.act ≠ 3)&&decide (0<(s.els.length:Int)))&&!(decide (s.act ≠ 6)&&decide (0<(s.bounds.length:Int)))
  && !(uvB s.act&&!xh vs s.var)&&!(decide (s.act=5)&&(decide (s.n<0) || decide ((nh:Int)<=s.n)))
  && (decide (s.act ≠ 6) || (last&&yp s.bounds))):=by
 have c0:∀ n:Nat,decide ((n:Int)=0)=!decide (0<(n:Int)):=by intro n;rw[za];congr 1;simp
 have c1:decide (s.var=0)=!decide (s.var ≠ 0):=by rw[za];congr 1;simp
 have c2:decide (s.n=0)=!decide (s.n ≠ 0):=by rw[za];congr 1;simp
 have c3:decide (0<=s.n)=!decide (s.n<0):=by rw[za];congr 1;simp
 have c4:decide (s.n<(nh:Int))=!decide ((nh:Int)<=s.n):=by rw[za];congr 1;simp
 unfold zg zaF uvB unB utB
 simp only[c0,c1,c2,c3,c4]
 generalize decide (0<(s.thn.length:Int))=p1
 generalize decide (0<(s.els.length:Int))=p2
 generalize decide (0<(s.bounds.length:Int))=p3
 generalize decide (s.var ≠ 0)=p4
 generalize decide (s.n ≠ 0)=p5
 generalize decide (s.n<0)=p6
 generalize decide ((nh:Int)<=s.n)=p7
 generalize plainB s.term=p8
 generalize xh vs s.var=p9
 generalize yp s.bounds=p10
 rcases (show s.act<0\/s.act=0\/s.act=1\/s.act=2\/s.act=3\/s.act=4\/s.act=5\/s.act=6\/6<s.act by omega) with h | h | h | h | h | h | h | h | h
 . rw[zpu (by omega),zpu (by omega),zpu (by omega),zpu (by omega),zpu (by omega),zpu (by omega),zpu (by omega),zpw h];rfl
 . rw[h];revert p1 p2 p3 p4 p5 p6 p7 p8 p9 p10 last;decide
 . rw[h];revert p1 p2 p3 p4 p5 p6 p7 p8 p9 p10 last;decide
 . rw[h];revert p1 p2 p3 p4 p5 p6 p7 p8 p9 p10 last;decide
 . rw[h];revert p1 p2 p3 p4 p5 p6 p7 p8 p9 p10 last;decide
 . rw[h];revert p1 p2 p3 p4 p5 p6 p7 p8 p9 p10 last;decide
 . rw[h];revert p1 p2 p3 p4 p5 p6 p7 p8 p9 p10 last;decide
 . rw[h];revert p1 p2 p3 p4 p5 p6 p7 p8 p9 p10 last;decide
 rw[zpu (by omega),zpu (by omega),zpu (by omega),zpu (by omega),zpu (by omega),zpu (by omega),zpu (by omega),zpw h];simp
theorem kO (f:Fl) (s:St) (last:Bool) (v1 v2 v3:Value) (cs:List Value) (D D':Nat->Prop) (w:World) (hf:RFl D w f v1 v2 v3) (hs:RSt D' w s cs):Calls Tryz.prog 163 #[.agg #[v1,v2,v3],.agg cs.toArray,.bool last] w (Ret fun r w'=>r=.bool (zg f.vars f.hatches.length s last)/\Ext w w'):=by
 obtain⟨dg,eF,fh⟩:=hf
 obtain⟨a1,n1,rfl⟩:=dg.form
 obtain⟨a2,n2,rfl⟩:=eF.form
 obtain⟨u1,u2,u3,u4,rfl,hk,ht,he,hb⟩:=hs.get
 obtain⟨a4,n4,rfl⟩:=hk.form
 obtain⟨a5,n5,rfl⟩:=ht.form
 obtain⟨a6,n6,rfl⟩:=he.form
 obtain⟨a7,n7,rfl⟩:=hb.form
 rw[zbx]
 have hE:=Keep.refl (fun _=>False) w
 refine znm Tryz.func163 O Tryz.ntmps163 O (Gs 2 O (zmr O O (M.box O O) ?_))
 rintro _ fi ⟨b,rfl,d5,eG,da,d6⟩
 have er:_<=b:=zpq hE.size (zrS d5.symm)
 obtain⟨hE,dg,hk,hb⟩:=Tr4 d6 hE dg hk hb
 refine zmr O O (M.box O O) ?_
 rintro _ eu ⟨c,rfl,d7,eH,hY,d8⟩
 have d9:b ≠ c:=by have:=da.lt;omega
 have ew:_<=c:=zpq hE.size (zrS d7.symm)
 obtain⟨hE,dg,hk,hb,da⟩:=Tr5 d8 hE dg hk hb da
 refine Gs 6 O (zne O tg66 (hY.cells 0 _ O) (Gs 7 O ?_))
 have ey:=Keep.refl (fun _=>False) eu
 refine zlQ (σ:=Bool) (fun q=>[(2,.bool last),(3,.pointer (some ⟨b,0,none⟩)),(4,.pointer (some ⟨c,0,none⟩)),(7,.int .i64 s.act),(10,.bool q)]) (fun q=>fun w'=>q=(decide (s.act<0) || decide (6<s.act))/\Ext eu w') ?_ ?_
 .
  refine Gs 4 O (G.sp 13 O (fun ea=>?_) (fun ea=>?_))
  .
   refine Gs 5 O ?_
   refine zlS (_) (Sub.cons O (Sub.cons O (Sub.cons O (Sub.cons O (Sub.cons (by first | rfl | (show some (Value.bool true)=some (Value.bool _);simp[*])) Sub.nil))))) (⟨by first | (simp only[ea,decide_true,zqd];done) | (exfalso;omega),ey⟩)
  refine Gs 5 O ?_
  refine zlS (_) (Sub.of O) (⟨by first | (simp only[ea,decide_false,zq3];done) | (exfalso;omega),ey⟩)
 rintro q x2 ⟨eI,eJ⟩
 subst eI
 obtain⟨hE,dg,hk,hb,da,hY⟩:=Tr6 eJ hE dg hk hb da hY
 refine Gs 1 O (G.bool O (fun db=>?_) (fun db=>?_))
 . refine Gs 11 O (zlV tr163 O ⟨_,rfl,by simp only[db,zq6,zq1],hE⟩)
 refine Gs 1 O ?_
 have dX:=Keep.refl (fun _=>False) x2
 refine zlQ (σ:=Bool) (fun q=>[(2,.bool last),(3,.pointer (some ⟨b,0,none⟩)),(4,.pointer (some ⟨c,0,none⟩)),(7,.int .i64 s.act),(10,.bool q)]) (fun q=>fun w'=>q=(!uvB s.act&&decide (s.var ≠ 0))/\Ext x2 w') ?_ ?_
 .
  refine Gs 2 O (G.call O Tryz.call198 (zaf s.act _) ?_)
  rintro _ wz2 ⟨rfl,eK⟩
  obtain⟨hE,dg,hk,hb,da,hY,dX⟩:=Tr7 eK hE dg hk hb da hY dX
  refine zna O O (zmT O (by first | exact za | rfl)) (Gs 1 O (zn8 20 O (fun eb=>?_) (fun eb=>?_)))
  .
   refine Gs 1 O (zne O tg3 (hY.cells 2 _ O) (Gs 4 O ?_))
   refine zlS (_) (Sub.of O) (⟨by first | (simp only[eb,zqc,ne_eq,decide_not];done) | (exfalso;omega),dX⟩)
  refine Gs 6 O ?_
  refine zlS (_) (Sub.cons O (Sub.cons O (Sub.cons O (Sub.cons O (Sub.cons (by first | rfl | (show some (Value.bool false)=some (Value.bool _);simp[*])) Sub.nil))))) (⟨by first | (simp only[eb,zq1,ne_eq,decide_not];done) | (exfalso;omega),dX⟩)
 rintro q x3 ⟨eL,eM⟩
 subst eL
 obtain⟨hE,dg,hk,hb,da,hY⟩:=Tr6 eM hE dg hk hb da hY
 refine Gs 1 O (G.bool O (fun dc=>?_) (fun dc=>?_))
 . refine Gs 11 O (zlV tr163 O ⟨_,rfl,by simp only[db,dc,zq6,zpX,zq1],hE⟩)
 .
  refine Gs 1 O ?_
  have dY:=Keep.refl (fun _=>False) x3
  refine zlQ (σ:=Bool) (fun q=>[(2,.bool last),(3,.pointer (some ⟨b,0,none⟩)),(4,.pointer (some ⟨c,0,none⟩)),(7,.int .i64 s.act),(10,.bool q)]) (fun q=>fun w'=>q=(!unB s.act&&decide (s.n ≠ 0))/\Ext x3 w') ?_ ?_
  .
   refine Gs 2 O (G.call O Tryz.call199 (ziv s.act _) ?_)
   rintro _ wz4 ⟨rfl,eN⟩
   obtain⟨hE,dg,hk,hb,da,hY,dY⟩:=Tr7 eN hE dg hk hb da hY dY
   refine zna O O (zmT O (by first | exact za | rfl)) (Gs 1 O (zn8 28 O (fun ec=>?_) (fun ec=>?_)))
   .
    refine Gs 1 O (zne O tg3 (hY.cells 3 _ O) (Gs 4 O ?_))
    refine zlS (_) (Sub.of O) (⟨by first | (simp only[ec,zqc,ne_eq,decide_not];done) | (exfalso;omega),dY⟩)
   refine Gs 6 O ?_
   refine zlS (_) (Sub.cons O (Sub.cons O (Sub.cons O (Sub.cons O (Sub.cons (by first | rfl | (show some (Value.bool false)=some (Value.bool _);simp[*])) Sub.nil))))) (⟨by first | (simp only[ec,zq1,ne_eq,decide_not];done) | (exfalso;omega),dY⟩)
  rintro q x4 ⟨eO,eP⟩
  subst eO
  obtain⟨hE,dg,hk,hb,da,hY⟩:=Tr6 eP hE dg hk hb da hY
  refine Gs 1 O (G.bool O (fun de=>?_) (fun de=>?_))
  . refine Gs 11 O (zlV tr163 O ⟨_,rfl,by simp only[db,dc,de,zq6,zpX,zq1],hE⟩)
  .
   refine Gs 1 O ?_
   have dN:=Keep.refl (fun _=>False) x4
   refine zlQ (σ:=Bool) (fun q=>[(2,.bool last),(3,.pointer (some ⟨b,0,none⟩)),(4,.pointer (some ⟨c,0,none⟩)),(7,.int .i64 s.act),(10,.bool q)]) (fun q=>fun w'=>q=(!utB s.act&&!plainB s.term)/\Ext x4 w') ?_ ?_
   .
    refine Gs 2 O (G.call O Tryz.call200 (zeK s.act _) ?_)
    rintro _ wz6 ⟨rfl,eQ⟩
    obtain⟨hE,dg,hk,hb,da,hY,dN⟩:=Tr7 eQ hE dg hk hb da hY dN
    refine zna O O (zmT O (by first | exact za | rfl)) (Gs 1 O (zn8 36 O (fun ed=>?_) (fun ed=>?_)))
    .
     refine Gs 1 O (zng O tg70 ts70 (hY.cells.sub 4 3) O (G.call O Tryz.call201 (zeJ s.term _ D' _ (RTm.put hk)) ?_))
     rintro _ wz8 ⟨rfl,eR⟩
     obtain⟨hE,dg,hk,hb,da,hY,dN⟩:=Tr7 eR hE dg hk hb da hY dN
     refine zna O O (zmT O (by first | exact za | rfl)) (Gs 3 O ?_)
     refine zlS (_) (Sub.of O) (⟨by first | (simp only[ed,zqc];done) | (exfalso;omega),dN⟩)
    refine Gs 7 O ?_
    refine zlS (_) (Sub.cons O (Sub.cons O (Sub.cons O (Sub.cons O (Sub.cons (by first | rfl | (show some (Value.bool false)=some (Value.bool _);simp[*])) Sub.nil))))) (⟨by first | (simp only[ed,zq1];done) | (exfalso;omega),dN⟩)
   rintro q x5 ⟨eS,eT⟩
   subst eS
   obtain⟨hE,dg,hk,hb,da,hY⟩:=Tr6 eT hE dg hk hb da hY
   refine Gs 1 O (G.bool O (fun df=>?_) (fun df=>?_))
   . refine Gs 11 O (zlV tr163 O ⟨_,rfl,by simp only[db,dc,de,df,zq6,zpX,zq1],hE⟩)
   .
    refine Gs 1 O ?_
    have ee:=Keep.refl (fun _=>False) x5
    refine zlQ (σ:=Bool) (fun q=>[(2,.bool last),(3,.pointer (some ⟨b,0,none⟩)),(4,.pointer (some ⟨c,0,none⟩)),(7,.int .i64 s.act),(10,.bool q)]) (fun q=>fun w'=>q=(decide (s.act ≠ 3)&&decide (s.act ≠ 4)&&decide (0<(s.thn.length:Int)))/\Ext x5 w') ?_ ?_
    .
     refine Gs 4 O (G.sp 44 O (fun dZ=>?_) (fun dZ=>?_))
     .
      refine Gs 4 O (G.sp 48 O (fun dG=>?_) (fun dG=>?_))
      .
       refine Gs 1 O (zne O tg24 (hY.cells 7 _ O) (Gs 5 O ?_))
       refine zlS (_) (Sub.of O) (⟨by first | (simp only[dZ,dG,decide_true,zpY,zqc,not_false_eq_true,ne_eq];done) | (exfalso;omega),ee⟩)
      refine Gs 7 O ?_
      refine zlS (_) (Sub.cons O (Sub.cons O (Sub.cons O (Sub.cons O (Sub.cons (by first | rfl | (show some (Value.bool false)=some (Value.bool _);simp[*])) Sub.nil))))) (⟨by first | (simp only[dZ,dG,decide_true,decide_false,zpX,zq1,not_false_eq_true,ne_eq];done) | (exfalso;omega),ee⟩)
     refine Gs 11 O ?_
     refine zlS (_) (Sub.cons O (Sub.cons O (Sub.cons O (Sub.cons O (Sub.cons (by first | rfl | (show some (Value.bool false)=some (Value.bool _);simp[*])) Sub.nil))))) (⟨by first | (simp only[dZ,decide_false,zq1,ne_eq,decide_not];done) | (exfalso;omega),ee⟩)
    rintro q x6 ⟨eU,eV⟩
    subst eU
    obtain⟨hE,dg,hk,hb,da,hY⟩:=Tr6 eV hE dg hk hb da hY
    refine Gs 1 O (G.bool O (fun dh=>?_) (fun dh=>?_))
    . refine Gs 11 O (zlV tr163 O ⟨_,rfl,by simp only[db,dc,de,df,dh,zq6,zpX,zq1],hE⟩)
    .
     refine Gs 1 O ?_
     have ez:=Keep.refl (fun _=>False) x6
     refine zlQ (σ:=Bool) (fun q=>[(2,.bool last),(3,.pointer (some ⟨b,0,none⟩)),(4,.pointer (some ⟨c,0,none⟩)),(7,.int .i64 s.act),(10,.bool q)]) (fun q=>fun w'=>q=(decide (s.act ≠ 3)&&decide (0<(s.els.length:Int)))/\Ext x6 w') ?_ ?_
     .
      refine Gs 4 O (G.sp 56 O (fun dH=>?_) (fun dH=>?_))
      .
       refine Gs 1 O (zne O tg24 (hY.cells 8 _ O) (Gs 5 O ?_))
       refine zlS (_) (Sub.of O) (⟨by first | (simp only[dH,decide_true,zqc,not_false_eq_true,ne_eq];done) | (exfalso;omega),ez⟩)
      refine Gs 7 O ?_
      refine zlS (_) (Sub.cons O (Sub.cons O (Sub.cons O (Sub.cons O (Sub.cons (by first | rfl | (show some (Value.bool false)=some (Value.bool _);simp[*])) Sub.nil))))) (⟨by first | (simp only[dH,decide_false,zq1];done) | (exfalso;omega),ez⟩)
     rintro q x7 ⟨eW,eX⟩
     subst eW
     obtain⟨hE,dg,hk,hb,da,hY⟩:=Tr6 eX hE dg hk hb da hY
     refine Gs 1 O (G.bool O (fun di=>?_) (fun di=>?_))
     . refine Gs 11 O (zlV tr163 O ⟨_,rfl,by simp only[db,dc,de,df,dh,di,zq6,zpX,zq1],hE⟩)
     .
      refine Gs 1 O ?_
      have eA:=Keep.refl (fun _=>False) x7
      refine zlQ (σ:=Bool) (fun q=>[(2,.bool last),(3,.pointer (some ⟨b,0,none⟩)),(4,.pointer (some ⟨c,0,none⟩)),(7,.int .i64 s.act),(10,.bool q)]) (fun q=>fun w'=>q=(decide (s.act ≠ 6)&&decide (0<(s.bounds.length:Int)))/\Ext x7 w') ?_ ?_
      .
       refine Gs 4 O (G.sp 64 O (fun dI=>?_) (fun dI=>?_))
       .
        refine Gs 1 O (zne O tg27 (hY.cells 9 _ O) (Gs 5 O ?_))
        refine zlS (_) (Sub.of O) (⟨by first | (simp only[dI,decide_true,zqc,not_false_eq_true,ne_eq];done) | (exfalso;omega),eA⟩)
       refine Gs 7 O ?_
       refine zlS (_) (Sub.cons O (Sub.cons O (Sub.cons O (Sub.cons O (Sub.cons (by first | rfl | (show some (Value.bool false)=some (Value.bool _);simp[*])) Sub.nil))))) (⟨by first | (simp only[dI,decide_false,zq1];done) | (exfalso;omega),eA⟩)
      rintro q x8 ⟨eY,eZ⟩
      subst eY
      obtain⟨hE,dg,hk,hb,da,hY⟩:=Tr6 eZ hE dg hk hb da hY
      refine Gs 1 O (G.bool O (fun dk=>?_) (fun dk=>?_))
      . refine Gs 11 O (zlV tr163 O ⟨_,rfl,by simp only[db,dc,de,df,dh,di,dk,zq6,zpX,zq1],hE⟩)
      .
       refine Gs 1 O ?_
       have dy:=Keep.refl (fun _=>False) x8
       refine zlQ (σ:=Bool) (fun q=>[(2,.bool last),(3,.pointer (some ⟨b,0,none⟩)),(4,.pointer (some ⟨c,0,none⟩)),(7,.int .i64 s.act),(10,.bool q)]) (fun q=>fun w'=>q=(uvB s.act&&!xh f.vars s.var)/\Ext x8 w') ?_ ?_
       .
        by_cases hv:0<=s.var/\s.var<f.vars.length
        .
         obtain⟨x,dO,e8⟩:=gE_ f.vars (s.var.toNat) (by omega)
         obtain⟨e9,fj,fk,ef,_,dB,dQ⟩:=dg.at dO
         have fa:=RVr.one dQ
         obtain rfl:=dQ
         have eC:e9<_:=zpm _ _ (dB 0 _ rfl)
         have dF:xh f.vars s.var=decide (x.kind=0):=by unfold xh zad;rw[dO,zpw hv.1,zpw hv.2];rfl
         refine Gs 2 O (G.call O Tryz.call198 (zaf s.act _) ?_)
         rintro _ wz13 ⟨rfl,dR⟩
         obtain⟨hE,dg,hk,hb,da,hY,dy⟩:=Tr7 dR hE dg hk hb da hY dy
         replace dB:=Tr1 dR dB
         refine Gs 1 O (zn8 72 O (fun dm=>?_) (fun dm=>?_))
         .
          refine Gs 1 O (zne O tg3 (hY.cells 2 _ O) (Gs 2 O (G.sp 76 O (fun dS=>?_) (fun dS=>?_))))
          .
           refine Gs 20 O ?_
           refine zlS (_) (Sub.cons O (Sub.cons O (Sub.cons O (Sub.cons O (Sub.cons (by first | rfl | (show some (Value.bool true)=some (Value.bool _);simp[*])) Sub.nil))))) (⟨by first | (simp only[dF,dm,zqc];done) | (simp only[dm,zqc];done) | (exfalso;omega),dy⟩)
          refine Gs 1 O (zne O tg3 (hY.cells 2 _ O) (Gs 1 O (zne O tg22 (da.cells 0 _ O) (Gs 4 O (G.sp 84 O (fun dT=>?_) (fun dT=>?_))))))
          .
           refine Gs 12 O ?_
           refine zlS (_) (Sub.cons O (Sub.cons O (Sub.cons O (Sub.cons O (Sub.cons (by first | rfl | (show some (Value.bool true)=some (Value.bool _);simp[*])) Sub.nil))))) (⟨by first | (simp only[dF,dm,zqc];done) | (simp only[dm,zqc];done) | (exfalso;omega),dy⟩)
          refine Gs 1 O (zne O tg22 (da.cells 0 _ O) (Gs 1 O (zne O tg3 (hY.cells 2 _ O) (zna O O (zmh tR22 ts142 O O ef (by omega)) (Gs 1 O (zne O tg100 (dB 1 _ O) (Gs 5 O ?_)))))))
          refine zlS (_) (Sub.of O) (⟨by first | (simp only[dF,dm,zqc,ne_eq,decide_not];done) | (simp only[db,dc,de,df,dh,di,dk,dm,dS,dT,decide_true,decide_false,zpY,zqc,zpX,zq1,zqa,zqd,zq9,zq3,zq6,zq5,not_true,not_false_eq_true,ne_eq,decide_not];done) | (exfalso;omega),dy⟩)
         refine Gs 24 O ?_
         refine zlS (_) (Sub.cons O (Sub.cons O (Sub.cons O (Sub.cons O (Sub.cons (by first | rfl | (show some (Value.bool false)=some (Value.bool _);simp[*])) Sub.nil))))) (⟨by first | (simp only[dF,dm,zq1];done) | (simp only[db,dc,de,df,dh,di,dk,dm,decide_true,decide_false,zpY,zqc,zpX,zq1,zqa,zqd,zq9,zq3,zq6,zq5,not_true,not_false_eq_true,ne_eq,decide_not];done) | (exfalso;omega),dy⟩)
        have dF:xh f.vars s.var=false:=by unfold xh;by_cases h0:0<=s.var<;>simp[h0]<;>omega
        refine Gs 2 O (G.call O Tryz.call198 (zaf s.act _) ?_)
        rintro _ wz17 ⟨rfl,eg⟩
        obtain⟨hE,dg,hk,hb,da,hY,dy⟩:=Tr7 eg hE dg hk hb da hY dy
        refine Gs 1 O (zn8 72 O (fun dr=>?_) (fun dr=>?_))
        .
         refine Gs 1 O (zne O tg3 (hY.cells 2 _ O) (Gs 2 O (G.sp 76 O (fun dJ=>?_) (fun dJ=>?_))))
         .
          refine Gs 20 O ?_
          refine zlS (_) (Sub.cons O (Sub.cons O (Sub.cons O (Sub.cons O (Sub.cons (by first | rfl | (show some (Value.bool true)=some (Value.bool _);simp[*])) Sub.nil))))) (⟨by first | (simp only[dF,dr,zpY,zq5];done) | (simp only[db,dc,de,df,dh,di,dk,dr,dJ,decide_true,decide_false,zpY,zqc,zpX,zq1,zqa,zqd,zq9,zq3,zq6,zq5,not_true,not_false_eq_true,ne_eq,decide_not];done) | (exfalso;omega),dy⟩)
         refine Gs 1 O (zne O tg3 (hY.cells 2 _ O) (Gs 1 O (zne O tg22 (da.cells 0 _ O) (Gs 4 O (G.sp 84 O (fun dU=>?_) (fun dU=>?_))))))
         .
          refine Gs 12 O ?_
          refine zlS (_) (Sub.cons O (Sub.cons O (Sub.cons O (Sub.cons O (Sub.cons (by first | rfl | (show some (Value.bool true)=some (Value.bool _);simp[*])) Sub.nil))))) (⟨by first | (simp only[dF,dr,zpY,zq5];done) | (simp only[db,dc,de,df,dh,di,dk,dr,dJ,dU,decide_true,decide_false,zpY,zqc,zpX,zq1,zqa,zqd,zq9,zq3,zq6,zq5,not_true,not_false_eq_true,ne_eq,decide_not];done) | (exfalso;omega),dy⟩)
         refine Gs 1 O (zne O tg22 (da.cells 0 _ O) (Gs 1 O (zne O tg3 (hY.cells 2 _ O) ?_)))
         exfalso
         omega
        refine Gs 24 O ?_
        refine zlS (_) (Sub.cons O (Sub.cons O (Sub.cons O (Sub.cons O (Sub.cons (by first | rfl | (show some (Value.bool false)=some (Value.bool _);simp[*])) Sub.nil))))) (⟨by first | (simp only[dF,dr,zpY,zq5];done) | (simp only[db,dc,de,df,dh,di,dk,dr,decide_true,decide_false,zpY,zqc,zpX,zq1,zqa,zqd,zq9,zq3,zq6,zq5,not_true,not_false_eq_true,ne_eq,decide_not];done) | (exfalso;omega),dy⟩)
       rintro q x9 ⟨fb,fc⟩
       subst fb
       obtain⟨hE,dg,hk,hb,da,hY⟩:=Tr6 fc hE dg hk hb da hY
       refine Gs 1 O (G.bool O (fun du=>?_) (fun du=>?_))
       . refine Gs 11 O (zlV tr163 O ⟨_,rfl,by simp only[db,dc,de,df,dh,di,dk,du,zq6,zpX,zq1],hE⟩)
       .
        have dK:=Keep.refl (fun _=>False) x9
        refine zlQ (σ:=Bool) (fun q=>[(2,.bool last),(3,.pointer (some ⟨b,0,none⟩)),(4,.pointer (some ⟨c,0,none⟩)),(7,.int .i64 s.act),(10,.bool q)]) (fun q=>fun w'=>q=(decide (s.act=5)&&(decide (s.n<0) || decide ((f.hatches.length:Int)<=s.n)))/\Ext x9 w') ?_ ?_
        .
         refine Gs 4 O (G.sp 97 O (fun dC=>?_) (fun dC=>?_))
         .
          refine Gs 1 O (zne O tg3 (hY.cells 3 _ O) (Gs 2 O (G.sp 101 O (fun dL=>?_) (fun dL=>?_))))
          .
           refine Gs 10 O ?_
           refine zlS (_) (Sub.cons O (Sub.cons O (Sub.cons O (Sub.cons O (Sub.cons (by first | rfl | (show some (Value.bool true)=some (Value.bool _);simp[*])) Sub.nil))))) (⟨by first | (simp only[dC,dL,decide_true,zpY,zqd];done) | (exfalso;omega),dK⟩)
          refine Gs 1 O (zne O tg3 (hY.cells 3 _ O) (Gs 1 O (zne O tg23 (da.cells 1 _ O) (Gs 6 O ?_))))
          refine zlS (_) (Sub.of O) (⟨by first | (simp only[dC,dL,decide_true,decide_false,zqc,zq3];done) | (exfalso;omega),dK⟩)
         refine Gs 14 O ?_
         refine zlS (_) (Sub.cons O (Sub.cons O (Sub.cons O (Sub.cons O (Sub.cons (by first | rfl | (show some (Value.bool false)=some (Value.bool _);simp[*])) Sub.nil))))) (⟨by first | (simp only[dC,decide_false,zq1];done) | (exfalso;omega),dK⟩)
        rintro q x10 ⟨eh,ei⟩
        subst eh
        obtain⟨hE,dg,hk,hb,da,hY⟩:=Tr6 ei hE dg hk hb da hY
        refine Gs 1 O (G.bool O (fun dz=>?_) (fun dz=>?_))
        . refine Gs 8 O (zlV tr163 O ⟨_,rfl,by simp only[db,dc,de,df,dh,di,dk,du,dz,zq6,zpX,zq1],hE⟩)
        .
         have dl:∀ q:Bool,q=(decide (s.act ≠ 6) || (last&&yp s.bounds))->∀ {w':World},Ext w w'->∃ v,Ending.returned (.bool q)=.returned v/\v=.bool (!(decide (s.act<0) || decide (6<s.act))&&!(!uvB s.act&&decide (s.var ≠ 0))&&!(!unB s.act&&decide (s.n ≠ 0))&&!(!utB s.act&&!plainB s.term)
 && !(decide (s.act ≠ 3)&&decide (s.act ≠ 4)&&decide (0<(s.thn.length:Int)))&&!(decide (s.act ≠ 3)&&decide (0<(s.els.length:Int)))&&!(decide (s.act ≠ 6)&&decide (0<(s.bounds.length:Int)))
 && !(uvB s.act&&!xh f.vars s.var)&&!(decide (s.act=5)&&(decide (s.n<0) || decide ((f.hatches.length:Int)<=s.n)))
 && (decide (s.act ≠ 6) || (last&&yp s.bounds)))/\Ext w w':=by
          intro q hq w' hw
          refine⟨_,rfl,?_,hw⟩
          rw[hq]
          simp only[db,dc,de,df,dh,di,dk,du,dz,zq5,zqc,zpY]
         by_cases eD:0<s.bounds.length
         .
          obtain⟨x0,eE⟩:∃ x,s.bounds[0]?=some x:=⟨_,zpk eD⟩
          obtain⟨ej,fe,fg,dV,_,dw,dW⟩:=hb.at (eE)
          obtain rfl:=dW
          have ek:ej<_:=zpm _ _ (dw 0 _ rfl)
          have hg:yp s.bounds=(decide ((s.bounds.length:Int)<=32)&&decide (0<=x0)&&xg s.bounds):=by
           unfold yp
           rw[eE,zpw (show 1<=s.bounds.length from eD)]
           congr 2
           simp;omega
          refine Gs 8 O (G.sp 112 O (fun dt=>?_) (fun dt=>?_))
          . refine Gs 30 O (zlV tr163 O (dl _ (by first | (simp only[hg,dt,decide_true,zqd,not_false_eq_true,ne_eq];done) | (exfalso;omega)) hE))
          refine Gs 2 O (zn8 114 O (fun dx=>?_) (fun dx=>?_))
          .
           refine Gs 1 O (zne O tg27 (hY.cells 9 _ O) (Gs 4 O (G.sp 120 O (fun em=>?_) (fun em=>?_))))
           .
            refine Gs 1 O (zne O tg27 (hY.cells 9 _ O) (Gs 4 O (G.sp 126 O (fun dD=>?_) (fun dD=>?_))))
            .
             refine Gs 1 O (zne O tg27 (hY.cells 9 _ O) (zna O O (zmh tR27 ts3 O O dV (by omega)) (zne O tg3 (dw 0 _ O) (Gs 3 O (G.sp 133 O (fun dM=>?_) (fun dM=>?_))))))
             .
              refine Gs 1 O (zne O tg27 (hY.cells 9 _ O) (G.call O Tryz.call202 (zcR s.bounds _ D' _ hb) ?_))
              rintro _ wz28 ⟨rfl,en⟩
              obtain⟨hE,dg,hk,hb,da,hY,dw⟩:=Tr7 en hE dg hk hb da hY dw
              refine Gs 6 O (zlV tr163 O (dl _ (by first | (simp only[hg,dt,dx,dD,dM,decide_true,decide_false,zpY,zqc,zq3];done) | (exfalso;omega)) hE))
             refine Gs 9 O (zlV tr163 O (dl _ (by first | (simp only[hg,dt,dx,dD,dM,decide_true,decide_false,zpX,zq1,zq9];done) | (exfalso;omega)) hE))
            refine Gs 16 O (zlV tr163 O (dl _ (by first | (simp only[hg,dt,dx,dD,decide_false,zpX,zq1,zq9];done) | (exfalso;omega)) hE))
           refine Gs 22 O (zlV tr163 O (dl _ (by first | (simp only[hg,dt,dx,decide_false,zqc,zq3];done) | (exfalso;omega)) hE))
          refine Gs 28 O (zlV tr163 O (dl _ (by first | (simp only[hg,dt,dx,decide_false,zq1,zq9];done) | (exfalso;omega)) hE))
         have hg:yp s.bounds=false:=by unfold yp;rw[zpx (show ¬ 1<=s.bounds.length by omega)];rfl
         refine Gs 8 O (G.sp 112 O (fun dA=>?_) (fun dA=>?_))
         . refine Gs 30 O (zlV tr163 O (dl _ (by first | (simp only[hg,dA,decide_true,zpX,zq9,not_false_eq_true,ne_eq];done) | (exfalso;omega)) hE))
         refine Gs 2 O (zn8 114 O (fun dE=>?_) (fun dE=>?_))
         .
          refine Gs 1 O (zne O tg27 (hY.cells 9 _ O) (Gs 4 O (G.sp 120 O (fun eo=>?_) (fun eo=>?_))))
          .
           refine Gs 1 O (zne O tg27 (hY.cells 9 _ O) (Gs 4 O (G.sp 126 O (fun ep=>?_) (fun ep=>?_))))
           .
            refine Gs 1 O (zne O tg27 (hY.cells 9 _ O) ?_)
            exfalso
            omega
           refine Gs 16 O (zlV tr163 O (dl _ (by first | (simp only[hg,dA,dE,decide_false,zpX,zq9];done) | (exfalso;omega)) hE))
          refine Gs 22 O (zlV tr163 O (dl _ (by first | (simp only[hg,dA,dE,decide_false,zpX,zq9];done) | (exfalso;omega)) hE))
         refine Gs 28 O (zlV tr163 O (dl _ (by first | (simp only[hg,dA,dE,decide_false,zpX,zq9];done) | (exfalso;omega)) hE))
def qd (a:Int):Int:=if a=2 then 67108864 else 10000
def zO (s:St):Bool:=!(decide (s.cost<0) || decide (qd s.act<s.cost) || (decide (s.act=4)&&(decide (s.n<0) || decide (4096<s.n))))&&(decide (s.act ≠ 6) || decide (s.bounds[s.bounds.length - 1]?.getD 0<=67108864))
theorem zeL (s:St) (cs:List Value) (D:Nat->Prop) (w:World) (hs:RSt D w s cs) (hb:s.act=6->0<s.bounds.length):Calls Tryz.prog 164 #[.agg cs.toArray] w (Ret fun r w'=>r=.bool (zO s)/\Ext w w'):=by
 obtain⟨v1,v2,v3,v4,rfl,hk,ht,he,dc⟩:=hs.get
 have dJ:=dc.max
 obtain⟨av4,nv4,rfl⟩:=dc.form
 have dK:=dc.len_cap.2
 have hE:=Keep.refl (fun _=>False) w
 refine znk Tryz.func164 O Tryz.ntmps164 O (Gs 2 O (zmr O O (M.box O O) ?_))
 rintro _ dr ⟨b,rfl,dt,dz,hY,du⟩
 have dy:_<=b:=zpq hE.size (zrS dt.symm)
 obtain⟨hE,dc⟩:=Tr2 du hE dc
 refine Gs 12 O (zne O tg66 (hY.cells 0 _ O) (Gs 3 O (zlF O (fun a2=>?_) (fun a2=>?_))))
 .
  have dw:qd s.act=67108864:=by rw[qd,zpv a2]
  have NB:zO s=(!((decide (s.cost<0) || decide (67108864<s.cost) || (decide (s.act=4)&&(decide (s.n<0) || decide (4096<s.n)))))&&(decide (s.act ≠ 6) || decide (s.bounds[s.bounds.length - 1]?.getD 0<=67108864))):=by rw[zO,dw]
  refine Gs 6 O ?_
  have hC:=Keep.refl (fun _=>False) dr
  refine zlQ (σ:=Bool) (fun q=>[(1,.pointer (some ⟨b,0,none⟩)),(30,.bool q)]) (fun q=>fun w'=>q=(decide (s.cost<0) || decide (67108864<s.cost) || (decide (s.act=4)&&(decide (s.n<0) || decide (4096<s.n))))/\Ext dr w') ?_ ?_
  .
   refine Gs 2 O (zne O tg3 (hY.cells 1 _ O) (Gs 2 O (G.sp 10 O (fun da=>?_) (fun da=>?_))))
   .
    refine Gs 21 O ?_
    refine zlS (_) (Sub.cons O (Sub.cons (by first | rfl | (show some (Value.bool true)=some (Value.bool _);simp[*])) Sub.nil)) (⟨by first | (simp only[a2,da,decide_true,zqd];done) | (simp[a2,da];done) | (exfalso;omega),hC⟩)
   refine Gs 1 O (zne O tg3 (hY.cells 1 _ O) (Gs 4 O (G.sp 16 O (fun db=>?_) (fun db=>?_))))
   .
    refine Gs 15 O ?_
    refine zlS (_) (Sub.cons O (Sub.cons (by first | rfl | (show some (Value.bool true)=some (Value.bool _);simp[*])) Sub.nil)) (⟨by first | (simp only[a2,da,db,decide_true,decide_false,zqa,zqd];done) | (simp[a2,da,db];done) | (exfalso;omega),hC⟩)
   refine Gs 1 O (zne O tg66 (hY.cells 0 _ O) (Gs 2 O (G.sp 20 O (fun dA=>?_) (fun dA=>?_))))
   .
    refine Gs 1 O (zne O tg3 (hY.cells 3 _ O) (Gs 2 O (G.sp 24 O (fun dl=>?_) (fun dl=>?_))))
    .
     refine Gs 7 O ?_
     refine zlS (_) (Sub.cons O (Sub.cons (by first | rfl | (show some (Value.bool true)=some (Value.bool _);simp[*])) Sub.nil)) (⟨by first | (simp only[a2,da,db,dl,decide_true,decide_false,zpY,zqd,zq9,zq3];done) | (simp[a2,da,db,dl];done) | (exfalso;omega),hC⟩)
    refine Gs 1 O (zne O tg3 (hY.cells 3 _ O) (Gs 5 O ?_))
    refine zlS (_) (Sub.of O) (⟨by first | (simp only[a2,da,db,dl,decide_false,zq9,zq3];done) | (simp[a2,da,db,dl];done) | (exfalso;omega),hC⟩)
   refine Gs 11 O ?_
   refine zlS (_) (Sub.cons O (Sub.cons (by first | rfl | (show some (Value.bool false)=some (Value.bool _);simp[*])) Sub.nil)) (⟨by first | (simp only[a2,da,db,decide_false,zq9,zq3];done) | (simp[a2,da,db];done) | (exfalso;omega),hC⟩)
  rintro q x1 ⟨dB,dC⟩
  subst dB
  obtain⟨hE,dc,hY⟩:=Tr3 dC hE dc hY
  refine Gs 1 O (G.bool O (fun da=>?_) (fun da=>?_))
  . refine Gs 7 O (zlV tr164 O ⟨_,rfl,by rw[NB,da];rfl,hE⟩)
  refine Gs 5 O (zne O tg66 (hY.cells 0 _ O) (Gs 2 O (G.sp 34 O (fun a6=>?_) (fun a6=>?_))))
  . refine Gs 14 O (zlV tr164 O ⟨_,rfl,by rw[NB,da];simp[a6],hE⟩)
  have h6:s.act=6:=by omega
  have dD:=hb h6
  obtain⟨x,hx⟩:∃ x,s.bounds[s.bounds.length - 1]?=some x:=⟨_,zpk (by omega)⟩
  obtain⟨dE,dF,dG,dg,_,dh,di⟩:=dc.at hx
  obtain rfl:=di
  have dx:((s.bounds.length:Int) - 1).toNat=s.bounds.length - 1:=by omega
  refine Gs 1 O (zne O tg27 (hY.cells 9 _ O) (Gs 1 O (zne O tg27 (hY.cells 9 _ O) (Ga 2 O (by omega) (zna O O (zmh tR27 ts3 O O dg (by omega)) (zne O tg3 (by rw[dx];exact dh 0 _ O) (Gs 6 O (zlV tr164 O ⟨_,rfl,by rw[NB,da,hx];simp[h6],hE⟩))))))))
 have dw:qd s.act=10000:=by rw[qd,zpu a2]
 have NB:zO s=(!((decide (s.cost<0) || decide (10000<s.cost) || (decide (s.act=4)&&(decide (s.n<0) || decide (4096<s.n)))))&&(decide (s.act ≠ 6) || decide (s.bounds[s.bounds.length - 1]?.getD 0<=67108864))):=by rw[zO,dw]
 refine Gs 4 O ?_
 have hC:=Keep.refl (fun _=>False) dr
 refine zlQ (σ:=Bool) (fun q=>[(1,.pointer (some ⟨b,0,none⟩)),(30,.bool q)]) (fun q=>fun w'=>q=(decide (s.cost<0) || decide (10000<s.cost) || (decide (s.act=4)&&(decide (s.n<0) || decide (4096<s.n))))/\Ext dr w') ?_ ?_
 .
  refine Gs 2 O (zne O tg3 (hY.cells 1 _ O) (Gs 2 O (G.sp 10 O (fun de=>?_) (fun de=>?_))))
  .
   refine Gs 21 O ?_
   refine zlS (_) (Sub.cons O (Sub.cons (by first | rfl | (show some (Value.bool true)=some (Value.bool _);simp[*])) Sub.nil)) (⟨by first | (simp only[de,decide_true,zqd];done) | (simp[a2,de];done) | (exfalso;omega),hC⟩)
  refine Gs 1 O (zne O tg3 (hY.cells 1 _ O) (Gs 4 O (G.sp 16 O (fun df=>?_) (fun df=>?_))))
  .
   refine Gs 15 O ?_
   refine zlS (_) (Sub.cons O (Sub.cons (by first | rfl | (show some (Value.bool true)=some (Value.bool _);simp[*])) Sub.nil)) (⟨by first | (simp only[de,df,decide_true,decide_false,zqa,zqd];done) | (simp[a2,de,df];done) | (exfalso;omega),hC⟩)
  refine Gs 1 O (zne O tg66 (hY.cells 0 _ O) (Gs 2 O (G.sp 20 O (fun dk=>?_) (fun dk=>?_))))
  .
   refine Gs 1 O (zne O tg3 (hY.cells 3 _ O) (Gs 2 O (G.sp 24 O (fun dm=>?_) (fun dm=>?_))))
   .
    refine Gs 7 O ?_
    refine zlS (_) (Sub.cons O (Sub.cons (by first | rfl | (show some (Value.bool true)=some (Value.bool _);simp[*])) Sub.nil)) (⟨by first | (simp only[de,df,dk,dm,decide_true,decide_false,zpY,zqa,zqd,zq9];done) | (simp[a2,de,df,dk,dm];done) | (exfalso;omega),hC⟩)
   refine Gs 1 O (zne O tg3 (hY.cells 3 _ O) (Gs 5 O ?_))
   refine zlS (_) (Sub.of O) (⟨by first | (simp only[de,df,dk,dm,decide_true,decide_false,zqc,zq9,zq3];done) | (simp[a2,de,df,dk,dm];done) | (exfalso;omega),hC⟩)
  refine Gs 11 O ?_
  refine zlS (_) (Sub.cons O (Sub.cons (by first | rfl | (show some (Value.bool false)=some (Value.bool _);simp[*])) Sub.nil)) (⟨by first | (simp only[de,df,dk,decide_false,zq1,zq9];done) | (simp[a2,de,df,dk];done) | (exfalso;omega),hC⟩)
 rintro q x2 ⟨dH,dI⟩
 subst dH
 obtain⟨hE,dc,hY⟩:=Tr3 dI hE dc hY
 refine Gs 1 O (G.bool O (fun db=>?_) (fun db=>?_))
 . refine Gs 7 O (zlV tr164 O ⟨_,rfl,by rw[NB,db];rfl,hE⟩)
 refine Gs 5 O (zne O tg66 (hY.cells 0 _ O) (Gs 2 O (G.sp 34 O (fun a6=>?_) (fun a6=>?_))))
 . refine Gs 14 O (zlV tr164 O ⟨_,rfl,by rw[NB,db];simp[a6],hE⟩)
 have h6:s.act=6:=by omega
 have dD:=hb h6
 obtain⟨x,hx⟩:∃ x,s.bounds[s.bounds.length - 1]?=some x:=⟨_,zpk (by omega)⟩
 obtain⟨dE,dF,dG,dg,_,dh,di⟩:=dc.at hx
 obtain rfl:=di
 have dx:((s.bounds.length:Int) - 1).toNat=s.bounds.length - 1:=by omega
 refine Gs 1 O (zne O tg27 (hY.cells 9 _ O) (Gs 1 O (zne O tg27 (hY.cells 9 _ O) (Ga 2 O (by omega) (zna O O (zmh tR27 ts3 O O dg (by omega)) (zne O tg3 (by rw[dx];exact dh 0 _ O) (Gs 6 O (zlV tr164 O ⟨_,rfl,by rw[NB,db,hx];simp[h6],hE⟩))))))))
theorem zgT (vs:List Ht) (vv:Value) (D:Nat->Prop) (w:World) (da:SlR 6 RHt D w vv vs) (p:Ht->Bool) (g:FuncId) (cp:Value) (hf:∀ args w,(callFunc g args).run Tryz.prog w=.ok (.enter g args) w)
  (hc:∀ x ∈ vs,∀ kv w',Ext w w'->Calls Tryz.prog g #[.agg #[.string x.name,.int .i64 x.low,.int .i64 x.high,.int .i64 x.term.op,.int .i64 x.term.n,kv],cp] w' (Ret fun r w''=>r=.bool (p x)/\Ext w' w'')) :
  Calls Tryz.prog 197 #[vv,.func (.func g) #[] #[cp]] w (Ret fun r w'=>(∃ i:Int,r=.int .i64 i/\(0<=i ↔ vs.any p=true))/\Ext w w'):=by
 have dy:=da.max
 obtain⟨av,nv,rfl⟩:=da.form
 refine znl Tryz.func197 O Tryz.ntmps197 O (Gs 14 O (G.loop (σ:=Nat) (fun i=>[(0,.slice av vs.length nv),(1,.func (.func g) #[] #[cp]),(7,.int .i64 vs.length),(8,.int .i64 i)]) (fun i=>fun w'=>i<=vs.length/\(vs.take i).any p=false/\Ext w w') (fun i=>vs.length - i) (0) (Sub.of O) (⟨zpz _,rfl,Keep.refl _ _⟩) ?_))
 rintro i w1 ⟨hi,dh,db⟩
 replace da:=Tr1 db da
 refine Gs 6 O (zlF O (fun dl=>?_) (fun dl=>?_))
 .
  obtain⟨x,de,df⟩:=gE_ vs (i) (by omega)
  obtain⟨dm,dz,dA,di,_,hY,dg⟩:=da.at de
  have dr:=RHt.one dg
  obtain⟨dt,rfl,dc⟩:=dg
  obtain⟨du,dw,rfl⟩:=dc.form
  have dk:dm<_:=zpm _ _ (hY 0 _ rfl)
  refine Gs 15 O (zna O O (zmh tR23 ts109 O O di (by omega)) (zng O tg109 ts109 hY O (zmo O hf (hc x df _ _ db) ?_)))
  rintro _ wz1 ⟨rfl,dx⟩
  obtain⟨da,db,hY,dc⟩:=Tr4 dx da db hY dc
  refine Gs 2 O (G.bool O (fun hp=>?_) (fun hp=>?_))
  . refine Gs 12 O (zlV Tryz.results197 O ⟨_,rfl,⟨_,rfl,by rw[zjG df hp];simp⟩,db⟩)
  refine Ga 7 O (by omega) (G.back (i+1) (Sub.of O) (⟨by omega,zaz de dh hp,db⟩) (by first | omega | (dsimp only;omega)))
 have:i=vs.length:=by omega
 subst this
 rw[zpp]at dh
 refine Gs 11 O (zlV Tryz.results197 O ⟨_,rfl,⟨_,rfl,by rw[dh];simp⟩,db⟩)
theorem zdJ (vs:List Ht) (vv:Value) (D:Nat->Prop) (w:World) (hY:SlR 6 RHt D w vv vs) (p:Ht->Bool) (g:FuncId) (cp:Value) (hf:∀ args w,(callFunc g args).run Tryz.prog w=.ok (.enter g args) w)
  (hc:∀ x ∈ vs,∀ kv w',Ext w w'->Calls Tryz.prog g #[.agg #[.string x.name,.int .i64 x.low,.int .i64 x.high,.int .i64 x.term.op,.int .i64 x.term.n,kv],cp] w' (Ret fun r w''=>r=.bool (p x)/\Ext w' w'')) :
  Calls Tryz.prog 161 #[vv,.func (.func g) #[] #[cp]] w (Ret fun r w'=>r=.bool (vs.any p)/\Ext w w'):=by
 have hE:=Keep.refl (fun _=>False) w
 refine znl Tryz.func161 O Tryz.ntmps161 O (Gs 9 O (G.call O Tryz.call197 (zgT vs vv D w hY p g cp hf hc) ?_))
 rintro _ wz1 ⟨⟨i,rfl,hi⟩,da⟩
 replace hE:=Tr1 da hE
 refine Gs 5 O (zlV Tryz.results161 O ⟨_,rfl,by cases h:vs.any p<;>simp[h]at hi ⊢<;>omega,hE⟩)
theorem ziw (h x:Ht) (kv kx:Value) (c:Nat) (w:World) (hB:Blk w c [.string x.name,.int .i64 x.low,.int .i64 x.high,.int .i64 x.term.op,.int .i64 x.term.n,kx] 109):Calls Tryz.prog 160 #[.agg #[.string h.name,.int .i64 h.low,.int .i64 h.high,.int .i64 h.term.op,.int .i64 h.term.n,kv],.pointer (some ⟨c,0,none⟩)] w (Ret fun r w'=>r=.bool (zQ h.name x.name)/\Ext w w'):=by
 have hE:=Keep.refl (fun _=>False) w
 refine znl Tryz.func160 O Tryz.ntmps160 O (Gs 2 O (zmr O O (M.box O O) ?_))
 rintro _ df ⟨b,rfl,hY,de,da,db⟩
 have dc:_<=b:=zpq hE.size (zrS hY.symm)
 obtain⟨hE,hB⟩:=Tr2 db hE hB
 refine Gs 6 O (zne O tg9 (da.cells 0 _ O) (Gs 1 O (zne O tg9 (hB.cells 0 _ O) (Gs 5 O (zlV Tryz.results160 O ⟨_,rfl,rfl,hE⟩)))))
def zJ (vs:List Vr) (prev:List Ht) (h:Ht):Int :=
 if zbr h.name=false then 7
 else if prev.any (fun u=>zQ u.name h.name)=true then 8
 else if zaO h.low h.high=false then 3
 else zD vs true h.term
def qQ (vs:List Vr) (hs:List Ht) (i:Nat):Int:=match hs[i]? with
 | some h=>zJ vs (hs.take i) h
 | none=>0
theorem zag {vs:List Vr} {hs:List Ht} {i:Nat} {h:Ht} (e:hs[i]?=some h):qQ vs hs i=zJ vs (hs.take i) h:=by simp[qQ,e]
def zy (vs:List Vr) (hs:List Ht):Int:=yJ (qQ vs hs) 0 hs.length
theorem zc5 (f:Fl) (v1 v2 v3:Value) (D:Nat->Prop) (w:World) (hf:RFl D w f v1 v2 v3) (hg:∀ v ∈ f.vars,yr (v.low,v.high)) (dL:∀ h ∈ f.hatches,h.term.nodes<=1000000) (dM:f.hatches.length<=1000000):Calls Tryz.prog 122 #[.agg #[v1,v2,v3]] w (Ret fun r w'=>r=.int .i64 (zy f.vars f.hatches)/\Ext w w'):=by
 have df:=hf.vars
 have de:=hf.hatches
 obtain⟨av,nv,rfl⟩:=de.form
 have dZ:=de.len_cap.2
 have hE:=Keep.refl (fun _=>False) w
 refine znk Tryz.func122 O Tryz.ntmps122 O (Gs 2 O (zmr O O (M.box O O) ?_))
 rintro _ dN ⟨b,rfl,du,dO,hY,dw⟩
 have dD:_<=b:=zpq hE.size (zrS du.symm)
 obtain⟨df,de,hE⟩:=Tr3 dw df de hE
 refine Gs 7 O (zne O tg23 (hY.cells 1 _ O) (Gs 5 O (G.loop (σ:=Nat) (fun i=>[(1,.pointer (some ⟨b,0,none⟩)),(8,.slice av f.hatches.length nv),(9,.int .i64 f.hatches.length),(10,.int .i64 i)]) (fun i=>fun w'=>i<=f.hatches.length/\(∀ j,j<i->qQ f.vars f.hatches j=0)/\Ext dN w') (fun i=>f.hatches.length - i) (0) (Sub.of O) (⟨zpz _,fun j h=>absurd h (zrZ _),Keep.refl _ _⟩) ?_)))
 rintro i w1 ⟨hi,di,dg⟩
 obtain⟨df,de,hE,hY⟩:=Tr4 dg df de hE hY
 refine Gs 6 O (zlF O (fun dQ=>?_) (fun dQ=>?_))
 .
  obtain⟨x,dl,dx⟩:=gE_ f.hatches (i) (by omega)
  obtain⟨dR,d5,d6,dy,_,db,dm⟩:=de.at dl
  have dz:=RHt.one dm
  obtain⟨dS,rfl,dc⟩:=dm
  obtain⟨dT,dU,rfl⟩:=dc.form
  have dE:dR<_:=zpm _ _ (db 0 _ rfl)
  have dA:=zag (vs:=f.vars) dl
  have dh:∀ c:Int,zJ f.vars (f.hatches.take i) x=c->c ≠ 0->zy f.vars f.hatches=c:=by
   intro c h1 h2
   have h3:qQ f.vars f.hatches i ≠ 0:=by rw[dA,h1];exact h2
   rw[zy,qP di (by omega) h3,dA,h1]
  have dr:zJ f.vars (f.hatches.take i) x=0->∀ j,j<i+1->qQ f.vars f.hatches j=0:=by
   intro h j hj
   by_cases e:j=i
   . subst e;rw[dA,h]
   exact di j (by omega)
  refine Gs 7 O (zna O O (zmh tR23 ts109 O O dy (by omega)) (zng O tg109 ts109 db O (zmr O O (M.alloc (cs:=_) tz109 O) ?_)))
  rintro _ wa1 ⟨c,rfl,dB,dV,da,dk⟩
  refine Gs 1 O (zmw O (zmx ts109 O O O O dz da (by simp)) ?_)
  rintro d7 ⟨_,da,dt⟩
  replace dk:=dk.trans dt (fun q hq h=>by have h:q=c:=h;omega)
  have dC:b ≠ c:=by have:=hY.lt;omega
  have dF:_<=c:=zpq hE.size (zrS dB.symm)
  obtain⟨df,de,hE,hY,dg,db,dc⟩:=Tr7 dk df de hE hY dg db dc
  refine Gs 13 O (zne O tg9 (da.cells 0 _ O) (G.call O Tryz.call157 (kI x.name _) ?_))
  rintro _ wz2 ⟨rfl,dG⟩
  obtain⟨df,de,hE,hY,dg,db,dc⟩:=Tr7 dG df de hE hY dg db dc
  replace da:=Tr1 dG da
  refine zna O O (zmT O (by first | exact za | rfl)) (Gs 3 O (G.bool O (fun n0=>?_) (fun n0=>?_)))
  .
   have n0':zbr x.name=false:=by simpa using n0
   refine Gs 13 O (zlV tr122 O ⟨_,rfl,by rw[dh 7 (by rw[zJ,zpv n0']) (by decide)],hE⟩)
  have n0':¬ zbr x.name=false:=by simpa using n0
  refine Gs 3 O (zne O tg23 (hY.cells 1 _ O) (Gs 1 O (zna O O (zmO tR23 ts109 O O (by omega)) (Gs 1 O ?_))))
  have dW:=de.take i (by omega)
  refine G.call O Tryz.call161 (zdJ (f.hatches.take i) _ D _ dW (fun u=>zQ u.name x.name) 160 (.pointer (some ⟨c,0,none⟩)) Tryz.call160 (fun y _ kv w' dX=>ziw y x kv _ c w' (dX.blk da (fun h=>h)))) ?_
  rintro _ wz3 ⟨rfl,dH⟩
  obtain⟨df,de,hE,hY,dg,db,dc⟩:=Tr7 dH df de hE hY dg db dc
  replace da:=Tr1 dH da
  refine Gs 3 O (G.bool O (fun d0=>?_) (fun d0=>?_))
  . refine Gs 13 O (zlV tr122 O ⟨_,rfl,by rw[dh 8 (by rw[zJ,zpu n0',zpv d0]) (by decide)],hE⟩)
  have n1:¬ (f.hatches.take i).any (fun u=>zQ u.name x.name)=true:=by rw[d0];decide
  refine Gs 3 O (zne O tg3 (da.cells 1 _ O) (Gs 1 O (zne O tg3 (da.cells 2 _ O) (G.call O Tryz.call88 (qw x.low x.high _) ?_))))
  rintro _ wz4 ⟨rfl,dI⟩
  obtain⟨df,de,hE,hY,dg,db,dc⟩:=Tr7 dI df de hE hY dg db dc
  replace da:=Tr1 dI da
  refine zna O O (zmT O (by first | exact za | rfl)) (Gs 3 O (G.bool O (fun n3=>?_) (fun n3=>?_)))
  .
   have n3':zaO x.low x.high=false:=by simpa using n3
   refine Gs 13 O (zlV tr122 O ⟨_,rfl,by rw[dh 3 (by rw[zJ,zpu n0',zpu n1,zpv n3']) (by decide)],hE⟩)
  have n3':¬ zaO x.low x.high=false:=by simpa using n3
  have dJ:zJ f.vars (f.hatches.take i) x=zD f.vars true x.term:=by rw[zJ,zpu n0',zpu n1,zpu n3']
  refine Gs 6 O (zne O tg22 (hY.cells 0 _ O) (Gs 1 O (zng O tg70 ts70 (da.cells.sub 3 3) O (G.call O Tryz.call162 (zbv f.vars true v1 _ D D _ x.term hg df (RTm.put dc) (dL x dx)) ?_))))
  rintro _ wz5 ⟨rfl,dK⟩
  obtain⟨df,de,hE,hY,dg,db,dc⟩:=Tr7 dK df de hE hY dg db dc
  replace da:=Tr1 dK da
  refine Gs 9 O (zlF O (fun tz=>?_) (fun tz=>?_))
  . refine Gs 12 O (zlV tr122 O ⟨_,rfl,by rw[dh _ dJ tz],hE⟩)
  refine Ga 7 O (by omega) (G.back (i+1) (Sub.of O) (⟨by omega,dr (by rw[dJ];omega),dg⟩) (by first | omega | (dsimp only;omega)))
 have dY:i=f.hatches.length:=by omega
 subst dY
 refine Gs 11 O (zlV tr122 O ⟨_,rfl,by rw[zy,xS di],hE⟩)
mutual
def zB (vs:List Vr) (nh:Nat):St->Bool->Int
 | .mk a c v n t f g bs,last =>
  if zg vs nh (.mk a c v n t f g bs) last=false then 1
  else if zO (.mk a c v n t f g bs)=false then 3
  else if zD vs false t ≠ 0 then zD vs false t
  else if stepsCodeN vs nh f false ≠ 0 then stepsCodeN vs nh f false
  else stepsCodeN vs nh g false
def stepsCodeN (vs:List Vr) (nh:Nat):List St->Bool->Int
 | [],_=>0
 | s::r,top=>if zB vs nh s (top&&r.isEmpty) ≠ 0 then zB vs nh s (top&&r.isEmpty) else stepsCodeN vs nh r top
end
theorem zz (vs:List Vr) (nh:Nat) (s:St) (last:Bool):zB vs nh s last =
  if zg vs nh s last=false then 1 else if zO s=false then 3 else if zD vs false s.term ≠ 0 then zD vs false s.term
  else if stepsCodeN vs nh s.thn false ≠ 0 then stepsCodeN vs nh s.thn false else stepsCodeN vs nh s.els false:=by
 cases s;rw[zB];rfl
theorem jN (vs:List Vr) (nh:Nat) (top:Bool) (l:List St) (i:Nat) (x:St) (h:l[i]?=some x) :
  stepsCodeN vs nh (l.drop i) top=if zB vs nh x (top&&decide (i=l.length - 1)) ≠ 0 then zB vs nh x (top&&decide (i=l.length - 1)) else stepsCodeN vs nh (l.drop (i+1)) top:=by
 obtain⟨hi,hx⟩:=zpy.1 h
 rw[zqE hi,hx,stepsCodeN]
 have:(l.drop (i+1)).isEmpty=decide (i=l.length - 1):=by
  rw[zq0];simp;omega
 rw[this]
theorem kP {vs:List Vr} {nh:Nat} {s:St} {last:Bool} (h:zg vs nh s last=true):s.act=6->0<s.bounds.length:=by
 intro h6
 rw[zbx]at h
 simp[h6,yp]at h
 omega
theorem zdK (f:Fl) (v1 v2 v3:Value) (hg:∀ v ∈ f.vars,yr (v.low,v.high)) (Df:Nat->Prop) (l:List St):∀ (v:Value) (D:Nat->Prop) (w:World) (top:Bool),RFl Df w f v1 v2 v3->SlR 10 RSt D w v l->sbulk l<=1000000->Calls Tryz.prog 123 #[.agg #[v1,v2,v3],v,.bool top] w (Ret fun r w'=>r=.int .i64 (stepsCodeN f.vars f.hatches.length l top)/\Ext w w'):=by
 induction l using znx with
 | h l ih =>
 intro v D w top hf hl hb
 obtain⟨dh,di,dk⟩:=hf
 have eD:=hl.max
 obtain⟨av,nv,rfl⟩:=hl.form
 have hE:=Keep.refl (fun _=>False) w
 refine znm Tryz.func123 O Tryz.ntmps123 O (Gs 2 O (zmr O O (M.box O O) ?_))
 rintro _ ef ⟨b,rfl,dI,eg,hY,dJ⟩
 have dX:_<=b:=zpq hE.size (zrS dI.symm)
 obtain⟨hE,dh,di,dk,hl⟩:=Tr5 dJ hE dh di dk hl
 refine Gs 12 O (G.loop (σ:=Nat) (fun i=>[(1,.slice av l.length nv),(2,.bool top),(3,.pointer (some ⟨b,0,none⟩)),(13,.slice av l.length nv),(14,.int .i64 l.length),(15,.int .i64 i)]) (fun i=>fun w'=>i<=l.length/\stepsCodeN f.vars f.hatches.length l top=stepsCodeN f.vars f.hatches.length (l.drop i) top/\Ext ef w') (fun i=>l.length - i) (0) (Sub.of O) (⟨zpz _,rfl,Keep.refl _ _⟩) ?_)
 rintro i w1 ⟨hi,dr,dm⟩
 obtain⟨hE,dh,di,dk,hl,hY⟩:=Tr6 dm hE dh di dk hl hY
 refine Gs 6 O (zlF O (fun eh=>?_) (fun eh=>?_))
 .
  obtain⟨x,dE,dA⟩:=gE_ l (i) (by omega)
  obtain⟨ei,eE,eF,dK,_,dg,dF⟩:=hl.at dE
  have dL:=RSt.one dF
  obtain⟨ej,ek,em,en,rfl,da,db,dc,df⟩:=dF.get
  obtain⟨eo,ep,rfl⟩:=da.form
  obtain⟨dM,dN,rfl⟩:=db.form
  obtain⟨dO,dQ,rfl⟩:=dc.form
  obtain⟨er,eu,rfl⟩:=df.form
  have dY:ei<_:=zpm _ _ (dg 0 _ rfl)
  have dD:=jN f.vars f.hatches.length top l i x dE
  refine Gs 7 O (zna O O (zmh tR24 ts72 O O dK (by omega)) (zng O tg72 ts72 dg O (zmr O O (M.alloc (cs:=_) tz72 O) ?_)))
  rintro _ wa1 ⟨c,rfl,dR,ew,de,du⟩
  refine Gs 1 O (zmw O (zmx ts72 O O O O dL de (by simp)) ?_)
  rintro dZ ⟨_,de,dG⟩
  replace du:=du.trans dG (fun q hq h=>by have h:q=c:=h;omega)
  have dS:b ≠ c:=by have:=hY.lt;omega
  have d5:_<=c:=zpq hE.size (zrS dR.symm)
  obtain⟨hE,dh,di,dk,hl,hY,dm⟩:=Tr7 du hE dh di dk hl hY dm
  obtain⟨dg,da,db,dc,df⟩:=Tr5 du dg da db dc df
  have eG:((l.length:Int) - 1=((l.length - 1:Nat):Int)):=by omega
  refine Gs 4 O ?_
  have hC:=Keep.refl (fun _=>False) dZ
  refine zlQ (σ:=Bool) (fun q=>[(1,.slice av l.length nv),(2,.bool top),(3,.pointer (some ⟨b,0,none⟩)),(7,.int .i64 i),(8,.pointer (some ⟨c,0,none⟩)),(13,.slice av l.length nv),(14,.int .i64 l.length),(15,.int .i64 i),(31,.bool q)]) (fun q=>fun w'=>q=!(zg f.vars f.hatches.length x (top&&decide (i=l.length - 1)))/\Ext dZ w') ?_ ?_
  .
   refine Gs 1 O (zng O tg26 ts26 hY.cells O (zng O tg72 ts72 de.cells O (Gs 2 O (zn8 23 O (fun tt=>?_) (fun tt=>?_)))))
   .
    refine Ga 6 O (by omega) (G.call O Tryz.call163 (kO f x _ v1 v2 v3 _ _ _ _ ⟨dh,di,dk⟩ (RSt.put da db dc df)) ?_)
    rintro _ wz2 ⟨rfl,d6⟩
    obtain⟨hE,dh,di,dk,hl,hY,dm⟩:=Tr7 d6 hE dh di dk hl hY dm
    obtain⟨dg,da,db,dc,df,de,hC⟩:=Tr7 d6 dg da db dc df de hC
    refine zna O O (zmT O (by first | exact za | rfl)) (Gs 1 O ?_)
    refine zlS (_) (Sub.of O) (⟨by rw[tt,zqc];congr 2;simp only[zpM];omega,hC⟩)
   refine Gs 6 O (G.call O Tryz.call163 (kO f x _ v1 v2 v3 _ _ _ _ ⟨dh,di,dk⟩ (RSt.put da db dc df)) ?_)
   rintro _ wz3 ⟨rfl,d7⟩
   obtain⟨hE,dh,di,dk,hl,hY,dm⟩:=Tr7 d7 hE dh di dk hl hY dm
   obtain⟨dg,da,db,dc,df,de,hC⟩:=Tr7 d7 dg da db dc df de hC
   refine zna O O (zmT O (by first | exact za | rfl)) (Gs 1 O ?_)
   refine zlS (_) (Sub.of O) (⟨by rw[tt,zq1],hC⟩)
  rintro q x1 ⟨hq,d8⟩
  subst hq
  obtain⟨hE,dh,di,dk,hl,hY,dm⟩:=Tr7 d8 hE dh di dk hl hY dm
  obtain⟨dg,da,db,dc,df,de⟩:=Tr6 d8 dg da db dc df de
  generalize d9:(top&&decide (i=l.length - 1))=last at *
  refine Gs 1 O (G.bool O (fun dT=>?_) (fun dT=>?_))
  .
   have dw:zg f.vars f.hatches.length x last=false:=by simpa using dT
   refine Gs 12 O (zlV tr123 O ⟨_,rfl,by rw[dr,dD,zz,zpv dw];rfl,hE⟩)
  have dw:zg f.vars f.hatches.length x last=true:=by simpa using dT
  have dB:¬ zg f.vars f.hatches.length x last=false:=by rw[dw];decide
  refine Gs 5 O (zng O tg72 ts72 de.cells O (G.call O Tryz.call164 (zeL x _ D _ (RSt.put da db dc df) (kP dw)) ?_))
  rintro _ wz4 ⟨rfl,ea⟩
  obtain⟨hE,dh,di,dk,hl,hY,dm⟩:=Tr7 ea hE dh di dk hl hY dm
  obtain⟨dg,da,db,dc,df,de⟩:=Tr6 ea dg da db dc df de
  refine zna O O (zmT O (by first | exact za | rfl)) (Gs 2 O (G.bool O (fun dU=>?_) (fun dU=>?_)))
  .
   have dx:zO x=false:=by simpa using dU
   refine Gs 12 O (zlV tr123 O ⟨_,rfl,by rw[dr,dD,zz,zpu dB,zpv dx];rfl,hE⟩)
  have dx:¬ zO x=false:=by simpa using dU
  refine Gs 6 O (zne O tg22 (hY.cells 0 _ O) (Gs 1 O (zng O tg70 ts70 (de.cells.sub 4 3) O ?_)))
  have ey:=jg dA
  rw[St.bulk_eq]at ey
  refine G.call O Tryz.call162 (zbv f.vars false v1 _ _ _ _ x.term hg dh (RTm.put da) (by omega)) ?_
  rintro _ wz5 ⟨rfl,eb⟩
  obtain⟨hE,dh,di,dk,hl,hY,dm⟩:=Tr7 eb hE dh di dk hl hY dm
  obtain⟨dg,da,db,dc,df,de⟩:=Tr6 eb dg da db dc df de
  refine Gs 9 O (zlF O (fun tz=>?_) (fun tz=>?_))
  . refine Gs 13 O (zlV tr123 O ⟨_,rfl,by rw[dr,dD,zz,zpu dB,zpu dx,zpv tz,zpv tz],hE⟩)
  have dt:zB f.vars f.hatches.length x last=if stepsCodeN f.vars f.hatches.length x.thn false ≠ 0 then stepsCodeN f.vars f.hatches.length x.thn false else stepsCodeN f.vars f.hatches.length x.els false:=by rw[zz,zpu dB,zpu dx,zpu tz]
  refine Gs 5 O (zne O tg24 (de.cells 7 _ O) (Gs 1 O (zne O tg24 (de.cells 8 _ O) (zmr O O (M.buildSlice (cs:=[.slice dM x.thn.length dN,.slice dO x.els.length dQ]) [(0,_),(1,_)] Tryz.runUnderlying230 ts24 Tryz.zeroValue24 (by decide) O (by kernel_rfl)) ?_))))
  rintro _ w3 ⟨b3,rfl,ec,ed,dl,dy⟩
  obtain⟨hE,dh,di,dk,hl,hY,dm⟩:=Tr7 dy hE dh di dk hl hY dm
  obtain⟨dg,da,db,dc,df,de⟩:=Tr6 dy dg da db dc df de
  refine Gs 5 O (G.loop (σ:=Nat) (fun k=>[(1,.slice av l.length nv),(2,.bool top),(3,.pointer (some ⟨b,0,none⟩)),(7,.int .i64 i),(8,.pointer (some ⟨c,0,none⟩)),(13,.slice av l.length nv),(14,.int .i64 l.length),(15,.int .i64 i),(47,.slice (some ⟨b3,0,none⟩) 2 2),(48,.int .i64 2),(49,.int .i64 k)]) (fun k=>fun w'=>k<=2/\(1<=k->stepsCodeN f.vars f.hatches.length x.thn false=0)/\(2<=k->stepsCodeN f.vars f.hatches.length x.els false=0)/\Ext w3 w') (fun k=>2 - k) (0) (Sub.of O) (⟨zpz _,fun h=>absurd h (by decide),fun h=>absurd h (by decide),Keep.refl _ _⟩) ?_)
  rintro k w4 ⟨eH,ee,ez,dz⟩
  obtain⟨hE,dh,di,dk,hl,hY,dm⟩:=Tr7 dz hE dh di dk hl hY dm
  obtain⟨dg,da,db,dc,df,de,dl⟩:=Tr7 dz dg da db dc df de dl
  refine Gs 6 O (zlF O (fun klt=>?_) (fun klt=>?_))
  .
   rcases (show k=0\/k=1 by omega) with rfl | rfl
   .
    refine Ga 7 O (by omega) (zne O tg24 (dl.cells 0 _ O) (Gs 5 O (zng O tg26 ts26 hY.cells O (Gs 1 O (G.call O Tryz.call123 ((ih x dA).1 _ _ _ false ⟨dh,di,dk⟩ db (by omega)) ?_)))))
    rintro _ wz6 ⟨rfl,dV⟩
    obtain⟨hE,dh,di,dk,hl,hY,dm⟩:=Tr7 dV hE dh di dk hl hY dm
    obtain⟨dg,da,db,dc,df,de,dl⟩:=Tr7 dV dg da db dc df de dl
    replace dz:=Tr1 dV dz
    refine Gs 9 O (zlF O (fun tz1=>?_) (fun tz1=>?_))
    . refine Gs 16 O (zlV tr123 O ⟨_,rfl,by rw[dr,dD,dt,zpv tz1,zpv tz1],hE⟩)
    refine Ga 7 O (by omega) (G.back (1) (Sub.of O) (⟨by omega,fun _=>by omega,fun h=>absurd h (by decide),dz⟩) (by first | omega | (dsimp only;omega)))
   refine Ga 7 O (by omega) (zne O tg24 (dl.cells 1 _ O) (Gs 5 O (zng O tg26 ts26 hY.cells O (Gs 1 O (G.call O Tryz.call123 ((ih x dA).2 _ _ _ false ⟨dh,di,dk⟩ dc (by omega)) ?_)))))
   rintro _ wz7 ⟨rfl,dW⟩
   obtain⟨hE,dh,di,dk,hl,hY,dm⟩:=Tr7 dW hE dh di dk hl hY dm
   obtain⟨dg,da,db,dc,df,de,dl⟩:=Tr7 dW dg da db dc df de dl
   replace dz:=Tr1 dW dz
   refine Gs 9 O ?_
   have dH:=ee (zpJ _)
   have dC:zB f.vars f.hatches.length x last=stepsCodeN f.vars f.hatches.length x.els false:=by rw[dt,zpu (by simp[dH])]
   refine zlF O (fun tz1=>?_) (fun tz1=>?_)
   . refine Gs 16 O (zlV tr123 O ⟨_,rfl,by rw[dr,dD,dC,zpv tz1],hE⟩)
   refine Ga 7 O (by omega) (G.back (2) (Sub.of O) (⟨by omega,fun _=>dH,fun _=>by omega,dz⟩) (by first | omega | (dsimp only;omega)))
  have eA:zB f.vars f.hatches.length x last=0:=by rw[dt,zpu (by simp[ee (by omega)]),ez (by omega)]
  refine Ga 10 O (by omega) (G.back (i+1) (Sub.of O) (⟨by omega,by rw[dr,dD,eA,zpu (by decide)],dm⟩) (by first | omega | (dsimp only;omega)))
 have eC:i=l.length:=by omega
 subst eC
 refine Gs 11 O (zlV tr123 O ⟨_,rfl,by rw[dr,zqF];rfl,hE⟩)
open Go.GL
def zlg (s:St):Bool:=decide (s.cost<0) || decide (qd s.act<s.cost) || decide (s.n<0) || (decide (s.act=4)&&decide (4096<s.n))
def zif (s:St):Bool:=decide ((0:Int)<s.bounds.length)&&decide (67108864<s.bounds[s.bounds.length - 1]?.getD 0)
theorem zce {vs:List Vr} {nh:Nat} {s:St} {last:Bool} (h:zg vs nh s last=true):zO s=(!zlg s&&!zif s):=by
 have h0:(s.n<0->s.act=4)/\(s.act ≠ 6->s.bounds.length=0):=by
  unfold zg at h
  repeat' split at h
  all_goals simp[zaF]at h
  all_goals (refine⟨fun hn=>?_,fun h6=>?_⟩<;>first | omega | simp_all)
 have h1:=kP h
 unfold zO zlg zif
 rw[zq0]
 simp only[zpW,zq4,Bool.and_eq_false_iff,zq7,zq8,decide_eq_false_iff_not,decide_eq_true_eq]
 generalize s.bounds[s.bounds.length - 1]?.getD 0=e
 omega
theorem zcS (f:Fl) (v1 v2 v3:Value) (hg:∀ v ∈ f.vars,yr (v.low,v.high)) (Df:Nat->Prop) (l:List St):∀ (v:Value) (D:Nat->Prop) (w:World) (top:Bool),RFl Df w f v1 v2 v3->SlR 10 RSt D w v l->sbulk l<=1000000->Calls Tryz.prog 64 #[.agg #[v1,v2,v3],v,.bool top] w (Ret fun r w'=>r=.int .i64 (stepsCodeN f.vars f.hatches.length l top)/\Ext w w'):=by
 induction l using znx with
 | h l ih =>
 intro v D w top hf hl hb
 obtain⟨dh,di,dk⟩:=hf
 have eU:=hl.max
 obtain⟨av,nv,rfl⟩:=hl.form
 have hE:=Keep.refl (fun _=>False) w
 refine znm Tryz.func64 O Tryz.ntmps64 O (Gs 2 O (zmr O O (M.box O O) ?_))
 rintro _ ew ⟨b,rfl,d7,ey,da,d8⟩
 have eh:_<=b:=zpq hE.size (zrS d7.symm)
 obtain⟨hE,dh,di,dk,hl⟩:=Tr5 d8 hE dh di dk hl
 refine Gs 10 O (G.loop (σ:=Nat) (fun i=>[(1,.slice av l.length nv),(2,.bool top),(3,.pointer (some ⟨b,0,none⟩)),(7,.int .i64 i)]) (fun i=>fun w'=>i<=l.length/\stepsCodeN f.vars f.hatches.length l top=stepsCodeN f.vars f.hatches.length (l.drop i) top/\Ext ew w') (fun i=>l.length - i) (0) (Sub.of O) (⟨zpz _,rfl,Keep.refl _ _⟩) ?_)
 rintro i w1 ⟨hi,dm,dl⟩
 obtain⟨hE,dh,di,dk,hl,da⟩:=Tr6 dl hE dh di dk hl da
 refine Gs 9 O (zlF O (fun dH=>?_) (fun dH=>?_))
 .
  obtain⟨x,dS,dA⟩:=gE_ l (i) (by omega)
  obtain⟨ez,eV,eW,d9,_,dg,dT⟩:=hl.at dS
  have ea:=RSt.one dT
  obtain⟨eA,eC,eD,eE,rfl,dc,de,df,db⟩:=dT.get
  obtain⟨eF,eG,rfl⟩:=dc.form
  obtain⟨eH,eI,rfl⟩:=de.form
  obtain⟨eJ,eK,rfl⟩:=df.form
  obtain⟨eL,eM,rfl⟩:=db.form
  have ei:ez<_:=zpm _ _ (dg 0 _ rfl)
  have dB:=jN f.vars f.hatches.length top l i x dS
  refine Gs 8 O (zna O O (zmh tR24 ts72 O O d9 (by omega)) (zng O tg72 ts72 dg O (zmr O O (M.alloc (cs:=_) tz72 O) ?_)))
  rintro _ wa1 ⟨c,rfl,eb,eN,hY,dI⟩
  refine zmw O (zmx ts72 O O O O ea hY (by simp)) ?_
  rintro ej ⟨_,hY,dU⟩
  replace dI:=dI.trans dU (fun q hq h=>by have h:q=c:=h;omega)
  have ec:b ≠ c:=by have:=da.lt;omega
  have ek:_<=c:=zpq hE.size (zrS eb.symm)
  obtain⟨hE,dh,di,dk,hl,da,dl⟩:=Tr7 dI hE dh di dk hl da dl
  obtain⟨dg,dc,de,df,db⟩:=Tr5 dI dg dc de df db
  have eX:((l.length:Int) - 1=((l.length - 1:Nat):Int)):=by omega
  refine Gs 4 O ?_
  have hC:=Keep.refl (fun _=>False) ej
  refine zlQ (σ:=Bool) (fun q=>[(1,.slice av l.length nv),(2,.bool top),(3,.pointer (some ⟨b,0,none⟩)),(7,.int .i64 i),(8,.pointer (some ⟨c,0,none⟩)),(32,.bool q)]) (fun q=>fun w'=>q=!(zg f.vars f.hatches.length x (top&&decide (i=l.length - 1)))/\Ext ej w') ?_ ?_
  .
   refine Gs 1 O (zng O tg26 ts26 da.cells O (zng O tg72 ts72 hY.cells O (Gs 2 O (zn8 24 O (fun tt=>?_) (fun tt=>?_)))))
   .
    refine Ga 6 O (by omega) (G.call O Tryz.call112 (zaA f x _ v1 v2 v3 _ _ _ _ ⟨dh,di,dk⟩ (RSt.put dc de df db)) ?_)
    rintro _ wz2 ⟨rfl,em⟩
    obtain⟨hE,dh,di,dk,hl,da,dl⟩:=Tr7 em hE dh di dk hl da dl
    obtain⟨dg,dc,de,df,db,hY,hC⟩:=Tr7 em dg dc de df db hY hC
    refine zna O O (zmT O (by first | exact za | rfl)) (Gs 1 O ?_)
    refine zlS (_) (Sub.of O) (⟨by rw[tt,zqc];congr 2;simp only[zpM];omega,hC⟩)
   refine Gs 6 O (G.call O Tryz.call112 (zaA f x _ v1 v2 v3 _ _ _ _ ⟨dh,di,dk⟩ (RSt.put dc de df db)) ?_)
   rintro _ wz3 ⟨rfl,en⟩
   obtain⟨hE,dh,di,dk,hl,da,dl⟩:=Tr7 en hE dh di dk hl da dl
   obtain⟨dg,dc,de,df,db,hY,hC⟩:=Tr7 en dg dc de df db hY hC
   refine zna O O (zmT O (by first | exact za | rfl)) (Gs 1 O ?_)
   refine zlS (_) (Sub.of O) (⟨by rw[tt,zq1],hC⟩)
  rintro q d6 ⟨hq,eo⟩
  subst hq
  obtain⟨hE,dh,di,dk,hl,da,dl⟩:=Tr7 eo hE dh di dk hl da dl
  obtain⟨dg,dc,de,df,db,hY⟩:=Tr6 eo dg dc de df db hY
  generalize ep:(top&&decide (i=l.length - 1))=last at *
  refine Gs 1 O (G.bool O (fun dC=>?_) (fun dC=>?_))
  .
   have dD:zg f.vars f.hatches.length x last=false:=by simpa using dC
   refine Gs 12 O (zlV tr64 O ⟨_,rfl,by rw[dm,dB,zz,zpv dD];rfl,hE⟩)
  have dD:zg f.vars f.hatches.length x last=true:=by simpa using dC
  have dw:¬ zg f.vars f.hatches.length x last=false:=by rw[dD];decide
  refine Gs 11 O (zne O tg66 (hY.cells 0 _ O) (Gs 3 O (zlF O (fun a2=>?_) (fun a2=>?_))))
  .
   have ed:qd x.act=67108864:=by rw[qd,zpv a2]
   have dJ:zO x=(!(decide (x.cost<0) || decide (67108864<x.cost) || decide (x.n<0) || (decide (x.act=4)&&decide (4096<x.n)))&&!zif x):=by rw[zce dD,zlg,ed]
   refine Gs 6 O ?_
   have hC:=Keep.refl (fun _=>False) d6
   refine zlQ (σ:=Bool) (fun q=>[(1,.slice av l.length nv),(2,.bool top),(3,.pointer (some ⟨b,0,none⟩)),(7,.int .i64 i),(8,.pointer (some ⟨c,0,none⟩)),(59,.bool q)]) (fun q=>fun w'=>q=(decide (x.cost<0) || decide (67108864<x.cost) || decide (x.n<0) || (decide (x.act=4)&&decide (4096<x.n)))/\Ext d6 w') ?_ ?_
   .
    refine Gs 2 O (zne O tg3 (hY.cells 1 _ O) (Gs 2 O (G.sp 39 O (fun dE=>?_) (fun dE=>?_))))
    .
     refine Gs 21 O ?_
     refine zlS (_) (Sub.cons O (Sub.cons O (Sub.cons O (Sub.cons O (Sub.cons O (Sub.cons (by first | rfl | (show some (Value.bool true)=some (Value.bool _);simp[*])) Sub.nil)))))) (⟨by first | (simp only[a2,dE,decide_true,zqd];done) | (simp[dH,dC,a2,dE];done) | (exfalso;omega),hC⟩)
    refine Gs 1 O (zne O tg3 (hY.cells 1 _ O) (Gs 4 O (G.sp 45 O (fun dK=>?_) (fun dK=>?_))))
    .
     refine Gs 15 O ?_
     refine zlS (_) (Sub.cons O (Sub.cons O (Sub.cons O (Sub.cons O (Sub.cons O (Sub.cons (by first | rfl | (show some (Value.bool true)=some (Value.bool _);simp[*])) Sub.nil)))))) (⟨by first | (simp only[a2,dE,dK,decide_true,decide_false,zqa,zqd];done) | (simp[dH,dC,a2,dE,dK];done) | (exfalso;omega),hC⟩)
    refine Gs 1 O (zne O tg3 (hY.cells 3 _ O) (Gs 3 O (G.sp 50 O (fun dL=>?_) (fun dL=>?_))))
    .
     refine Gs 10 O ?_
     refine zlS (_) (Sub.cons O (Sub.cons O (Sub.cons O (Sub.cons O (Sub.cons O (Sub.cons (by first | rfl | (show some (Value.bool true)=some (Value.bool _);simp[*])) Sub.nil)))))) (⟨by first | (simp only[a2,dE,dK,dL,decide_true,decide_false,zqa,zqd,zq9];done) | (simp[dH,dC,a2,dE,dK,dL];done) | (exfalso;omega),hC⟩)
    refine Gs 1 O (zne O tg66 (hY.cells 0 _ O) (Gs 2 O (G.sp 54 O (fun eO=>?_) (fun eO=>?_))))
    .
     refine Gs 1 O (zne O tg3 (hY.cells 3 _ O) (Gs 4 O ?_))
     refine zlS (_) (Sub.of O) (⟨by first | (simp only[a2,dE,dK,dL,decide_false,zq9,zq3];done) | (simp[a2,dE,dK,dL];done) | (exfalso;omega),hC⟩)
    refine Gs 6 O ?_
    refine zlS (_) (Sub.cons O (Sub.cons O (Sub.cons O (Sub.cons O (Sub.cons O (Sub.cons (by first | rfl | (show some (Value.bool false)=some (Value.bool _);simp[*])) Sub.nil)))))) (⟨by first | (simp only[a2,dE,dK,dL,decide_false,zq9,zq3];done) | (simp[a2,dE,dK,dL];done) | (exfalso;omega),hC⟩)
   rintro q x2 ⟨hq,dV⟩
   subst hq
   obtain⟨hE,dh,di,dk,hl,da,dl⟩:=Tr7 dV hE dh di dk hl da dl
   obtain⟨dg,dc,de,df,db,hY⟩:=Tr6 dV dg dc de df db hY
   refine Gs 1 O (G.bool O (fun dM=>?_) (fun dM=>?_))
   . refine Gs 12 O (zlV tr64 O ⟨_,rfl,by rw[dm,dB,zz,zpu dw,zpv (show zO x=false by simp[dJ,dM])];rfl,hE⟩)
   rw[dM,zq5,zqc]at dJ
   refine Gs 4 O ?_
   have hC:=Keep.refl (fun _=>False) x2
   refine zlQ (σ:=Bool) (fun q=>[(1,.slice av l.length nv),(2,.bool top),(3,.pointer (some ⟨b,0,none⟩)),(7,.int .i64 i),(8,.pointer (some ⟨c,0,none⟩)),(74,.bool q)]) (fun q=>fun w'=>q=zif x/\Ext x2 w') ?_ ?_
   .
    by_cases eP:0<x.bounds.length
    .
     obtain⟨y,hy⟩:∃ y,x.bounds[x.bounds.length - 1]?=some y:=⟨_,zpk (by omega)⟩
     obtain⟨eQ,eR,eS,dN,_,dO,dQ⟩:=db.at hy
     obtain rfl:=dQ
     have ee:=db.max
     have ef:((x.bounds.length:Int) - 1).toNat=x.bounds.length - 1:=by omega
     refine Gs 2 O (zne O tg27 (hY.cells 9 _ O) (Gs 3 O (G.sp 64 O (fun dy=>?_) (fun dy=>?_))))
     .
      refine Gs 1 O (zne O tg27 (hY.cells 9 _ O) (Gs 1 O (zne O tg27 (hY.cells 9 _ O) (Ga 2 O (by omega) (zna O O (zmh tR27 ts3 O O dN (by omega)) (zne O tg3 (by rw[ef];exact dO 0 _ O) (Gs 3 O ?_)))))))
      refine zlS (_) (Sub.of O) (⟨by unfold zif;rw[zpw dy,zqc,hy];rfl,hC⟩)
     exact absurd (by omega) dy
    refine Gs 2 O (zne O tg27 (hY.cells 9 _ O) (Gs 3 O (G.sp 64 O (fun dy=>?_) (fun dy=>?_))))
    . exact absurd dy (by omega)
    refine Gs 11 O ?_
    refine zlS (_) (Sub.cons O (Sub.cons O (Sub.cons O (Sub.cons O (Sub.cons O (Sub.cons (by first | rfl | (show some (Value.bool false)=some (Value.bool _);simp[*])) Sub.nil)))))) (⟨by unfold zif;rw[zpx dy];rfl,hC⟩)
   rintro q x3 ⟨hq,dW⟩
   subst hq
   obtain⟨hE,dh,di,dk,hl,da,dl⟩:=Tr7 dW hE dh di dk hl da dl
   obtain⟨dg,dc,de,df,db,hY⟩:=Tr6 dW dg dc de df db hY
   refine Gs 1 O (G.bool O (fun dR=>?_) (fun dR=>?_))
   . refine Gs 12 O (zlV tr64 O ⟨_,rfl,by rw[dm,dB,zz,zpu dw,zpv (show zO x=false by simp[dJ,dR])];rfl,hE⟩)
   have dF:¬ zO x=false:=by rw[dJ,dR];decide
   have eg:=jg dA
   rw[St.bulk_eq]at eg
   refine Gs 5 O (zne O tg22 (da.cells 0 _ O) (Gs 1 O (zng O tg70 ts70 (hY.cells.sub 4 3) O (G.call O Tryz.call63 (qb f.vars false v1 _ _ _ _ x.term hg dh (RTm.put dc) (by omega)) ?_))))
   rintro _ wz8 ⟨rfl,er⟩
   obtain⟨hE,dh,di,dk,hl,da,dl⟩:=Tr7 er hE dh di dk hl da dl
   obtain⟨dg,dc,de,df,db,hY⟩:=Tr6 er dg dc de df db hY
   refine Gs 10 O (zlF O (fun tz=>?_) (fun tz=>?_))
   . refine Gs 13 O (zlV tr64 O ⟨_,rfl,by rw[dm,dB,zz,zpu dw,zpu dF,zpv tz,zpv tz],hE⟩)
   have dx:zB f.vars f.hatches.length x last=if stepsCodeN f.vars f.hatches.length x.thn false ≠ 0 then stepsCodeN f.vars f.hatches.length x.thn false else stepsCodeN f.vars f.hatches.length x.els false:=by rw[zz,zpu dw,zpu dF,zpu tz]
   refine Gs 4 O (zng O tg26 ts26 da.cells O (Gs 1 O (zne O tg24 (hY.cells 7 _ O) (G.call O tc64 ((ih x dA).1 _ _ _ false ⟨dh,di,dk⟩ de (by omega)) ?_))))
   rintro _ wz9 ⟨rfl,eu⟩
   obtain⟨hE,dh,di,dk,hl,da,dl⟩:=Tr7 eu hE dh di dk hl da dl
   obtain⟨dg,dc,de,df,db,hY⟩:=Tr6 eu dg dc de df db hY
   refine Gs 10 O (zlF O (fun tz1=>?_) (fun tz1=>?_))
   . refine Gs 13 O (zlV tr64 O ⟨_,rfl,by rw[dm,dB,dx,zpv tz1,zpv tz1],hE⟩)
   have dr:zB f.vars f.hatches.length x last=stepsCodeN f.vars f.hatches.length x.els false:=by rw[dx,zpu tz1]
   refine Gs 4 O (zng O tg26 ts26 da.cells O (Gs 1 O (zne O tg24 (hY.cells 8 _ O) (G.call O tc64 ((ih x dA).2 _ _ _ false ⟨dh,di,dk⟩ df (by omega)) ?_))))
   rintro _ wz10 ⟨rfl,dX⟩
   obtain⟨hE,dh,di,dk,hl,da,dl⟩:=Tr7 dX hE dh di dk hl da dl
   obtain⟨dg,dc,de,df,db,hY⟩:=Tr6 dX dg dc de df db hY
   refine Gs 9 O (zlF O (fun tz2=>?_) (fun tz2=>?_))
   . refine Gs 12 O (zlV tr64 O ⟨_,rfl,by rw[dm,dB,dr,zpv tz2],hE⟩)
   refine Ga 8 O (by omega) (G.back (i+1) (Sub.of O) (⟨by omega,by rw[dm,dB,dr,zpu tz2],dl⟩) (by first | omega | (dsimp only;omega)))
  have ed:qd x.act=10000:=by rw[qd,zpu a2]
  have dJ:zO x=(!(decide (x.cost<0) || decide (10000<x.cost) || decide (x.n<0) || (decide (x.act=4)&&decide (4096<x.n)))&&!zif x):=by rw[zce dD,zlg,ed]
  refine Gs 4 O ?_
  have hC:=Keep.refl (fun _=>False) d6
  refine zlQ (σ:=Bool) (fun q=>[(1,.slice av l.length nv),(2,.bool top),(3,.pointer (some ⟨b,0,none⟩)),(7,.int .i64 i),(8,.pointer (some ⟨c,0,none⟩)),(59,.bool q)]) (fun q=>fun w'=>q=(decide (x.cost<0) || decide (10000<x.cost) || decide (x.n<0) || (decide (x.act=4)&&decide (4096<x.n)))/\Ext d6 w') ?_ ?_
  .
   refine Gs 2 O (zne O tg3 (hY.cells 1 _ O) (Gs 2 O (G.sp 39 O (fun dt=>?_) (fun dt=>?_))))
   .
    refine Gs 21 O ?_
    refine zlS (_) (Sub.cons O (Sub.cons O (Sub.cons O (Sub.cons O (Sub.cons O (Sub.cons (by first | rfl | (show some (Value.bool true)=some (Value.bool _);simp[*])) Sub.nil)))))) (⟨by first | (simp only[dt,decide_true,zqd];done) | (simp[dH,dC,a2,dt];done) | (exfalso;omega),hC⟩)
   refine Gs 1 O (zne O tg3 (hY.cells 1 _ O) (Gs 4 O (G.sp 45 O (fun du=>?_) (fun du=>?_))))
   .
    refine Gs 15 O ?_
    refine zlS (_) (Sub.cons O (Sub.cons O (Sub.cons O (Sub.cons O (Sub.cons O (Sub.cons (by first | rfl | (show some (Value.bool true)=some (Value.bool _);simp[*])) Sub.nil)))))) (⟨by first | (simp only[dt,du,decide_true,decide_false,zqa,zqd];done) | (simp[dH,dC,a2,dt,du];done) | (exfalso;omega),hC⟩)
   refine Gs 1 O (zne O tg3 (hY.cells 3 _ O) (Gs 3 O (G.sp 50 O (fun dz=>?_) (fun dz=>?_))))
   .
    refine Gs 10 O ?_
    refine zlS (_) (Sub.cons O (Sub.cons O (Sub.cons O (Sub.cons O (Sub.cons O (Sub.cons (by first | rfl | (show some (Value.bool true)=some (Value.bool _);simp[*])) Sub.nil)))))) (⟨by first | (simp only[dt,du,dz,decide_true,decide_false,zqa,zqd,zq9];done) | (simp[dH,dC,a2,dt,du,dz];done) | (exfalso;omega),hC⟩)
   refine Gs 1 O (zne O tg66 (hY.cells 0 _ O) (Gs 2 O (G.sp 54 O (fun dG=>?_) (fun dG=>?_))))
   .
    refine Gs 1 O (zne O tg3 (hY.cells 3 _ O) (Gs 4 O ?_))
    refine zlS (_) (Sub.of O) (⟨by first | (simp only[dt,du,dz,dG,decide_true,decide_false,zqc,zq9,zq3];done) | (simp[dH,dC,a2,dt,du,dz,dG];done) | (exfalso;omega),hC⟩)
   refine Gs 6 O ?_
   refine zlS (_) (Sub.cons O (Sub.cons O (Sub.cons O (Sub.cons O (Sub.cons O (Sub.cons (by first | rfl | (show some (Value.bool false)=some (Value.bool _);simp[*])) Sub.nil)))))) (⟨by first | (simp only[dt,du,dz,dG,decide_false,zq1,zq9];done) | (simp[dH,dC,a2,dt,du,dz,dG];done) | (exfalso;omega),hC⟩)
  rintro q x2 ⟨hq,dV⟩
  subst hq
  obtain⟨hE,dh,di,dk,hl,da,dl⟩:=Tr7 dV hE dh di dk hl da dl
  obtain⟨dg,dc,de,df,db,hY⟩:=Tr6 dV dg dc de df db hY
  refine Gs 1 O (G.bool O (fun dM=>?_) (fun dM=>?_))
  . refine Gs 12 O (zlV tr64 O ⟨_,rfl,by rw[dm,dB,zz,zpu dw,zpv (show zO x=false by simp[dJ,dM])];rfl,hE⟩)
  rw[dM,zq5,zqc]at dJ
  refine Gs 4 O ?_
  have hC:=Keep.refl (fun _=>False) x2
  refine zlQ (σ:=Bool) (fun q=>[(1,.slice av l.length nv),(2,.bool top),(3,.pointer (some ⟨b,0,none⟩)),(7,.int .i64 i),(8,.pointer (some ⟨c,0,none⟩)),(74,.bool q)]) (fun q=>fun w'=>q=zif x/\Ext x2 w') ?_ ?_
  .
   by_cases eP:0<x.bounds.length
   .
    obtain⟨y,hy⟩:∃ y,x.bounds[x.bounds.length - 1]?=some y:=⟨_,zpk (by omega)⟩
    obtain⟨eQ,eR,eS,dN,_,dO,dQ⟩:=db.at hy
    obtain rfl:=dQ
    have ee:=db.max
    have ef:((x.bounds.length:Int) - 1).toNat=x.bounds.length - 1:=by omega
    refine Gs 2 O (zne O tg27 (hY.cells 9 _ O) (Gs 3 O (G.sp 64 O (fun dy=>?_) (fun dy=>?_))))
    .
     refine Gs 1 O (zne O tg27 (hY.cells 9 _ O) (Gs 1 O (zne O tg27 (hY.cells 9 _ O) (Ga 2 O (by omega) (zna O O (zmh tR27 ts3 O O dN (by omega)) (zne O tg3 (by rw[ef];exact dO 0 _ O) (Gs 3 O ?_)))))))
     refine zlS (_) (Sub.of O) (⟨by unfold zif;rw[zpw dy,zqc,hy];rfl,hC⟩)
    exact absurd (by omega) dy
   refine Gs 2 O (zne O tg27 (hY.cells 9 _ O) (Gs 3 O (G.sp 64 O (fun dy=>?_) (fun dy=>?_))))
   . exact absurd dy (by omega)
   refine Gs 11 O ?_
   refine zlS (_) (Sub.cons O (Sub.cons O (Sub.cons O (Sub.cons O (Sub.cons O (Sub.cons (by first | rfl | (show some (Value.bool false)=some (Value.bool _);simp[*])) Sub.nil)))))) (⟨by unfold zif;rw[zpx dy];rfl,hC⟩)
  rintro q x3 ⟨hq,dW⟩
  subst hq
  obtain⟨hE,dh,di,dk,hl,da,dl⟩:=Tr7 dW hE dh di dk hl da dl
  obtain⟨dg,dc,de,df,db,hY⟩:=Tr6 dW dg dc de df db hY
  refine Gs 1 O (G.bool O (fun dR=>?_) (fun dR=>?_))
  . refine Gs 12 O (zlV tr64 O ⟨_,rfl,by rw[dm,dB,zz,zpu dw,zpv (show zO x=false by simp[dJ,dR])];rfl,hE⟩)
  have dF:¬ zO x=false:=by rw[dJ,dR];decide
  have eg:=jg dA
  rw[St.bulk_eq]at eg
  refine Gs 5 O (zne O tg22 (da.cells 0 _ O) (Gs 1 O (zng O tg70 ts70 (hY.cells.sub 4 3) O (G.call O Tryz.call63 (qb f.vars false v1 _ _ _ _ x.term hg dh (RTm.put dc) (by omega)) ?_))))
  rintro _ wz15 ⟨rfl,dY⟩
  obtain⟨hE,dh,di,dk,hl,da,dl⟩:=Tr7 dY hE dh di dk hl da dl
  obtain⟨dg,dc,de,df,db,hY⟩:=Tr6 dY dg dc de df db hY
  refine Gs 10 O (zlF O (fun tz=>?_) (fun tz=>?_))
  . refine Gs 13 O (zlV tr64 O ⟨_,rfl,by rw[dm,dB,zz,zpu dw,zpu dF,zpv tz,zpv tz],hE⟩)
  have dx:zB f.vars f.hatches.length x last=if stepsCodeN f.vars f.hatches.length x.thn false ≠ 0 then stepsCodeN f.vars f.hatches.length x.thn false else stepsCodeN f.vars f.hatches.length x.els false:=by rw[zz,zpu dw,zpu dF,zpu tz]
  refine Gs 4 O (zng O tg26 ts26 da.cells O (Gs 1 O (zne O tg24 (hY.cells 7 _ O) (G.call O tc64 ((ih x dA).1 _ _ _ false ⟨dh,di,dk⟩ de (by omega)) ?_))))
  rintro _ wz16 ⟨rfl,dZ⟩
  obtain⟨hE,dh,di,dk,hl,da,dl⟩:=Tr7 dZ hE dh di dk hl da dl
  obtain⟨dg,dc,de,df,db,hY⟩:=Tr6 dZ dg dc de df db hY
  refine Gs 10 O (zlF O (fun tz1=>?_) (fun tz1=>?_))
  . refine Gs 13 O (zlV tr64 O ⟨_,rfl,by rw[dm,dB,dx,zpv tz1,zpv tz1],hE⟩)
  have dr:zB f.vars f.hatches.length x last=stepsCodeN f.vars f.hatches.length x.els false:=by rw[dx,zpu tz1]
  refine Gs 4 O (zng O tg26 ts26 da.cells O (Gs 1 O (zne O tg24 (hY.cells 8 _ O) (G.call O tc64 ((ih x dA).2 _ _ _ false ⟨dh,di,dk⟩ df (by omega)) ?_))))
  rintro _ wz17 ⟨rfl,d5⟩
  obtain⟨hE,dh,di,dk,hl,da,dl⟩:=Tr7 d5 hE dh di dk hl da dl
  obtain⟨dg,dc,de,df,db,hY⟩:=Tr6 d5 dg dc de df db hY
  refine Gs 9 O (zlF O (fun tz2=>?_) (fun tz2=>?_))
  . refine Gs 12 O (zlV tr64 O ⟨_,rfl,by rw[dm,dB,dr,zpv tz2],hE⟩)
  refine Ga 8 O (by omega) (G.back (i+1) (Sub.of O) (⟨by omega,by rw[dm,dB,dr,zpu tz2],dl⟩) (by first | omega | (dsimp only;omega)))
 have eT:i=l.length:=by omega
 subst eT
 refine Gs 11 O (zlV tr64 O ⟨_,rfl,by rw[dm,zqF];rfl,hE⟩)
mutual
def yw:St->Int × Int × Int
 | .mk a c _ n _ f g _=>if a=4 then (1+n*(1+(bds f).1),n*(bds f).2.1,n*(c+(bds f).2.2))
  else (1+max (bds f).1 (bds g).1,if a=1 then 1 else max (bds f).2.1 (bds g).2.1,c+max (bds f).2.2 (bds g).2.2)
def bds:List St->Int × Int × Int
 | []=>(0,0,0)
 | s::r=>((yw s).1+(bds r).1,(yw s).2.1+(bds r).2.1,(yw s).2.2+(bds r).2.2)
end
theorem yb (s:St):yw s=if s.act=4 then (1+s.n*(1+(bds s.thn).1),s.n*(bds s.thn).2.1,s.n*(s.cost+(bds s.thn).2.2))
  else (1+max (bds s.thn).1 (bds s.els).1,if s.act=1 then 1 else max (bds s.thn).2.1 (bds s.els).2.1,s.cost+max (bds s.thn).2.2 (bds s.els).2.2):=by cases s;rw[yw];rfl
theorem zfY (a b:List St):bds (a++b)=((bds a).1+(bds b).1,(bds a).2.1+(bds b).2.1,(bds a).2.2+(bds b).2.2):=by
 induction a with
 | nil=>simp[bds]
 | cons s r ih=>rw[zqA,bds,ih,bds];simp only[Prod.mk.injEq];omega
theorem zfj {l:List St} {i:Nat} {x:St} (h:l[i]?=some x):bds (l.take (i+1))=((bds (l.take i)).1+(yw x).1,(bds (l.take i)).2.1+(yw x).2.1,(bds (l.take i)).2.2+(yw x).2.2):=by
 rw[ze h,zfY];simp[bds]
structure OkS (s:St):Prop where
 cost:0<=s.cost/\s.cost<=67108864
 rep:s.act=4->0<=s.n/\s.n<=4096/\s.els=[]
 free:s.act ≠ 3->s.act ≠ 4->s.thn=[]/\s.els=[]
theorem qx {vs:List Vr} {nh:Nat} {s:St} {last:Bool} (h:zB vs nh s last=0):OkS s/\zD vs false s.term=0/\zg vs nh s last=true/\stepsCodeN vs nh s.thn false=0/\stepsCodeN vs nh s.els false=0:=by
 rw[zz]at h
 split at h
 . cases h
 rename_i h1
 split at h
 . cases h
 rename_i h2
 split at h
 . rename_i h3;exact absurd h h3
 rename_i h3
 split at h
 . rename_i h4;exact absurd h h4
 rename_i h4
 have hY:zg vs nh s last=true:=by simpa using h1
 refine⟨?_,by omega,hY,by omega,h⟩
 have da:zO s=true:=by simpa using h2
 unfold zO qd at da
 simp at da
 have hz:∀ l:List St,(l.length:Int)=0->l=[]:=fun l h=>zqI (by omega)
 refine⟨by split at da<;>omega,fun h4=>?_,fun h3 h4=>?_⟩
 .
  have hh:=da.1.2.resolve_left (fun h=>h h4)
  refine⟨by omega,by omega,?_⟩
  unfold zg at hY
  rw[zpu (by omega),zpu (by omega),zpu (by omega),zpu (by omega),zpv h4]at hY
  simp at hY
  exact hY.1.2
 unfold zg at hY
 repeat' split at hY
 all_goals simp[zaF]at hY
 all_goals first | exact⟨hY.1.1.1.1,hY.1.1.1.2⟩ | exact⟨hY.1.1.1.1.1,hY.1.1.1.1.2⟩ | exact⟨hY.1.1.1.1.1.1,hY.1.1.1.1.1.2⟩ | omega | simp_all
theorem xK {vs:List Vr} {nh:Nat}:∀ (l:List St) (top:Bool),stepsCodeN vs nh l top=0->∀ x ∈ l,∃ last,zB vs nh x last=0
 | [],_,_,x,hx=>by simp at hx
 | s::r,top,h,x,hx=>by
  rw[stepsCodeN]at h
  split at h
  . rename_i h1;exact absurd h h1
  rename_i h1
  rcases zpA.1 hx with rfl | hx
  . exact⟨_,by simpa using h1⟩
  exact xK r top h x hx
theorem zkQ (n c a K:Int) (hn:0<=n) (hc:0<=c) (ha:0<=a) (hK:0<=K):min (n*(c+min a K)) K=min (n*(c+a)) K:=by
 rcases Int.le_total a K with h | h
 . rw[Int.min_eq_left h]
 rw[Int.min_eq_right h]
 by_cases h0:n=0
 . subst h0;simp
 have h1:1*(c+K)<=n*(c+K):=zqn (by omega) (by omega)
 have h2:1*(c+a)<=n*(c+a):=zqn (by omega) (by omega)
 omega
def cap (K a:Int):Int:=min a K
theorem zE {K a:Int} (ha:0<=a) (hK:0<=K):0<=cap K a/\cap K a<=K:=by unfold cap;omega
theorem yh {K S x x':Int} (hS:0<=S) (hx:0<=x) (hY:0<=x') (h:cap K x'=cap K x):min (cap K S+x') K=cap K (S+x):=by unfold cap at *;omega
theorem zcT {K c a b:Int} (hc:0<=c) (_:0<=a) (_:0<=b):cap K (c+max (cap K a) (cap K b))=cap K (c+max a b):=by unfold cap;omega
theorem zfk {K a b:Int} (_:0<=a) (_:0<=b):cap K (max (cap K a) (cap K b))=cap K (max a b):=by unfold cap;omega
theorem zby {K n c a:Int} (hn:0<=n) (hc:0<=c) (ha:0<=a) (hK:0<=K):cap K (n*(c+cap K a))=cap K (n*(c+a)):=by unfold cap;exact zkQ n c a K hn hc ha hK
theorem zfl {K n a:Int} (hn:0<=n) (ha:0<=a) (hK:0<=K):cap K (n*cap K a)=cap K (n*a):=by
 have:=zby (c:=0) hn (zqj 0) ha hK
 rwa [Int.zero_add,Int.zero_add]at this
theorem zgU {K a b:Int} (_:0<=a) (_:0<=b) (h:cap K a=cap K b):cap K (1+a)=cap K (1+b):=by unfold cap at *;omega
theorem qC (n a N A:Int) (hn:0<=n) (hN:n<=N) (ha:0<=a) (hA:a<=A):0<=n*a/\n*a<=N*A :=
 ⟨zpP hn ha,zql hN hA ha (by omega)⟩
theorem yX {vs:List Vr} {nh:Nat} (l:List St):∀ top,stepsCodeN vs nh l top=0->0<=(bds l).1/\0<=(bds l).2.1/\0<=(bds l).2.2:=by
 induction l using znx with
 | h l ih =>
 intro top h
 have hm:=xK l top h
 have key:∀ r:List St,(∀ x ∈ r,x ∈ l)->0<=(bds r).1/\0<=(bds r).2.1/\0<=(bds r).2.2:=by
  intro r
  induction r with
  | nil=>intro _;simp[bds]
  | cons x r ihr =>
   intro hx
   have h1:=ihr (fun y hy=>hx y (zpn _ hy))
   obtain⟨last,h2⟩:=hm x (hx x (zpo ..))
   obtain⟨h3,_,_,h4,h5⟩:=qx h2
   have h6:=(ih x (hx x (zpo ..))).1 _ h4
   have h7:=(ih x (hx x (zpo ..))).2 _ h5
   have h8:=h3.cost
   rw[bds,yb]
   split
   .
    rename_i ha
    have h9:=h3.rep ha
    have p1:=zpP h9.1 (show 0<=1+(bds x.thn).1 by omega)
    have p2:=zpP h9.1 h6.2.1
    have p3:=zpP h9.1 (show 0<=x.cost+(bds x.thn).2.2 by omega)
    simp only
    omega
   simp only
   refine⟨by omega,?_,by omega⟩
   split<;>omega
 exact key l (fun x hx=>hx)
theorem zgV {vs:List Vr} {nh:Nat} {l:List St} {top:Bool} (h:stepsCodeN vs nh l top=0) (i:Nat):0<=(bds (l.take i)).1/\0<=(bds (l.take i)).2.1/\0<=(bds (l.take i)).2.2:=by
 have key:∀ r:List St,(∀ x ∈ r,x ∈ l)->0<=(bds r).1/\0<=(bds r).2.1/\0<=(bds r).2.2:=by
  intro r
  induction r with
  | nil=>intro _;simp[bds]
  | cons x r ihr =>
   intro hx
   have h1:=ihr (fun y hy=>hx y (zpn _ hy))
   obtain⟨last,h2⟩:=xK l top h x (hx x (zpo ..))
   have h3:stepsCodeN vs nh [x] true=0\/stepsCodeN vs nh [x] false=0:=by
    cases last
    . right;simp[stepsCodeN,h2]
    left;simp[stepsCodeN,h2]
   have h4:0<=(bds [x]).1/\0<=(bds [x]).2.1/\0<=(bds [x]).2.2:=by rcases h3 with h3 | h3<;>exact yX _ _ h3
   simp only[bds]at h4 ⊢
   omega
 exact key _ (fun x hx=>zri hx)
theorem zaB {vs:List Vr} {nh:Nat} {x:St} {last:Bool} (h:zB vs nh x last=0):0<=(yw x).1/\0<=(yw x).2.1/\0<=(yw x).2.2:=by
 have h3:stepsCodeN vs nh [x] true=0\/stepsCodeN vs nh [x] false=0:=by
  cases last
  . right;simp[stepsCodeN,h]
  left;simp[stepsCodeN,h]
 have h4:0<=(bds [x]).1/\0<=(bds [x]).2.1/\0<=(bds [x]).2.2:=by rcases h3 with h3 | h3<;>exact yX _ _ h3
 simpa[bds] using h4
theorem zaC (vs:List Vr) (nh:Nat) (l:List St):∀ (v:Value) (D:Nat->Prop) (w:World) (top:Bool),stepsCodeN vs nh l top=0->SlR 10 RSt D w v l->sbulk l<=1000000->Calls Tryz.prog 65 #[v] w (Ret fun r w'=>r=.tuple #[.int .i64 (cap 4097 (bds l).1),.int .i64 (cap 9 (bds l).2.1),.int .i64 (cap 67108865 (bds l).2.2)]/\Ext w w'):=by
 induction l using znx with
 | h l ih =>
 intro v D w top dL hl hb
 have em:=hl.max
 obtain⟨av,nv,rfl⟩:=hl.form
 refine znk Tryz.func65 O Tryz.ntmps65 O (Gs 21 O (G.loop (σ:=Nat) (fun i=>[(0,.slice av l.length nv),(5,.int .i64 (cap 4097 (bds (l.take i)).1)),(6,.int .i64 (cap 9 (bds (l.take i)).2.1)),(7,.int .i64 (cap 67108865 (bds (l.take i)).2.2)),(8,.int .i64 i)]) (fun i=>fun w'=>i<=l.length/\Ext w w') (fun i=>l.length - i) (0) (Sub.of O) (⟨zpz _,Keep.refl _ _⟩) ?_))
 rintro i w1 ⟨hi,dg⟩
 replace hl:=Tr1 dg hl
 refine Gs 9 O (zlF O (fun dW=>?_) (fun dW=>?_))
 .
  obtain⟨x,dw,di⟩:=gE_ l (i) (by omega)
  obtain⟨dX,en,eo,dH,_,da,dx⟩:=hl.at dw
  have dI:=RSt.one dx
  obtain⟨dY,dZ,d5,d6,rfl,de,db,dc,df⟩:=dx.get
  obtain⟨d7,d8,rfl⟩:=de.form
  obtain⟨d9,ea,rfl⟩:=db.form
  obtain⟨eb,ec,rfl⟩:=dc.form
  obtain⟨ed,ee,rfl⟩:=df.form
  have dM:dX<_:=zpm _ _ (da 0 _ rfl)
  have hE:=Keep.refl (fun _=>False) w1
  have dJ:=zfj dw
  have dr:(bds (l.take (i+1))).1=(bds (l.take i)).1+(yw x).1:=by rw[dJ]
  have dt:(bds (l.take (i+1))).2.1=(bds (l.take i)).2.1+(yw x).2.1:=by rw[dJ]
  have du:(bds (l.take (i+1))).2.2=(bds (l.take i)).2.2+(yw x).2.2:=by rw[dJ]
  have dh:0<=(bds (l.take i)).1/\0<=(bds (l.take i)).2.1/\0<=(bds (l.take i)).2.2:=zgV dL i
  obtain⟨last,dN⟩:=xK l top dL x di
  obtain⟨hS,_,_,dO,dQ⟩:=qx dN
  have dm:=hS.cost
  have n1:=yX x.thn _ dO
  have n2:=yX x.els _ dQ
  have r1:=zE n1.1 (show (0:Int)<=4097 by decide)
  have r2:=zE n1.2.1 (show (0:Int)<=9 by decide)
  have r3:=zE n1.2.2 (show (0:Int)<=67108865 by decide)
  have r4:=zE n2.1 (show (0:Int)<=4097 by decide)
  have r5:=zE n2.2.1 (show (0:Int)<=9 by decide)
  have r6:=zE n2.2.2 (show (0:Int)<=67108865 by decide)
  have t1:=zE dh.1 (show (0:Int)<=4097 by decide)
  have t2:=zE dh.2.1 (show (0:Int)<=9 by decide)
  have t3:=zE dh.2.2 (show (0:Int)<=67108865 by decide)
  have y:=zaB dN
  have ef:=jg di
  rw[St.bulk_eq]at ef
  refine Gs 8 O (zna O O (zmh tR24 ts72 O O dH (by omega)) (zng O tg72 ts72 da O (zmr O O (M.alloc (cs:=_) tz72 O) ?_)))
  rintro _ wa1 ⟨c,rfl,dK,eg,hY,dk⟩
  refine zmw O (zmx ts72 O O O O dI hY (by simp)) ?_
  rintro ep ⟨_,hY,dy⟩
  replace dk:=dk.trans dy (fun q hq h=>by have h:q=c:=h;omega)
  have dR:_<=c:=zpq hE.size (zrS dK.symm)
  obtain⟨hl,dg,da,de,db,dc,df⟩:=Tr7 dk hl dg da de db dc df
  replace hE:=Tr1 dk hE
  refine Gs 5 O (zne O tg24 (hY.cells 7 _ O) (G.call O Tryz.call65 ((ih x di).1 _ _ _ _ dO db (by omega)) ?_))
  rintro _ wz2 ⟨rfl,dS⟩
  obtain⟨hl,dg,da,de,db,dc,df⟩:=Tr7 dS hl dg da de db dc df
  obtain⟨hE,hY⟩:=Tr2 dS hE hY
  refine Gs 12 O (zne O tg24 (hY.cells 8 _ O) (G.call O Tryz.call65 ((ih x di).2 _ _ _ _ dQ dc (by omega)) ?_))
  rintro _ wz3 ⟨rfl,dT⟩
  obtain⟨hl,dg,da,de,db,dc,df⟩:=Tr7 dT hl dg da de db dc df
  obtain⟨hE,hY⟩:=Tr2 dT hE hY
  refine Gs 10 O (Dw (fun q=>Ext wz3 q) [] (fun wd4 hD _=>?_))
  refine Ds [0,1,4,5,7] (by kernel_rfl) O (WD.take 8 O (by kernel_rfl) O O O hD (fun w1 dl=>R.load tg3 O ((dl.blk hY (fun h=>h)).cells 1 _ O)) (Ds [9,10] (by kernel_rfl) O (WD.call 2 O (by kernel_rfl) O O O (F.call (vs:=[_,_]) tc113 O) (zL _ _ _) ?_)))
  rintro _ wz5 ⟨rfl,eh⟩
  replace hD:=hD.ext eh
  refine⟨fun _=>hD,?_⟩
  refine Da [3] (by kernel_rfl) O (by omega) (WD.call 6 O (by kernel_rfl) O O O (F.call (vs:=[_,_]) tc113 O) (zL _ _ _) ?_)
  rintro _ wz6 ⟨rfl,ei⟩
  replace hD:=hD.ext ei
  refine⟨fun _=>hD,?_⟩
  refine WD.call 11 O (by kernel_rfl) O O O (F.call (vs:=[_,_]) tc113 O) (zL _ _ _) ?_
  rintro _ wz7 ⟨rfl,ej⟩
  replace hD:=hD.ext ej
  refine⟨fun _=>hD,?_⟩
  refine Da [12,13,14,15] (by kernel_rfl) O (by omega) (G.done (by kernel_rfl) ?_ _)
  obtain⟨hl,dg,da,de,db,dc,df⟩:=Tr7 hD hl dg da de db dc df
  obtain⟨hE,hY⟩:=Tr2 hD hE hY
  refine Gs 5 O (zne O tg66 (hY.cells 0 _ O) (Gs 3 O (zlF O (fun a4=>?_) (fun a4=>?_))))
  .
   have hr:=hS.rep a4
   have p1:=qC x.n (1+cap 4097 (bds x.thn).1) 4096 4098 hr.1 hr.2.1 (by omega) (by omega)
   have p2:=qC x.n (cap 9 (bds x.thn).2.1) 4096 9 hr.1 hr.2.1 (by omega) (by omega)
   have p3:=qC x.n (x.cost+cap 67108865 (bds x.thn).2.2) 4096 134217729 hr.1 hr.2.1 (by omega) (by omega)
   have q1:=zpP hr.1 (show 0<=1+(bds x.thn).1 by omega)
   have q2:=zpP hr.1 n1.2.1
   have q3:=zpP hr.1 (show 0<=x.cost+(bds x.thn).2.2 by omega)
   have f1:cap 4097 (1+x.n*(1+cap 4097 (bds x.thn).1))=cap 4097 (yw x).1:=by rw[yb,zpv a4];exact zgU p1.1 q1 (zby hr.1 (by omega) n1.1 (by omega))
   have f2:cap 9 (x.n*cap 9 (bds x.thn).2.1)=cap 9 (yw x).2.1:=by rw[yb,zpv a4];exact zfl hr.1 n1.2.1 (by omega)
   have f3:cap 67108865 (x.n*(x.cost+cap 67108865 (bds x.thn).2.2))=cap 67108865 (yw x).2.2:=by rw[yb,zpv a4];exact zby hr.1 dm.1 n1.2.2 (by omega)
   have z1:0<=1+x.n*(1+cap 4097 (bds x.thn).1):=by omega
   have z2:=p2.1
   have z3:=p3.1
   refine Qt (by kernel_rfl) (Gs 1 O (znf O tg3 (fun w1 dl=>((dl.blk hY (fun h=>h)).cells 3 _ O)) (Ga 5 O (by omega) (znf O tg3 (fun w1 dl=>((dl.blk hY (fun h=>h)).cells 3 _ O)) (Ga 3 O (by omega) (znf O tg3 (fun w1 dl=>((dl.blk hY (fun h=>h)).cells 3 _ O)) (Gs 1 O (znf O tg3 (fun w1 dl=>((dl.blk hY (fun h=>h)).cells 1 _ O)) (Ga 6 O (by omega) (znh (fun wz8 dU=>?_)))))))))))
   obtain⟨hl,dg,da,de,db,dc,df⟩:=Tr7 dU hl dg da de db dc df
   obtain⟨hE,hY⟩:=Tr2 dU hE hY
   refine Gs 5 O (zne O tg66 (hY.cells 0 _ O) (Gs 3 O (zlF O (fun a1=>?_) (fun a1=>?_))))
   . exact absurd a1 (by omega)
   refine Ga 7 O (by omega) (G.call O tc114 (zt _ _ _) ?_)
   rintro _ wz9 ⟨rfl,dV⟩
   obtain⟨hl,dg,da,de,db,dc,df⟩:=Tr7 dV hl dg da de db dc df
   obtain⟨hE,hY⟩:=Tr2 dV hE hY
   refine Ga 8 O (by omega) (G.call O tc114 (zt _ _ _) ?_)
   rintro _ wz10 ⟨rfl,dz⟩
   obtain⟨hl,dg,da,de,db,dc,df⟩:=Tr7 dz hl dg da de db dc df
   obtain⟨hE,hY⟩:=Tr2 dz hE hY
   refine Ga 7 O (by omega) (G.call O tc114 (zt _ _ _) ?_)
   rintro _ wz11 ⟨rfl,dA⟩
   obtain⟨hl,dg,da,de,db,dc,df⟩:=Tr7 dA hl dg da de db dc df
   obtain⟨hE,hY⟩:=Tr2 dA hE hY
   refine Ga 9 O (by omega) (G.back (i+1) (Sub.cons O (Sub.cons (yC O (by rw[dr];exact yh dh.1 y.1 z1 f1)) (Sub.cons (yC O (by rw[dt];exact yh dh.2.1 y.2.1 z2 f2)) (Sub.cons (yC O (by rw[du];exact yh dh.2.2 y.2.2 z3 f3)) (Sub.of O))))) (⟨by omega,dg⟩) (by first | omega | (dsimp only;omega)))
  have f1:cap 4097 (1+max (cap 4097 (bds x.thn).1) (cap 4097 (bds x.els).1))=cap 4097 (yw x).1:=by rw[yb,zpu a4];exact zcT (by omega) n1.1 n2.1
  have f3:cap 67108865 (x.cost+max (cap 67108865 (bds x.thn).2.2) (cap 67108865 (bds x.els).2.2))=cap 67108865 (yw x).2.2:=by rw[yb,zpu a4];exact zcT dm.1 n1.2.2 n2.2.2
  have z1:0<=1+max (cap 4097 (bds x.thn).1) (cap 4097 (bds x.els).1):=by omega
  have z3:0<=x.cost+max (cap 67108865 (bds x.thn).2.2) (cap 67108865 (bds x.els).2.2):=by omega
  refine Gs 6 O (zne O tg66 (hY.cells 0 _ O) (Gs 3 O (zlF O (fun a1=>?_) (fun a1=>?_))))
  .
   have f2:cap 9 1=cap 9 (yw x).2.1:=by rw[yb,zpu a4];simp[a1]
   have z2:(0:Int)<=1:=by decide
   refine Ga 9 O (by omega) (G.call O tc114 (zt _ _ _) ?_)
   rintro _ wz12 ⟨rfl,dB⟩
   obtain⟨hl,dg,da,de,db,dc,df⟩:=Tr7 dB hl dg da de db dc df
   obtain⟨hE,hY⟩:=Tr2 dB hE hY
   refine Ga 8 O (by omega) (G.call O tc114 (zt _ _ _) ?_)
   rintro _ wz13 ⟨rfl,dC⟩
   obtain⟨hl,dg,da,de,db,dc,df⟩:=Tr7 dC hl dg da de db dc df
   obtain⟨hE,hY⟩:=Tr2 dC hE hY
   refine Ga 7 O (by omega) (G.call O tc114 (zt _ _ _) ?_)
   rintro _ wz14 ⟨rfl,dD⟩
   obtain⟨hl,dg,da,de,db,dc,df⟩:=Tr7 dD hl dg da de db dc df
   obtain⟨hE,hY⟩:=Tr2 dD hE hY
   refine Ga 9 O (by omega) (G.back (i+1) (Sub.cons O (Sub.cons (yC O (by rw[dr];exact yh dh.1 y.1 z1 f1)) (Sub.cons (yC O (by rw[dt];exact yh dh.2.1 y.2.1 z2 f2)) (Sub.cons (yC O (by rw[du];exact yh dh.2.2 y.2.2 z3 f3)) (Sub.of O))))) (⟨by omega,dg⟩) (by first | omega | (dsimp only;omega)))
  have f2:cap 9 (max (cap 9 (bds x.thn).2.1) (cap 9 (bds x.els).2.1))=cap 9 (yw x).2.1:=by rw[yb,zpu a4];simp only[a1,if_false];exact zfk n1.2.1 n2.2.1
  have z2:0<=max (cap 9 (bds x.thn).2.1) (cap 9 (bds x.els).2.1):=by omega
  refine Ga 7 O (by omega) (G.call O tc114 (zt _ _ _) ?_)
  rintro _ wz15 ⟨rfl,dE⟩
  obtain⟨hl,dg,da,de,db,dc,df⟩:=Tr7 dE hl dg da de db dc df
  obtain⟨hE,hY⟩:=Tr2 dE hE hY
  refine Ga 8 O (by omega) (G.call O tc114 (zt _ _ _) ?_)
  rintro _ wz16 ⟨rfl,dF⟩
  obtain⟨hl,dg,da,de,db,dc,df⟩:=Tr7 dF hl dg da de db dc df
  obtain⟨hE,hY⟩:=Tr2 dF hE hY
  refine Ga 7 O (by omega) (G.call O tc114 (zt _ _ _) ?_)
  rintro _ wz17 ⟨rfl,dG⟩
  obtain⟨hl,dg,da,de,db,dc,df⟩:=Tr7 dG hl dg da de db dc df
  obtain⟨hE,hY⟩:=Tr2 dG hE hY
  refine Ga 9 O (by omega) (G.back (i+1) (Sub.cons O (Sub.cons (yC O (by rw[dr];exact yh dh.1 y.1 z1 f1)) (Sub.cons (yC O (by rw[dt];exact yh dh.2.1 y.2.1 z2 f2)) (Sub.cons (yC O (by rw[du];exact yh dh.2.2 y.2.2 z3 f3)) (Sub.of O))))) (⟨by omega,dg⟩) (by first | omega | (dsimp only;omega)))
 have ek:i=l.length:=by omega
 subst ek
 refine Gs 16 O (zm1 Tryz.results65 O O O ⟨_,rfl,by rw[zpp],dg⟩)
open Go.GL
theorem qR (m:Nat) (n:Int) (d:Bool) (w:World) (hY:Blk w m [.int .i64 n,.bool d] 189):Calls Tryz.prog 119 #[.pointer (some ⟨m,0,none⟩)] w (Ret fun r w'=>r=.bool (d || decide (1024<n))/\Ext w w'):=by
 have hE:=Keep.refl (fun _=>False) w
 refine znk Tryz.func119 O Tryz.ntmps119 O (Gs 10 O (zne O tg4 (hY.cells 1 _ O) (Gs 1 O (zn8 7 O (fun hd=>?_) (fun hd=>?_)))))
 . refine Gs 10 O (zlV Tryz.results119 O ⟨_,rfl,by rw[hd]<;>simp,hE⟩)
 refine Gs 3 O (zne O tg3 (hY.cells 0 _ O) (Gs 6 O (zlV Tryz.results119 O ⟨_,rfl,by rw[hd]<;>simp,hE⟩)))
theorem zbz (t:Tm):∀ (cs:List Value) (D:Nat->Prop) (w:World) (m:Nat) (n:Int) (d:Bool) (dep:Int),RTm D w t cs->(∀ q,D q->q ≠ m)->Blk w m [.int .i64 n,.bool d] 189->0<=n->n+t.nodes<=1024->1<=dep->dep<=13->Calls Tryz.prog 120 #[.pointer (some ⟨m,0,none⟩),.agg cs.toArray,.int .i64 dep] w (Ret fun u w'=>u=.tuple #[]/\(∃ n':Int,n<=n'/\n'<=n+t.nodes/\Blk w' m [.int .i64 n',.bool (d || decide (12<dep+t.depth - 1))] 189)/\Keep (fun q=>q=m) w w'):=by
 induction t using znv with
 | h t ih =>
 intro cs D w m n d dep ht DM hY hn dV dW dX
 obtain⟨v,rfl,hk⟩:=ht.get
 obtain⟨av,nv,rfl⟩:=hk.form
 have hX:=Keep.refl (fun q=>q=m) w
 have dY:=t.nodes_eq
 have dZ:=t.depth_eq
 refine znm Tryz.func120 O Tryz.ntmps120 O (Gs 2 O (zmr O O (M.box O O) ?_))
 rintro _ d5 ⟨b,rfl,dD,dE,da,dt⟩
 have db:m ≠ b:=by have:=hY.lt;omega
 obtain⟨hX,hY,hk⟩:=Tr3 dt hX hY hk
 refine Gs 7 O (zne O tg3 (hY.cells 0 _ O) (Ga 3 O (by omega) (zmw O (M.store ts3 O O O O hY (by simp)) ?_)))
 rintro ws1 ⟨_,hY,du⟩
 replace hX:=hX.trans du (fun q hq h=>h)
 replace hk:=hk.keep zh du (fun q hd hq h=>DM q hd h)
 replace da:=du.blk da (fun h=>db h.symm)
 refine Gs 3 O ?_
 have hC:=Keep.refl (fun q=>q=m) ws1
 refine zlQ (σ:=Unit) (fun u=>[(0,.pointer (some ⟨m,0,none⟩)),(2,.int .i64 dep),(4,.pointer (some ⟨b,0,none⟩))]) (fun u=>fun w'=>Blk w' m [.int .i64 (n+1),.bool (d || decide (12<dep))] 189/\Keep (fun q=>q=m) ws1 w') ?_ ?_
 .
  refine Gs 5 O (zne O tg4 (hY.cells 1 _ O) (Gs 1 O (zn8 20 O (fun hd=>?_) (fun hd=>?_))))
  .
   refine Gs 5 O (zmw O (M.store ts4 O O O O hY (by simp)) ?_)
   rintro ws2 ⟨_,hY,de⟩
   replace hX:=hX.trans de (fun q hq h=>h)
   replace hk:=hk.keep zh de (fun q hd hq h=>DM q hd h)
   replace da:=de.blk da (fun h=>db h.symm)
   replace hC:=hC.trans de (fun q hq h=>h)
   refine Gs 1 O (zlS (()) (Sub.of O) (⟨by rw[hd]at hY ⊢;exact hY,hC⟩))
  refine Gs 5 O (zmw O (M.store ts4 O O O O hY (by simp)) ?_)
  rintro ws2 ⟨_,hY,de⟩
  replace hX:=hX.trans de (fun q hq h=>h)
  replace hk:=hk.keep zh de (fun q hd hq h=>DM q hd h)
  replace da:=de.blk da (fun h=>db h.symm)
  replace hC:=hC.trans de (fun q hq h=>h)
  refine Gs 1 O (zlS (()) (Sub.of O) (⟨by rw[hd]at hY ⊢;exact hY,hC⟩))
 rintro u x2 ⟨hY,dw⟩
 replace hX:=hX.trans dw (fun q hq h=>h)
 replace hk:=hk.keep zh dw (fun q hd hq h=>DM q hd h)
 replace da:=dw.blk da (fun h=>db h.symm)
 refine Gs 5 O (G.call O Tryz.call119 (qR m _ _ _ hY) ?_)
 rintro _ wz1 ⟨rfl,dF⟩
 obtain⟨hX,hk,da,hY⟩:=Tr4 dF hX hk da hY
 have ho:decide (1024<n+1)=false:=zpx (by omega)
 rw[ho,zq9]
 refine Gs 2 O (G.bool O (fun dl=>?_) (fun dl=>?_))
 .
  refine Gs 2 O (zm9 Tryz.results120 ⟨_,rfl,rfl,⟨n+1,by omega,by omega,?_⟩,hX⟩)
  have:(d || decide (12<dep+(t.depth:Int) - 1))=(d || decide (12<dep)):=by
   rw[dl];revert dl;cases d<;>simp;omega
  rw[this];exact hY
 have dG:d=false/\¬ 12<dep:=by revert dl;cases d<;>simp
 have dx:(d || decide (12<dep+(t.depth:Int) - 1))=decide (12<dep+(tdepth t.kids:Int)):=by
  rw[dG.1,zq3,zpM];omega
 rw[dl]at hY
 have dH:=zbh t.kids
 refine Gs 5 O (zne O tg68 (da.cells 2 _ O) (Gs 5 O (G.loop (σ:=Nat) (fun i=>[(0,.pointer (some ⟨m,0,none⟩)),(2,.int .i64 dep),(29,.slice av t.kids.length nv),(30,.int .i64 t.kids.length),(31,.int .i64 i)]) (fun i=>fun w'=>i<=t.kids.length/\(∃ n':Int,n<=n'/\n'<=n+1+tnodes (t.kids.take i)/\Blk w' m [.int .i64 n',.bool (decide (12<dep+(tdepth (t.kids.take i):Int)))] 189)/\SlR 3 RTm D w' (.slice av t.kids.length nv) t.kids/\Keep (fun q=>q=m) w w') (fun i=>t.kids.length - i) (0) (Sub.of O) (⟨zpz _,⟨n+1,by omega,by simp[tnodes],by rw[show decide (12<dep+(tdepth (t.kids.take 0):Int))=false from zpx (by simp[tdepth];omega)];exact hY⟩,hk,hX⟩) ?_)))
 rintro i w5 ⟨hi,⟨n',dI,dJ,hY⟩,hk,hX⟩
 refine Gs 6 O (zlF O (fun dK=>?_) (fun dK=>?_))
 .
  obtain⟨x,df,dy⟩:=gE_ t.kids (i) (by omega)
  obtain⟨dL,d6,d7,dz,_,dg,dm⟩:=hk.at df
  have dA:=RTm.one dm
  obtain⟨dM,rfl,dh⟩:=dm.get
  obtain⟨dN,dO,rfl⟩:=dh.form
  have dB:dL<_:=zpm _ _ (dg 0 _ rfl)
  have d8:=xF df
  have d9:=jU df
  have dQ:=zbd df
  refine Gs 6 O (zna O O (zmh tR68 ts70 O O dz (by omega)) (zng O tg70 ts70 dg O (zmr O O (M.alloc (cs:=_) tz70 O) ?_)))
  rintro _ wa2 ⟨c,rfl,dR,dS,dc,di⟩
  refine zmw O (zmx ts70 O O O O dA dc (by simp)) ?_
  rintro ea ⟨_,dc,dr⟩
  replace di:=di.trans dr (fun q hq h=>by have h:q=c:=h;omega)
  have dk:m ≠ c:=by have:=hY.lt;omega
  obtain⟨hX,hY,hk,dg,dh⟩:=Tr5 di hX hY hk dg dh
  refine Gs 4 O (zng O tg70 ts70 dc.cells O (Ga 2 O (by omega) (G.call O Tryz.call120 (ih x dy _ _ _ m n' _ (dep+1) (RTm.put dh) DM hY (by omega) (by omega) (by omega) (by omega)) ?_)))
  rintro _ w6 ⟨rfl,⟨n2,h1,h2,dC⟩,hz⟩
  replace hX:=hX.trans hz (fun q hq h=>h)
  replace hk:=hk.keep zh hz (fun q hd hq h=>DM q hd h)
  replace dc:=hz.blk dc (fun h=>dk h.symm)
  refine Ga 7 O (by omega) (G.back (i+1) (Sub.of O) (⟨by omega,⟨n2,by omega,by omega,?_⟩,hk,hX⟩) (by first | omega | (dsimp only;omega)))
  have dT:(decide (12<dep+(tdepth (t.kids.take i):Int)) || decide (12<dep+1+(x.depth:Int) - 1))=decide (12<dep+(tdepth (t.kids.take (i+1)):Int)):=by
   rw[dQ,<- Bool.decide_or,zpM];omega
  rw[dT]at dC
  exact dC
 have dU:i=t.kids.length:=by omega
 subst dU
 rw[zpp]at dJ hY
 refine Gs 4 O (zm9 Tryz.results120 ⟨_,rfl,rfl,⟨n',dI,by omega,by rw[dx];exact hY⟩,hX⟩)
def qk (dep:Int) (l:List St):Bool:=decide (12<dep+sdepth l - 1) || stdeep l
theorem zfZ {l:List St} {x:St} (h:x ∈ l):1<=sdepth l:=by
 obtain⟨i,hi⟩:=zre.1 h
 conv=>rhs;rw[yy hi]
 rw[qJ,sdepth,St.depth_eq];omega
theorem zg0 {dep:Int} {l:List St} {i:Nat} (h:qk dep (l.take i)=true):qk dep l=true:=by
 unfold qk at *
 have h1:sdepth (l.take i)<=sdepth l:=by
  conv=>rhs;rw[<- zrD i l]
  rw[qJ];omega
 have h2:stdeep (l.take i)=true->stdeep l=true:=by
  intro h
  rw[<- zrD i l,qK,h];rfl
 rw[zq8,decide_eq_true_eq]at *
 rcases h with h | h
 . left;omega
 exact .inr (h2 h)
theorem zdL (l:List St):∀ (v:Value) (D:Nat->Prop) (w:World) (m:Nat) (n:Int) (d:Bool) (dep:Int),SlR 10 RSt D w v l->(∀ q,D q->q ≠ m)->Blk w m [.int .i64 n,.bool d] 189->0<=n->n+snodes l<=1024->1<=dep->dep<=13->Calls Tryz.prog 118 #[.pointer (some ⟨m,0,none⟩),v,.int .i64 dep] w (Ret fun u w'=>u=.tuple #[]/\(∃ n':Int,n<=n'/\n'<=n+snodes l/\Blk w' m [.int .i64 n',.bool (d || qk dep l)] 189)/\Keep (fun q=>q=m) w w'):=by
 induction l using znx with
 | h l ih =>
 intro v D w m n d dep hl DM hY hn d8 d9 ea
 have eb:=hl.max
 obtain⟨av,nv,rfl⟩:=hl.form
 have hX:=Keep.refl (fun q=>q=m) w
 have dG:=zcJ l
 have dH:(d || qk dep (l.take 0))=d:=by
  have:qk dep (l.take 0)=false:=by unfold qk;simp[sdepth,stdeep];omega
  rw[this,zq9]
 refine znm Tryz.func118 O Tryz.ntmps118 O (Gs 8 O (G.loop (σ:=Nat) (fun i=>[(0,.pointer (some ⟨m,0,none⟩)),(2,.int .i64 dep),(8,.slice av l.length nv),(9,.int .i64 l.length),(10,.int .i64 i)]) (fun i=>fun w'=>i<=l.length/\(∃ n':Int,n<=n'/\n'<=n+snodes (l.take i)/\Blk w' m [.int .i64 n',.bool (d || qk dep (l.take i))] 189)/\SlR 10 RSt D w' (.slice av l.length nv) l/\Keep (fun q=>q=m) w w') (fun i=>l.length - i) (0) (Sub.of O) (⟨zpz _,⟨n,by omega,by simp[snodes],by rw[dH];exact hY⟩,hl,hX⟩) ?_))
 rintro i w5 ⟨hi,⟨n',dI,dC,hY⟩,hl,hX⟩
 refine Gs 6 O (zlF O (fun dJ=>?_) (fun dJ=>?_))
 .
  obtain⟨x,di,dr⟩:=gE_ l (i) (by omega)
  obtain⟨dK,ec,ed,dA,_,dk,dy⟩:=hl.at di
  have dB:=RSt.one dy
  obtain⟨dL,dM,dN,dO,rfl,db,dc,de,df⟩:=dy.get
  obtain⟨dQ,dR,rfl⟩:=db.form
  obtain⟨dS,dT,rfl⟩:=dc.form
  obtain⟨dU,dV,rfl⟩:=de.form
  obtain⟨dW,dX,rfl⟩:=df.form
  have dD:dK<_:=zpm _ _ (dk 0 _ rfl)
  have ee:=qq di
  have ef:=zbe di
  have eg:=x.nodes_eq
  refine Gs 6 O (zna O O (zmh tR24 ts72 O O dA (by omega)) (zng O tg72 ts72 dk O (zmr O O (M.alloc (cs:=_) tz72 O) ?_)))
  rintro _ wa1 ⟨c,rfl,dY,dZ,da,dl⟩
  refine zmw O (zmx ts72 O O O O dB da (by simp)) ?_
  rintro eh ⟨_,da,dz⟩
  replace dl:=dl.trans dz (fun q hq h=>by have h:q=c:=h;omega)
  have dg:m ≠ c:=by have:=hY.lt;omega
  obtain⟨hX,hY,hl,dk,db,dc,de⟩:=Tr7 dl hX hY hl dk db dc de
  replace df:=Tr1 dl df
  refine Gs 7 O (zne O tg3 (hY.cells 0 _ O) (Ga 3 O (by omega) (zmw O (M.store ts3 O O O O hY (by simp)) ?_)))
  rintro ws1 ⟨_,hY,dt⟩
  replace hX:=hX.trans dt (fun q hq h=>h)
  replace hl:=hl.keep zd dt (fun q hd hq h=>DM q hd h)
  replace db:=db.keep zh dt (fun q hd hq h=>DM q hd h)
  replace dc:=dc.keep zd dt (fun q hd hq h=>DM q hd h)
  replace de:=de.keep zd dt (fun q hd hq h=>DM q hd h)
  replace df:=df.keep zb dt (fun q hd hq h=>DM q hd h)
  replace da:=dt.blk da (fun h=>dg h.symm)
  refine Gs 3 O ?_
  have hC:=Keep.refl (fun q=>q=m) ws1
  refine zlQ (σ:=Unit) (fun u=>[(0,.pointer (some ⟨m,0,none⟩)),(2,.int .i64 dep),(7,.pointer (some ⟨c,0,none⟩)),(8,.slice av l.length nv),(9,.int .i64 l.length),(10,.int .i64 i)]) (fun u=>fun w'=>Blk w' m [.int .i64 (n'+1),.bool ((d || qk dep (l.take i)) || decide (12<dep))] 189/\Keep (fun q=>q=m) ws1 w') ?_ ?_
  .
   refine Gs 5 O (zne O tg4 (hY.cells 1 _ O) (Gs 1 O (zn8 26 O (fun hd=>?_) (fun hd=>?_))))
   .
    refine Gs 5 O (zmw O (M.store ts4 O O O O hY (by simp)) ?_)
    rintro ws2 ⟨_,hY,dh⟩
    replace hX:=hX.trans dh (fun q hq h=>h)
    replace hl:=hl.keep zd dh (fun q hd hq h=>DM q hd h)
    replace db:=db.keep zh dh (fun q hd hq h=>DM q hd h)
    replace dc:=dc.keep zd dh (fun q hd hq h=>DM q hd h)
    replace de:=de.keep zd dh (fun q hd hq h=>DM q hd h)
    replace df:=df.keep zb dh (fun q hd hq h=>DM q hd h)
    replace da:=dh.blk da (fun h=>dg h.symm)
    replace hC:=hC.trans dh (fun q hq h=>h)
    refine Gs 1 O (zlS (()) (Sub.of O) (⟨by rw[hd]at hY ⊢;exact hY,hC⟩))
   refine Gs 5 O (zmw O (M.store ts4 O O O O hY (by simp)) ?_)
   rintro ws2 ⟨_,hY,dh⟩
   replace hX:=hX.trans dh (fun q hq h=>h)
   replace hl:=hl.keep zd dh (fun q hd hq h=>DM q hd h)
   replace db:=db.keep zh dh (fun q hd hq h=>DM q hd h)
   replace dc:=dc.keep zd dh (fun q hd hq h=>DM q hd h)
   replace de:=de.keep zd dh (fun q hd hq h=>DM q hd h)
   replace df:=df.keep zb dh (fun q hd hq h=>DM q hd h)
   replace da:=dh.blk da (fun h=>dg h.symm)
   replace hC:=hC.trans dh (fun q hq h=>h)
   refine Gs 1 O (zlS (()) (Sub.of O) (⟨by rw[hd]at hY ⊢;exact hY,hC⟩))
  rintro u x2 ⟨hY,du⟩
  replace hX:=hX.trans du (fun q hq h=>h)
  replace hl:=hl.keep zd du (fun q hd hq h=>DM q hd h)
  replace db:=db.keep zh du (fun q hd hq h=>DM q hd h)
  replace dc:=dc.keep zd du (fun q hd hq h=>DM q hd h)
  replace de:=de.keep zd du (fun q hd hq h=>DM q hd h)
  replace df:=df.keep zb du (fun q hd hq h=>DM q hd h)
  replace da:=du.blk da (fun h=>dg h.symm)
  refine Gs 5 O (G.call O Tryz.call119 (qR m _ _ _ hY) ?_)
  rintro _ wz2 ⟨rfl,dE⟩
  obtain⟨hX,hl,db,dc,de,df,da⟩:=Tr7 dE hX hl db dc de df da
  replace hY:=Tr1 dE hY
  have ho:decide (1024<n'+1)=false:=zpx (by omega)
  rw[ho,zq9]
  refine Gs 2 O (G.bool O (fun dm=>?_) (fun dm=>?_))
  .
   refine Gs 6 O (zm9 Tryz.results118 ⟨_,rfl,rfl,⟨n'+1,by omega,by omega,?_⟩,hX⟩)
   have:(d || qk dep l)=((d || qk dep (l.take i)) || decide (12<dep)):=by
    rw[dm]
    simp only[zq8,decide_eq_true_eq]at dm ⊢
    rcases dm with (h | h) | h
    . exact .inl h
    . exact .inr (zg0 h)
    right;unfold qk;rw[zpw (by have:=zfZ dr;omega)];rfl
   rw[this];exact hY
  rw[dm]at hY
  simp only[zq7,decide_eq_false_iff_not]at dm
  refine Gs 6 O (zng O tg70 ts70 (da.cells.sub 4 3) O (G.call O Tryz.call120 (zbz x.term _ D _ m _ _ 1 (RTm.put db) DM hY (by omega) (by omega) (by omega) (by omega)) ?_))
  rintro _ w6 ⟨rfl,⟨n2,h1,h2,d5⟩,hz⟩
  replace hX:=hX.trans hz (fun q hq h=>h)
  replace hl:=hl.keep zd hz (fun q hd hq h=>DM q hd h)
  replace db:=db.keep zh hz (fun q hd hq h=>DM q hd h)
  replace dc:=dc.keep zd hz (fun q hd hq h=>DM q hd h)
  replace de:=de.keep zd hz (fun q hd hq h=>DM q hd h)
  replace df:=df.keep zb hz (fun q hd hq h=>DM q hd h)
  replace da:=hz.blk da (fun h=>dg h.symm)
  refine Gs 6 O (zne O tg24 (da.cells 7 _ O) (Ga 2 O (by omega) (G.call O Tryz.call118 ((ih x dr).1 _ D _ m _ _ (dep+1) dc DM d5 (by omega) (by omega) (by omega) (by omega)) ?_)))
  rintro _ w7 ⟨rfl,⟨n3,h3,h4,d6⟩,dw⟩
  replace hX:=hX.trans dw (fun q hq h=>h)
  replace hl:=hl.keep zd dw (fun q hd hq h=>DM q hd h)
  replace db:=db.keep zh dw (fun q hd hq h=>DM q hd h)
  replace dc:=dc.keep zd dw (fun q hd hq h=>DM q hd h)
  replace de:=de.keep zd dw (fun q hd hq h=>DM q hd h)
  replace df:=df.keep zb dw (fun q hd hq h=>DM q hd h)
  replace da:=dw.blk da (fun h=>dg h.symm)
  refine Gs 5 O (zne O tg24 (da.cells 8 _ O) (Ga 2 O (by omega) (G.call O Tryz.call118 ((ih x dr).2 _ D _ m _ _ (dep+1) de DM d6 (by omega) (by omega) (by omega) (by omega)) ?_)))
  rintro _ w8 ⟨rfl,⟨n4,h5,h6,dF⟩,dx⟩
  replace hX:=hX.trans dx (fun q hq h=>h)
  replace hl:=hl.keep zd dx (fun q hd hq h=>DM q hd h)
  replace db:=db.keep zh dx (fun q hd hq h=>DM q hd h)
  replace dc:=dc.keep zd dx (fun q hd hq h=>DM q hd h)
  replace de:=de.keep zd dx (fun q hd hq h=>DM q hd h)
  replace df:=df.keep zb dx (fun q hd hq h=>DM q hd h)
  replace da:=dx.blk da (fun h=>dg h.symm)
  refine Ga 7 O (by omega) (G.back (i+1) (Sub.of O) (⟨by omega,⟨n4,by omega,by omega,?_⟩,hl,hX⟩) (by first | omega | (dsimp only;omega)))
  have hb:(((false || decide (12<1+(x.term.depth:Int) - 1)) || qk (dep+1) x.thn) || qk (dep+1) x.els)=(d || qk dep (l.take (i+1))):=by
   have h9:=dm.1.2
   unfold qk at h9 ⊢
   rw[zq7,decide_eq_false_iff_not]at h9
   rw[dm.1.1,zbf di,zbg di,h9.2,St.tdeep_eq,St.depth_eq,zq0]
   simp only[zq8,decide_eq_true_eq,zq3]
   have ei:∀ a b c d e:Prop,True:=fun _ _ _ _ _=>trivial
   generalize stdeep x.thn=q1
   generalize stdeep x.els=q2
   cases q1<;>cases q2<;>simp<;>omega
  rw[hb]at dF
  exact dF
 have d7:i=l.length:=by omega
 subst d7
 rw[zpp]at dC hY
 refine Gs 4 O (zm9 Tryz.results118 ⟨_,rfl,rfl,⟨n',dI,dC,hY⟩,hX⟩)
end Go.Proofs.YtckdhgbepmpgiaaGreat
