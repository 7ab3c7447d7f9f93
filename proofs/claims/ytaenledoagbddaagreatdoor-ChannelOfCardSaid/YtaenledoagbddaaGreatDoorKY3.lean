/-
  Contracts and the mathematics that the proof needs. Nothing here is a claim.
-/
import Derived.Test.YtaenledoagbddaaGreatDoorKY2
namespace Go.Proofs.YtaenledoagbddaaGreatDoor
open Go.GL
mutual
/-- The range of a term whose nodes all lie within the limit. -/
def rng (vs:List Vr):Tm->Option Rg
 | .mk op n ks=>(jT vs ks).bind fun l=>if okR (zj vs op n l) then some (zj vs op n l) else none
def jT (vs:List Vr):List Tm->Option (List Rg)
 | []=>some []
 | k::r=>(rng vs k).bind fun x=>(jT vs r).map fun l=>x::l
end
section
variable {vs:List Vr}
theorem zau (t:Tm):rng vs t=(jT vs t.kids).bind fun l=>if okR (zj vs t.op t.n l) then some (zj vs t.op t.n l) else none:=by cases t;rw [rng];rfl
theorem zav (a b:List Tm):jT vs (a++b)=(jT vs a).bind fun l=>(jT vs b).map fun m=>l++m:=by
 induction a with
 | nil=>simp [jT]
 | cons x r ih =>
  simp only [List.cons_append,jT,ih]
  cases rng vs x <;> cases jT vs r <;> cases jT vs b <;> simp
theorem zcu {l:List Tm} {i:Nat} {x:Tm} {m:List Rg} {r:Rg} (h:l[i]?=some x) (h1:jT vs (l.take i)=some m) (h2:rng vs x=some r):jT vs (l.take (i+1))=some (m++[r]):=by
 rw [zg h,zav,h1];simp [jT,h2]
theorem zcv {l:List Tm} {i:Nat} {x:Tm} (h:l[i]?=some x) (h2:rng vs x=none):jT vs l=none:=by
 rw [yI h,zav]
 cases jT vs (l.take i) <;> simp [jT,h2]
theorem xH:∀ (l:List Tm) (m:List Rg),jT vs l=some m->m.length=l.length
 | [],m,h=>by simp [jT] at h;subst h;rfl
 | x::r,m,h=>by
  simp only [jT,Option.bind_eq_some_iff,Option.map_eq_some_iff] at h
  obtain⟨y,_,z,h2,rfl⟩:=h
  simp [xH r z h2]
theorem qQ:∀ (l:List Tm) (m:List Rg),jT vs l=some m->∀ r ∈ m,∃ t ∈ l,rng vs t=some r
 | [],m,h,r,hr=>by simp [jT] at h;subst h;simp at hr
 | x::l,m,h,r,hr=>by
  simp only [jT,Option.bind_eq_some_iff,Option.map_eq_some_iff] at h
  obtain⟨y,h1,z,h2,rfl⟩:=h
  rcases zo9.1 hr with rfl | hr
  . exact⟨x,znX ..,h1⟩
  ·
   obtain⟨t,h3,h4⟩:=qQ l z h2 r hr
   exact⟨t,znW _ h3,h4⟩
theorem zdN (x:Rg) (h:x.1<=x.2):∀ l:List Rg,(yE x l).1<=x.1/\x.2<=(yE x l).2:=by
 intro l
 induction l generalizing x with
 | nil=>simp [yE]
 | cons y r ih =>
  have:=ih (min x.1 y.1,max x.2 y.2) (by dsimp only;omega)
  simp only [yE,List.foldl_cons] at this ⊢
  constructor <;> omega
theorem zf9 {l:List Rg} {i:Nat} (h:i<l.length):at2 l i ∈ l:=by
 unfold at2
 rw [znT h]
 exact List.getElem_mem h
theorem zgN {n:Int} (hv:∀ v ∈ vs,yp (v.low,v.high)) (hn:0<=n/\n<vs.length):yp (vat vs n):=by
 unfold vat
 rw [znT (show n.toNat<vs.length by omega)]
 exact hv _ (List.getElem_mem _)
theorem zfa {op n:Int} {l:List Rg} (h:NodeOk vs op n l):(zj vs op n l).1<=(zj vs op n l).2:=by
 have hg:∀ i,i<l.length->yp (at2 l i):=fun i hi=>h.good _ (zf9 hi)
 unfold yp at hg
 unfold zj
 split
 . exact Int.le_refl _
 split
 . rename_i h1 h2;exact (zgN h.vars (h.var h2)).2.1
 split
 . rename_i h1 h2 h3;have:=h.k1 (.inl h3);have:=hg 0 (by omega);dsimp only;omega
 split
 . have:=h.k2 (by omega);have:=hg 0 (by omega);have:=hg 1 (by omega);dsimp only;omega
 split
 . have:=h.k2 (by omega);have:=hg 0 (by omega);have:=hg 1 (by omega);dsimp only;omega
 split
 ·
  have:=zdN ((at2 l 0).1*(at2 l 1).1,(at2 l 0).1*(at2 l 1).1) (Int.le_refl _) [((at2 l 0).1*(at2 l 1).2,(at2 l 0).1*(at2 l 1).2),((at2 l 0).2*(at2 l 1).1,(at2 l 0).2*(at2 l 1).1),((at2 l 0).2*(at2 l 1).2,(at2 l 0).2*(at2 l 1).2)]
  unfold xn
  exact Int.le_trans this.1 this.2
 split
 . have:=h.k2 (by omega);have:=hg 0 (by omega);dsimp only;split <;> omega
 split
 . have:=h.k2 (by omega);have:=hg 1 (by omega);dsimp only;split <;> split <;> omega
 split
 . have:=h.k2 (by omega);have:=hg 0 (by omega);have:=hg 1 (by omega);dsimp only;omega
 split
 . have:=h.k2 (by omega);have:=hg 0 (by omega);have:=hg 1 (by omega);dsimp only;omega
 split
 ·
  rename_i hk
  have:=h.k3 hk;have h2:=hg 1 (by omega)
  have:=zdN (at2 l 1) h2.2.1 (l.drop 2)
  omega
 . decide
theorem qR {inp:Bool} (hv:∀ v ∈ vs,yp (v.low,v.high)) (t:Tm):zw vs inp t=true->∀ r,rng vs t=some r->yp r:=by
 induction t using zlF with
 | h t ih =>
  intro hf r hr
  rw [yC,Bool.and_eq_true,Bool.and_eq_true] at hf
  rw [zau,Option.bind_eq_some_iff] at hr
  obtain⟨l,h1,h2⟩:=hr
  have hn:NodeOk vs t.op t.n l:=qC (xH _ _ h1) hf.1.1 hf.1.2 (fun x hx=>by
   obtain⟨k,hk,hkx⟩:=qQ _ _ h1 x hx
   exact ih k hk (yc hf.2 hk) x hkx) hv
  have:=zfa hn
  split at h2
  ·
   rename_i hok
   cases h2
   have:=of_decide_eq_true hok
   exact⟨this.1,by omega,this.2⟩
  . cases h2
end
theorem zfb (vs:List Vr) (inp:Bool) (vv:Value) (Dv:Nat->Prop) (hvb:∀ v ∈ vs,yp (v.low,v.high)) (t:Tm):∀ (cs:List Value) (D:Nat->Prop) (w:World),SlR 5 RVr Dv w vv vs->RTm D w t cs->zw vs inp t=true->t.nodes<=1000000 ->
  Calls Tryz.prog 198 #[vv,.agg cs.toArray] w (Ret fun r w'=>(∃ a b:Int,r=.tuple #[.agg #[.int .i64 a,.int .i64 b],.bool (rng vs t).isSome]/\∀ x,rng vs t=some x->(a,b)=x)/\Ext w w'):=by
 induction t using zlF with
 | h t ih =>
 intro cs D w hvs ht hf hsz
 have hft:=hf
 rw [yC,Bool.and_eq_true,Bool.and_eq_true] at hf
 have hlen:=zal t.kids
 have hse:=t.nodes_eq
 obtain⟨v,rfl,hk⟩:=ht.get
 obtain⟨ao,cap,rfl⟩:=hk.form
 obtain⟨av,nv,rfl⟩:=hvs.form
 have hE:=Keep.refl (fun _=>False) w
 refine zmb Tryz.func198 O Tryz.ntmps198 O (Gs 2 O (G.mem O O (M.box O O) ?_))
 rintro _ w_b ⟨b,rfl,hg_b,hs_b,hB_b,hk_b⟩
 have hge_b:_<=b:=znZ hE.size (Nat.le_of_eq hg_b.symm)
 obtain⟨hE,hvs,hk⟩:=Tr3 hk_b hE hvs hk
 refine G.mem O O (M.alloc (cs:=_) tz226 O) ?_
 rintro _ w_r ⟨r,rfl,hg_r,hs_r,hB_r,hk_r⟩
 have hn_b_r:b ≠ r:=by have:=hB_b.lt;omega
 have hge_r:_<=r:=znZ hE.size (Nat.le_of_eq hg_r.symm)
 obtain⟨hE,hvs,hk,hB_b⟩:=Tr4 hk_r hE hvs hk hB_b
 refine Gs 12 O (zm5 O tg84 (hB_b.cells 2 _ O) (Gs 5 O (G.loop (σ:=Nat × List Rg × Value) (fun⟨i,l,vk⟩=>[(0,.slice av vs.length nv),(3,.pointer (some ⟨b,0,none⟩)),(4,.pointer (some ⟨r,0,none⟩)),(6,vk),(13,.slice ao t.kids.length cap),(14,.int .i64 t.kids.length),(15,.int .i64 i)]) (fun⟨i,l,vk⟩=>fun w'=>i<=t.kids.length/\jT vs (t.kids.take i)=some l/\w'.ownsRow 0 226 2 vk l.length (l.flatMap ziP)/\(∀ q,vk.ownBlock=some q->w_r.heap.size<=q)/\Ext w_r w') (fun⟨i,l,vk⟩=>t.kids.length - i) ((0,[],.slice none 0 0)) (zlO O) (⟨zo8 _,rfl,za5 _ _ _,fun q hq=>by simp [Value.ownBlock] at hq,Keep.refl _ _⟩) ?_)))
 rintro⟨i,l,vk⟩ w1 ⟨hi,hl,hown,hfr,hL1⟩
 show G _ _ _ _ _ [(0,.slice av vs.length nv),(3,.pointer (some ⟨b,0,none⟩)),(4,.pointer (some ⟨r,0,none⟩)),(6,vk),(13,.slice ao t.kids.length cap),(14,.int .i64 t.kids.length),(15,.int .i64 i)] _
 obtain⟨hE,hvs,hk,hB_b,hB_r⟩:=Tr5 hL1 hE hvs hk hB_b hB_r
 refine Gs 6 O (zk6 O (fun hlt=>?_) (fun hlt=>?_))
 ·
  obtain⟨k,he_k,hm_k⟩:=gE_ t.kids (i) (by omega)
  obtain⟨b_k,o_k,c_k,ha_k,_,hc_k,hR_k⟩:=hk.at he_k
  have h1_k:=RTm.one hR_k
  obtain⟨v1_k,rfl,hk_k⟩:=hR_k.get
  obtain⟨a1_k,n1_k,rfl⟩:=hk_k.form
  have hlt_k:b_k<_:=znV _ _ (hc_k 0 _ rfl)
  have hsp:=yY he_k
  have hll:=xH _ _ hl
  rw [zon] at hll
  refine Gs 6 O (zm1 O O (zkP tR84 ts86 O O ha_k (by omega)) (zm7 O tg86 ts86 hc_k O (G.mem O O (M.alloc (cs:=_) tz86 O) ?_)))
  rintro _ wa1 ⟨c,rfl,hg_c,hs_c,hB_c,hk_c⟩
  refine zkY O (zkZ ts86 O O O O h1_k hB_c (by simp)) ?_
  rintro w_c ⟨_,hB_c,hkk_c⟩
  replace hk_c:=hk_c.trans hkk_c (fun q hq h=>by have h:q=c:=h;omega)
  have hn_b_c:b ≠ c:=by have:=hB_b.lt;omega
  have hn_r_c:r ≠ c:=by have:=hB_r.lt;omega
  have hge_c:_<=c:=znZ hE.size (Nat.le_of_eq hg_c.symm)
  obtain⟨hE,hvs,hk,hB_b,hB_r,hL1,hown⟩:=Tr7 hk_c hE hvs hk hB_b hB_r hL1 hown
  obtain⟨hc_k,hk_k⟩:=Tr2 hk_c hc_k hk_k
  refine Gs 5 O (zm7 O tg86 ts86 hB_c.cells O (G.call O Tryz.call198 (ih k hm_k _ D _ hvs (RTm.put hk_k) (yc hf.2 hm_k) (by omega)) ?_))
  rintro _ wz2 ⟨⟨ka,kb,rfl,hval⟩,hz2⟩
  obtain⟨hE,hvs,hk,hB_b,hB_r,hL1,hown⟩:=Tr7 hz2 hE hvs hk hB_b hB_r hL1 hown
  obtain⟨hc_k,hk_k,hB_c⟩:=Tr3 hz2 hc_k hk_k hB_c
  refine Gs 3 O (G.mem O O (M.alloc (cs:=_) tz226 O) ?_)
  rintro _ wa3 ⟨d,rfl,hg_d,hs_d,hB_d,hk_d⟩
  refine zkY O (zkZ ts226 O O O O (by simp [Value.oneCell']) hB_d (by simp)) ?_
  rintro w_d ⟨_,hB_d,hkk_d⟩
  replace hk_d:=hk_d.trans hkk_d (fun q hq h=>by have h:q=d:=h;omega)
  have hn_b_d:b ≠ d:=by have:=hB_b.lt;omega
  have hn_r_d:r ≠ d:=by have:=hB_r.lt;omega
  have hn_c_d:c ≠ d:=by have:=hB_c.lt;omega
  have hge_d:_<=d:=znZ hE.size (Nat.le_of_eq hg_d.symm)
  obtain⟨hE,hvs,hk,hB_b,hB_r,hL1,hown⟩:=Tr7 hk_d hE hvs hk hB_b hB_r hL1 hown
  obtain⟨hc_k,hk_k,hB_c⟩:=Tr3 hk_d hc_k hk_k hB_c
  refine Gs 7 O (zm1 O O (zly O (by first | exact za | rfl)) (Gs 2 O (G.bool O (fun hb=>?_) (fun hb=>?_))))
  ·
   have hb':rng vs k=none:=by cases h:rng vs k <;> simp [h] at hb ⊢
   have hnone:rng vs t=none:=by rw [zau,zcv he_k hb'];rfl
   refine Gs 2 O (zm1 O O (R.build (v:=.agg #[.int .i64 0,.int .i64 0]) [] O (fun _=>by kernel_rfl)) (zkY O (zkZ ts226 O O O O (by simp [Value.oneCell']) hB_r (by simp)) ?_))
   rintro wf ⟨_,hBf,hkf⟩
   refine Gs 10 O (zkB Tryz.results198 O (zo tg226 ts226 O hBf.cells) O ?_)
   exact⟨_,rfl,⟨0,0,by rw [hnone];rfl,fun x hx=>by rw [hnone] at hx;cases hx⟩,hE.trans hkf (fun q hq h=>by have h:q=r:=h;omega)⟩
  ·
   obtain⟨x,hx⟩:∃ x,rng vs k=some x:=by cases h:rng vs k with
    | none=>simp [h] at hb
    | some x=>exact⟨x,rfl⟩
   have hxv:=hval x hx
   subst hxv
   refine Gs 4 O (zm7 O tg226 ts226 hB_d.cells O (G.mem O O (M.buildSlice (cs:=ziP (ka,kb)) [(0,_)] tR245 ts226 tz226 (by decide) O (by kernel_rfl)) ?_))
   rintro _ w5 ⟨b5,rfl,hg_b5,hs_b5,hB_b5,hk_b5⟩
   obtain⟨hE,hvs,hk,hB_b,hB_r,hL1,hown⟩:=Tr7 hk_b5 hE hvs hk hB_b hB_r hL1 hown
   obtain⟨hc_k,hk_k,hB_c,hB_d⟩:=Tr4 hk_b5 hc_k hk_k hB_c hB_d
   refine G.mem O O (M.append Tryz.underlying245 Tryz.el226 O (by decide) O O hown O (Cells.add hB_b5.cells) (zgM _) (by omega) (by omega)) ?_
   rintro vk' w6 ⟨hown6,hfr6,hk6,_⟩
   have hszL:=hL1.size
   have hE6:Ext w_r w6:=hL1.trans hk6 (fun q hq h=>by have:=hfr q h;omega)
   refine Ga 8 O (by omega) (zkh ((i+1,l++[(ka,kb)],vk')) (zlO O) (⟨by omega,zcu he_k hl hx,?_,?_,hE6⟩) (by first | omega | (dsimp only;omega)))
   ·
    rw [zo1,List.flatMap_append]
    exact hown6
   ·
    intro q hq
    rcases hfr6 with h | ⟨q',h,h'⟩
    . exact hfr q (by rw [<- h];exact hq)
    . rw [h] at hq;cases hq;omega
 ·
  have hii:i=t.kids.length:=by omega
  subst hii
  rw [znY] at hl
  have hll:=xH _ _ hl
  have hsl:SlR 2 zeU (fun _=>True) w1 vk l:=zli (by omega) ziP zgL (fun x _=>rfl) hown (fun _ _=>trivial)
  have hn:NodeOk vs t.op t.n l:=qC hll hf.1.1 hf.1.2 (fun x hx=>by
   obtain⟨k,hk,hkx⟩:=qQ _ _ hl x hx
   exact qR hvb k (yc hf.2 hk) x hkx) hvb
  have hrg:rng vs t=if okR (zj vs t.op t.n l) then some (zj vs t.op t.n l) else none:=by rw [zau,hl];rfl
  refine Gs 8 O (zm7 O tg86 ts86 hB_b.cells O (Gs 1 O (G.call O Tryz.call222 (zi8 vs t l _ vk _ Dv D (fun _=>True) _ hvs (RTm.put hk) hsl hn) ?_)))
  rintro _ wz4 ⟨rfl,hz4⟩
  obtain⟨hE,hvs,hk,hB_b,hB_r,hL1,hown⟩:=Tr7 hz4 hE hvs hk hB_b hB_r hL1 hown
  refine G.mem O O (M.alloc (cs:=_) tz226 O) ?_
  rintro _ wa5 ⟨o,rfl,hg_o,hs_o,hB_o,hk_o⟩
  refine zkY O (zkZ ts226 O O O O (by simp [Value.oneCell']) hB_o (by simp)) ?_
  rintro w_o ⟨_,hB_o,hkk_o⟩
  replace hk_o:=hk_o.trans hkk_o (fun q hq h=>by have h:q=o:=h;omega)
  have hn_b_o:b ≠ o:=by have:=hB_b.lt;omega
  have hn_r_o:r ≠ o:=by have:=hB_r.lt;omega
  have hge_o:_<=o:=znZ hE.size (Nat.le_of_eq hg_o.symm)
  obtain⟨hE,hvs,hk,hB_b,hB_r,hL1,hown⟩:=Tr7 hk_o hE hvs hk hB_b hB_r hL1 hown
  obtain⟨p,hp⟩:∃ p,p=zj vs t.op t.n l:=⟨_,rfl⟩
  rw [<- hp] at hrg hB_o ⊢
  have hso:(rng vs t).isSome=okR p:=by rw [hrg];cases okR p <;> rfl
  have hval:∀ x,rng vs t=some x->(p.1,p.2)=x:=by
   intro x hx
   rw [hrg] at hx
   split at hx
   . exact Option.some.inj hx
   . cases hx
  refine Gs 3 O (Dw (fun q=>Keep (fun k=>k=r) w_o q) [] (fun wd6 hD0 _=>?_))
  have hD:Keep (fun k=>k=r) _ _:=hD0.mono (fun _ _ h=>h.elim)
  refine WD.take 0 O (by kernel_rfl) O O O hD (fun w1 hw1=>zkR tg226 ts226 O (by rfl) (hw1.blk hB_o (fun h=>hn_r_o h.symm)).cells) (Ds [1] (by kernel_rfl) O (WD.take 2 O (by kernel_rfl) O O O hD (fun w1 hw1=>R.load tg3 O ((hw1.blk hB_o (fun h=>hn_r_o h.symm)).cells 0 _ O)) (Ds [3,4] (by kernel_rfl) O (WD.sp 41 O (fun g1=>?_) (fun g1=>?_)))))
  ·
   have ho:okR p=decide (p.2<=1048576):=by unfold okR;congr 1;simp;omega
   refine Ds [5] (by kernel_rfl) O (zlR 6 O (by kernel_rfl) O O hD (.inl ⟨fun a ha=>zel ha O O O rfl,fun w1 hw1=>R.load tg3 O ((hw1.blk hB_o (fun h=>hn_r_o h.symm)).cells 1 _ O)⟩) (Ds [7,8] (by kernel_rfl) O (zkX 9 O (by kernel_rfl) O O (zkZ ts226 O O O O (by simp [Value.oneCell']) (hD0.blk hB_r (fun h=>h)) (by simp)) ?_)))
   rintro wf ⟨_,hBf,hkf⟩
   refine⟨fun _=>hD.trans hkf (fun _ _ h=>h),?_⟩
   refine Ds [10] (by kernel_rfl) O (zla (by kernel_rfl) ?_ _)
   refine Gs 2 O (zkB Tryz.results198 O (zo tg226 ts226 O hBf.cells) O ?_)
   exact⟨_,rfl,⟨p.1,p.2,by rw [hso,ho];rfl,hval⟩,(hE.ext hD0).trans hkf (fun q hq h=>by have h:q=r:=h;omega)⟩
  ·
   have ho:okR p=false:=by unfold okR;exact zo6 (by omega)
   refine Ds [5,6,7,8] (by kernel_rfl) O (zkX 9 O (by kernel_rfl) O O (zkZ ts226 O O O O (by simp [Value.oneCell']) (hD0.blk hB_r (fun h=>h)) (by simp)) ?_)
   rintro wf ⟨_,hBf,hkf⟩
   refine⟨fun _=>hD.trans hkf (fun _ _ h=>h),?_⟩
   refine Ds [10] (by kernel_rfl) O (zla (by kernel_rfl) ?_ _)
   refine Gs 2 O (zkB Tryz.results198 O (zo tg226 ts226 O hBf.cells) O ?_)
   exact⟨_,rfl,⟨p.1,p.2,by rw [hso,ho];rfl,hval⟩,(hE.ext hD0).trans hkf (fun q hq h=>by have h:q=r:=h;omega)⟩
theorem zbE (a b:Int) (w:World) (ha:-1048576<=a/\a<=1048576) (hb:-1048576<=b/\b<=1048576):Calls Tryz.prog 194 #[.int .i64 a,.int .i64 b] w (Ret fun r w'=>r=.tuple #[.int .i64 (if a<0 then min (a+1) 0 else 0),.int .i64 (if 0<b then max (b - 1) 0 else 0)]/\Ext w w'):=by
 have hE:=Keep.refl (fun _=>False) w
 refine zmb Tryz.func194 O Tryz.ntmps194 O (Gs 19 O (zk6 O (fun p0=>?_) (fun p0=>?_)))
 ·
  refine Ga 3 O (by omega) (G.call O tc111 (zu 0 (a+1) _) ?_)
  rintro _ wz1 ⟨rfl,hz1⟩
  replace hE:=Tr1 hz1 hE
  refine Gs 10 O (zk6 O (fun p1=>?_) (fun p1=>?_))
  ·
   refine Ga 3 O (by omega) (G.call O tc110 (ya 0 (b - 1) _) ?_)
   rintro _ wz2 ⟨rfl,hz2⟩
   replace hE:=Tr1 hz2 hE
   refine Gs 12 O (zkt tr194 O O ⟨_,rfl,by rw [zo4 p0,zo4 p1,Int.min_comm,Int.max_comm],hE⟩)
  . refine Gs 11 O (zkt tr194 O O ⟨_,rfl,by rw [zo4 p0,zo3 p1,Int.min_comm],hE⟩)
 ·
  refine Gs 9 O (zk6 O (fun p1=>?_) (fun p1=>?_))
  ·
   refine Ga 3 O (by omega) (G.call O tc110 (ya 0 (b - 1) _) ?_)
   rintro _ wz3 ⟨rfl,hz3⟩
   replace hE:=Tr1 hz3 hE
   refine Gs 12 O (zkt tr194 O O ⟨_,rfl,by rw [zo3 p0,zo4 p1,Int.max_comm],hE⟩)
  . refine Gs 11 O (zkt tr194 O O ⟨_,rfl,by rw [zo3 p0,zo3 p1],hE⟩)
theorem xa {l:List Rg} {i:Nat} {x:Rg} (h:l[i]?=some x):(l.map Prod.fst)[i]?=some x.1:=by simp [h]
theorem xb {l:List Rg} {i:Nat} {x:Rg} (h:l[i]?=some x):(l.map Prod.snd)[i]?=some x.2:=by simp [h]
theorem zes (vs:List Vr) (t:Tm) (ks:List Rg) (vv lv hv:Value) (cs:List Value) (Dv D Dl Dh:Nat->Prop) (w:World) (hvs:SlR 5 RVr Dv w vv vs) (ht:RTm D w t cs) (hlo:SlR 1 zB Dl w lv (ks.map Prod.fst)) (hhi:SlR 1 zB Dh w hv (ks.map Prod.snd)) (hn:NodeOk vs t.op t.n ks) :
  Calls Tryz.prog 140 #[vv,.agg cs.toArray,lv,hv] w (Ret fun r w'=>(∃ a b:Int,r=.tuple #[.int .i64 a,.int .i64 b]/\okR (a,b)=okR (zj vs t.op t.n ks)/\(okR (a,b)=true->(a,b)=zj vs t.op t.n ks))/\Ext w w'):=by
 obtain⟨v,rfl,hk⟩:=ht.get
 obtain⟨av,nv,rfl⟩:=hvs.form
 obtain⟨al,nl,rfl⟩:=hlo.form
 obtain⟨ah,nh,rfl⟩:=hhi.form
 rw [zod,zod] at *
 have hmx:=hlo.max
 rw [zod] at hmx
 have same:∀ {a b:Int} {w':World},Ext w w'->(a,b)=zj vs t.op t.n ks->∃ v,Ending.returned (.tuple #[.int .i64 a,.int .i64 b])=.returned v/\(∃ a b:Int,v=.tuple #[.int .i64 a,.int .i64 b]/\okR (a,b)=okR (zj vs t.op t.n ks)/\(okR (a,b)=true->(a,b)=zj vs t.op t.n ks))/\Ext w w' :=
  fun hk he=>⟨_,rfl,⟨_,_,rfl,by rw [he],fun _=>he⟩,hk⟩
 have hE:=Keep.refl (fun _=>False) w
 refine zmd Tryz.func140 O Tryz.ntmps140 O (Gs 2 O (G.mem O O (M.box O O) ?_))
 rintro _ w_b ⟨b,rfl,hg_b,hs_b,hB_b,hk_b⟩
 have hge_b:_<=b:=znZ hE.size (Nat.le_of_eq hg_b.symm)
 obtain⟨hE,hvs,hlo,hhi⟩:=Tr4 hk_b hE hvs hlo hhi
 refine Gs 8 O (zm5 O tg83 (hB_b.cells 0 _ O) (Gs 9 O (zk6 O (fun h0=>?_) (fun h0=>?_))))
 ·
  have e:zj vs t.op t.n ks=(t.n,t.n):=by rw [zj,zo4 h0]
  refine Gs 4 O (zm5 O tg3 (hB_b.cells 1 _ O) (Gs 2 O (G.sp 25 O (fun n0=>?_) (fun n0=>?_))))
  ·
   refine Gs 17 O (zkt tr140 O O ⟨_,rfl,⟨_,_,rfl,?_,fun h=>by cases h⟩,hE⟩)
   rw [e];unfold okR;rw [zo6 (by dsimp only;omega),zo6 (by dsimp only;omega)]
  ·
   refine Gs 1 O (zm5 O tg3 (hB_b.cells 1 _ O) (Gs 4 O (zk6 O (fun n1=>?_) (fun n1=>?_))))
   ·
    refine Gs 10 O (zkt tr140 O O ⟨_,rfl,⟨_,_,rfl,?_,fun h=>by cases h⟩,hE⟩)
    rw [e];unfold okR;rw [zo6 (by dsimp only;omega),zo6 (by dsimp only;omega)]
   ·
    refine Gs 3 O (Qt (by kernel_rfl) (Gs 1 O (zm6 O tg3 (fun w1 hw1=>((hw1.blk hB_b (fun h=>h)).cells 1 _ O)) (Gs 1 O (zm6 O tg3 (fun w1 hw1=>((hw1.blk hB_b (fun h=>h)).cells 1 _ O)) (Gs 2 O (zm8 (fun wz1 hz1=>?_))))))))
    obtain⟨hE,hvs,hlo,hhi,hB_b⟩:=Tr5 hz1 hE hvs hlo hhi hB_b
    refine Gs 4 O (zkt tr140 O O (same hE e.symm))
 ·
  refine Gs 6 O (zk6 O (fun h24=>?_) (fun h24=>?_))
  ·
   have hv:=hn.var h24
   obtain⟨x,he_x,hm_x⟩:=gE_ vs (t.n.toNat) (by omega)
   obtain⟨b_x,o_x,c_x,ha_x,_,hc_x,hR_x⟩:=hvs.at he_x
   have h1_x:=RVr.one hR_x
   obtain rfl:=hR_x
   have hlt_x:b_x<_:=znV _ _ (hc_x 0 _ rfl)
   have e:zj vs t.op t.n ks=(x.low,x.high):=by rw [zj,zo3 h0,zo4 h24,zf8 he_x]
   refine Gs 1 O (Qt (by kernel_rfl) (Gs 2 O (zm6 O tg3 (fun w1 hw1=>((hw1.blk hB_b (fun h=>h)).cells 1 _ O)) (zm4 O O (fun w1 hw1=>zkP tR22 ts89 O O ha_x (by omega)) (Gs 1 O (zm6 O tg3 (fun w1 hw1=>((hw1.cells hc_x (fun h=>h)) 2 _ O)) (Gs 2 O (zm6 O tg3 (fun w1 hw1=>((hw1.blk hB_b (fun h=>h)).cells 1 _ O)) (zm4 O O (fun w1 hw1=>zkP tR22 ts89 O O ha_x (by omega)) (Gs 1 O (zm6 O tg3 (fun w1 hw1=>((hw1.cells hc_x (fun h=>h)) 3 _ O)) ?_)))))))))))
   refine Gs 2 O (zm8 (fun wz2 hz2=>?_))
   obtain⟨hE,hvs,hlo,hhi,hB_b,hc_x⟩:=Tr6 hz2 hE hvs hlo hhi hB_b hc_x
   refine Gs 4 O (zkt tr140 O O (same hE e.symm))
  ·
   refine Gs 6 O (zk6 O (fun h6=>?_) (fun h6=>?_))
   ·
    have hl:=hn.k1 (.inl h6)
    obtain⟨x,he_x⟩:∃ x,ks[0]?=some x:=⟨_,znT (by omega)⟩
    have hgx:=hn.good x (znU he_x)
    unfold yp at hgx
    obtain⟨b_xl,o_xl,c_xl,ha_xl,_,hc_xl,hR_xl⟩:=hlo.at (xa he_x)
    obtain rfl:=hR_xl
    have hlt_xl:b_xl<_:=znV _ _ (hc_xl 0 _ rfl)
    obtain⟨b_xh,o_xh,c_xh,ha_xh,_,hc_xh,hR_xh⟩:=hhi.at (xb he_x)
    obtain rfl:=hR_xh
    have hlt_xh:b_xh<_:=znV _ _ (hc_xh 0 _ rfl)
    have e:zj vs t.op t.n ks=(-x.2,-x.1):=by rw [zj,zo3 h0,zo3 h24,zo4 h6,zX he_x]
    refine Gs 1 O (Qt (by kernel_rfl) (Gs 1 O (zm4 O O (fun w1 hw1=>zkP tR27 ts3 O O ha_xh (by omega)) (zm6 O tg3 (fun w1 hw1=>((hw1.cells hc_xh (fun h=>h)) 0 _ O)) (Ga 2 O (by omega) (zm4 O O (fun w1 hw1=>zkP tR27 ts3 O O ha_xl (by omega)) (zm6 O tg3 (fun w1 hw1=>((hw1.cells hc_xl (fun h=>h)) 0 _ O)) (Ga 3 O (by omega) (zm8 (fun wz3 hz3=>?_))))))))))
    obtain⟨hE,hvs,hlo,hhi,hB_b,hc_xl,hc_xh⟩:=Tr7 hz3 hE hvs hlo hhi hB_b hc_xl hc_xh
    refine Gs 4 O (zkt tr140 O O (same hE e.symm))
   ·
    refine Gs 6 O (zk6 O (fun h8=>?_) (fun h8=>?_))
    ·
     have hl:=hn.k2 (by omega)
     obtain⟨x,he_x⟩:∃ x,ks[0]?=some x:=⟨_,znT (by omega)⟩
     obtain⟨y,he_y⟩:∃ y,ks[1]?=some y:=⟨_,znT (by omega)⟩
     have hgx:=hn.good x (znU he_x)
     have hgy:=hn.good y (znU he_y)
     unfold yp at hgx hgy
     obtain⟨b_xl,o_xl,c_xl,ha_xl,_,hc_xl,hR_xl⟩:=hlo.at (xa he_x)
     obtain rfl:=hR_xl
     have hlt_xl:b_xl<_:=znV _ _ (hc_xl 0 _ rfl)
     obtain⟨b_xh,o_xh,c_xh,ha_xh,_,hc_xh,hR_xh⟩:=hhi.at (xb he_x)
     obtain rfl:=hR_xh
     have hlt_xh:b_xh<_:=znV _ _ (hc_xh 0 _ rfl)
     obtain⟨b_yl,o_yl,c_yl,ha_yl,_,hc_yl,hR_yl⟩:=hlo.at (xa he_y)
     obtain rfl:=hR_yl
     have hlt_yl:b_yl<_:=znV _ _ (hc_yl 0 _ rfl)
     obtain⟨b_yh,o_yh,c_yh,ha_yh,_,hc_yh,hR_yh⟩:=hhi.at (xb he_y)
     obtain rfl:=hR_yh
     have hlt_yh:b_yh<_:=znV _ _ (hc_yh 0 _ rfl)
     have e:zj vs t.op t.n ks=(x.1+y.1,x.2+y.2):=by rw [zj,zo3 h0,zo3 h24,zo3 h6,zo4 h8,zX he_x,zX he_y]
     refine Gs 1 O (Qt (by kernel_rfl) (Gs 1 O (zm4 O O (fun w1 hw1=>zkP tR27 ts3 O O ha_xl (by omega)) (zm6 O tg3 (fun w1 hw1=>((hw1.cells hc_xl (fun h=>h)) 0 _ O)) (Gs 1 O (zm4 O O (fun w1 hw1=>zkP tR27 ts3 O O ha_yl (by omega)) (zm6 O tg3 (fun w1 hw1=>((hw1.cells hc_yl (fun h=>h)) 0 _ O)) (Ga 2 O (by omega) (zm4 O O (fun w1 hw1=>zkP tR27 ts3 O O ha_xh (by omega)) (zm6 O tg3 (fun w1 hw1=>((hw1.cells hc_xh (fun h=>h)) 0 _ O)) ?_))))))))))
     refine Gs 1 O (zm4 O O (fun w1 hw1=>zkP tR27 ts3 O O ha_yh (by omega)) (zm6 O tg3 (fun w1 hw1=>((hw1.cells hc_yh (fun h=>h)) 0 _ O)) (Ga 3 O (by omega) (zm8 (fun wz4 hz4=>?_)))))
     obtain⟨hE,hvs,hlo,hhi,hB_b,hc_xl,hc_xh⟩:=Tr7 hz4 hE hvs hlo hhi hB_b hc_xl hc_xh
     obtain⟨hc_yl,hc_yh⟩:=Tr2 hz4 hc_yl hc_yh
     refine Gs 4 O (zkt tr140 O O (same hE e.symm))
    ·
     refine Gs 6 O (zk6 O (fun h9=>?_) (fun h9=>?_))
     ·
      have hl:=hn.k2 (by omega)
      obtain⟨x,he_x⟩:∃ x,ks[0]?=some x:=⟨_,znT (by omega)⟩
      obtain⟨y,he_y⟩:∃ y,ks[1]?=some y:=⟨_,znT (by omega)⟩
      have hgx:=hn.good x (znU he_x)
      have hgy:=hn.good y (znU he_y)
      unfold yp at hgx hgy
      obtain⟨b_xl,o_xl,c_xl,ha_xl,_,hc_xl,hR_xl⟩:=hlo.at (xa he_x)
      obtain rfl:=hR_xl
      have hlt_xl:b_xl<_:=znV _ _ (hc_xl 0 _ rfl)
      obtain⟨b_xh,o_xh,c_xh,ha_xh,_,hc_xh,hR_xh⟩:=hhi.at (xb he_x)
      obtain rfl:=hR_xh
      have hlt_xh:b_xh<_:=znV _ _ (hc_xh 0 _ rfl)
      obtain⟨b_yl,o_yl,c_yl,ha_yl,_,hc_yl,hR_yl⟩:=hlo.at (xa he_y)
      obtain rfl:=hR_yl
      have hlt_yl:b_yl<_:=znV _ _ (hc_yl 0 _ rfl)
      obtain⟨b_yh,o_yh,c_yh,ha_yh,_,hc_yh,hR_yh⟩:=hhi.at (xb he_y)
      obtain rfl:=hR_yh
      have hlt_yh:b_yh<_:=znV _ _ (hc_yh 0 _ rfl)
      have e:zj vs t.op t.n ks=(x.1 - y.2,x.2 - y.1):=by rw [zj,zo3 h0,zo3 h24,zo3 h6,zo3 h8,zo4 h9,zX he_x,zX he_y]
      refine Gs 1 O (Qt (by kernel_rfl) (Gs 1 O (zm4 O O (fun w1 hw1=>zkP tR27 ts3 O O ha_xl (by omega)) (zm6 O tg3 (fun w1 hw1=>((hw1.cells hc_xl (fun h=>h)) 0 _ O)) (Gs 1 O (zm4 O O (fun w1 hw1=>zkP tR27 ts3 O O ha_yh (by omega)) (zm6 O tg3 (fun w1 hw1=>((hw1.cells hc_yh (fun h=>h)) 0 _ O)) (Ga 2 O (by omega) (zm4 O O (fun w1 hw1=>zkP tR27 ts3 O O ha_xh (by omega)) (zm6 O tg3 (fun w1 hw1=>((hw1.cells hc_xh (fun h=>h)) 0 _ O)) ?_))))))))))
      refine Gs 1 O (zm4 O O (fun w1 hw1=>zkP tR27 ts3 O O ha_yl (by omega)) (zm6 O tg3 (fun w1 hw1=>((hw1.cells hc_yl (fun h=>h)) 0 _ O)) (Ga 3 O (by omega) (zm8 (fun wz5 hz5=>?_)))))
      obtain⟨hE,hvs,hlo,hhi,hB_b,hc_xl,hc_xh⟩:=Tr7 hz5 hE hvs hlo hhi hB_b hc_xl hc_xh
      obtain⟨hc_yl,hc_yh⟩:=Tr2 hz5 hc_yl hc_yh
      refine Gs 4 O (zkt tr140 O O (same hE e.symm))
     ·
      refine Gs 6 O (zk6 O (fun h10=>?_) (fun h10=>?_))
      ·
       have hl:=hn.k2 (by omega)
       obtain⟨x,he_x⟩:∃ x,ks[0]?=some x:=⟨_,znT (by omega)⟩
       obtain⟨y,he_y⟩:∃ y,ks[1]?=some y:=⟨_,znT (by omega)⟩
       have hgx:=hn.good x (znU he_x)
       have hgy:=hn.good y (znU he_y)
       unfold yp at hgx hgy
       obtain⟨b_xl,o_xl,c_xl,ha_xl,_,hc_xl,hR_xl⟩:=hlo.at (xa he_x)
       obtain rfl:=hR_xl
       have hlt_xl:b_xl<_:=znV _ _ (hc_xl 0 _ rfl)
       obtain⟨b_xh,o_xh,c_xh,ha_xh,_,hc_xh,hR_xh⟩:=hhi.at (xb he_x)
       obtain rfl:=hR_xh
       have hlt_xh:b_xh<_:=znV _ _ (hc_xh 0 _ rfl)
       obtain⟨b_yl,o_yl,c_yl,ha_yl,_,hc_yl,hR_yl⟩:=hlo.at (xa he_y)
       obtain rfl:=hR_yl
       have hlt_yl:b_yl<_:=znV _ _ (hc_yl 0 _ rfl)
       obtain⟨b_yh,o_yh,c_yh,ha_yh,_,hc_yh,hR_yh⟩:=hhi.at (xb he_y)
       obtain rfl:=hR_yh
       have hlt_yh:b_yh<_:=znV _ _ (hc_yh 0 _ rfl)
       have e:zj vs t.op t.n ks=xn x y:=by rw [zj,zo3 h0,zo3 h24,zo3 h6,zo3 h8,zo3 h9,zo4 h10,zX he_x,zX he_y]
       have m1:=zat (x:=x.1) (y:=y.1) (by omega) (by omega)
       have m2:=zat (x:=x.1) (y:=y.2) (by omega) (by omega)
       have m3:=zat (x:=x.2) (y:=y.1) (by omega) (by omega)
       have m4:=zat (x:=x.2) (y:=y.2) (by omega) (by omega)
       refine Gs 1 O (Qt (by kernel_rfl) (Gs 1 O (zm4 O O (fun w1 hw1=>zkP tR27 ts3 O O ha_xl (by omega)) (zm6 O tg3 (fun w1 hw1=>((hw1.cells hc_xl (fun h=>h)) 0 _ O)) (Gs 1 O (zm4 O O (fun w1 hw1=>zkP tR27 ts3 O O ha_yl (by omega)) (zm6 O tg3 (fun w1 hw1=>((hw1.cells hc_yl (fun h=>h)) 0 _ O)) (Ga 2 O (by omega) (zm4 O O (fun w1 hw1=>zkP tR27 ts3 O O ha_xl (by omega)) (zm6 O tg3 (fun w1 hw1=>((hw1.cells hc_xl (fun h=>h)) 0 _ O)) ?_))))))))))
       refine Gs 1 O (zm4 O O (fun w1 hw1=>zkP tR27 ts3 O O ha_yh (by omega)) (zm6 O tg3 (fun w1 hw1=>((hw1.cells hc_yh (fun h=>h)) 0 _ O)) (Ga 2 O (by omega) (zm4 O O (fun w1 hw1=>zkP tR27 ts3 O O ha_xh (by omega)) (zm6 O tg3 (fun w1 hw1=>((hw1.cells hc_xh (fun h=>h)) 0 _ O)) (Gs 1 O (zm4 O O (fun w1 hw1=>zkP tR27 ts3 O O ha_yl (by omega)) (zm6 O tg3 (fun w1 hw1=>((hw1.cells hc_yl (fun h=>h)) 0 _ O)) (Ga 2 O (by omega) ?_)))))))))
       refine zm4 O O (fun w1 hw1=>zkP tR27 ts3 O O ha_xh (by omega)) (zm6 O tg3 (fun w1 hw1=>((hw1.cells hc_xh (fun h=>h)) 0 _ O)) (Gs 1 O (zm4 O O (fun w1 hw1=>zkP tR27 ts3 O O ha_yh (by omega)) (zm6 O tg3 (fun w1 hw1=>((hw1.cells hc_yh (fun h=>h)) 0 _ O)) (Ga 5 O (by omega) (zm8 (fun wz6 hz6=>?_)))))))
       obtain⟨hE,hvs,hlo,hhi,hB_b,hc_xl,hc_xh⟩:=Tr7 hz6 hE hvs hlo hhi hB_b hc_xl hc_xh
       obtain⟨hc_yl,hc_yh⟩:=Tr2 hz6 hc_yl hc_yh
       refine Gs 5 O (G.call O tc111 (zu _ _ _) ?_)
       rintro _ wz7 ⟨rfl,hz7⟩
       obtain⟨hE,hvs,hlo,hhi,hB_b,hc_xl,hc_xh⟩:=Tr7 hz7 hE hvs hlo hhi hB_b hc_xl hc_xh
       obtain⟨hc_yl,hc_yh⟩:=Tr2 hz7 hc_yl hc_yh
       refine Gs 2 O (G.call O tc111 (zu _ _ _) ?_)
       rintro _ wz8 ⟨rfl,hz8⟩
       obtain⟨hE,hvs,hlo,hhi,hB_b,hc_xl,hc_xh⟩:=Tr7 hz8 hE hvs hlo hhi hB_b hc_xl hc_xh
       obtain⟨hc_yl,hc_yh⟩:=Tr2 hz8 hc_yl hc_yh
       refine G.call O tc111 (zu _ _ _) ?_
       rintro _ wz9 ⟨rfl,hz9⟩
       obtain⟨hE,hvs,hlo,hhi,hB_b,hc_xl,hc_xh⟩:=Tr7 hz9 hE hvs hlo hhi hB_b hc_xl hc_xh
       obtain⟨hc_yl,hc_yh⟩:=Tr2 hz9 hc_yl hc_yh
       refine Gs 2 O (G.call O tc110 (ya _ _ _) ?_)
       rintro _ wz10 ⟨rfl,hz10⟩
       obtain⟨hE,hvs,hlo,hhi,hB_b,hc_xl,hc_xh⟩:=Tr7 hz10 hE hvs hlo hhi hB_b hc_xl hc_xh
       obtain⟨hc_yl,hc_yh⟩:=Tr2 hz10 hc_yl hc_yh
       refine Gs 2 O (G.call O tc110 (ya _ _ _) ?_)
       rintro _ wz11 ⟨rfl,hz11⟩
       obtain⟨hE,hvs,hlo,hhi,hB_b,hc_xl,hc_xh⟩:=Tr7 hz11 hE hvs hlo hhi hB_b hc_xl hc_xh
       obtain⟨hc_yl,hc_yh⟩:=Tr2 hz11 hc_yl hc_yh
       refine G.call O tc110 (ya _ _ _) ?_
       rintro _ wz12 ⟨rfl,hz12⟩
       obtain⟨hE,hvs,hlo,hhi,hB_b,hc_xl,hc_xh⟩:=Tr7 hz12 hE hvs hlo hhi hB_b hc_xl hc_xh
       obtain⟨hc_yl,hc_yh⟩:=Tr2 hz12 hc_yl hc_yh
       refine Gs 7 O (zkt tr140 O O (same hE ?_))
       rw [e]
       unfold xn yE
       simp only [List.foldl_cons,List.foldl_nil]
       congr 1 <;> omega
      ·
       refine Gs 6 O (zk6 O (fun h11=>?_) (fun h11=>?_))
       ·
        have hl:=hn.k2 (by omega)
        obtain⟨x,he_x⟩:∃ x,ks[0]?=some x:=⟨_,znT (by omega)⟩
        obtain⟨y,he_y⟩:∃ y,ks[1]?=some y:=⟨_,znT (by omega)⟩
        have hgx:=hn.good x (znU he_x)
        have hgy:=hn.good y (znU he_y)
        unfold yp at hgx hgy
        obtain⟨b_xl,o_xl,c_xl,ha_xl,_,hc_xl,hR_xl⟩:=hlo.at (xa he_x)
        obtain rfl:=hR_xl
        have hlt_xl:b_xl<_:=znV _ _ (hc_xl 0 _ rfl)
        obtain⟨b_xh,o_xh,c_xh,ha_xh,_,hc_xh,hR_xh⟩:=hhi.at (xb he_x)
        obtain rfl:=hR_xh
        have hlt_xh:b_xh<_:=znV _ _ (hc_xh 0 _ rfl)
        obtain⟨b_yl,o_yl,c_yl,ha_yl,_,hc_yl,hR_yl⟩:=hlo.at (xa he_y)
        obtain rfl:=hR_yl
        have hlt_yl:b_yl<_:=znV _ _ (hc_yl 0 _ rfl)
        obtain⟨b_yh,o_yh,c_yh,ha_yh,_,hc_yh,hR_yh⟩:=hhi.at (xb he_y)
        obtain rfl:=hR_yh
        have hlt_yh:b_yh<_:=znV _ _ (hc_yh 0 _ rfl)
        have e:zj vs t.op t.n ks=(if 0<=x.1/\0<=y.1 then 0 else -(max x.2 (-x.1)),max x.2 (-x.1)):=by rw [zj,zo3 h0,zo3 h24,zo3 h6,zo3 h8,zo3 h9,zo3 h10,zo4 h11,zX he_x,zX he_y]
        have hmx2:0<=max x.2 (-x.1)/\max x.2 (-x.1)<=1048576:=by omega
        have hm:max (if x.1<0 then -x.1 else x.1) (if x.2<0 then -x.2 else x.2)=max x.2 (-x.1):=by split <;> split <;> omega
        refine Gs 1 O (Dw (fun q=>Ext w_b q) [] (fun wd13 hD _=>?_))
        refine Ds [0] (by kernel_rfl) O (zld 1 O (by kernel_rfl) O O O (fun w1=>zkP tR27 ts3 O O ha_xl (by omega)) (WD.take 2 O (by kernel_rfl) O O O hD (fun w1 hw1=>R.load tg3 O ((hw1.cells hc_xl (fun h=>h)) 0 _ O)) (Ds [4] (by kernel_rfl) O (zld 5 O (by kernel_rfl) O O O (fun w1=>zkP tR27 ts3 O O ha_xh (by omega)) (WD.take 6 O (by kernel_rfl) O O O hD (fun w1 hw1=>R.load tg3 O ((hw1.cells hc_xh (fun h=>h)) 0 _ O)) (WD.call 3 O (by kernel_rfl) O O O (F.call (vs:=[_]) Tryz.call193 O) (zao x.1 _ (by omega)) ?_))))))
        rintro _ wz14 ⟨rfl,hz14⟩
        replace hD:=hD.ext hz14
        refine⟨fun _=>hD,?_⟩
        refine WD.call 7 O (by kernel_rfl) O O O (F.call (vs:=[_]) Tryz.call193 O) (zao x.2 _ (by omega)) ?_
        rintro _ wz15 ⟨rfl,hz15⟩
        replace hD:=hD.ext hz15
        refine⟨fun _=>hD,?_⟩
        refine WD.call 8 O (by kernel_rfl) O O O (F.call (vs:=[_,_]) tc110 O) (ya _ _ _) ?_
        rintro _ wz16 ⟨rfl,hz16⟩
        replace hD:=hD.ext hz16
        refine⟨fun _=>hD,?_⟩
        rw [hm]
        refine Ds [9] (by kernel_rfl) O (zla (by kernel_rfl) ?_ _)
        obtain⟨hE,hvs,hlo,hhi,hB_b,hc_xl,hc_xh⟩:=Tr7 hD hE hvs hlo hhi hB_b hc_xl hc_xh
        obtain⟨hc_yl,hc_yh⟩:=Tr2 hD hc_yl hc_yh
        refine Gs 5 O (zm1 O O (zkP tR27 ts3 O O ha_xl (by omega)) (zm5 O tg3 (hc_xl 0 _ O) (Gs 2 O (G.sp 149 O (fun p0=>?_) (fun p0=>?_)))))
        ·
         refine Gs 1 O (zm1 O O (zkP tR27 ts3 O O ha_yl (by omega)) (zm5 O tg3 (hc_yl 0 _ O) (Gs 4 O (zk6 O (fun p1=>?_) (fun p1=>?_)))))
         . refine Gs 11 O (zkt tr140 O O (same hE (by rw [e,zo4 ⟨p0,p1⟩])))
         . refine Ga 14 O (by omega) (zkt tr140 O O (same hE (by rw [e,zo3 (fun h=>p1 h.2)])))
        . refine Ga 22 O (by omega) (zkt tr140 O O (same hE (by rw [e,zo3 (fun h=>p0 h.1)])))
       ·
        refine Gs 6 O (zk6 O (fun h12=>?_) (fun h12=>?_))
        ·
         have hl:=hn.k2 (by omega)
         obtain⟨x,he_x⟩:∃ x,ks[0]?=some x:=⟨_,znT (by omega)⟩
         obtain⟨y,he_y⟩:∃ y,ks[1]?=some y:=⟨_,znT (by omega)⟩
         have hgx:=hn.good x (znU he_x)
         have hgy:=hn.good y (znU he_y)
         unfold yp at hgx hgy
         obtain⟨b_xl,o_xl,c_xl,ha_xl,_,hc_xl,hR_xl⟩:=hlo.at (xa he_x)
         obtain rfl:=hR_xl
         have hlt_xl:b_xl<_:=znV _ _ (hc_xl 0 _ rfl)
         obtain⟨b_xh,o_xh,c_xh,ha_xh,_,hc_xh,hR_xh⟩:=hhi.at (xb he_x)
         obtain rfl:=hR_xh
         have hlt_xh:b_xh<_:=znV _ _ (hc_xh 0 _ rfl)
         obtain⟨b_yl,o_yl,c_yl,ha_yl,_,hc_yl,hR_yl⟩:=hlo.at (xa he_y)
         obtain rfl:=hR_yl
         have hlt_yl:b_yl<_:=znV _ _ (hc_yl 0 _ rfl)
         obtain⟨b_yh,o_yh,c_yh,ha_yh,_,hc_yh,hR_yh⟩:=hhi.at (xb he_y)
         obtain rfl:=hR_yh
         have hlt_yh:b_yh<_:=znV _ _ (hc_yh 0 _ rfl)
         have e:zj vs t.op t.n ks=(if y.1<0 then min (y.1+1) 0 else 0,if 0<y.2 then max (y.2 - 1) 0 else 0):=by rw [zj,zo3 h0,zo3 h24,zo3 h6,zo3 h8,zo3 h9,zo3 h10,zo3 h11,zo4 h12,zX he_y]
         refine Gs 1 O (Dw (fun q=>Ext w_b q) [] (fun wd17 hD _=>?_))
         refine Ds [0] (by kernel_rfl) O (zld 1 O (by kernel_rfl) O O O (fun w1=>zkP tR27 ts3 O O ha_yl (by omega)) (WD.take 2 O (by kernel_rfl) O O O hD (fun w1 hw1=>R.load tg3 O ((hw1.cells hc_yl (fun h=>h)) 0 _ O)) (Ds [3] (by kernel_rfl) O (zld 4 O (by kernel_rfl) O O O (fun w1=>zkP tR27 ts3 O O ha_yh (by omega)) (WD.take 5 O (by kernel_rfl) O O O hD (fun w1 hw1=>R.load tg3 O ((hw1.cells hc_yh (fun h=>h)) 0 _ O)) (WD.call 6 O (by kernel_rfl) O O O (F.call (vs:=[_,_]) Tryz.call194 O) (zbE y.1 y.2 _ (by omega) (by omega)) ?_))))))
         rintro _ wz18 ⟨rfl,hz18⟩
         replace hD:=hD.ext hz18
         refine⟨fun _=>hD,?_⟩
         refine Ds [7,8,9,10] (by kernel_rfl) O (zla (by kernel_rfl) ?_ _)
         obtain⟨hE,hvs,hlo,hhi,hB_b,hc_xl,hc_xh⟩:=Tr7 hD hE hvs hlo hhi hB_b hc_xl hc_xh
         obtain⟨hc_yl,hc_yh⟩:=Tr2 hD hc_yl hc_yh
         refine Gs 4 O (zkt tr140 O O (same hE e.symm))
        ·
         refine Gs 6 O (zk6 O (fun h21=>?_) (fun h21=>?_))
         ·
          have hl:=hn.k2 (by omega)
          obtain⟨x,he_x⟩:∃ x,ks[0]?=some x:=⟨_,znT (by omega)⟩
          obtain⟨y,he_y⟩:∃ y,ks[1]?=some y:=⟨_,znT (by omega)⟩
          have hgx:=hn.good x (znU he_x)
          have hgy:=hn.good y (znU he_y)
          unfold yp at hgx hgy
          obtain⟨b_xl,o_xl,c_xl,ha_xl,_,hc_xl,hR_xl⟩:=hlo.at (xa he_x)
          obtain rfl:=hR_xl
          have hlt_xl:b_xl<_:=znV _ _ (hc_xl 0 _ rfl)
          obtain⟨b_xh,o_xh,c_xh,ha_xh,_,hc_xh,hR_xh⟩:=hhi.at (xb he_x)
          obtain rfl:=hR_xh
          have hlt_xh:b_xh<_:=znV _ _ (hc_xh 0 _ rfl)
          obtain⟨b_yl,o_yl,c_yl,ha_yl,_,hc_yl,hR_yl⟩:=hlo.at (xa he_y)
          obtain rfl:=hR_yl
          have hlt_yl:b_yl<_:=znV _ _ (hc_yl 0 _ rfl)
          obtain⟨b_yh,o_yh,c_yh,ha_yh,_,hc_yh,hR_yh⟩:=hhi.at (xb he_y)
          obtain rfl:=hR_yh
          have hlt_yh:b_yh<_:=znV _ _ (hc_yh 0 _ rfl)
          have e:zj vs t.op t.n ks=(min x.1 y.1,min x.2 y.2):=by rw [zj,zo3 h0,zo3 h24,zo3 h6,zo3 h8,zo3 h9,zo3 h10,zo3 h11,zo3 h12,zo4 h21,zX he_x,zX he_y]
          refine Gs 1 O (Dw (fun q=>Ext w_b q) [] (fun wd19 hD _=>?_))
          refine Ds [0] (by kernel_rfl) O (zld 1 O (by kernel_rfl) O O O (fun w1=>zkP tR27 ts3 O O ha_xl (by omega)) (WD.take 2 O (by kernel_rfl) O O O hD (fun w1 hw1=>R.load tg3 O ((hw1.cells hc_xl (fun h=>h)) 0 _ O)) (Ds [3] (by kernel_rfl) O (zld 4 O (by kernel_rfl) O O O (fun w1=>zkP tR27 ts3 O O ha_yl (by omega)) (WD.take 5 O (by kernel_rfl) O O O hD (fun w1 hw1=>R.load tg3 O ((hw1.cells hc_yl (fun h=>h)) 0 _ O)) (Ds [7] (by kernel_rfl) O (zld 8 O (by kernel_rfl) O O O (fun w1=>zkP tR27 ts3 O O ha_xh (by omega)) ?_)))))))
          refine WD.take 9 O (by kernel_rfl) O O O hD (fun w1 hw1=>R.load tg3 O ((hw1.cells hc_xh (fun h=>h)) 0 _ O)) (Ds [10] (by kernel_rfl) O (zld 11 O (by kernel_rfl) O O O (fun w1=>zkP tR27 ts3 O O ha_yh (by omega)) (WD.take 12 O (by kernel_rfl) O O O hD (fun w1 hw1=>R.load tg3 O ((hw1.cells hc_yh (fun h=>h)) 0 _ O)) (WD.call 6 O (by kernel_rfl) O O O (F.call (vs:=[_,_]) tc111 O) (zu _ _ _) ?_))))
          rintro _ wz20 ⟨rfl,hz20⟩
          replace hD:=hD.ext hz20
          refine⟨fun _=>hD,?_⟩
          refine WD.call 13 O (by kernel_rfl) O O O (F.call (vs:=[_,_]) tc111 O) (zu _ _ _) ?_
          rintro _ wz21 ⟨rfl,hz21⟩
          replace hD:=hD.ext hz21
          refine⟨fun _=>hD,?_⟩
          refine Ds [14,15] (by kernel_rfl) O (zla (by kernel_rfl) ?_ _)
          obtain⟨hE,hvs,hlo,hhi,hB_b,hc_xl,hc_xh⟩:=Tr7 hD hE hvs hlo hhi hB_b hc_xl hc_xh
          obtain⟨hc_yl,hc_yh⟩:=Tr2 hD hc_yl hc_yh
          refine Gs 4 O (zkt tr140 O O (same hE e.symm))
         ·
          refine Gs 6 O (zk6 O (fun h22=>?_) (fun h22=>?_))
          ·
           have hl:=hn.k2 (by omega)
           obtain⟨x,he_x⟩:∃ x,ks[0]?=some x:=⟨_,znT (by omega)⟩
           obtain⟨y,he_y⟩:∃ y,ks[1]?=some y:=⟨_,znT (by omega)⟩
           have hgx:=hn.good x (znU he_x)
           have hgy:=hn.good y (znU he_y)
           unfold yp at hgx hgy
           obtain⟨b_xl,o_xl,c_xl,ha_xl,_,hc_xl,hR_xl⟩:=hlo.at (xa he_x)
           obtain rfl:=hR_xl
           have hlt_xl:b_xl<_:=znV _ _ (hc_xl 0 _ rfl)
           obtain⟨b_xh,o_xh,c_xh,ha_xh,_,hc_xh,hR_xh⟩:=hhi.at (xb he_x)
           obtain rfl:=hR_xh
           have hlt_xh:b_xh<_:=znV _ _ (hc_xh 0 _ rfl)
           obtain⟨b_yl,o_yl,c_yl,ha_yl,_,hc_yl,hR_yl⟩:=hlo.at (xa he_y)
           obtain rfl:=hR_yl
           have hlt_yl:b_yl<_:=znV _ _ (hc_yl 0 _ rfl)
           obtain⟨b_yh,o_yh,c_yh,ha_yh,_,hc_yh,hR_yh⟩:=hhi.at (xb he_y)
           obtain rfl:=hR_yh
           have hlt_yh:b_yh<_:=znV _ _ (hc_yh 0 _ rfl)
           have e:zj vs t.op t.n ks=(max x.1 y.1,max x.2 y.2):=by rw [zj,zo3 h0,zo3 h24,zo3 h6,zo3 h8,zo3 h9,zo3 h10,zo3 h11,zo3 h12,zo3 h21,zo4 h22,zX he_x,zX he_y]
           refine Gs 1 O (Dw (fun q=>Ext w_b q) [] (fun wd22 hD _=>?_))
           refine Ds [0] (by kernel_rfl) O (zld 1 O (by kernel_rfl) O O O (fun w1=>zkP tR27 ts3 O O ha_xl (by omega)) (WD.take 2 O (by kernel_rfl) O O O hD (fun w1 hw1=>R.load tg3 O ((hw1.cells hc_xl (fun h=>h)) 0 _ O)) (Ds [3] (by kernel_rfl) O (zld 4 O (by kernel_rfl) O O O (fun w1=>zkP tR27 ts3 O O ha_yl (by omega)) (WD.take 5 O (by kernel_rfl) O O O hD (fun w1 hw1=>R.load tg3 O ((hw1.cells hc_yl (fun h=>h)) 0 _ O)) (Ds [7] (by kernel_rfl) O (zld 8 O (by kernel_rfl) O O O (fun w1=>zkP tR27 ts3 O O ha_xh (by omega)) ?_)))))))
           refine WD.take 9 O (by kernel_rfl) O O O hD (fun w1 hw1=>R.load tg3 O ((hw1.cells hc_xh (fun h=>h)) 0 _ O)) (Ds [10] (by kernel_rfl) O (zld 11 O (by kernel_rfl) O O O (fun w1=>zkP tR27 ts3 O O ha_yh (by omega)) (WD.take 12 O (by kernel_rfl) O O O hD (fun w1 hw1=>R.load tg3 O ((hw1.cells hc_yh (fun h=>h)) 0 _ O)) (WD.call 6 O (by kernel_rfl) O O O (F.call (vs:=[_,_]) tc110 O) (ya _ _ _) ?_))))
           rintro _ wz23 ⟨rfl,hz23⟩
           replace hD:=hD.ext hz23
           refine⟨fun _=>hD,?_⟩
           refine WD.call 13 O (by kernel_rfl) O O O (F.call (vs:=[_,_]) tc110 O) (ya _ _ _) ?_
           rintro _ wz24 ⟨rfl,hz24⟩
           replace hD:=hD.ext hz24
           refine⟨fun _=>hD,?_⟩
           refine Ds [14,15] (by kernel_rfl) O (zla (by kernel_rfl) ?_ _)
           obtain⟨hE,hvs,hlo,hhi,hB_b,hc_xl,hc_xh⟩:=Tr7 hD hE hvs hlo hhi hB_b hc_xl hc_xh
           obtain⟨hc_yl,hc_yh⟩:=Tr2 hD hc_yl hc_yh
           refine Gs 4 O (zkt tr140 O O (same hE e.symm))
          ·
           have hbase:¬ (t.op=23\/t.op=25)->zj vs t.op t.n ks=(0,1):=fun h=>by rw [zj,zo3 h0,zo3 h24,zo3 h6,zo3 h8,zo3 h9,zo3 h10,zo3 h11,zo3 h12,zo3 h21,zo3 h22,zo3 h]
           refine Gs 7 O (zkk (σ:=Bool) (fun p=>[(2,.slice al ks.length nl),(3,.slice ah ks.length nh),(202,.bool p)]) (fun p=>fun w'=>(p=true ↔ t.op=23\/t.op=25)/\w'=w_b) ?_ ?_)
           ·
            refine zk6 O (fun h23=>?_) (fun h23=>?_)
            . refine Gs 1 O (zkm (decide (t.op=23)) (Sub.cons O (Sub.cons O (Sub.cons (by first | rfl | (show some (Value.bool true)=some (Value.bool _);simp [*])) Sub.nil))) (⟨by simp [h23],rfl⟩))
            . refine Gs 4 O (zkm (decide (t.op=25)) (zlO O) (⟨by simp [h23],rfl⟩))
           rintro p w2 ⟨hp,hw2⟩
           subst hw2
           refine Gs 1 O (G.bool O (fun p1=>?_) (fun p1=>?_))
           ·
            have hl:=hn.k3 (hp.1 p1)
            obtain⟨y,he_y⟩:∃ y,ks[1]?=some y:=⟨_,znT (by omega)⟩
            have e:zj vs t.op t.n ks=yE y (ks.drop 2):=by rw [zj,zo3 h0,zo3 h24,zo3 h6,zo3 h8,zo3 h9,zo3 h10,zo3 h11,zo3 h12,zo3 h21,zo3 h22,zo4 (hp.1 p1),zX he_y]
            obtain⟨b_yl,o_yl,c_yl,ha_yl,_,hc_yl,hR_yl⟩:=hlo.at (xa he_y)
            obtain rfl:=hR_yl
            have hlt_yl:b_yl<_:=znV _ _ (hc_yl 0 _ rfl)
            obtain⟨b_yh,o_yh,c_yh,ha_yh,_,hc_yh,hR_yh⟩:=hhi.at (xb he_y)
            obtain rfl:=hR_yh
            have hlt_yh:b_yh<_:=znV _ _ (hc_yh 0 _ rfl)
            refine Gs 1 O (Qt (by kernel_rfl) (Gs 1 O (zm4 O O (fun w1 hw1=>zkP tR27 ts3 O O ha_yl (by omega)) (zm6 O tg3 (fun w1 hw1=>((hw1.cells hc_yl (fun h=>h)) 0 _ O)) (Gs 1 O (zm4 O O (fun w1 hw1=>zkP tR27 ts3 O O ha_yh (by omega)) (zm6 O tg3 (fun w1 hw1=>((hw1.cells hc_yh (fun h=>h)) 0 _ O)) (Gs 2 O (zm8 (fun wz25 hz25=>?_))))))))))
            obtain⟨hE,hvs,hlo,hhi,hB_b,hc_yl,hc_yh⟩:=Tr7 hz25 hE hvs hlo hhi hB_b hc_yl hc_yh
            refine Gs 8 O (G.loop (σ:=Nat) (fun k=>[(2,.slice al ks.length nl),(3,.slice ah ks.length nh),(15,.int .i64 (yE y ((ks.drop 2).take k)).1),(16,.int .i64 (yE y ((ks.drop 2).take k)).2),(17,.int .i64 ((k:Int)+2))]) (fun k=>fun w'=>k+2<=ks.length/\Ext wz25 w') (fun k=>ks.length - k) (0) (zlO O) (⟨by omega,Keep.refl _ _⟩) ?_)
            rintro k w4 ⟨hk2,hL1⟩
            obtain⟨hE,hvs,hlo,hhi,hB_b,hc_yl,hc_yh⟩:=Tr7 hL1 hE hvs hlo hhi hB_b hc_yl hc_yh
            refine Gs 9 O (zk6 O (fun hlt=>?_) (fun hlt=>?_))
            ·
             obtain⟨z,he_z⟩:∃ z,ks[k+2]?=some z:=⟨_,znT (by omega)⟩
             have he_z2:(ks.drop 2)[k]?=some z:=by rw [List.getElem?_drop,Nat.add_comm];exact he_z
             obtain⟨b_zl,o_zl,c_zl,ha_zl,_,hc_zl,hR_zl⟩:=hlo.at (xa he_z)
             obtain rfl:=hR_zl
             have hlt_zl:b_zl<_:=znV _ _ (hc_zl 0 _ rfl)
             obtain⟨b_zh,o_zh,c_zh,ha_zh,_,hc_zh,hR_zh⟩:=hhi.at (xb he_z)
             obtain rfl:=hR_zh
             have hlt_zh:b_zh<_:=znV _ _ (hc_zh 0 _ rfl)
             have hto:((k:Int)+2).toNat=k+2:=by omega
             refine Gs 4 O (Dw (fun q=>Ext w4 q) [] (fun wd26 hD _=>?_))
             refine Ds [0,1,2] (by kernel_rfl) O (zld 3 O (by kernel_rfl) O O O (fun w1=>zkP tR27 ts3 O O ha_zl (by omega)) (WD.take 4 O (by kernel_rfl) O O O hD (fun w1 hw1=>R.load tg3 O ((hw1.cells hc_zl (fun h=>h)) 0 _ O)) (Ds [6,7,8] (by kernel_rfl) O (zld 9 O (by kernel_rfl) O O O (fun w1=>zkP tR27 ts3 O O ha_zh (by omega)) (WD.take 10 O (by kernel_rfl) O O O hD (fun w1 hw1=>R.load tg3 O ((hw1.cells hc_zh (fun h=>h)) 0 _ O)) (WD.call 5 O (by kernel_rfl) O O O (F.call (vs:=[_,_]) tc111 O) (zu _ _ _) ?_))))))
             rintro _ wz27 ⟨rfl,hz27⟩
             replace hD:=hD.ext hz27
             refine⟨fun _=>hD,?_⟩
             refine WD.call 11 O (by kernel_rfl) O O O (F.call (vs:=[_,_]) tc110 O) (ya _ _ _) ?_
             rintro _ wz28 ⟨rfl,hz28⟩
             replace hD:=hD.ext hz28
             refine⟨fun _=>hD,?_⟩
             refine Ds [12,13] (by kernel_rfl) O (zla (by kernel_rfl) ?_ _)
             obtain⟨hE,hvs,hlo,hhi,hB_b,hc_yl,hc_yh⟩:=Tr7 hD hE hvs hlo hhi hB_b hc_yl hc_yh
             obtain⟨hL1,hc_zl,hc_zh⟩:=Tr3 hD hL1 hc_zl hc_zh
             refine Ga 7 O (by omega) ?_
             have htk:=jW (x:=y) he_z2
             refine zkh (k+1) (Sub.cons O (Sub.cons O (Sub.cons (xB O (by rw [htk])) (Sub.cons (xB O (by rw [htk])) (Sub.cons (xB O (by omega)) Sub.nil))))) (⟨by omega,hL1⟩) (by first | omega | (dsimp only;omega))
            ·
             have hkk:k=(ks.drop 2).length:=by rw [List.length_drop];omega
             rw [hkk,znY]
             refine Gs 16 O (zkt tr140 O O (same hE (by rw [e])))
           ·
            have e:=hbase (fun h=>by rw [hp.2 h] at p1;cases p1)
            refine Gs 10 O (zkt tr140 O O (same hE e.symm))
open Go.GL
def zfc (x:Int):List Value:=[.int .i64 x]
theorem zdO (x:Int):(zfc x).length=1:=rfl
theorem zdP (x:Int):∀ u ∈ zfc x,u.oneCell'=true:=by simp [zfc,Value.oneCell']
theorem zd9 (vs:List Vr) (inp:Bool) (vv:Value) (Dv:Nat->Prop) (hvb:∀ v ∈ vs,yp (v.low,v.high)) (t:Tm):∀ (cs:List Value) (D:Nat->Prop) (w:World),SlR 5 RVr Dv w vv vs->RTm D w t cs->zw vs inp t=true->t.nodes<=1000000 ->
  Calls Tryz.prog 108 #[vv,.agg cs.toArray] w (Ret fun r w'=>(∃ a b:Int,r=.tuple #[.int .i64 a,.int .i64 b,.bool (rng vs t).isSome]/\∀ x,rng vs t=some x->(a,b)=x)/\Ext w w'):=by
 induction t using zlF with
 | h t ih =>
 intro cs D w hvs ht hf hsz
 rw [yC,Bool.and_eq_true,Bool.and_eq_true] at hf
 have hlen:=zal t.kids
 have hse:=t.nodes_eq
 obtain⟨v,rfl,hk⟩:=ht.get
 obtain⟨ao,cap,rfl⟩:=hk.form
 obtain⟨av,nv,rfl⟩:=hvs.form
 have hE:=Keep.refl (fun _=>False) w
 refine zmb Tryz.func108 O Tryz.ntmps108 O (Gs 2 O (G.mem O O (M.box O O) ?_))
 rintro _ w_b ⟨b,rfl,hg_b,hs_b,hB_b,hk_b⟩
 have hge_b:_<=b:=znZ hE.size (Nat.le_of_eq hg_b.symm)
 obtain⟨hE,hvs,hk⟩:=Tr3 hk_b hE hvs hk
 refine Gs 7 O (G.mem O O (zlt tR27 ts3) ?_)
 rintro _ wl ⟨bl,rfl,hbl,hsl_,hBl,hkl⟩
 refine Gs 5 O (G.mem O O (zlt tR27 ts3) ?_)
 rintro _ wh ⟨bh,rfl,hbh,hsh,hBh,hkh⟩
 have hol:wh.ownsRow 0 3 1 (.slice (some ⟨bl,0,none⟩) 0 0) 0 (([]:List Int).flatMap zfc):=yG (hkh.blk hBl (fun h=>h)) (zoi _) (by omega) rfl
 have hoh:wh.ownsRow 0 3 1 (.slice (some ⟨bh,0,none⟩) 0 0) 0 (([]:List Int).flatMap zfc):=yG hBh (zoi _) (by omega) rfl
 have hbllt:=hBl.lt
 refine Gs 10 O (G.loop (σ:=Nat × List Rg × Value × Value) (fun⟨i,l,vl,vh⟩=>[(0,.slice av vs.length nv),(3,.pointer (some ⟨b,0,none⟩)),(7,vl),(8,vh),(9,.int .i64 i)]) (fun⟨i,l,vl,vh⟩=>fun w'=>i<=t.kids.length/\jT vs (t.kids.take i)=some l/\w'.ownsRow 0 3 1 vl l.length ((l.map Prod.fst).flatMap zfc)/\w'.ownsRow 0 3 1 vh l.length ((l.map Prod.snd).flatMap zfc)/\(∀ q,vl.ownBlock=some q->w_b.heap.size<=q)/\(∀ q,vh.ownBlock=some q->w_b.heap.size<=q/\vl.ownBlock ≠ some q)/\Ext w_b w') (fun⟨i,l,vl,vh⟩=>t.kids.length - i) ((0,[],.slice (some ⟨bl,0,none⟩) 0 0,.slice (some ⟨bh,0,none⟩) 0 0)) (zlO O) (⟨zo8 _,rfl,hol,hoh,fun q hq=>by simp [Value.ownBlock] at hq;omega,fun q hq=>by simp [Value.ownBlock] at hq ⊢;omega,hkl.ext hkh⟩) ?_)
 rintro⟨i,l,vl,vh⟩ w1 ⟨hi,hl,hol,hoh,hfl,hfh,hL⟩
 show G _ _ _ _ _ [(0,.slice av vs.length nv),(3,.pointer (some ⟨b,0,none⟩)),(7,vl),(8,vh),(9,.int .i64 i)] _
 obtain⟨hE,hvs,hk,hB_b⟩:=Tr4 hL hE hvs hk hB_b
 refine Gs 5 O (zm5 O tg84 (hB_b.cells 2 _ O) (Gs 4 O (zk6 O (fun hlt=>?_) (fun hlt=>?_))))
 ·
  obtain⟨k,he_k,hm_k⟩:=gE_ t.kids (i) (by omega)
  obtain⟨b_k,o_k,c_k,ha_k,_,hc_k,hR_k⟩:=hk.at he_k
  have h1_k:=RTm.one hR_k
  obtain⟨v1_k,rfl,hk_k⟩:=hR_k.get
  obtain⟨a1_k,n1_k,rfl⟩:=hk_k.form
  have hlt_k:b_k<_:=znV _ _ (hc_k 0 _ rfl)
  have hsp:=yY he_k
  have hll:=xH _ _ hl
  rw [zon] at hll
  refine Gs 8 O (zm5 O tg84 (hB_b.cells 2 _ O) (Gs 1 O (zm1 O O (zkP tR84 ts86 O O ha_k (by omega)) (zm7 O tg86 ts86 hc_k O (G.call O Tryz.call108 (ih k hm_k _ D _ hvs (RTm.put hk_k) (yc hf.2 hm_k) (by omega)) ?_)))))
  rintro _ wz1 ⟨⟨ka,kb,rfl,hval⟩,hz1⟩
  obtain⟨hE,hvs,hk,hB_b,hL,hol,hoh⟩:=Tr7 hz1 hE hvs hk hB_b hL hol hoh
  obtain⟨hc_k,hk_k⟩:=Tr2 hz1 hc_k hk_k
  refine Gs 13 O (zm1 O O (zly O (by first | exact za | rfl)) (Gs 2 O (G.bool O (fun hb=>?_) (fun hb=>?_))))
  ·
   have hb':rng vs k=none:=by cases h:rng vs k <;> simp [h] at hb ⊢
   have hnone:rng vs t=none:=by rw [zau,zcv he_k hb'];rfl
   refine Gs 14 O (zkw Tryz.results108 O O O ⟨_,rfl,⟨0,0,by rw [hnone];rfl,fun x hx=>by rw [hnone] at hx;cases hx⟩,hE⟩)
  ·
   obtain⟨x,hx⟩:∃ x,rng vs k=some x:=by cases h:rng vs k with
    | none=>simp [h] at hb
    | some x=>exact⟨x,rfl⟩
   have hxv:=hval x hx
   subst hxv
   refine Gs 6 O (G.mem O O (M.buildSlice (cs:=zfc ka) [(0,_)] tR27 ts3 tz3 (by decide) O (by kernel_rfl)) ?_)
   rintro _ w5 ⟨b5,rfl,hg_b5,hs_b5,hB_b5,hk_b5⟩
   obtain⟨hE,hvs,hk,hB_b,hL,hol,hoh⟩:=Tr7 hk_b5 hE hvs hk hB_b hL hol hoh
   obtain⟨hc_k,hk_k⟩:=Tr2 hk_b5 hc_k hk_k
   refine G.mem O O (M.append tu27 Tryz.el3 O (by decide) O O hol O (Cells.add hB_b5.cells) (zdP _) (by omega) (by omega)) ?_
   rintro vl' w6 ⟨hown6,hfr6,hk6,_⟩
   refine Gs 6 O (G.mem O O (M.buildSlice (cs:=zfc kb) [(0,_)] tR27 ts3 tz3 (by decide) O (by kernel_rfl)) ?_)
   rintro _ w7 ⟨b7,rfl,hg_b7,hs_b7,hB_b7,hk_b7⟩
   have hoh7:=zT (zT hoh hk6 (fun q hq h=>(hfh q hq).2 h)) hk_b7 (fun _ _ h=>h)
   refine G.mem O O (M.append tu27 Tryz.el3 O (by decide) O O hoh7 O (Cells.add hB_b7.cells) (zdP _) (by omega) (by omega)) ?_
   rintro vh' w8 ⟨hown8,hfr8,hk8,_⟩
   have hszL:=hL.size
   have hsz6:=hk6.size
   have hsz7:=hk_b7.size
   have hfl':∀ q,vl'.ownBlock=some q->w_b.heap.size<=q/\vh.ownBlock ≠ some q/\q<w6.heap.size:=by
    intro q hq
    refine⟨?_,?_,xi hown6 hq⟩
    ·
     rcases hfr6 with h | ⟨q',h,h'⟩
     . exact hfl q (by rw [<- h];exact hq)
     . rw [h] at hq;cases hq;omega
    ·
     intro h0
     have:=xi hoh h0
     rcases hfr6 with h | ⟨q',h,h'⟩
     . exact (hfh q h0).2 (by rw [<- h];exact hq)
     . rw [h] at hq;cases hq;omega
   have hE8:Ext w_b w8:=((hL.trans hk6 (fun q hq h=>by have:=hfl q h;omega)).ext hk_b7).trans hk8 (fun q hq h=>by have:=(hfh q h).1;omega)
   refine Ga 9 O (by omega) (zkh ((i+1,l++[(ka,kb)],vl',vh')) (zlO O) (⟨by omega,zcu he_k hl hx,?_,?_,fun q hq=>(hfl' q hq).1,?_,hE8⟩) (by first | omega | (dsimp only;omega)))
   ·
    rw [zo1,List.map_append,List.flatMap_append]
    exact zT (zT hown6 hk_b7 (fun _ _ h=>h)) hk8 (fun q hq h=>(hfl' q hq).2.1 h)
   ·
    rw [zo1,List.map_append,List.flatMap_append]
    exact hown8
   ·
    intro q hq
    rcases hfr8 with h | ⟨q',h,h'⟩
    ·
     have hq':vh.ownBlock=some q:=by rw [<- h];exact hq
     refine⟨(hfh q hq').1,fun h0=>(hfl' q h0).2.1 hq'⟩
    ·
     rw [h] at hq
     cases hq
     exact⟨by omega,fun h0=>by have:=(hfl' _ h0).2.2;omega⟩
 ·
  have hii:i=t.kids.length:=by omega
  subst hii
  rw [znY] at hl
  have hll:=xH _ _ hl
  have hsl:SlR 1 zB (fun _=>True) w1 vl (l.map Prod.fst):=zli (by omega) zfc zdO (fun x _=>rfl) hol (fun _ _=>trivial)
  have hsh:SlR 1 zB (fun _=>True) w1 vh (l.map Prod.snd):=zli (by omega) zfc zdO (fun x _=>rfl) hoh (fun _ _=>trivial)
  have hn:NodeOk vs t.op t.n l:=qC hll hf.1.1 hf.1.2 (fun x hx=>by
   obtain⟨k,hk,hkx⟩:=qQ _ _ hl x hx
   exact qR hvb k (yc hf.2 hk) x hkx) hvb
  have hrg:rng vs t=if okR (zj vs t.op t.n l) then some (zj vs t.op t.n l) else none:=by rw [zau,hl];rfl
  refine Gs 8 O (zm7 O tg86 ts86 hB_b.cells O (Gs 2 O (G.call O Tryz.call140 (zes vs t l _ vl vh _ Dv D (fun _=>True) (fun _=>True) _ hvs (RTm.put hk) hsl hsh hn) ?_)))
  rintro _ wz2 ⟨⟨a,c,rfl,hok,hval⟩,hz2⟩
  obtain⟨hE,hvs,hk,hB_b,hL,hol,hoh⟩:=Tr7 hz2 hE hvs hk hB_b hL hol hoh
  have hso:(rng vs t).isSome=okR (a,c):=by rw [hrg,hok];cases okR (zj vs t.op t.n l) <;> rfl
  have hvv:∀ x,rng vs t=some x->(a,c)=x:=by
   intro x hx
   have h1:okR (a,c)=true:=by rw [<- hso,hx];rfl
   rw [hrg,<- hok,h1,zo4 rfl] at hx
   rw [hval h1]
   exact Option.some.inj hx
  refine Gs 14 O (G.sp 57 O (fun g1=>?_) (fun g1=>?_))
  ·
   have ho:okR (a,c)=decide (c<=1048576):=by unfold okR;congr 1;simp;omega
   refine Gs 9 O (zkw Tryz.results108 O O O ⟨_,rfl,⟨a,c,by rw [hso,ho] <;> rfl,hvv⟩,hE⟩)
  ·
   have ho:okR (a,c)=false:=by unfold okR;exact zo6 (by dsimp only;omega)
   refine Gs 9 O (zkw Tryz.results108 O O O ⟨_,rfl,⟨a,c,by rw [hso,ho] <;> rfl,hvv⟩,hE⟩)
def zD (vs:List Vr) (inp:Bool) (t:Tm):Int:=if zw vs inp t then (if (rng vs t).isSome then 0 else 3) else 1
theorem xv (vs:List Vr) (inp:Bool) (vv:Value) (cs:List Value) (Dv D:Nat->Prop) (w:World) (t:Tm) (hvb:∀ v ∈ vs,yp (v.low,v.high)) (hvs:SlR 5 RVr Dv w vv vs) (ht:RTm D w t cs) (hsz:t.nodes<=1000000):Calls Tryz.prog 57 #[vv,.agg cs.toArray,.bool inp] w (Ret fun r w'=>r=.int .i64 (zD vs inp t)/\Ext w w'):=by
 obtain⟨v,rfl,hk⟩:=ht.get
 have hE:=Keep.refl (fun _=>False) w
 refine zmc Tryz.func57 O Tryz.ntmps57 O (Gs 2 O (G.mem O O (M.box O O) ?_))
 rintro _ w_b ⟨b,rfl,hg_b,hs_b,hB_b,hk_b⟩
 have hge_b:_<=b:=znZ hE.size (Nat.le_of_eq hg_b.symm)
 obtain⟨hE,hvs,hk⟩:=Tr3 hk_b hE hvs hk
 refine Gs 7 O (zm7 O tg86 ts86 hB_b.cells O (Gs 1 O (G.call O Tryz.call107 (zct vs inp vv Dv t _ D _ hvs (RTm.put hk)) ?_)))
 rintro _ wz1 ⟨rfl,hz1⟩
 obtain⟨hE,hvs,hk,hB_b⟩:=Tr4 hz1 hE hvs hk hB_b
 refine zm1 O O (zly O (by first | exact za | rfl)) (Gs 2 O (G.bool O (fun hf=>?_) (fun hf=>?_)))
 ·
  have hf':zw vs inp t=false:=by simpa using hf
  refine Gs 7 O (zkq Tryz.results57 O ⟨_,rfl,by rw [zD,hf'];rfl,hE⟩)
 ·
  have hf':zw vs inp t=true:=by simpa using hf
  refine Gs 5 O (zm7 O tg86 ts86 hB_b.cells O (G.call O Tryz.call108 (zd9 vs inp vv Dv hvb t _ D _ hvs (RTm.put hk) hf' hsz) ?_))
  rintro _ wz2 ⟨⟨a,c,rfl,_⟩,hz2⟩
  obtain⟨hE,hvs,hk,hB_b⟩:=Tr4 hz2 hE hvs hk hB_b
  refine Gs 13 O (zm1 O O (zly O (by first | exact za | rfl)) (Gs 2 O (G.bool O (fun ho=>?_) (fun ho=>?_))))
  ·
   have ho':(rng vs t).isSome=false:=by simpa using ho
   refine Gs 7 O (zkq Tryz.results57 O ⟨_,rfl,by rw [zD,hf',ho'];rfl,hE⟩)
  ·
   have ho':(rng vs t).isSome=true:=by simpa using ho
   refine Gs 8 O (zkq Tryz.results57 O ⟨_,rfl,by rw [zD,hf',ho'];rfl,hE⟩)
theorem zaw (vs:List Vr) (inp:Bool) (vv:Value) (cs:List Value) (Dv D:Nat->Prop) (w:World) (t:Tm) (hvb:∀ v ∈ vs,yp (v.low,v.high)) (hvs:SlR 5 RVr Dv w vv vs) (ht:RTm D w t cs) (hsz:t.nodes<=1000000):Calls Tryz.prog 149 #[vv,.agg cs.toArray,.bool inp] w (Ret fun r w'=>r=.int .i64 (zD vs inp t)/\Ext w w'):=by
 obtain⟨v,rfl,hk⟩:=ht.get
 have hE:=Keep.refl (fun _=>False) w
 refine zmc Tryz.func149 O Tryz.ntmps149 O (Gs 2 O (G.mem O O (M.box O O) ?_))
 rintro _ w_b ⟨b,rfl,hg_b,hs_b,hB_b,hk_b⟩
 have hge_b:_<=b:=znZ hE.size (Nat.le_of_eq hg_b.symm)
 obtain⟨hE,hvs,hk⟩:=Tr3 hk_b hE hvs hk
 refine Gs 7 O (zm7 O tg86 ts86 hB_b.cells O (Gs 1 O (G.call O Tryz.call197 (zbC vs inp vv Dv t _ D _ hvs (RTm.put hk)) ?_)))
 rintro _ wz1 ⟨rfl,hz1⟩
 obtain⟨hE,hvs,hk,hB_b⟩:=Tr4 hz1 hE hvs hk hB_b
 refine zm1 O O (zly O (by first | exact za | rfl)) (Gs 2 O (G.bool O (fun hf=>?_) (fun hf=>?_)))
 ·
  have hf':zw vs inp t=false:=by simpa using hf
  refine Gs 7 O (zkq Tryz.results149 O ⟨_,rfl,by rw [zD,hf'];rfl,hE⟩)
 ·
  have hf':zw vs inp t=true:=by simpa using hf
  refine Gs 6 O (zm7 O tg86 ts86 hB_b.cells O (G.call O Tryz.call198 (zfb vs inp vv Dv hvb t _ D _ hvs (RTm.put hk) hf' hsz) ?_))
  rintro _ wz2 ⟨⟨a,c,rfl,_⟩,hz2⟩
  obtain⟨hE,hvs,hk,hB_b⟩:=Tr4 hz2 hE hvs hk hB_b
  refine Gs 3 O (G.mem O O (M.alloc (cs:=_) tz226 O) ?_)
  rintro _ wa3 ⟨o,rfl,hg_o,hs_o,hB_o,hk_o⟩
  refine zkY O (zkZ ts226 O O O O (by simp [Value.oneCell']) hB_o (by simp)) ?_
  rintro w_o ⟨_,hB_o,hkk_o⟩
  replace hk_o:=hk_o.trans hkk_o (fun q hq h=>by have h:q=o:=h;omega)
  have hn_b_o:b ≠ o:=by have:=hB_b.lt;omega
  have hge_o:_<=o:=znZ hE.size (Nat.le_of_eq hg_o.symm)
  obtain⟨hE,hvs,hk,hB_b⟩:=Tr4 hk_o hE hvs hk hB_b
  refine Gs 6 O (zm1 O O (zly O (by first | exact za | rfl)) (Gs 2 O (G.bool O (fun ho=>?_) (fun ho=>?_))))
  ·
   have ho':(rng vs t).isSome=false:=by simpa using ho
   refine Gs 7 O (zkq Tryz.results149 O ⟨_,rfl,by rw [zD,hf',ho'];rfl,hE⟩)
  ·
   have ho':(rng vs t).isSome=true:=by simpa using ho
   refine Gs 8 O (zkq Tryz.results149 O ⟨_,rfl,by rw [zD,hf',ho'];rfl,hE⟩)
def zY (k:Int):List Vr->Int->Option Int
 | [],n=>some n
 | v::r,n=>if v.kind=k then (if 4096<n*(v.high - v.low+1) then none else zY k r (n*(v.high - v.low+1))) else zY k r n
def zk (k:Int) (vs:List Vr):Option Int:=zY k vs 1
theorem zH (k:Int):∀ (a b:List Vr) (n:Int),zY k (a++b) n=(zY k a n).bind (zY k b)
 | [],b,n=>rfl
 | v::r,b,n=>by
  simp only [List.cons_append,zY]
  split
  ·
   split
   . rfl
   . exact zH k r b _
  . exact zH k r b _
theorem yk (k:Int):∀ (a:List Vr) (n m:Int),(∀ v ∈ a,yp (v.low,v.high))->1<=n->n<=4096->zY k a n=some m->1<=m/\m<=4096
 | [],n,m,_,h1,h2,h=>by simp [zY] at h;omega
 | v::r,n,m,hg,h1,h2,h=>by
  have hv:=hg v (znX ..)
  have hr:=fun x hx=>hg x (znW _ hx)
  unfold yp at hv
  simp only [zY] at h
  split at h
  ·
   split at h
   . cases h
   ·
    rename_i h3
    refine yk k r _ m hr ?_ (by omega) h
    have:(1:Int)*1<=n*(v.high - v.low+1):=Int.mul_le_mul h1 (by dsimp only at hv;omega) (by omega) (by omega)
    omega
  . exact yk k r n m hr h1 h2 h
theorem zda {n s:Int} (h1:1<=n) (h2:n<=4096) (h3:1<=s) (h4:s<=2097153):1<=n*s/\n*s<=4096*2097153:=by
 have a:(1:Int)*1<=n*s:=Int.mul_le_mul h1 h3 (by omega) (by omega)
 have b:n*s<=4096*2097153:=Int.mul_le_mul h2 h4 (by omega) (by omega)
 omega
theorem qa (vs:List Vr) (k:Int) (vv:Value) (D:Nat->Prop) (w:World) (hg:∀ v ∈ vs,yp (v.low,v.high)) (hvs:SlR 5 RVr D w vv vs):Calls Tryz.prog 106 #[vv,.int .i64 k] w (Ret fun r w'=>r=.int .i64 ((zk k vs).getD 4097)/\Ext w w'):=by
 have hmx:=hvs.max
 obtain⟨av,nv,rfl⟩:=hvs.form
 refine zmb Tryz.func106 O Tryz.ntmps106 O (Gs 17 O (G.loop (σ:=Nat × Int) (fun⟨i,n⟩=>[(0,.slice av vs.length nv),(1,.int .i64 k),(5,.int .i64 n),(6,.int .i64 i)]) (fun⟨i,n⟩=>fun w'=>i<=vs.length/\zY k (vs.take i) 1=some n/\Ext w w') (fun⟨i,n⟩=>vs.length - i) ((0,1)) (zlO O) (⟨zo8 _,rfl,Keep.refl _ _⟩) ?_))
 rintro⟨i,n⟩ w1 ⟨hi,hs,hL1⟩
 show G _ _ _ _ _ [(0,.slice av vs.length nv),(1,.int .i64 k),(5,.int .i64 n),(6,.int .i64 i)] _
 replace hvs:=Tr1 hL1 hvs
 have hn:=yk k (vs.take i) 1 n (fun v hv=>hg v (List.mem_of_mem_take hv)) (by omega) (by omega) hs
 refine Gs 9 O (zk6 O (fun hlt=>?_) (fun hlt=>?_))
 ·
  obtain⟨x,he_x,hm_x⟩:=gE_ vs (i) (by omega)
  obtain⟨b_x,o_x,c_x,ha_x,_,hc_x,hR_x⟩:=hvs.at he_x
  have h1_x:=RVr.one hR_x
  obtain rfl:=hR_x
  have hlt_x:b_x<_:=znV _ _ (hc_x 0 _ rfl)
  have hgx:=hg x hm_x
  unfold yp at hgx
  dsimp only at hgx
  have hp:=zda (n:=n) (s:=x.high - x.low+1) hn.1 hn.2 (by omega) (by omega)
  have hst:zY k (vs.take (i+1)) 1=if x.kind=k then (if 4096<n*(x.high - x.low+1) then none else some (n*(x.high - x.low+1))) else some n:=by
   rw [zg he_x,zH,hs];simp [zY]
  have hbad:zY k (vs.take (i+1)) 1=none->zk k vs=none:=by
   intro h
   unfold zk
   rw [<- List.take_append_drop (i+1) vs,zH,h];rfl
  refine Gs 9 O (zm1 O O (zkP tR22 ts89 O O ha_x (by omega)) (Gs 1 O (zm5 O tg53 (hc_x 1 _ O) (Gs 4 O (zk6 O (fun hk=>?_) (fun hk=>?_))))))
  . refine Ga 9 O (by omega) (zkh ((i+1,n)) (zlO O) (⟨by omega,by rw [hst,zo3 hk],hL1⟩) (by first | omega | (dsimp only;omega)))
  ·
   have hk':x.kind=k:=zo2.1 hk
   rw [zo4 hk'] at hst
   refine Gs 3 O (Qt (by kernel_rfl) (Gs 3 O (zm4 O O (fun w1 hw1=>zkP tR22 ts89 O O ha_x (by omega)) (Gs 1 O (zm6 O tg3 (fun w1 hw1=>((hw1.cells hc_x (fun h=>h)) 3 _ O)) (Gs 2 O (zm4 O O (fun w1 hw1=>zkP tR22 ts89 O O ha_x (by omega)) (Gs 1 O (zm6 O tg3 (fun w1 hw1=>((hw1.cells hc_x (fun h=>h)) 2 _ O)) (Ga 4 O (by omega) (zm8 (fun wz1 hz1=>?_))))))))))))
   obtain⟨hvs,hL1,hc_x⟩:=Tr3 hz1 hvs hL1 hc_x
   refine Gs 7 O (zk6 O (fun hb=>?_) (fun hb=>?_))
   ·
    rw [zo4 hb] at hst
    refine Gs 11 O (zkq Tryz.results106 O ⟨_,rfl,by rw [hbad hst];rfl,hL1⟩)
   . refine Ga 8 O (by omega) (zkh ((i+1,n*(x.high - x.low+1))) (zlO O) (⟨by omega,by rw [hst,zo3 hb],hL1⟩) (by first | omega | (dsimp only;omega)))
 ·
  have:i=vs.length:=by omega
  subst this
  rw [znY] at hs
  refine Gs 12 O (zkq Tryz.results106 O ⟨_,rfl,by rw [zk,hs];rfl,hL1⟩)
theorem jX (v:Vr) (w:World) (hg:yp (v.low,v.high)):Calls Tryz.prog 120 #[.agg #[.string v.name,.int .i64 v.kind,.int .i64 v.low,.int .i64 v.high,.int .i64 v.init]] w (Ret fun r w'=>r=.int .i64 (v.high - v.low+1)/\Ext w w'):=by
 unfold yp at hg
 dsimp only at hg
 have hE:=Keep.refl (fun _=>False) w
 refine zma Tryz.func120 O Tryz.ntmps120 O (Gs 2 O (G.mem O O (M.box O O) ?_))
 rintro _ w_b ⟨b,rfl,hg_b,hs_b,hB_b,hk_b⟩
 have hge_b:_<=b:=znZ hE.size (Nat.le_of_eq hg_b.symm)
 replace hE:=Tr1 hk_b hE
 refine Gs 6 O (zm5 O tg3 (hB_b.cells 3 _ O) (Gs 1 O (zm5 O tg3 (hB_b.cells 2 _ O) (Ga 6 O (by omega) (zkq Tryz.results120 O ⟨_,rfl,rfl,hE⟩)))))
def zdb (v:Vr):List Value:=[.string v.name,.int .i64 v.kind,.int .i64 v.low,.int .i64 v.high,.int .i64 v.init]
theorem zdQ (v:Vr):(zdb v).length=5:=rfl
theorem zdR (v:Vr):∀ u ∈ zdb v,u.oneCell'=true:=by simp [zdb,Value.oneCell']
def ze (k:Int) (vs:List Vr):List Vr:=vs.filter fun v=>decide (v.kind=k)
theorem zax {k:Int} {vs:List Vr} {i:Nat} {x:Vr} (h:vs[i]?=some x):ze k (vs.take (i+1))=ze k (vs.take i)++(if x.kind=k then [x] else []):=by
 unfold ze
 rw [zg h,List.filter_append]
 congr 1
 by_cases e:x.kind=k <;> simp [e]
theorem xQ (k:Int) (vs:List Vr):(ze k vs).length<=vs.length:=List.length_filter_le _ _
theorem yJ (k:Int):∀ (vs:List Vr) (n:Int),zY k (ze k vs) n=zY k vs n
 | [],n=>rfl
 | v::r,n=>by
  unfold ze
  by_cases e:v.kind=k
  ·
   rw [List.filter_cons_of_pos (by simpa using e)]
   simp only [zY,e,if_true]
   split
   . rfl
   . exact yJ k r _
  ·
   rw [List.filter_cons_of_neg (by simpa using e)]
   simp only [zY,e,if_false]
   exact yJ k r n
theorem qD (vs:List Vr) (k:Int) (vv:Value) (D:Nat->Prop) (w:World) (hk:0<=k/\k<=3) (hg:∀ v ∈ vs,yp (v.low,v.high)) (hvs:SlR 5 RVr D w vv vs) (hlen:vs.length<=1000000):Calls Tryz.prog 119 #[vv,.int .i64 k] w (Ret fun r w'=>(∃ vl,r=.tuple #[vl,.int .i64 ((zk k vs).getD 0),.int .i64 (if (zk k vs).isSome then 0 else 4)]/\((zk k vs).isSome=true->SlR 5 RVr (fun b=>w.heap.size<=b) w' vl (ze k vs))/\((zk k vs).isSome=false->vl=.slice none 0 0))/\Ext w w'):=by
 obtain⟨av,nv,rfl⟩:=hvs.form
 have hE:=Keep.refl (fun _=>False) w
 refine zmb Tryz.func119 O Tryz.ntmps119 O (Gs 13 O (zkk (σ:=Unit) (fun u=>[(0,.slice av vs.length nv),(1,.int .i64 k)]) (fun u=>fun w'=>w'=w) ?_ ?_))
 ·
  refine Gs 8 O (zk6 O (fun h0=>?_) (fun h0=>?_))
  . refine Gs 5 O (zkm (()) (zlO O) (rfl))
  ·
   refine Gs 6 O (zk6 O (fun h1=>?_) (fun h1=>?_))
   . refine Gs 5 O (zkm (()) (zlO O) (rfl))
   ·
    refine Gs 6 O (zk6 O (fun h2=>?_) (fun h2=>?_))
    . refine Gs 5 O (zkm (()) (zlO O) (rfl))
    ·
     refine Gs 5 O (zk6 O (fun h3=>?_) (fun h3=>?_))
     . refine Gs 2 O (zkm (()) (zlO O) (rfl))
     . exact absurd hk (by omega)
 rintro u w1 hw1
 subst hw1
 refine Gs 14 O (zkk (σ:=Value) (fun vl=>[(0,.slice av vs.length nv),(1,.int .i64 k),(7,vl)]) (fun vl=>fun w'=>w'.ownsRow 0 89 5 vl (ze k vs).length ((ze k vs).flatMap zdb)/\(∀ q,vl.ownBlock=some q->w1.heap.size<=q)/\Ext w1 w') ?_ ?_)
 ·
  refine Gs 1 O (G.loop (σ:=Nat × Value) (fun⟨i,vl⟩=>[(0,.slice av vs.length nv),(1,.int .i64 k),(7,vl),(19,.slice av vs.length nv),(20,.int .i64 vs.length),(21,.int .i64 i)]) (fun⟨i,vl⟩=>fun w'=>i<=vs.length/\w'.ownsRow 0 89 5 vl (ze k (vs.take i)).length ((ze k (vs.take i)).flatMap zdb)/\(∀ q,vl.ownBlock=some q->w1.heap.size<=q)/\Ext w1 w') (fun⟨i,vl⟩=>vs.length - i) ((0,.slice none 0 0)) (zlO O) (⟨zo8 _,za5 _ _ _,fun q hq=>by simp [Value.ownBlock] at hq,Keep.refl _ _⟩) ?_)
  rintro⟨i,vl⟩ w2 ⟨hi,hown,hfr,hL1⟩
  show G _ _ _ _ _ [(0,.slice av vs.length nv),(1,.int .i64 k),(7,vl),(19,.slice av vs.length nv),(20,.int .i64 vs.length),(21,.int .i64 i)] _
  obtain⟨hE,hvs⟩:=Tr2 hL1 hE hvs
  refine Gs 6 O (zk6 O (fun hlt=>?_) (fun hlt=>?_))
  ·
   obtain⟨x,he_x,hm_x⟩:=gE_ vs (i) (by omega)
   obtain⟨b_x,o_x,c_x,ha_x,_,hc_x,hR_x⟩:=hvs.at he_x
   have h1_x:=RVr.one hR_x
   obtain rfl:=hR_x
   have hlt_x:b_x<_:=znV _ _ (hc_x 0 _ rfl)
   have hgx:=hg x hm_x
   unfold yp at hgx
   dsimp only at hgx
   have hot:=zax (k:=k) he_x
   have hol:=xQ k (vs.take i)
   rw [zon] at hol
   refine Gs 6 O (zm1 O O (zkP tR22 ts89 O O ha_x (by omega)) (zm7 O tg89 ts89 hc_x O (G.mem O O (M.alloc (cs:=_) tz89 O) ?_)))
   rintro _ wa1 ⟨c,rfl,hg_c,hs_c,hB_c,hk_c⟩
   refine zkY O (zkZ ts89 O O O O h1_x hB_c (by simp)) ?_
   rintro w_c ⟨_,hB_c,hkk_c⟩
   replace hk_c:=hk_c.trans hkk_c (fun q hq h=>by have h:q=c:=h;omega)
   have hge_c:_<=c:=znZ hE.size (Nat.le_of_eq hg_c.symm)
   obtain⟨hE,hvs,hL1,hown,hc_x⟩:=Tr5 hk_c hE hvs hL1 hown hc_x
   refine Gs 6 O (zm5 O tg53 (hB_c.cells 1 _ O) (Gs 4 O (zk6 O (fun hkx=>?_) (fun hkx=>?_))))
   ·
    rw [zo3 hkx,List.append_nil] at hot
    refine Ga 8 O (by omega) (zkh ((i+1,vl)) (zlO O) (⟨by omega,by rw [hot];exact hown,hfr,hL1⟩) (by first | omega | (dsimp only;omega)))
   ·
    have hkx':x.kind=k:=zo2.1 hkx
    rw [zo4 hkx'] at hot
    refine Gs 6 O (zm5 O tg3 (hB_c.cells 2 _ O) (Gs 1 O (zm5 O tg3 (hB_c.cells 3 _ O) (Gs 2 O (G.sp 34 O (fun b0=>?_) (fun b0=>?_))))))
    . exact absurd b0 (by omega)
    ·
     refine Gs 1 O (zm5 O tg3 (hB_c.cells 2 _ O) (Gs 3 O (G.sp 39 O (fun b1=>?_) (fun b1=>?_))))
     . exact absurd b1 (by omega)
     ·
      refine Gs 1 O (zm5 O tg3 (hB_c.cells 3 _ O) (Gs 4 O (zk6 O (fun b2=>?_) (fun b2=>?_))))
      . exact absurd b2 (by omega)
      ·
       refine Gs 4 O (zm7 O tg89 ts89 hB_c.cells O (G.mem O O (M.buildSlice (cs:=zdb x) [(0,_)] tR22 ts89 tz89 (by decide) O (by kernel_rfl)) ?_))
       rintro _ w5 ⟨b5,rfl,hg_b5,hs_b5,hB_b5,hk_b5⟩
       obtain⟨hE,hvs,hL1,hown,hc_x,hB_c⟩:=Tr6 hk_b5 hE hvs hL1 hown hc_x hB_c
       refine G.mem O O (M.append Tryz.underlying22 Tryz.el89 O (by decide) O O hown O (Cells.add hB_b5.cells) (zdR _) (by omega) (by omega)) ?_
       rintro vl' w6 ⟨hown6,hfr6,hk6,_⟩
       have hszL:=hL1.size
       refine Ga 8 O (by omega) (zkh ((i+1,vl')) (zlO O) (⟨by omega,?_,?_,hL1.trans hk6 (fun q hq h=>by have:=hfr q h;omega)⟩) (by first | omega | (dsimp only;omega)))
       ·
        rw [hot,zo1,List.flatMap_append]
        exact hown6
       ·
        intro q hq
        rcases hfr6 with h | ⟨q',h,h'⟩
        . exact hfr q (by rw [<- h];exact hq)
        . rw [h] at hq;cases hq;omega
  ·
   have:i=vs.length:=by omega
   subst this
   rw [znY] at hown
   refine Gs 4 O (zkm (vl) (zlO O) (⟨hown,hfr,hL1⟩))
 rintro vl w2 ⟨hown,hfr,hX⟩
 obtain⟨hE,hvs⟩:=Tr2 hX hE hvs
 have hsl:SlR 5 RVr (fun b=>w1.heap.size<=b) w2 vl (ze k vs):=zli (by omega) zdb zdQ (fun x _=>rfl) hown hfr
 obtain⟨al,nl,rfl⟩:=hsl.form
 have hol:=xQ k vs
 have hgo:∀ v ∈ ze k vs,yp (v.low,v.high):=fun v hv=>hg v (List.mem_filter.1 hv).1
 have hsp:zY k (ze k vs) 1=zk k vs:=yJ k vs 1
 have hall:∀ v ∈ ze k vs,v.kind=k:=fun v hv=>by simpa using (List.mem_filter.1 hv).2
 refine Gs 15 O (G.loop (σ:=Nat × Int) (fun⟨i,n⟩=>[(7,.slice al (ze k vs).length nl),(10,.int .i64 n),(49,.slice al (ze k vs).length nl),(50,.int .i64 (ze k vs).length),(51,.int .i64 i)]) (fun⟨i,n⟩=>fun w'=>i<=(ze k vs).length/\zY k ((ze k vs).take i) 1=some n/\Ext w2 w') (fun⟨i,n⟩=>(ze k vs).length - i) ((0,1)) (zlO O) (⟨zo8 _,rfl,Keep.refl _ _⟩) ?_)
 rintro⟨i,n⟩ w3 ⟨hi,hs,hL2⟩
 show G _ _ _ _ _ [(7,.slice al (ze k vs).length nl),(10,.int .i64 n),(49,.slice al (ze k vs).length nl),(50,.int .i64 (ze k vs).length),(51,.int .i64 i)] _
 obtain⟨hE,hvs,hsl⟩:=Tr3 hL2 hE hvs hsl
 have hn:=yk k ((ze k vs).take i) 1 n (fun v hv=>hgo v (List.mem_of_mem_take hv)) (by omega) (by omega) hs
 refine Gs 6 O (zk6 O (fun hlt=>?_) (fun hlt=>?_))
 ·
  obtain⟨x,he_x,hm_x⟩:=gE_ (ze k vs) (i) (by omega)
  obtain⟨b_x,o_x,c_x,ha_x,_,hc_x,hR_x⟩:=hsl.at he_x
  have h1_x:=RVr.one hR_x
  obtain rfl:=hR_x
  have hlt_x:b_x<_:=znV _ _ (hc_x 0 _ rfl)
  have hgx:=hgo x hm_x
  have hgx':=hgx
  unfold yp at hgx'
  dsimp only at hgx'
  have hp:=zda (n:=n) (s:=x.high - x.low+1) hn.1 hn.2 (by omega) (by omega)
  have hst:zY k ((ze k vs).take (i+1)) 1=if 4096<n*(x.high - x.low+1) then none else some (n*(x.high - x.low+1)):=by
   rw [zg he_x,zH,hs];simp [zY,hall x hm_x]
  refine Gs 6 O (zm1 O O (zkP tR22 ts89 O O ha_x (by omega)) (zm7 O tg89 ts89 hc_x O (G.mem O O (M.alloc (cs:=_) tz89 O) ?_)))
  rintro _ wa2 ⟨c,rfl,hg_c,hs_c,hB_c,hk_c⟩
  refine zkY O (zkZ ts89 O O O O h1_x hB_c (by simp)) ?_
  rintro w_c ⟨_,hB_c,hkk_c⟩
  replace hk_c:=hk_c.trans hkk_c (fun q hq h=>by have h:q=c:=h;omega)
  have hge_c:_<=c:=znZ hE.size (Nat.le_of_eq hg_c.symm)
  obtain⟨hE,hvs,hsl,hL2,hc_x⟩:=Tr5 hk_c hE hvs hsl hL2 hc_x
  refine Gs 5 O (zm7 O tg89 ts89 hB_c.cells O (G.call O Tryz.call120 (jX x _ hgx) ?_))
  rintro _ wz3 ⟨rfl,hz3⟩
  obtain⟨hE,hvs,hsl,hL2,hc_x,hB_c⟩:=Tr6 hz3 hE hvs hsl hL2 hc_x hB_c
  refine Ga 10 O (by omega) (zk6 O (fun hb=>?_) (fun hb=>?_))
  ·
   rw [zo4 hb] at hst
   have hnone:zk k vs=none:=by
    rw [<- hsp,<- List.take_append_drop (i+1) (ze k vs),zH,hst];rfl
   refine Gs 13 O (zkw Tryz.results119 O O O ⟨_,rfl,⟨.slice none 0 0,by rw [hnone];rfl,(fun (h:(zk k vs).isSome=true)=>by rw [hnone] at h;cases h),fun _=>rfl⟩,hE⟩)
  . refine Ga 7 O (by omega) (zkh ((i+1,n*(x.high - x.low+1))) (zlO O) (⟨by omega,by rw [hst,zo3 hb],hL2⟩) (by first | omega | (dsimp only;omega)))
 ·
  have:i=(ze k vs).length:=by omega
  subst this
  rw [znY,hsp] at hs
  refine Gs 15 O (zkw Tryz.results119 O O O ⟨_,rfl,⟨_,by rw [hs];rfl,fun _=>hsl,(fun (h:(zk k vs).isSome=false)=>by rw [hs] at h;cases h)⟩,hE⟩)
theorem jf (vs:List Vr) (k:Int) (vv:Value) (D:Nat->Prop) (w:World) (hk:0<=k/\k<=3) (hg:∀ v ∈ vs,yp (v.low,v.high)) (hvs:SlR 5 RVr D w vv vs) (hlen:vs.length<=1000000):Calls Tryz.prog 62 #[vv,.int .i64 k] w (Ret fun r w'=>r=.tuple #[.int .i64 ((zk k vs).getD 0),.int .i64 (if (zk k vs).isSome then 0 else 4)]/\Ext w w'):=by
 have hE:=Keep.refl (fun _=>False) w
 refine zmb Tryz.func62 O Tryz.ntmps62 O (Gs 10 O (G.call O tc119 (qD vs k vv D w hk hg hvs hlen) ?_))
 rintro _ wz1 ⟨⟨vl,rfl,_,_⟩,hz1⟩
 replace hE:=Tr1 hz1 hE
 refine Gs 18 O (zkt Tryz.results62 O O ⟨_,rfl,rfl,hE⟩)
def yv (f:Nat->Int):Nat->Nat->Int
 | _,0=>0
 | i,n+1=>if f i ≠ 0 then f i else yv f (i+1) n
theorem qb (f:Nat->Int):∀ (k i m:Nat),(∀ j,i<=j->j<i+k->f j=0)->yv f i (k+m)=yv f (i+k) m
 | 0,i,m,_=>by simp
 | k+1,i,m,h=>by
  rw [show k+1+m=(k+m)+1 by omega,yv,zo3 (by simp [h i (zoi _) (by omega)]),qb f k (i+1) m (fun j h1 h2=>h j (by omega) (by omega))]
  congr 1;omega
theorem qc {f:Nat->Int} {i n:Nat} (h:∀ j,j<i->f j=0) (hi:i<n) (hb:f i ≠ 0):yv f 0 n=f i:=by
 obtain⟨m,rfl⟩:∃ m,n=i+(m+1):=⟨n - i - 1,by omega⟩
 rw [qb f i 0 (m+1) (fun j _ h2=>h j (by omega)),Nat.zero_add,yv,zo4 hb]
theorem xo {f:Nat->Int} {n:Nat} (h:∀ j,j<n->f j=0):yv f 0 n=0:=by
 have:=qb f n 0 0 (fun j _ h2=>h j (by omega))
 simpa [yv] using this
theorem xc {f:Nat->Int}:∀ (n i:Nat),yv f i n=0->∀ j,i<=j->j<i+n->f j=0
 | 0,i,_,j,h1,h2=>by omega
 | n+1,i,h,j,h1,h2=>by
  rw [yv] at h
  split at h
  . rename_i h3;exact absurd h h3
  ·
   rename_i h3
   by_cases e:j=i
   . subst e;simpa using h3
   . exact xc n (i+1) h j (by omega) (by omega)
def zU (a b:ByteArray):Bool:=decide (a.toList=b.toList)
def zI (prev:List Vr) (v:Vr):Int :=
 if zar v.name=false then 7
 else if prev.any (fun u=>zU u.name v.name)=true then 8
 else if ¬ (0<=v.kind/\v.kind<=3) then 1
 else if zb3 v.low v.high=false then 3
 else if v.kind=0/\(v.init<v.low\/v.high<v.init)\/v.kind ≠ 0/\v.init ≠ 0 then 3
 else 0
def jF (vs:List Vr) (i:Nat):Int:=match vs[i]? with
 | some v=>zI (vs.take i) v
 | none=>0
theorem kV {vs:List Vr} {i:Nat} {v:Vr} (h:vs[i]?=some v):jF vs i=zI (vs.take i) v:=by simp [jF,h]
def yA (vs:List Vr):Bool:=(zk 1 vs).isNone || (zk 2 vs).isNone || (match zk 3 vs with
 | some n=>decide (256<n)
 | none=>true)
def zr (vs:List Vr):Int:=if yv (jF vs) 0 vs.length ≠ 0 then yv (jF vs) 0 vs.length else if yA vs then 4 else 0
theorem zcw {prev:List Vr} {v:Vr} (h:zI prev v=0):yp (v.low,v.high)/\0<=v.kind/\v.kind<=3:=by
 unfold zI at h
 split at h
 . cases h
 split at h
 . cases h
 split at h
 . cases h
 split at h
 . cases h
 ·
  rename_i h1 h2 h3 h4
  have h5:zb3 v.low v.high=true:=by simpa using h4
  unfold zb3 at h5
  have:=of_decide_eq_true h5
  have h3:=zo2.1 h3
  exact⟨⟨this.2.1,this.1,this.2.2⟩,h3.1,h3.2⟩
theorem xI {vs:List Vr} (h:∀ j,j<vs.length->jF vs j=0):∀ v ∈ vs,yp (v.low,v.high)/\0<=v.kind/\v.kind<=3:=by
 intro v hv
 obtain⟨i,hi⟩:=List.mem_iff_getElem?.1 hv
 have:=h i (zo7.1 hi).1
 rw [kV hi] at this
 exact zcw this
theorem zay (vs:List Vr) (vv:Value) (D:Nat->Prop) (w:World) (hvs:SlR 5 RVr D w vv vs):Calls Tryz.prog 54 #[vv] w (Ret fun r w'=>r=.int .i64 (zr vs)/\Ext w w'):=by
 have hmx:=hvs.max
 obtain⟨av,nv,rfl⟩:=hvs.form
 refine zma Tryz.func54 O Tryz.ntmps54 O (Gs 12 O (G.loop (σ:=Nat) (fun i=>[(0,.slice av vs.length nv),(3,.int .i64 i)]) (fun i=>fun w'=>i<=vs.length/\(∀ j,j<i->jF vs j=0)/\Ext w w') (fun i=>vs.length - i) (0) (zlO O) (⟨zo8 _,fun j h=>absurd h (Nat.not_lt_zero _),Keep.refl _ _⟩) ?_))
 rintro i w1 ⟨hi,hall,hL1⟩
 replace hvs:=Tr1 hL1 hvs
 refine Gs 9 O (zk6 O (fun hlt=>?_) (fun hlt=>?_))
 ·
  obtain⟨x,he_x,hm_x⟩:=gE_ vs (i) (by omega)
  obtain⟨b_x,o_x,c_x,ha_x,_,hc_x,hR_x⟩:=hvs.at he_x
  have h1_x:=RVr.one hR_x
  obtain rfl:=hR_x
  have hlt_x:b_x<_:=znV _ _ (hc_x 0 _ rfl)
  have hat:=kV he_x
  have hbad:∀ c:Int,zI (vs.take i) x=c->c ≠ 0->zr vs=c:=by
   intro c h1 h2
   have h3:jF vs i ≠ 0:=by rw [hat,h1];exact h2
   rw [zr,qc hall (by omega) h3,zo4 h3,hat,h1]
  have hnext:zI (vs.take i) x=0->∀ j,j<i+1->jF vs j=0:=by
   intro h j hj
   by_cases e:j=i
   . subst e;rw [hat,h]
   . exact hall j (by omega)
  refine Gs 8 O (zm1 O O (zkP tR22 ts89 O O ha_x (by omega)) (zm7 O tg89 ts89 hc_x O (G.mem O O (M.alloc (cs:=_) tz89 O) ?_)))
  rintro _ wa1 ⟨c,rfl,hg_c,hs_c,hB_c,hk_c⟩
  refine zkY O (zkZ ts89 O O O O h1_x hB_c (by simp)) ?_
  rintro w_c ⟨_,hB_c,hkk_c⟩
  replace hk_c:=hk_c.trans hkk_c (fun q hq h=>by have h:q=c:=h;omega)
  obtain⟨hvs,hL1,hc_x⟩:=Tr3 hk_c hvs hL1 hc_x
  refine Gs 6 O (zm5 O tg9 (hB_c.cells 0 _ O) (G.call O Tryz.call55 (kA x.name _) ?_))
  rintro _ wz2 ⟨rfl,hz2⟩
  obtain⟨hvs,hL1,hc_x,hB_c⟩:=Tr4 hz2 hvs hL1 hc_x hB_c
  refine zm1 O O (zly O (by first | exact za | rfl)) (Gs 2 O (G.bool O (fun n0=>?_) (fun n0=>?_)))
  ·
   have n0':zar x.name=false:=by simpa using n0
   refine Gs 12 O (zkq tr54 O ⟨_,rfl,by rw [hbad 7 (by rw [zI,zo4 n0']) (by decide)],hL1⟩)
  ·
   have n0':¬ zar x.name=false:=by simpa using n0
   refine Gs 9 O (G.loop (σ:=Nat) (fun j=>[(0,.slice av vs.length nv),(3,.int .i64 i),(4,.pointer (some ⟨c,0,none⟩)),(5,.int .i64 j)]) (fun j=>fun w'=>j<=i/\(vs.take j).any (fun u=>zU u.name x.name)=false/\Ext wz2 w') (fun j=>i - j) (0) (zlO O) (⟨zo8 _,rfl,Keep.refl _ _⟩) ?_)
   rintro j w2 ⟨hj,hno,hL2⟩
   obtain⟨hvs,hL1,hc_x,hB_c⟩:=Tr4 hL2 hvs hL1 hc_x hB_c
   refine Gs 8 O (zk6 O (fun hjl=>?_) (fun hjl=>?_))
   ·
    obtain⟨y,he_y,hm_y⟩:=gE_ vs (j) (by omega)
    obtain⟨b_y,o_y,c_y,ha_y,_,hc_y,hR_y⟩:=hvs.at he_y
    have h1_y:=RVr.one hR_y
    obtain rfl:=hR_y
    have hlt_y:b_y<_:=znV _ _ (hc_y 0 _ rfl)
    refine Gs 5 O (Qt (by kernel_rfl) (Gs 2 O (zm4 O O (fun w1 hw1=>zkP tR22 ts89 O O ha_y (by omega)) (Gs 1 O (zm6 O tg9 (fun w1 hw1=>((hw1.cells hc_y (fun h=>h)) 0 _ O)) (Gs 1 O (zm6 O tg9 (fun w1 hw1=>((hw1.blk hB_c (fun h=>h)).cells 0 _ O)) (Gs 1 O (zm8 (fun wz3 hz3=>?_))))))))))
    obtain⟨hvs,hL1,hc_x,hB_c,hL2,hc_y⟩:=Tr6 hz3 hvs hL1 hc_x hB_c hL2 hc_y
    refine Gs 1 O (zk6 O (fun hd=>?_) (fun hd=>?_))
    ·
     have hany:(vs.take i).any (fun u=>zU u.name x.name)=true:=by
      rw [List.any_eq_true]
      refine⟨y,znU (i:=j) (by rw [zop,zo4 (by omega)];exact he_y),?_⟩
      unfold zU;exact zo5 hd
     refine Gs 16 O (zkq tr54 O ⟨_,rfl,by rw [hbad 8 (by rw [zI,zo3 n0',zo4 hany]) (by decide)],hL1⟩)
    . refine Ga 8 O (by omega) (zkh (j+1) (zlO O) (⟨by omega,by rw [zg he_y,List.any_append,hno];simp [zU,hd],hL2⟩) (by first | omega | (dsimp only;omega)))
   ·
    have hji:j=i:=by omega
    subst hji
    have n1:¬ (vs.take j).any (fun u=>zU u.name x.name)=true:=by rw [hno];decide
    refine Gs 7 O (zkk (σ:=Bool) (fun q=>[(0,.slice av vs.length nv),(3,.int .i64 j),(4,.pointer (some ⟨c,0,none⟩)),(50,.bool q)]) (fun q=>fun w'=>(q=true ↔ ¬ (0<=x.kind/\x.kind<=3))/\w'=w2) ?_ ?_)
    ·
     refine Gs 2 O (zm5 O tg53 (hB_c.cells 1 _ O) (Gs 2 O (G.sp 36 O (fun k0=>?_) (fun k0=>?_))))
     ·
      refine Gs 1 O (zm5 O tg53 (hB_c.cells 1 _ O) (Gs 3 O (G.sp 41 O (fun k1=>?_) (fun k1=>?_))))
      ·
       refine Gs 1 O (zm5 O tg53 (hB_c.cells 1 _ O) (Gs 3 O (G.sp 46 O (fun k2=>?_) (fun k2=>?_))))
       . refine Gs 1 O (zm5 O tg53 (hB_c.cells 1 _ O) (Gs 3 O (zkm (decide (x.kind ≠ 3)) (zlO O) (⟨by simp;omega,rfl⟩))))
       . refine Gs 5 O (zkm (false) (Sub.cons O (Sub.cons O (Sub.cons O (Sub.cons (by first | rfl | (show some (Value.bool false)=some (Value.bool _);simp [*])) Sub.nil)))) (⟨by simp;omega,rfl⟩))
      . refine Gs 10 O (zkm (false) (Sub.cons O (Sub.cons O (Sub.cons O (Sub.cons (by first | rfl | (show some (Value.bool false)=some (Value.bool _);simp [*])) Sub.nil)))) (⟨by simp;omega,rfl⟩))
     . refine Gs 15 O (zkm (false) (Sub.cons O (Sub.cons O (Sub.cons O (Sub.cons (by first | rfl | (show some (Value.bool false)=some (Value.bool _);simp [*])) Sub.nil)))) (⟨by simp;omega,rfl⟩))
    rintro q w3 ⟨hq,hw3⟩
    subst hw3
    refine Gs 1 O (G.bool O (fun q1=>?_) (fun q1=>?_))
    ·
     have n2:=hq.1 q1
     refine Gs 12 O (zkq tr54 O ⟨_,rfl,by rw [hbad 1 (by rw [zI,zo3 n0',zo3 n1,zo4 n2]) (by decide)],hL1⟩)
    ·
     have n2:¬ ¬ (0<=x.kind/\x.kind<=3):=fun h=>by rw [hq.2 h] at q1;cases q1
     refine Gs 6 O (zm5 O tg3 (hB_c.cells 2 _ O) (Gs 1 O (zm5 O tg3 (hB_c.cells 3 _ O) (G.call O Tryz.call56 (jE x.low x.high _) ?_))))
     rintro _ wz4 ⟨rfl,hz4⟩
     obtain⟨hvs,hL1,hc_x,hB_c,hL2⟩:=Tr5 hz4 hvs hL1 hc_x hB_c hL2
     refine zm1 O O (zly O (by first | exact za | rfl)) (Gs 2 O (G.bool O (fun n3=>?_) (fun n3=>?_)))
     ·
      have n3':zb3 x.low x.high=false:=by simpa using n3
      refine Gs 12 O (zkq tr54 O ⟨_,rfl,by rw [hbad 3 (by rw [zI,zo3 n0',zo3 n1,zo3 n2,zo4 n3']) (by decide)],hL1⟩)
     ·
      have n3':¬ zb3 x.low x.high=false:=by simpa using n3
      have b4:x.kind=0/\(x.init<x.low\/x.high<x.init)\/x.kind ≠ 0/\x.init ≠ 0->zr vs=3:=fun h=>hbad 3 (by rw [zI,zo3 n0',zo3 n1,zo3 n2,zo3 n3',zo4 h]) (by decide)
      have g4:¬ (x.kind=0/\(x.init<x.low\/x.high<x.init)\/x.kind ≠ 0/\x.init ≠ 0)->zI (vs.take j) x=0:=fun h=>by rw [zI,zo3 n0',zo3 n1,zo3 n2,zo3 n3',zo3 h]
      refine Gs 5 O (zm5 O tg53 (hB_c.cells 1 _ O) (Gs 2 O (G.sp 60 O (fun k0=>?_) (fun k0=>?_))))
      ·
       refine Gs 1 O (zm5 O tg3 (hB_c.cells 4 _ O) (Gs 1 O (zm5 O tg3 (hB_c.cells 2 _ O) (Gs 2 O (G.sp 66 O (fun i0=>?_) (fun i0=>?_))))))
       . refine Gs 31 O (zkq tr54 O ⟨_,rfl,by rw [b4 (by omega)],hL1⟩)
       ·
        refine Gs 1 O (zm5 O tg3 (hB_c.cells 4 _ O) (Gs 1 O (zm5 O tg3 (hB_c.cells 3 _ O) (Gs 4 O (G.sp 74 O (fun i1=>?_) (fun i1=>?_))))))
        . refine Gs 23 O (zkq tr54 O ⟨_,rfl,by rw [b4 (by omega)],hL1⟩)
        ·
         refine Gs 1 O (zm5 O tg53 (hB_c.cells 1 _ O) (Gs 2 O (G.sp 78 O (fun kk=>?_) (fun kk=>?_))))
         . exact absurd k0 kk
         . refine Ga 16 O (by omega) (zkh (j+1) (zlO O) (⟨by omega,hnext (g4 (by omega)),hL1⟩) (by first | omega | (dsimp only;omega)))
      ·
       refine Gs 15 O (zm5 O tg53 (hB_c.cells 1 _ O) (Gs 2 O (G.sp 78 O (fun kk=>?_) (fun kk=>?_))))
       ·
        refine Gs 1 O (zm5 O tg3 (hB_c.cells 4 _ O) (Gs 5 O (zk6 O (fun i2=>?_) (fun i2=>?_))))
        . refine Gs 11 O (zkq tr54 O ⟨_,rfl,by rw [b4 (by omega)],hL1⟩)
        . refine Ga 8 O (by omega) (zkh (j+1) (zlO O) (⟨by omega,hnext (g4 (by omega)),hL1⟩) (by first | omega | (dsimp only;omega)))
       . exact absurd k0 kk
 ·
  have hii:i=vs.length:=by omega
  subst hii
  have hg:=xI hall
  have hz:=xo hall
  have hgo:∀ v ∈ vs,yp (v.low,v.high):=fun v hv=>(hg v hv).1
  have hv:zr vs=if yA vs then 4 else 0:=by rw [zr,zo3 (by simp [hz])]
  have sp:∀ k n,zk k vs=some n->1<=n/\n<=4096:=fun k n h=>yk k vs 1 n hgo (by omega) (by omega) h
  have isN:∀ k,(4096:Int)<(zk k vs).getD 4097 ↔ (zk k vs).isNone=true:=by
   intro k
   cases h:zk k vs with
   | none=>simp
   | some n=>have:=sp k n h;simp;omega
  have is3:(256:Int)<(zk 3 vs).getD 4097 ↔ (match zk 3 vs with | some n=>decide (256<n) | none=>true)=true:=by
   cases h:zk 3 vs with
   | none=>simp
   | some n=>simp
  refine Gs 9 O (G.call O Tryz.call106 (qa vs 1 _ D _ hgo hvs) ?_)
  rintro _ wz5 ⟨rfl,hz5⟩
  obtain⟨hvs,hL1⟩:=Tr2 hz5 hvs hL1
  refine Gs 2 O (G.sp 87 O (fun s1=>?_) (fun s1=>?_))
  . refine Gs 19 O (zkq tr54 O ⟨_,rfl,by rw [hv,yA,(isN 1).1 s1];rfl,hL1⟩)
  ·
   have s1':(zk 1 vs).isNone=false:=by rw [Bool.eq_false_iff];exact fun h=>s1 ((isN 1).2 h)
   refine Gs 1 O (G.call O Tryz.call106 (qa vs 2 _ D _ hgo hvs) ?_)
   rintro _ wz6 ⟨rfl,hz6⟩
   obtain⟨hvs,hL1⟩:=Tr2 hz6 hvs hL1
   refine Gs 3 O (G.sp 92 O (fun s2=>?_) (fun s2=>?_))
   . refine Gs 14 O (zkq tr54 O ⟨_,rfl,by rw [hv,yA,s1',(isN 2).1 s2];rfl,hL1⟩)
   ·
    have s2':(zk 2 vs).isNone=false:=by rw [Bool.eq_false_iff];exact fun h=>s2 ((isN 2).2 h)
    refine Gs 1 O (G.call O Tryz.call106 (qa vs 3 _ D _ hgo hvs) ?_)
    rintro _ wz7 ⟨rfl,hz7⟩
    obtain⟨hvs,hL1⟩:=Tr2 hz7 hvs hL1
    refine Gs 4 O (zk6 O (fun s3=>?_) (fun s3=>?_))
    . refine Gs 7 O (zkq tr54 O ⟨_,rfl,by rw [hv,yA,s1',s2',is3.1 s3];rfl,hL1⟩)
    ·
     have s3':(match zk 3 vs with | some n=>decide (256<n) | none=>true)=false:=by rw [Bool.eq_false_iff];exact fun h=>s3 (is3.2 h)
     refine Gs 8 O (zkq tr54 O ⟨_,rfl,by rw [hv,yA,s1',s2',s3'];rfl,hL1⟩)
theorem kC {α:Type} {p:α->Bool} {l:List α} {k:Nat} {x:α} (hx:l[k]?=some x) (h:(l.take k).any p=false) (hp:p x=false):(l.take (k+1)).any p=false:=by rw [zg hx,List.any_append,h];simp [hp]
theorem zhH {α:Type} {p:α->Bool} {l:List α} {x:α} (hx:x ∈ l) (hp:p x=true):l.any p=true:=List.any_eq_true.2 ⟨x,hx,hp⟩
theorem zfd (vs:List Vr) (vv:Value) (D:Nat->Prop) (w:World) (hvs:SlR 5 RVr D w vv vs) (p:Vr->Bool) (g:FuncId) (cp:Value) (hf:∀ args w,(callFunc g args).run Tryz.prog w=.ok (.enter g args) w)
  (hc:∀ x ∈ vs,∀ w',Ext w w'->Calls Tryz.prog g #[.agg (zdb x).toArray,cp] w' (Ret fun r w''=>r=.bool (p x)/\Ext w' w'')) :
  Calls Tryz.prog 195 #[vv,.func (.func g) #[] #[cp]] w (Ret fun r w'=>(∃ i:Int,r=.int .i64 i/\(0<=i ↔ vs.any p=true))/\Ext w w'):=by
 have hmx:=hvs.max
 obtain⟨av,nv,rfl⟩:=hvs.form
 refine zmb Tryz.func195 O Tryz.ntmps195 O (Gs 14 O (G.loop (σ:=Nat) (fun i=>[(0,.slice av vs.length nv),(1,.func (.func g) #[] #[cp]),(7,.int .i64 vs.length),(8,.int .i64 i)]) (fun i=>fun w'=>i<=vs.length/\(vs.take i).any p=false/\Ext w w') (fun i=>vs.length - i) (0) (zlO O) (⟨zo8 _,rfl,Keep.refl _ _⟩) ?_))
 rintro i w1 ⟨hi,hno,hL1⟩
 replace hvs:=Tr1 hL1 hvs
 refine Gs 6 O (zk6 O (fun hlt=>?_) (fun hlt=>?_))
 ·
  obtain⟨x,he_x,hm_x⟩:=gE_ vs (i) (by omega)
  obtain⟨b_x,o_x,c_x,ha_x,_,hc_x,hR_x⟩:=hvs.at he_x
  have h1_x:=RVr.one hR_x
  obtain rfl:=hR_x
  have hlt_x:b_x<_:=znV _ _ (hc_x 0 _ rfl)
  refine Gs 15 O (zm1 O O (zkP tR22 ts89 O O ha_x (by omega)) (zm7 O tg89 ts89 hc_x O (zkV O hf (hc x hm_x _ hL1) ?_)))
  rintro _ wz1 ⟨rfl,hz1⟩
  obtain⟨hvs,hL1,hc_x⟩:=Tr3 hz1 hvs hL1 hc_x
  refine Gs 2 O (G.bool O (fun hp=>?_) (fun hp=>?_))
  . refine Gs 12 O (zkq Tryz.results195 O ⟨_,rfl,⟨_,rfl,by rw [zhH hm_x hp];simp⟩,hL1⟩)
  . refine Ga 7 O (by omega) (zkh (i+1) (zlO O) (⟨by omega,kC he_x hno hp,hL1⟩) (by first | omega | (dsimp only;omega)))
 ·
  have:i=vs.length:=by omega
  subst this
  rw [znY] at hno
  refine Gs 11 O (zkq Tryz.results195 O ⟨_,rfl,⟨_,rfl,by rw [hno];simp⟩,hL1⟩)
theorem zcx (vs:List Vr) (vv:Value) (D:Nat->Prop) (w:World) (hvs:SlR 5 RVr D w vv vs) (p:Vr->Bool) (g:FuncId) (cp:Value) (hf:∀ args w,(callFunc g args).run Tryz.prog w=.ok (.enter g args) w)
  (hc:∀ x ∈ vs,∀ w',Ext w w'->Calls Tryz.prog g #[.agg (zdb x).toArray,cp] w' (Ret fun r w''=>r=.bool (p x)/\Ext w' w'')) :
  Calls Tryz.prog 145 #[vv,.func (.func g) #[] #[cp]] w (Ret fun r w'=>r=.bool (vs.any p)/\Ext w w'):=by
 have hE:=Keep.refl (fun _=>False) w
 refine zmb Tryz.func145 O Tryz.ntmps145 O (Gs 9 O (G.call O Tryz.call195 (zfd vs vv D w hvs p g cp hf hc) ?_))
 rintro _ wz1 ⟨⟨i,rfl,hi⟩,hz1⟩
 replace hE:=Tr1 hz1 hE
 refine Gs 5 O (zkq Tryz.results145 O ⟨_,rfl,by cases h:vs.any p <;> simp [h] at hi ⊢ <;> omega,hE⟩)
theorem zgO (v x:Vr) (c:Nat) (w:World) (hB:Blk w c (zdb x) 89):Calls Tryz.prog 143 #[.agg (zdb v).toArray,.pointer (some ⟨c,0,none⟩)] w (Ret fun r w'=>r=.bool (zU v.name x.name)/\Ext w w'):=by
 have hE:=Keep.refl (fun _=>False) w
 refine zmb Tryz.func143 O Tryz.ntmps143 O (Gs 2 O (G.mem O O (M.box O O) ?_))
 rintro _ w_b ⟨b,rfl,hg_b,hs_b,hB_b,hk_b⟩
 have hge_b:_<=b:=znZ hE.size (Nat.le_of_eq hg_b.symm)
 obtain⟨hE,hB⟩:=Tr2 hk_b hE hB
 refine Gs 6 O (zm5 O tg9 (hB_b.cells 0 _ O) (Gs 1 O (zm5 O tg9 (hB.cells 0 _ O) (Gs 5 O (zkq Tryz.results143 O ⟨_,rfl,rfl,hE⟩)))))
theorem zdc (vs:List Vr) (vv:Value) (D:Nat->Prop) (w:World) (hvs:SlR 5 RVr D w vv vs) (hlen:vs.length<=1000000):Calls Tryz.prog 115 #[vv] w (Ret fun r w'=>r=.int .i64 (zr vs)/\Ext w w'):=by
 obtain⟨av,nv,rfl⟩:=hvs.form
 have hlc:=hvs.len_cap.2
 refine zma Tryz.func115 O Tryz.ntmps115 O (Gs 13 O (zkk (σ:=Unit) (fun u=>[(0,.slice av vs.length nv)]) (fun u=>fun w'=>(∀ j,j<vs.length->jF vs j=0)/\Ext w w') ?_ ?_))
 ·
  refine Gs 1 O (G.loop (σ:=Nat) (fun i=>[(0,.slice av vs.length nv),(10,.slice av vs.length nv),(11,.int .i64 vs.length),(12,.int .i64 i)]) (fun i=>fun w'=>i<=vs.length/\(∀ j,j<i->jF vs j=0)/\Ext w w') (fun i=>vs.length - i) (0) (zlO O) (⟨zo8 _,fun j h=>absurd h (Nat.not_lt_zero _),Keep.refl _ _⟩) ?_)
  rintro i w1 ⟨hi,hall,hL1⟩
  replace hvs:=Tr1 hL1 hvs
  refine Gs 6 O (zk6 O (fun hlt=>?_) (fun hlt=>?_))
  ·
   obtain⟨x,he_x,hm_x⟩:=gE_ vs (i) (by omega)
   obtain⟨b_x,o_x,c_x,ha_x,_,hc_x,hR_x⟩:=hvs.at he_x
   have h1_x:=RVr.one hR_x
   obtain rfl:=hR_x
   have hlt_x:b_x<_:=znV _ _ (hc_x 0 _ rfl)
   have hat:=kV he_x
   have hbad:∀ c:Int,zI (vs.take i) x=c->c ≠ 0->zr vs=c:=by
    intro c h1 h2
    have h3:jF vs i ≠ 0:=by rw [hat,h1];exact h2
    rw [zr,qc hall (by omega) h3,zo4 h3,hat,h1]
   have hnext:zI (vs.take i) x=0->∀ j,j<i+1->jF vs j=0:=by
    intro h j hj
    by_cases e:j=i
    . subst e;rw [hat,h]
    . exact hall j (by omega)
   refine Gs 7 O (zm1 O O (zkP tR22 ts89 O O ha_x (by omega)) (zm7 O tg89 ts89 hc_x O (G.mem O O (M.alloc (cs:=_) tz89 O) ?_)))
   rintro _ wa1 ⟨c,rfl,hg_c,hs_c,hB_c,hk_c⟩
   refine Gs 1 O (zkY O (zkZ ts89 O O O O h1_x hB_c (by simp)) ?_)
   rintro w_c ⟨_,hB_c,hkk_c⟩
   replace hk_c:=hk_c.trans hkk_c (fun q hq h=>by have h:q=c:=h;omega)
   obtain⟨hvs,hL1,hc_x⟩:=Tr3 hk_c hvs hL1 hc_x
   refine Gs 12 O (zm5 O tg9 (hB_c.cells 0 _ O) (G.call O Tryz.call144 (jD x.name _) ?_))
   rintro _ wz2 ⟨rfl,hz2⟩
   obtain⟨hvs,hL1,hc_x,hB_c⟩:=Tr4 hz2 hvs hL1 hc_x hB_c
   refine zm1 O O (zly O (by first | exact za | rfl)) (Gs 3 O (G.bool O (fun n0=>?_) (fun n0=>?_)))
   ·
    have n0':zar x.name=false:=by simpa using n0
    refine Gs 13 O (zkq tr115 O ⟨_,rfl,by rw [hbad 7 (by rw [zI,zo4 n0']) (by decide)],hL1⟩)
   ·
    have n0':¬ zar x.name=false:=by simpa using n0
    refine Gs 4 O (zm1 O O (zlr tR22 ts89 O O (by omega)) (Gs 1 O ?_))
    have htk:=hvs.take i (by omega)
    have hBx:Blk _ c (zdb x) 89:=hB_c
    refine G.call O Tryz.call145 (zcx (vs.take i) _ D _ htk (fun u=>zU u.name x.name) 143 (.pointer (some ⟨c,0,none⟩)) Tryz.call143 (fun y _ w' hw'=>zgO y x c w' (hw'.blk hBx (fun h=>h)))) ?_
    rintro _ wz3 ⟨rfl,hz3⟩
    obtain⟨hvs,hL1,hc_x,hB_c⟩:=Tr4 hz3 hvs hL1 hc_x hB_c
    refine Gs 3 O (G.bool O (fun d0=>?_) (fun d0=>?_))
    . refine Gs 13 O (zkq tr115 O ⟨_,rfl,by rw [hbad 8 (by rw [zI,zo3 n0',zo4 d0]) (by decide)],hL1⟩)
    ·
     have n1:¬ (vs.take i).any (fun u=>zU u.name x.name)=true:=by rw [d0];decide
     refine Gs 3 O (zm5 O tg53 (hB_c.cells 1 _ O) (Gs 2 O (G.sp 33 O (fun k0=>?_) (fun k0=>?_))))
     ·
      have n2:¬ (0<=x.kind/\x.kind<=3):=by omega
      refine Gs 21 O (zkq tr115 O ⟨_,rfl,by rw [hbad 1 (by rw [zI,zo3 n0',zo3 n1,zo4 n2]) (by decide)],hL1⟩)
     ·
      refine Gs 1 O (zm5 O tg53 (hB_c.cells 1 _ O) (Gs 5 O (zk6 O (fun k1=>?_) (fun k1=>?_))))
      ·
       have n2:¬ (0<=x.kind/\x.kind<=3):=by omega
       refine Gs 13 O (zkq tr115 O ⟨_,rfl,by rw [hbad 1 (by rw [zI,zo3 n0',zo3 n1,zo4 n2]) (by decide)],hL1⟩)
      ·
       have n2:¬ ¬ (0<=x.kind/\x.kind<=3):=by omega
       refine Gs 4 O (zm5 O tg3 (hB_c.cells 2 _ O) (Gs 1 O (zm5 O tg3 (hB_c.cells 3 _ O) (G.call O Tryz.call146 (qY x.low x.high _) ?_))))
       rintro _ wz4 ⟨rfl,hz4⟩
       obtain⟨hvs,hL1,hc_x,hB_c⟩:=Tr4 hz4 hvs hL1 hc_x hB_c
       refine zm1 O O (zly O (by first | exact za | rfl)) (Gs 3 O (G.bool O (fun n3=>?_) (fun n3=>?_)))
       ·
        have n3':zb3 x.low x.high=false:=by simpa using n3
        refine Gs 16 O (zkq tr115 O ⟨_,rfl,by rw [hbad 3 (by rw [zI,zo3 n0',zo3 n1,zo3 n2,zo4 n3']) (by decide)],hL1⟩)
       ·
        have n3':¬ zb3 x.low x.high=false:=by simpa using n3
        have b4:x.kind=0/\(x.init<x.low\/x.high<x.init)\/x.kind ≠ 0/\x.init ≠ 0->zr vs=3:=fun h=>hbad 3 (by rw [zI,zo3 n0',zo3 n1,zo3 n2,zo3 n3',zo4 h]) (by decide)
        have g4:¬ (x.kind=0/\(x.init<x.low\/x.high<x.init)\/x.kind ≠ 0/\x.init ≠ 0)->zI (vs.take i) x=0:=fun h=>by rw [zI,zo3 n0',zo3 n1,zo3 n2,zo3 n3',zo3 h]
        refine Gs 3 O (zm5 O tg53 (hB_c.cells 1 _ O) (Gs 2 O (G.sp 48 O (fun kk=>?_) (fun kk=>?_))))
        ·
         refine Gs 1 O (zm5 O tg3 (hB_c.cells 4 _ O) (Gs 5 O (zk6 O (fun i2=>?_) (fun i2=>?_))))
         . refine Gs 16 O (zkq tr115 O ⟨_,rfl,by rw [b4 (by omega)],hL1⟩)
         ·
          refine Gs 2 O (zm5 O tg53 (hB_c.cells 1 _ O) (Gs 2 O (G.sp 56 O (fun k0'=>?_) (fun k0'=>?_))))
          . exact absurd k0' kk
          . refine Ga 25 O (by omega) (zkh (i+1) (zlO O) (⟨by omega,hnext (g4 (by omega)),hL1⟩) (by first | omega | (dsimp only;omega)))
        ·
         refine Gs 10 O (zm5 O tg53 (hB_c.cells 1 _ O) (Gs 2 O (G.sp 56 O (fun k0'=>?_) (fun k0'=>?_))))
         ·
          refine Gs 1 O (zm5 O tg3 (hB_c.cells 4 _ O) (Gs 1 O (zm5 O tg3 (hB_c.cells 2 _ O) (Gs 2 O (G.sp 62 O (fun i0=>?_) (fun i0=>?_))))))
          . refine Gs 24 O (zkq tr115 O ⟨_,rfl,by rw [b4 (by omega)],hL1⟩)
          ·
           refine Gs 1 O (zm5 O tg3 (hB_c.cells 4 _ O) (Gs 1 O (zm5 O tg3 (hB_c.cells 3 _ O) (Gs 6 O (zk6 O (fun i1=>?_) (fun i1=>?_))))))
           . refine Gs 13 O (zkq tr115 O ⟨_,rfl,by rw [b4 (by omega)],hL1⟩)
           . refine Ga 8 O (by omega) (zkh (i+1) (zlO O) (⟨by omega,hnext (g4 (by omega)),hL1⟩) (by first | omega | (dsimp only;omega)))
         . exact absurd k0' kk
  ·
   have hii:i=vs.length:=by omega
   subst hii
   refine Gs 4 O (zkm (()) (zlO O) (⟨hall,hL1⟩))
 rintro u w2 ⟨hall,hX⟩
 replace hvs:=Tr1 hX hvs
 have hg:=xI hall
 have hz:=xo hall
 have hgo:∀ v ∈ vs,yp (v.low,v.high):=fun v hv=>(hg v hv).1
 have hv:zr vs=if yA vs then 4 else 0:=by rw [zr,zo3 (by simp [hz])]
 refine Gs 4 O (G.mem O O (M.buildSlice (cs:=[.int .i64 1,.int .i64 2,.int .i64 3]) [(0,_),(1,_),(2,_)] Tryz.runUnderlying186 ts53 Tryz.zeroValue53 (by decide) O (by kernel_rfl)) ?_)
 rintro _ w3 ⟨b3,rfl,hg_b3,hs_b3,hB_b3,hk_b3⟩
 obtain⟨hvs,hX⟩:=Tr2 hk_b3 hvs hX
 have hBe:Blk w3 b3 (((List.range 3).map (fun (j:Nat)=>(j:Int)+1)).map (.int .i64)) 53:=hB_b3
 refine Gs 5 O (G.loop (σ:=Nat) (fun k=>[(0,.slice av vs.length nv),(71,.slice (some ⟨b3,0,none⟩) 3 3),(72,.int .i64 3),(73,.int .i64 k)]) (fun k=>fun w'=>k<=3/\(∀ j,j<k->∃ n,zk ((j:Int)+1) vs=some n/\(j=2->n<=256))/\Ext w3 w') (fun k=>3 - k) (0) (zlO O) (⟨zo8 _,fun j h=>absurd h (Nat.not_lt_zero _),Keep.refl _ _⟩) ?_)
 rintro k w4 ⟨hk,hall2,hL2⟩
 obtain⟨hvs,hX,hB_b3,hBe⟩:=Tr4 hL2 hvs hX hB_b3 hBe
 refine Gs 6 O (zk6 O (fun hlt=>?_) (fun hlt=>?_))
 ·
  have hkx:((List.range 3).map (fun (j:Nat)=>(j:Int)+1))[k]?=some ((k:Int)+1):=by
   rw [zoa,List.getElem?_range (by omega)];rfl
  have hbadk:(zk ((k:Int)+1) vs=none\/∃ n,zk ((k:Int)+1) vs=some n/\k=2/\256<n)->zr vs=4:=by
   intro h
   rw [hv]
   have:yA vs=true:=by
    unfold yA
    rcases (show k=0\/k=1\/k=2 by omega) with rfl | rfl | rfl
    ·
     rcases h with h | ⟨n,h,h2,_⟩
     . simp at h;simp [h]
     . omega
    ·
     rcases h with h | ⟨n,h,h2,_⟩
     . simp at h;simp [h]
     . omega
    ·
     rcases h with h | ⟨n,h,_,h3⟩
     . simp at h;simp [h]
     . simp at h;simp [h,h3]
   rw [this];rfl
  refine Ga 7 O (by omega) (zm5 O tg53 (hBe.cells.el1 k O (by rw [zoa,hkx];rfl)) ?_)
  refine Gs 7 O (G.call O Tryz.call62 (jf vs ((k:Int)+1) _ D _ (by omega) hgo hvs hlen) ?_)
  rintro _ wz5 ⟨rfl,hz5⟩
  obtain⟨hvs,hX,hB_b3,hBe,hL2⟩:=Tr5 hz5 hvs hX hB_b3 hBe hL2
  refine Gs 12 O ?_
  have hstep:(∃ n,zk ((k:Int)+1) vs=some n/\(k=2->n<=256))->∀ j,j<k+1->∃ n,zk ((j:Int)+1) vs=some n/\(j=2->n<=256):=by
   intro h j hj
   by_cases e:j=k
   . subst e;exact h
   . exact hall2 j (by omega)
  rcases hs:zk ((k:Int)+1) vs with _ | n
  ·
   refine G.sp 85 O (fun c0=>?_) (fun c0=>?_)
   . refine Gs 21 O (zkq tr115 O ⟨_,rfl,by rw [hbadk (.inl hs)],hX⟩)
   . exact absurd (by decide) c0
  ·
   refine G.sp 85 O (fun c0=>?_) (fun c0=>?_)
   . exact absurd c0 (by simp)
   ·
    refine Gs 3 O (G.sp 88 O (fun k3=>?_) (fun k3=>?_))
    ·
     refine Gs 6 O (zk6 O (fun n3=>?_) (fun n3=>?_))
     ·
      have n3':(256:Int)<n:=n3
      refine Gs 11 O (zkq tr115 O ⟨_,rfl,by rw [hbadk (.inr ⟨n,hs,by omega,n3'⟩)],hX⟩)
     ·
      have n3':¬ (256:Int)<n:=n3
      refine Ga 7 O (by omega) (zkh (k+1) (zlO O) (⟨by omega,hstep ⟨n,hs,fun _=>by omega⟩,hL2⟩) (by first | omega | (dsimp only;omega)))
    . refine Ga 14 O (by omega) (zkh (k+1) (zlO O) (⟨by omega,hstep ⟨n,hs,fun h=>absurd (by omega) k3⟩,hL2⟩) (by first | omega | (dsimp only;omega)))
 ·
  have hk3:k=3:=by omega
  subst hk3
  obtain⟨n1,h1,_⟩:=hall2 0 (by omega)
  obtain⟨n2,h2,_⟩:=hall2 1 (by omega)
  obtain⟨n3,h3,h4⟩:=hall2 2 (by omega)
  have hsb:yA vs=false:=by
   simp at h1 h2 h3
   unfold yA
   simp [h1,h2,h3]
   exact h4 O
  rw [hsb] at hv
  refine Gs 11 O (zkq tr115 O ⟨_,rfl,by rw [hv];rfl,hX⟩)
def plainB (t:Tm):Bool:=decide (t.op=0)&&decide (t.n=0)&&decide (t.kids.length=0)
theorem jg (t:Tm) (cs:List Value) (D:Nat->Prop) (w:World) (ht:RTm D w t cs):Calls Tryz.prog 141 #[.agg cs.toArray] w (Ret fun r w'=>r=.bool (plainB t)/\Ext w w'):=by
 obtain⟨v,rfl,hk⟩:=ht.get
 obtain⟨ao,cap,rfl⟩:=hk.form
 have hE:=Keep.refl (fun _=>False) w
 refine zma Tryz.func141 O Tryz.ntmps141 O (Gs 2 O (G.mem O O (M.box O O) ?_))
 rintro _ w_b ⟨b,rfl,hg_b,hs_b,hB_b,hk_b⟩
 have hge_b:_<=b:=znZ hE.size (Nat.le_of_eq hg_b.symm)
 replace hE:=Tr1 hk_b hE
 refine Gs 6 O (zm5 O tg83 (hB_b.cells 0 _ O) (Gs 2 O (G.sp 6 O (fun hh1=>?_) (fun hh1=>?_))))
 ·
  refine Gs 1 O (zm5 O tg3 (hB_b.cells 1 _ O) (Gs 3 O (G.sp 11 O (fun hh2=>?_) (fun hh2=>?_))))
  . refine Gs 1 O (zm5 O tg84 (hB_b.cells 2 _ O) (Gs 7 O (zkq Tryz.results141 O ⟨_,rfl,by simp [plainB, *],hE⟩)))
  . refine Gs 9 O (zkq Tryz.results141 O ⟨_,rfl,by simp [plainB, *],hE⟩)
 . refine Gs 14 O (zkq Tryz.results141 O ⟨_,rfl,by simp [plainB, *],hE⟩)
theorem zdd (t:Tm) (cs:List Value) (D:Nat->Prop) (w:World) (ht:RTm D w t cs):Calls Tryz.prog 202 #[.agg cs.toArray] w (Ret fun r w'=>r=.bool (plainB t)/\Ext w w'):=by
 obtain⟨v,rfl,hk⟩:=ht.get
 obtain⟨ao,cap,rfl⟩:=hk.form
 have hE:=Keep.refl (fun _=>False) w
 refine zma Tryz.func202 O Tryz.ntmps202 O (Gs 2 O (G.mem O O (M.box O O) ?_))
 rintro _ w_b ⟨b,rfl,hg_b,hs_b,hB_b,hk_b⟩
 have hge_b:_<=b:=znZ hE.size (Nat.le_of_eq hg_b.symm)
 replace hE:=Tr1 hk_b hE
 refine Gs 6 O (zm5 O tg83 (hB_b.cells 0 _ O) (Gs 2 O (G.sp 6 O (fun hh1=>?_) (fun hh1=>?_))))
 ·
  refine Gs 1 O (zm5 O tg3 (hB_b.cells 1 _ O) (Gs 3 O (G.sp 11 O (fun hh2=>?_) (fun hh2=>?_))))
  . refine Gs 1 O (zm5 O tg84 (hB_b.cells 2 _ O) (Gs 7 O (zkq Tryz.results202 O ⟨_,rfl,by simp [plainB, *],hE⟩)))
  . refine Gs 9 O (zkq Tryz.results202 O ⟨_,rfl,by simp [plainB, *],hE⟩)
 . refine Gs 14 O (zkq Tryz.results202 O ⟨_,rfl,by simp [plainB, *],hE⟩)
@[irreducible] def uvB (a:Int):Bool:=decide (a=0\/a=5)
@[irreducible] def unB (a:Int):Bool:=decide (a=4\/a=5)
@[irreducible] def utB (a:Int):Bool:=decide (a=0\/a=1\/a=3\/a=4)
theorem jY (a:Int) (w:World):Calls Tryz.prog 199 #[.int .i64 a] w (Ret fun r w'=>r=.bool (uvB a)/\Ext w w'):=by
 refine zma Tryz.func199 O Tryz.ntmps199 O (Gs 10 O (G.sp 5 O (fun hh1=>?_) (fun hh1=>?_)))
 . refine Gs 7 O (zkq Tryz.results199 O ⟨_,rfl,by unfold uvB;simp [*],Keep.refl _ _⟩)
 . refine Gs 7 O (zkq Tryz.results199 O ⟨_,rfl,by unfold uvB;simp [*],Keep.refl _ _⟩)
theorem zgP (a:Int) (w:World):Calls Tryz.prog 200 #[.int .i64 a] w (Ret fun r w'=>r=.bool (unB a)/\Ext w w'):=by
 refine zma Tryz.func200 O Tryz.ntmps200 O (Gs 10 O (G.sp 5 O (fun hh1=>?_) (fun hh1=>?_)))
 . refine Gs 7 O (zkq Tryz.results200 O ⟨_,rfl,by unfold unB;simp [*],Keep.refl _ _⟩)
 . refine Gs 7 O (zkq Tryz.results200 O ⟨_,rfl,by unfold unB;simp [*],Keep.refl _ _⟩)
theorem zde (a:Int) (w:World):Calls Tryz.prog 201 #[.int .i64 a] w (Ret fun r w'=>r=.bool (utB a)/\Ext w w'):=by
 refine zma Tryz.func201 O Tryz.ntmps201 O (Gs 10 O (G.sp 5 O (fun hh1=>?_) (fun hh1=>?_)))
 . refine Gs 15 O (zkq tr201 O ⟨_,rfl,by unfold utB;simp [*],Keep.refl _ _⟩)
 ·
  refine Gs 4 O (G.sp 9 O (fun hh2=>?_) (fun hh2=>?_))
  . refine Gs 11 O (zkq tr201 O ⟨_,rfl,by unfold utB;simp [*],Keep.refl _ _⟩)
  ·
   refine Gs 4 O (G.sp 13 O (fun hh3=>?_) (fun hh3=>?_))
   . refine Gs 7 O (zkq tr201 O ⟨_,rfl,by unfold utB;simp [*],Keep.refl _ _⟩)
   . refine Gs 7 O (zkq tr201 O ⟨_,rfl,by unfold utB;simp [*],Keep.refl _ _⟩)
def yK:List Int->Bool
 | x::y::r=>decide (x<y)&&yK (y::r)
 | _=>true
theorem yQ:∀ l:List Int,yK l=true ↔ ∀ i x y,l[i]?=some x->l[i+1]?=some y->x<y
 | []=>by simp [yK]
 | [a]=>by simp [yK]
 | a::b::r=>by
  simp only [yK,Bool.and_eq_true,decide_eq_true_eq,yQ (b::r)]
  constructor
  ·
   rintro⟨h1,h2⟩ i x y hx hy
   cases i with
   | zero=>simp at hx hy;subst hx;subst hy;exact h1
   | succ i=>exact h2 i x y (by simpa using hx) (by simpa using hy)
  ·
   intro h
   exact⟨h 0 a b O rfl,fun i x y hx hy=>h (i+1) x y (by simpa using hx) (by simpa using hy)⟩
theorem zbF (l:List Int) (v:Value) (D:Nat->Prop) (w:World) (hl:SlR 1 zB D w v l):Calls Tryz.prog 203 #[v] w (Ret fun r w'=>r=.bool (yK l)/\Ext w w'):=by
 have hmx:=hl.max
 obtain⟨al,nl,rfl⟩:=hl.form
 refine zma Tryz.func203 O Tryz.ntmps203 O (Gs 14 O (G.loop (σ:=Nat) (fun i=>[(0,.slice al l.length nl),(5,.int .i64 l.length),(6,.int .i64 i)]) (fun i=>fun w'=>i<=l.length/\(∀ j x y,j+1<i->l[j]?=some x->l[j+1]?=some y->x<y)/\Ext w w') (fun i=>l.length - i) (0) (zlO O) (⟨zo8 _,fun j x y h=>absurd h (Nat.not_lt_zero _),Keep.refl _ _⟩) ?_))
 rintro i w1 ⟨hi,hall,hL1⟩
 replace hl:=Tr1 hL1 hl
 refine Gs 6 O (zk6 O (fun hlt=>?_) (fun hlt=>?_))
 ·
  refine Gs 11 O (Qt (by kernel_rfl) (Gs 3 O (G.sp 11 O (fun h0=>?_) (fun h0=>?_))))
  ·
   obtain⟨k,rfl⟩:∃ k,i=k+1:=⟨i - 1,by omega⟩
   obtain⟨x,hx⟩:∃ x,l[k]?=some x:=⟨_,znT (by omega)⟩
   obtain⟨y,hy⟩:∃ y,l[k+1]?=some y:=⟨_,znT (by omega)⟩
   obtain⟨b_ey,o_ey,c_ey,ha_ey,_,hc_ey,hR_ey⟩:=hl.at (hy)
   obtain rfl:=hR_ey
   have hlt_ey:b_ey<_:=znV _ _ (hc_ey 0 _ rfl)
   obtain⟨b_x,o_x,c_x,ha_x,_,hc_x,hR_x⟩:=hl.at hx
   obtain rfl:=hR_x
   have hto:(((k+1:Nat):Int) - 1).toNat=k:=by omega
   refine Gs 2 O (zm4 O O (fun w1 hw1=>zkP tR27 ts3 O O ha_ey (by omega)) (zm6 O tg3 (fun w1 hw1=>((hw1.cells hc_ey (fun h=>h)) 0 _ O)) (Ga 3 O (by omega) (zm4 O O (fun w1 hw1=>zkP tR27 ts3 O O ha_x (by omega)) (zm6 O tg3 (fun w1 hw1=>(by rw [hto];exact (hw1.cells hc_x (fun h=>h)) 0 _ O)) (Gs 2 O (zm8 (fun wz1 hz1=>?_))))))))
   obtain⟨hl,hL1,hc_ey⟩:=Tr3 hz1 hl hL1 hc_ey
   refine Gs 1 O (zk6 O (fun hb=>?_) (fun hb=>?_))
   ·
    refine Gs 11 O ?_
    have hno:yK l=false:=by rw [Bool.eq_false_iff];intro h;have:=(yQ l).1 h k x y hx hy;omega
    refine zkq Tryz.results203 O ⟨_,rfl,by rw [hno],hL1⟩
   ·
    refine Ga 7 O (by omega) (zkh (k+1+1) (zlO O) (⟨by omega,?_,hL1⟩) (by first | omega | (dsimp only;omega)))
    intro j x' y' hj hx' hy'
    by_cases e:j=k
    ·
     subst e
     rw [hx] at hx';cases hx'
     rw [hy] at hy';cases hy'
     omega
    . exact hall j x' y' (by omega) hx' hy'
  ·
   have hi0:i=0:=by omega
   subst hi0
   refine Gs 11 O (zm8 (fun wz2 hz2=>?_))
   obtain⟨hl,hL1⟩:=Tr2 hz2 hl hL1
   refine Ga 9 O (by omega) (zkh (1) (zlO O) (⟨by omega,fun j x y h=>by omega,hL1⟩) (by first | omega | (dsimp only;omega)))
 ·
  refine Gs 11 O ?_
  have hyes:yK l=true:=(yQ l).2 (fun j x y hx hy=>hall j x y (by have:=(zo7.1 hy).1;omega) hx hy)
  refine zkq Tryz.results203 O ⟨_,rfl,by rw [hyes],hL1⟩
def yl (l:List Int):Bool:=decide (1<=l.length)&&decide (l.length<=32)&&decide ((0:Int)<=l[0]?.getD 0)&&yK l
theorem zcy (l:List Int) (v:Value) (D:Nat->Prop) (w:World) (hl:SlR 1 zB D w v l):Calls Tryz.prog 142 #[v] w (Ret fun r w'=>r=.bool (yl l)/\Ext w w'):=by
 have hmx:=hl.max
 obtain⟨al,nl,rfl⟩:=hl.form
 refine zma Tryz.func142 O Tryz.ntmps142 O (Gs 12 O (G.sp 7 O (fun h1=>?_) (fun h1=>?_)))
 ·
  have hno:yl l=false:=by unfold yl;rw [zo6 (show ¬ 1<=l.length by omega)];rfl
  refine Gs 20 O (zkq tr142 O ⟨_,rfl,by rw [hno],Keep.refl _ _⟩)
 ·
  refine Gs 5 O (G.sp 12 O (fun h2=>?_) (fun h2=>?_))
  ·
   have hno:yl l=false:=by unfold yl;rw [zo6 (show ¬ l.length<=32 by omega)];simp
   refine Gs 15 O (zkq tr142 O ⟨_,rfl,by rw [hno],Keep.refl _ _⟩)
  ·
   obtain⟨x0,hx0⟩:∃ x,l[0]?=some x:=⟨_,znT (by omega)⟩
   obtain⟨b_e0,o_e0,c_e0,ha_e0,_,hc_e0,hR_e0⟩:=hl.at (hx0)
   obtain rfl:=hR_e0
   have hlt_e0:b_e0<_:=znV _ _ (hc_e0 0 _ rfl)
   refine Gs 1 O (zm1 O O (zkP tR27 ts3 O O ha_e0 (by omega)) (zm5 O tg3 (hc_e0 0 _ O) (Gs 4 O (zk6 O (fun h3=>?_) (fun h3=>?_)))))
   ·
    have hno:yl l=false:=by unfold yl;rw [hx0,zo6 (show ¬ (0:Int)<=(some x0).getD 0 by simpa using h3)];simp
    refine Gs 7 O (zkq tr142 O ⟨_,rfl,by rw [hno],Keep.refl _ _⟩)
   ·
    have hg:yl l=yK l:=by unfold yl;rw [hx0,zo5 (show 1<=l.length by omega),zo5 (show l.length<=32 by omega),zo5 (show (0:Int)<=(some x0).getD 0 by simpa using h3)];rfl
    refine Gs 9 O (G.loop (σ:=Nat) (fun i=>[(0,.slice al l.length nl),(3,.int .i64 ((i:Int)+1))]) (fun i=>fun w'=>i+1<=l.length/\(∀ (j:Nat) (x y:Int),j<i->l[j]?=some x->l[j+1]?=some y->x<y)/\Ext w w') (fun i=>l.length - i) (0) (zlO O) (⟨by omega,fun j x y h=>absurd h (Nat.not_lt_zero _),Keep.refl _ _⟩) ?_)
    rintro i w1 ⟨hi,hall,hL1⟩
    obtain⟨hl,hc_e0⟩:=Tr2 hL1 hl hc_e0
    refine Gs 9 O (zk6 O (fun hlt=>?_) (fun hlt=>?_))
    ·
     obtain⟨x,hx⟩:∃ x,l[i]?=some x:=⟨_,znT (by omega)⟩
     obtain⟨y,hy⟩:∃ y,l[i+1]?=some y:=⟨_,znT (by omega)⟩
     obtain⟨b_ex,o_ex,c_ex,ha_ex,_,hc_ex,hR_ex⟩:=hl.at (hx)
     obtain rfl:=hR_ex
     have hlt_ex:b_ex<_:=znV _ _ (hc_ex 0 _ rfl)
     obtain⟨b_ey,o_ey,c_ey,ha_ey,_,hc_ey,hR_ey⟩:=hl.at (hy)
     obtain rfl:=hR_ey
     have hlt_ey:b_ey<_:=znV _ _ (hc_ey 0 _ rfl)
     have hto:((i:Int)+1).toNat=i+1:=by omega
     have hto2:((i:Int)+1 - 1).toNat=i:=by omega
     refine Gs 5 O (Qt (by kernel_rfl) (Gs 2 O (zm4 O O (fun w1 hw1=>zkP tR27 ts3 O O ha_ey (by omega)) (zm6 O tg3 (fun w1 hw1=>(by rw [hto];exact (hw1.cells hc_ey (fun h=>h)) 0 _ O)) (Ga 3 O (by omega) (zm4 O O (fun w1 hw1=>zkP tR27 ts3 O O ha_ex (by omega)) (zm6 O tg3 (fun w1 hw1=>(by rw [hto2];exact (hw1.cells hc_ex (fun h=>h)) 0 _ O)) (Gs 1 O (zm8 (fun wz1 hz1=>?_))))))))))
     obtain⟨hl,hc_e0,hL1,hc_ex,hc_ey⟩:=Tr5 hz1 hl hc_e0 hL1 hc_ex hc_ey
     refine Gs 1 O (zk6 O (fun hb=>?_) (fun hb=>?_))
     ·
      have hno:yK l=false:=by rw [Bool.eq_false_iff];intro h;have:=(yQ l).1 h i x y hx hy;omega
      refine Gs 11 O (zkq tr142 O ⟨_,rfl,by rw [hg,hno],hL1⟩)
     ·
      refine Ga 8 O (by omega) (zkh (i+1) (Sub.cons O (Sub.cons (xB O (by omega)) Sub.nil)) (⟨by omega,?_,hL1⟩) (by first | omega | (dsimp only;omega)))
      intro j x' y' hj hx' hy'
      by_cases e:j=i
      ·
       subst e
       rw [hx] at hx';cases hx'
       rw [hy] at hy';cases hy'
       omega
      . exact hall j x' y' (by omega) hx' hy'
    ·
     have hyes:yK l=true:=(yQ l).2 (fun j x y hx hy=>hall j x y (by have:=(zo7.1 hy).1;omega) hx hy)
     refine Gs 11 O (zkq tr142 O ⟨_,rfl,by rw [hg,hyes],hL1⟩)
def kO (s:St):Bool:=decide ((s.thn.length:Int)=0)&&decide ((s.els.length:Int)=0)
def yL (vs:List Vr) (n:Int):Bool:=decide (0<=n)&&decide (n<(vs.length:Int))&&jV vs n
def zh (vs:List Vr) (nh:Nat) (s:St) (last:Bool):Bool :=
 if s.act=0 then kO s&&yL vs s.var&&decide (s.n=0)&&decide ((s.bounds.length:Int)=0)
 else if s.act=1 then kO s&&decide (s.var=0)&&decide (s.n=0)&&decide ((s.bounds.length:Int)=0)
 else if s.act=2 then kO s&&decide (s.var=0)&&decide (s.n=0)&&decide ((s.bounds.length:Int)=0)&&plainB s.term
 else if s.act=3 then decide (s.var=0)&&decide (s.n=0)&&decide ((s.bounds.length:Int)=0)
 else if s.act=4 then decide (s.var=0)&&decide ((s.els.length:Int)=0)&&decide ((s.bounds.length:Int)=0)
 else if s.act=5 then kO s&&yL vs s.var&&decide (0<=s.n)&&decide (s.n<(nh:Int))&&decide ((s.bounds.length:Int)=0)&&plainB s.term
 else if s.act=6 then kO s&&last&&decide (s.var=0)&&decide (s.n=0)&&plainB s.term&&yl s.bounds
 else false
theorem kD (f:Fl) (s:St) (last:Bool) (v1 v2 v3:Value) (cs:List Value) (D D':Nat->Prop) (w:World) (hf:RFl D w f v1 v2 v3) (hs:RSt D' w s cs):Calls Tryz.prog 109 #[.agg #[v1,v2,v3],.agg cs.toArray,.bool last] w (Ret fun r w'=>r=.bool (zh f.vars f.hatches.length s last)/\Ext w w'):=by
 obtain⟨hvs,hhs,hbd⟩:=hf
 obtain⟨a1,n1,rfl⟩:=hvs.form
 obtain⟨a2,n2,rfl⟩:=hhs.form
 obtain⟨u1,u2,u3,u4,rfl,hk,ht,he,hb⟩:=hs.get
 obtain⟨a4,n4,rfl⟩:=hk.form
 obtain⟨a5,n5,rfl⟩:=ht.form
 obtain⟨a6,n6,rfl⟩:=he.form
 obtain⟨a7,n7,rfl⟩:=hb.form
 have hE:=Keep.refl (fun _=>False) w
 refine zmc Tryz.func109 O Tryz.ntmps109 O (Gs 2 O (G.mem O O (M.box O O) ?_))
 rintro _ w_b ⟨b,rfl,hg_b,hs_b,hB_b,hk_b⟩
 have hge_b:_<=b:=znZ hE.size (Nat.le_of_eq hg_b.symm)
 obtain⟨hE,hvs,hk,hb⟩:=Tr4 hk_b hE hvs hk hb
 refine G.mem O O (M.box O O) ?_
 rintro _ w_c ⟨c,rfl,hg_c,hs_c,hB_c,hk_c⟩
 have hn_b_c:b ≠ c:=by have:=hB_b.lt;omega
 have hge_c:_<=c:=znZ hE.size (Nat.le_of_eq hg_c.symm)
 obtain⟨hE,hvs,hk,hb,hB_b⟩:=Tr5 hk_c hE hvs hk hb hB_b
 refine Gs 4 O (zkk (σ:=Bool) (fun q=>[(2,.bool last),(3,.pointer (some ⟨b,0,none⟩)),(4,.pointer (some ⟨c,0,none⟩)),(7,.bool q)]) (fun q=>fun w'=>q=kO s/\w'=w_c) ?_ ?_)
 ·
  refine Gs 2 O (zm5 O tg24 (hB_c.cells 7 _ O) (Gs 3 O (G.sp 13 O (fun hh1=>?_) (fun hh1=>?_))))
  ·
   refine Gs 1 O (zm5 O tg24 (hB_c.cells 8 _ O) (Gs 5 O ?_))
   refine zkm (_) (zlO O) (⟨by simp only [kO,hh1,decide_true,Bool.true_and],rfl⟩)
  ·
   refine Gs 7 O ?_
   refine zkm (_) (Sub.cons O (Sub.cons O (Sub.cons O (Sub.cons (by first | rfl | (show some (Value.bool false)=some (Value.bool _);simp [*])) Sub.nil)))) (⟨by simp only [kO,hh1,decide_false,Bool.false_and],rfl⟩)
 rintro q w2 ⟨hq,hw2⟩
 subst hw2
 subst hq
 refine Gs 2 O (zkk (σ:=Bool) (fun q=>[(2,.bool last),(3,.pointer (some ⟨b,0,none⟩)),(4,.pointer (some ⟨c,0,none⟩)),(7,.bool (kO s)),(8,.bool q)]) (fun q=>fun w'=>q=yL f.vars s.var/\w'=w2) ?_ ?_)
 ·
  by_cases hv:0<=s.var/\s.var<f.vars.length
  ·
   obtain⟨x,he_x,hm_x⟩:=gE_ f.vars (s.var.toNat) (by omega)
   obtain⟨b_x,o_x,c_x,ha_x,_,hc_x,hR_x⟩:=hvs.at he_x
   have h1_x:=RVr.one hR_x
   obtain rfl:=hR_x
   have hlt_x:b_x<_:=znV _ _ (hc_x 0 _ rfl)
   have hil:jV f.vars s.var=decide (x.kind=0):=by unfold jV;rw [he_x]
   refine Gs 2 O (zm5 O tg3 (hB_c.cells 2 _ O) (Gs 2 O (G.sp 22 O (fun hh2=>?_) (fun hh2=>?_))))
   ·
    refine Gs 1 O (zm5 O tg3 (hB_c.cells 2 _ O) (Gs 1 O (zm5 O tg22 (hB_b.cells 0 _ O) (Gs 4 O (G.sp 30 O (fun hh3=>?_) (fun hh3=>?_))))))
    ·
     refine Gs 1 O (zm5 O tg22 (hB_b.cells 0 _ O) (Gs 1 O (zm5 O tg3 (hB_c.cells 2 _ O) (zm1 O O (zkP tR22 ts89 O O ha_x (by omega)) (Gs 1 O (zm5 O tg53 (hc_x 1 _ O) (Gs 4 O ?_)))))))
     refine zkm (_) (zlO O) (⟨by simp only [yL,hil,hh2,hh3,decide_true,Bool.and_true,Bool.true_and],rfl⟩)
    ·
     refine Gs 11 O ?_
     refine zkm (_) (Sub.cons O (Sub.cons O (Sub.cons O (Sub.cons O (Sub.cons (by first | rfl | (show some (Value.bool false)=some (Value.bool _);simp [*])) Sub.nil))))) (⟨by simp only [yL,hil,hh2,hh3,decide_true,decide_false,Bool.and_false,Bool.false_and],rfl⟩)
   ·
    refine Gs 19 O ?_
    refine zkm (_) (Sub.cons O (Sub.cons O (Sub.cons O (Sub.cons O (Sub.cons (by first | rfl | (show some (Value.bool false)=some (Value.bool _);simp [*])) Sub.nil))))) (⟨by simp only [yL,hil,hh2,decide_false,Bool.false_and],rfl⟩)
  ·
   refine Gs 2 O (zm5 O tg3 (hB_c.cells 2 _ O) (Gs 2 O (G.sp 22 O (fun hh4=>?_) (fun hh4=>?_))))
   ·
    refine Gs 1 O (zm5 O tg3 (hB_c.cells 2 _ O) (Gs 1 O (zm5 O tg22 (hB_b.cells 0 _ O) (Gs 4 O (G.sp 30 O (fun hh5=>?_) (fun hh5=>?_))))))
    ·
     refine Gs 1 O (zm5 O tg22 (hB_b.cells 0 _ O) (Gs 1 O (zm5 O tg3 (hB_c.cells 2 _ O) ?_)))
     exfalso
     omega
    ·
     refine Gs 11 O ?_
     refine zkm (_) (Sub.cons O (Sub.cons O (Sub.cons O (Sub.cons O (Sub.cons (by first | rfl | (show some (Value.bool false)=some (Value.bool _);simp [*])) Sub.nil))))) (⟨by simp [yL,hh4,hh5],rfl⟩)
   ·
    refine Gs 19 O ?_
    refine zkm (_) (Sub.cons O (Sub.cons O (Sub.cons O (Sub.cons O (Sub.cons (by first | rfl | (show some (Value.bool false)=some (Value.bool _);simp [*])) Sub.nil))))) (⟨by simp [yL,hh4],rfl⟩)
 rintro q w3 ⟨hq,hw3⟩
 subst hw3
 subst hq
 refine Gs 5 O (zm5 O tg90 (hB_c.cells 0 _ O) (Gs 9 O (zk6 O (fun hh6=>?_) (fun hh6=>?_))))
 ·
  refine Gs 4 O (zlZ 45 O (fun hh7=>?_) (fun hh7=>?_))
  ·
   refine Gs 3 O (zlZ 48 O (fun hh8=>?_) (fun hh8=>?_))
   ·
    refine Gs 1 O (zm5 O tg3 (hB_c.cells 3 _ O) (Gs 3 O (G.sp 53 O (fun hh9=>?_) (fun hh9=>?_))))
    . refine Gs 1 O (zm5 O tg27 (hB_c.cells 9 _ O) (Gs 9 O (zkq tr109 O ⟨_,rfl,by simp only [zh,hh6,hh7,hh8,hh9,if_true,if_false,decide_true,Bool.and_true,Bool.true_and,Int.reduceEq],hE⟩)))
    . refine Gs 11 O (zkq tr109 O ⟨_,rfl,by simp only [zh,hh6,hh7,hh8,hh9,if_true,if_false,decide_false,Bool.and_true,Bool.true_and,Bool.and_false,Bool.false_and,Int.reduceEq],hE⟩)
   . refine Gs 16 O (zkq tr109 O ⟨_,rfl,by simp only [zh,hh6,hh7,hh8,if_true,if_false,Bool.true_and,Bool.and_false,Bool.false_and,Int.reduceEq],hE⟩)
  . refine Gs 19 O (zkq tr109 O ⟨_,rfl,by simp only [zh,hh6,hh7,if_true,if_false,Bool.false_and,Int.reduceEq],hE⟩)
 ·
  refine Gs 6 O (zk6 O (fun hh10=>?_) (fun hh10=>?_))
  ·
   refine Gs 4 O (zlZ 62 O (fun hh11=>?_) (fun hh11=>?_))
   ·
    refine Gs 1 O (zm5 O tg3 (hB_c.cells 2 _ O) (Gs 3 O (G.sp 67 O (fun hh12=>?_) (fun hh12=>?_))))
    ·
     refine Gs 1 O (zm5 O tg3 (hB_c.cells 3 _ O) (Gs 3 O (G.sp 72 O (fun hh13=>?_) (fun hh13=>?_))))
     . refine Gs 1 O (zm5 O tg27 (hB_c.cells 9 _ O) (Gs 9 O (zkq tr109 O ⟨_,rfl,by simp only [zh,hh10,hh11,hh12,hh13,if_true,if_false,decide_true,Bool.and_true,Bool.true_and,Int.reduceEq],hE⟩)))
     . refine Gs 11 O (zkq tr109 O ⟨_,rfl,by simp only [zh,hh10,hh11,hh12,hh13,if_true,if_false,decide_true,decide_false,Bool.and_true,Bool.true_and,Bool.and_false,Bool.false_and,Int.reduceEq],hE⟩)
    . refine Gs 16 O (zkq tr109 O ⟨_,rfl,by simp only [zh,hh10,hh11,hh12,if_true,if_false,decide_false,Bool.true_and,Bool.and_false,Bool.false_and,Int.reduceEq],hE⟩)
   . refine Gs 21 O (zkq tr109 O ⟨_,rfl,by simp only [zh,hh10,hh11,if_true,if_false,Bool.false_and,Int.reduceEq],hE⟩)
  ·
   refine Gs 6 O (zk6 O (fun hh14=>?_) (fun hh14=>?_))
   ·
    refine Gs 4 O (zlZ 81 O (fun hh15=>?_) (fun hh15=>?_))
    ·
     refine Gs 1 O (zm5 O tg3 (hB_c.cells 2 _ O) (Gs 3 O (G.sp 86 O (fun hh16=>?_) (fun hh16=>?_))))
     ·
      refine Gs 1 O (zm5 O tg3 (hB_c.cells 3 _ O) (Gs 3 O (G.sp 91 O (fun hh17=>?_) (fun hh17=>?_))))
      ·
       refine Gs 1 O (zm5 O tg27 (hB_c.cells 9 _ O) (Gs 4 O (G.sp 97 O (fun hh18=>?_) (fun hh18=>?_))))
       ·
        refine Gs 1 O (zm7 O tg86 ts86 (hB_c.cells.sub 4 3) O (G.call O Tryz.call141 (jg s.term _ D' _ (RTm.put hk)) ?_))
        rintro _ wz19 ⟨rfl,hz19⟩
        obtain⟨hE,hvs,hk,hb,hB_b,hB_c⟩:=Tr6 hz19 hE hvs hk hb hB_b hB_c
        refine Gs 7 O (zkq tr109 O ⟨_,rfl,by simp only [zh,hh14,hh15,hh16,hh17,hh18,if_true,if_false,decide_true,Bool.and_true,Bool.true_and,Int.reduceEq],hE⟩)
       . refine Gs 10 O (zkq tr109 O ⟨_,rfl,by simp only [zh,hh14,hh15,hh16,hh17,hh18,if_true,if_false,decide_true,decide_false,Bool.and_true,Bool.true_and,Bool.and_false,Bool.false_and,Int.reduceEq],hE⟩)
      . refine Gs 16 O (zkq tr109 O ⟨_,rfl,by simp only [zh,hh14,hh15,hh16,hh17,if_true,if_false,decide_true,decide_false,Bool.and_true,Bool.true_and,Bool.and_false,Bool.false_and,Int.reduceEq],hE⟩)
     . refine Gs 21 O (zkq tr109 O ⟨_,rfl,by simp only [zh,hh14,hh15,hh16,if_true,if_false,decide_false,Bool.true_and,Bool.and_false,Bool.false_and,Int.reduceEq],hE⟩)
    . refine Gs 26 O (zkq tr109 O ⟨_,rfl,by simp only [zh,hh14,hh15,if_true,if_false,Bool.false_and,Int.reduceEq],hE⟩)
   ·
    refine Gs 6 O (zk6 O (fun hh20=>?_) (fun hh20=>?_))
    ·
     refine Gs 3 O (zm5 O tg3 (hB_c.cells 2 _ O) (Gs 2 O (G.sp 107 O (fun hh21=>?_) (fun hh21=>?_))))
     ·
      refine Gs 1 O (zm5 O tg3 (hB_c.cells 3 _ O) (Gs 3 O (G.sp 112 O (fun hh22=>?_) (fun hh22=>?_))))
      . refine Gs 1 O (zm5 O tg27 (hB_c.cells 9 _ O) (Gs 9 O (zkq tr109 O ⟨_,rfl,by simp only [zh,hh20,hh21,hh22,if_true,if_false,decide_true,Bool.and_true,Bool.true_and,Int.reduceEq],hE⟩)))
      . refine Gs 11 O (zkq tr109 O ⟨_,rfl,by simp only [zh,hh20,hh21,hh22,if_true,if_false,decide_true,decide_false,Bool.and_true,Bool.true_and,Bool.and_false,Bool.false_and,Int.reduceEq],hE⟩)
     . refine Gs 16 O (zkq tr109 O ⟨_,rfl,by simp only [zh,hh20,hh21,if_true,if_false,decide_false,Bool.and_false,Bool.false_and,Int.reduceEq],hE⟩)
    ·
     refine Gs 6 O (zk6 O (fun hh23=>?_) (fun hh23=>?_))
     ·
      refine Gs 3 O (zm5 O tg3 (hB_c.cells 2 _ O) (Gs 2 O (G.sp 123 O (fun hh24=>?_) (fun hh24=>?_))))
      ·
       refine Gs 1 O (zm5 O tg24 (hB_c.cells 8 _ O) (Gs 4 O (G.sp 129 O (fun hh25=>?_) (fun hh25=>?_))))
       . refine Gs 1 O (zm5 O tg27 (hB_c.cells 9 _ O) (Gs 9 O (zkq tr109 O ⟨_,rfl,by simp only [zh,hh23,hh24,hh25,if_true,if_false,decide_true,Bool.and_true,Bool.true_and,Int.reduceEq],hE⟩)))
       . refine Gs 11 O (zkq tr109 O ⟨_,rfl,by simp only [zh,hh23,hh24,hh25,if_true,if_false,decide_true,decide_false,Bool.and_true,Bool.true_and,Bool.and_false,Bool.false_and,Int.reduceEq],hE⟩)
      . refine Gs 17 O (zkq tr109 O ⟨_,rfl,by simp only [zh,hh23,hh24,if_true,if_false,decide_false,Bool.and_false,Bool.false_and,Int.reduceEq],hE⟩)
     ·
      refine Gs 6 O (zk6 O (fun hh26=>?_) (fun hh26=>?_))
      ·
       refine Gs 4 O (zlZ 138 O (fun hh27=>?_) (fun hh27=>?_))
       ·
        refine Gs 3 O (zlZ 141 O (fun hh28=>?_) (fun hh28=>?_))
        ·
         refine Gs 1 O (zm5 O tg3 (hB_c.cells 3 _ O) (Gs 3 O (G.sp 146 O (fun hh29=>?_) (fun hh29=>?_))))
         ·
          refine Gs 1 O (zm5 O tg3 (hB_c.cells 3 _ O) (Gs 1 O (zm5 O tg23 (hB_b.cells 1 _ O) (Gs 4 O (G.sp 154 O (fun hh30=>?_) (fun hh30=>?_))))))
          ·
           refine Gs 1 O (zm5 O tg27 (hB_c.cells 9 _ O) (Gs 4 O (G.sp 160 O (fun hh31=>?_) (fun hh31=>?_))))
           ·
            refine Gs 1 O (zm7 O tg86 ts86 (hB_c.cells.sub 4 3) O (G.call O Tryz.call141 (jg s.term _ D' _ (RTm.put hk)) ?_))
            rintro _ wz32 ⟨rfl,hz32⟩
            obtain⟨hE,hvs,hk,hb,hB_b,hB_c⟩:=Tr6 hz32 hE hvs hk hb hB_b hB_c
            refine Gs 7 O (zkq tr109 O ⟨_,rfl,by simp only [zh,hh26,hh27,hh28,hh29,hh30,hh31,if_true,if_false,decide_true,Bool.and_true,Bool.true_and,Int.reduceEq],hE⟩)
           . refine Gs 10 O (zkq tr109 O ⟨_,rfl,by simp only [zh,hh26,hh27,hh28,hh29,hh30,hh31,if_true,if_false,decide_true,decide_false,Bool.and_true,Bool.true_and,Bool.and_false,Bool.false_and,Int.reduceEq],hE⟩)
          . refine Gs 16 O (zkq tr109 O ⟨_,rfl,by simp only [zh,hh26,hh27,hh28,hh29,hh30,if_true,if_false,decide_true,decide_false,Bool.and_true,Bool.true_and,Bool.and_false,Bool.false_and,Int.reduceEq],hE⟩)
         . refine Gs 24 O (zkq tr109 O ⟨_,rfl,by simp only [zh,hh26,hh27,hh28,hh29,if_true,if_false,decide_false,Bool.and_true,Bool.true_and,Bool.and_false,Bool.false_and,Int.reduceEq],hE⟩)
        . refine Gs 29 O (zkq tr109 O ⟨_,rfl,by simp only [zh,hh26,hh27,hh28,if_true,if_false,Bool.true_and,Bool.and_false,Bool.false_and,Int.reduceEq],hE⟩)
       . refine Gs 32 O (zkq tr109 O ⟨_,rfl,by simp only [zh,hh26,hh27,if_true,if_false,Bool.false_and,Int.reduceEq],hE⟩)
      ·
       refine Gs 6 O (zk6 O (fun hh33=>?_) (fun hh33=>?_))
       ·
        refine Gs 4 O (zlZ 168 O (fun hh34=>?_) (fun hh34=>?_))
        ·
         refine Gs 3 O (zlZ 171 O (fun hh35=>?_) (fun hh35=>?_))
         ·
          refine Gs 1 O (zm5 O tg3 (hB_c.cells 2 _ O) (Gs 3 O (G.sp 176 O (fun hh36=>?_) (fun hh36=>?_))))
          ·
           refine Gs 1 O (zm5 O tg3 (hB_c.cells 3 _ O) (Gs 3 O (G.sp 181 O (fun hh37=>?_) (fun hh37=>?_))))
           ·
            refine Gs 1 O (zm7 O tg86 ts86 (hB_c.cells.sub 4 3) O (G.call O Tryz.call141 (jg s.term _ D' _ (RTm.put hk)) ?_))
            rintro _ wz38 ⟨rfl,hz38⟩
            obtain⟨hE,hvs,hk,hb,hB_b,hB_c⟩:=Tr6 hz38 hE hvs hk hb hB_b hB_c
            refine Gs 2 O (zlZ 186 O (fun hh39=>?_) (fun hh39=>?_))
            ·
             refine Gs 1 O (zm5 O tg27 (hB_c.cells 9 _ O) (G.call O Tryz.call142 (zcy s.bounds _ D' _ hb) ?_))
             rintro _ wz40 ⟨rfl,hz40⟩
             obtain⟨hE,hvs,hk,hb,hB_b,hB_c⟩:=Tr6 hz40 hE hvs hk hb hB_b hB_c
             refine Gs 7 O (zkq tr109 O ⟨_,rfl,by simp only [zh,hh33,hh34,hh35,hh36,hh37,hh39,if_true,if_false,decide_true,Bool.and_true,Bool.true_and,Int.reduceEq],hE⟩)
            . refine Gs 10 O (zkq tr109 O ⟨_,rfl,by simp only [zh,hh33,hh34,hh35,hh36,hh37,hh39,if_true,if_false,decide_true,Bool.and_true,Bool.true_and,Bool.and_false,Bool.false_and,Int.reduceEq],hE⟩)
           . refine Gs 15 O (zkq tr109 O ⟨_,rfl,by simp only [zh,hh33,hh34,hh35,hh36,hh37,if_true,if_false,decide_true,decide_false,Bool.and_true,Bool.true_and,Bool.and_false,Bool.false_and,Int.reduceEq],hE⟩)
          . refine Gs 20 O (zkq tr109 O ⟨_,rfl,by simp only [zh,hh33,hh34,hh35,hh36,if_true,if_false,decide_false,Bool.and_true,Bool.true_and,Bool.and_false,Bool.false_and,Int.reduceEq],hE⟩)
         . refine Gs 25 O (zkq tr109 O ⟨_,rfl,by simp only [zh,hh33,hh34,hh35,if_true,if_false,Bool.true_and,Bool.and_false,Bool.false_and,Int.reduceEq],hE⟩)
        . refine Gs 28 O (zkq tr109 O ⟨_,rfl,by simp only [zh,hh33,hh34,if_true,if_false,Bool.false_and,Int.reduceEq],hE⟩)
       . refine Gs 9 O (zkq tr109 O ⟨_,rfl,by simp only [zh,hh6,hh10,hh14,hh20,hh23,hh26,hh33,if_false],hE⟩)
theorem zaz (vs:List Vr) (nh:Nat) (s:St) (last:Bool):zh vs nh s last=(!(decide (s.act<0) || decide (6<s.act))&&!(!uvB s.act&&decide (s.var ≠ 0))&&!(!unB s.act&&decide (s.n ≠ 0))&&!(!utB s.act&&!plainB s.term)
  && !(decide (s.act ≠ 3)&&decide (s.act ≠ 4)&&decide (0<(s.thn.length:Int)))&&!(decide (s.act ≠ 3)&&decide (0<(s.els.length:Int)))&&!(decide (s.act ≠ 6)&&decide (0<(s.bounds.length:Int)))
  && !(uvB s.act&&!yL vs s.var)&&!(decide (s.act=5)&&(decide (s.n<0) || decide ((nh:Int)<=s.n)))
  && (decide (s.act ≠ 6) || (last&&yl s.bounds))):=by
 have c0:∀ n:Nat,decide ((n:Int)=0)=!decide (0<(n:Int)):=by intro n;rw [za];congr 1;simp
 have c1:decide (s.var=0)=!decide (s.var ≠ 0):=by rw [za];congr 1;simp
 have c2:decide (s.n=0)=!decide (s.n ≠ 0):=by rw [za];congr 1;simp
 have c3:decide (0<=s.n)=!decide (s.n<0):=by rw [za];congr 1;simp
 have c4:decide (s.n<(nh:Int))=!decide ((nh:Int)<=s.n):=by rw [za];congr 1;simp
 unfold zh kO uvB unB utB
 simp only [c0,c1,c2,c3,c4]
 generalize decide (0<(s.thn.length:Int))=p1
 generalize decide (0<(s.els.length:Int))=p2
 generalize decide (0<(s.bounds.length:Int))=p3
 generalize decide (s.var ≠ 0)=p4
 generalize decide (s.n ≠ 0)=p5
 generalize decide (s.n<0)=p6
 generalize decide ((nh:Int)<=s.n)=p7
 generalize plainB s.term=p8
 generalize yL vs s.var=p9
 generalize yl s.bounds=p10
 rcases (show s.act<0\/s.act=0\/s.act=1\/s.act=2\/s.act=3\/s.act=4\/s.act=5\/s.act=6\/6<s.act by omega) with h | h | h | h | h | h | h | h | h
 . rw [zo3 (by omega),zo3 (by omega),zo3 (by omega),zo3 (by omega),zo3 (by omega),zo3 (by omega),zo3 (by omega),zo5 h];rfl
 . rw [h];revert p1 p2 p3 p4 p5 p6 p7 p8 p9 p10 last;decide
 . rw [h];revert p1 p2 p3 p4 p5 p6 p7 p8 p9 p10 last;decide
 . rw [h];revert p1 p2 p3 p4 p5 p6 p7 p8 p9 p10 last;decide
 . rw [h];revert p1 p2 p3 p4 p5 p6 p7 p8 p9 p10 last;decide
 . rw [h];revert p1 p2 p3 p4 p5 p6 p7 p8 p9 p10 last;decide
 . rw [h];revert p1 p2 p3 p4 p5 p6 p7 p8 p9 p10 last;decide
 . rw [h];revert p1 p2 p3 p4 p5 p6 p7 p8 p9 p10 last;decide
 . rw [zo3 (by omega),zo3 (by omega),zo3 (by omega),zo3 (by omega),zo3 (by omega),zo3 (by omega),zo3 (by omega),zo5 h];simp
theorem jG (f:Fl) (s:St) (last:Bool) (v1 v2 v3:Value) (cs:List Value) (D D':Nat->Prop) (w:World) (hf:RFl D w f v1 v2 v3) (hs:RSt D' w s cs):Calls Tryz.prog 150 #[.agg #[v1,v2,v3],.agg cs.toArray,.bool last] w (Ret fun r w'=>r=.bool (zh f.vars f.hatches.length s last)/\Ext w w'):=by
 obtain⟨hvs,hhs,hbd⟩:=hf
 obtain⟨a1,n1,rfl⟩:=hvs.form
 obtain⟨a2,n2,rfl⟩:=hhs.form
 obtain⟨u1,u2,u3,u4,rfl,hk,ht,he,hb⟩:=hs.get
 obtain⟨a4,n4,rfl⟩:=hk.form
 obtain⟨a5,n5,rfl⟩:=ht.form
 obtain⟨a6,n6,rfl⟩:=he.form
 obtain⟨a7,n7,rfl⟩:=hb.form
 rw [zaz]
 have hE:=Keep.refl (fun _=>False) w
 refine zmc Tryz.func150 O Tryz.ntmps150 O (Gs 2 O (G.mem O O (M.box O O) ?_))
 rintro _ w_b ⟨b,rfl,hg_b,hs_b,hB_b,hk_b⟩
 have hge_b:_<=b:=znZ hE.size (Nat.le_of_eq hg_b.symm)
 obtain⟨hE,hvs,hk,hb⟩:=Tr4 hk_b hE hvs hk hb
 refine G.mem O O (M.box O O) ?_
 rintro _ w_c ⟨c,rfl,hg_c,hs_c,hB_c,hk_c⟩
 have hn_b_c:b ≠ c:=by have:=hB_b.lt;omega
 have hge_c:_<=c:=znZ hE.size (Nat.le_of_eq hg_c.symm)
 obtain⟨hE,hvs,hk,hb,hB_b⟩:=Tr5 hk_c hE hvs hk hb hB_b
 refine Gs 6 O (zm5 O tg90 (hB_c.cells 0 _ O) (Gs 7 O ?_))
 have hC2:=Keep.refl (fun _=>False) w_c
 refine zkk (σ:=Bool) (fun q=>[(2,.bool last),(3,.pointer (some ⟨b,0,none⟩)),(4,.pointer (some ⟨c,0,none⟩)),(7,.int .i64 s.act),(10,.bool q)]) (fun q=>fun w'=>q=(decide (s.act<0) || decide (6<s.act))/\Ext w_c w') ?_ ?_
 ·
  refine Gs 4 O (G.sp 13 O (fun hh1=>?_) (fun hh1=>?_))
  ·
   refine Gs 5 O ?_
   refine zkm (_) (Sub.cons O (Sub.cons O (Sub.cons O (Sub.cons O (Sub.cons (by first | rfl | (show some (Value.bool true)=some (Value.bool _);simp [*])) Sub.nil))))) (⟨by first | (simp only [hh1,decide_true,Bool.true_or];done) | (exfalso;omega),hC2⟩)
  ·
   refine Gs 5 O ?_
   refine zkm (_) (zlO O) (⟨by first | (simp only [hh1,decide_false,Bool.false_or];done) | (exfalso;omega),hC2⟩)
 rintro q x2 ⟨hq2,hX2⟩
 subst hq2
 obtain⟨hE,hvs,hk,hb,hB_b,hB_c⟩:=Tr6 hX2 hE hvs hk hb hB_b hB_c
 refine Gs 1 O (G.bool O (fun hh102=>?_) (fun hh102=>?_))
 . refine Gs 11 O (zkq tr150 O ⟨_,rfl,by simp only [hh102,Bool.not_true,Bool.false_and],hE⟩)
 ·
  refine Gs 1 O ?_
  have hC3:=Keep.refl (fun _=>False) x2
  refine zkk (σ:=Bool) (fun q=>[(2,.bool last),(3,.pointer (some ⟨b,0,none⟩)),(4,.pointer (some ⟨c,0,none⟩)),(7,.int .i64 s.act),(10,.bool q)]) (fun q=>fun w'=>q=(!uvB s.act&&decide (s.var ≠ 0))/\Ext x2 w') ?_ ?_
  ·
   refine Gs 2 O (G.call O Tryz.call199 (jY s.act _) ?_)
   rintro _ wz2 ⟨rfl,hz2⟩
   obtain⟨hE,hvs,hk,hb,hB_b,hB_c,hC3⟩:=Tr7 hz2 hE hvs hk hb hB_b hB_c hC3
   refine zm1 O O (zly O (by first | exact za | rfl)) (Gs 1 O (zlZ 20 O (fun hh3=>?_) (fun hh3=>?_)))
   ·
    refine Gs 1 O (zm5 O tg3 (hB_c.cells 2 _ O) (Gs 4 O ?_))
    refine zkm (_) (zlO O) (⟨by first | (simp only [hh3,Bool.true_and,ne_eq,decide_not];done) | (exfalso;omega),hC3⟩)
   ·
    refine Gs 6 O ?_
    refine zkm (_) (Sub.cons O (Sub.cons O (Sub.cons O (Sub.cons O (Sub.cons (by first | rfl | (show some (Value.bool false)=some (Value.bool _);simp [*])) Sub.nil))))) (⟨by first | (simp only [hh3,Bool.false_and,ne_eq,decide_not];done) | (exfalso;omega),hC3⟩)
  rintro q x3 ⟨hq3,hX3⟩
  subst hq3
  obtain⟨hE,hvs,hk,hb,hB_b,hB_c⟩:=Tr6 hX3 hE hvs hk hb hB_b hB_c
  refine Gs 1 O (G.bool O (fun hh103=>?_) (fun hh103=>?_))
  . refine Gs 11 O (zkq tr150 O ⟨_,rfl,by simp only [hh102,hh103,Bool.not_true,Bool.and_false,Bool.false_and],hE⟩)
  ·
   refine Gs 1 O ?_
   have hC4:=Keep.refl (fun _=>False) x3
   refine zkk (σ:=Bool) (fun q=>[(2,.bool last),(3,.pointer (some ⟨b,0,none⟩)),(4,.pointer (some ⟨c,0,none⟩)),(7,.int .i64 s.act),(10,.bool q)]) (fun q=>fun w'=>q=(!unB s.act&&decide (s.n ≠ 0))/\Ext x3 w') ?_ ?_
   ·
    refine Gs 2 O (G.call O Tryz.call200 (zgP s.act _) ?_)
    rintro _ wz4 ⟨rfl,hz4⟩
    obtain⟨hE,hvs,hk,hb,hB_b,hB_c,hC4⟩:=Tr7 hz4 hE hvs hk hb hB_b hB_c hC4
    refine zm1 O O (zly O (by first | exact za | rfl)) (Gs 1 O (zlZ 28 O (fun hh5=>?_) (fun hh5=>?_)))
    ·
     refine Gs 1 O (zm5 O tg3 (hB_c.cells 3 _ O) (Gs 4 O ?_))
     refine zkm (_) (zlO O) (⟨by first | (simp only [hh5,Bool.true_and,ne_eq,decide_not];done) | (exfalso;omega),hC4⟩)
    ·
     refine Gs 6 O ?_
     refine zkm (_) (Sub.cons O (Sub.cons O (Sub.cons O (Sub.cons O (Sub.cons (by first | rfl | (show some (Value.bool false)=some (Value.bool _);simp [*])) Sub.nil))))) (⟨by first | (simp only [hh5,Bool.false_and,ne_eq,decide_not];done) | (exfalso;omega),hC4⟩)
   rintro q x4 ⟨hq4,hX4⟩
   subst hq4
   obtain⟨hE,hvs,hk,hb,hB_b,hB_c⟩:=Tr6 hX4 hE hvs hk hb hB_b hB_c
   refine Gs 1 O (G.bool O (fun hh104=>?_) (fun hh104=>?_))
   . refine Gs 11 O (zkq tr150 O ⟨_,rfl,by simp only [hh102,hh103,hh104,Bool.not_true,Bool.and_false,Bool.false_and],hE⟩)
   ·
    refine Gs 1 O ?_
    have hC5:=Keep.refl (fun _=>False) x4
    refine zkk (σ:=Bool) (fun q=>[(2,.bool last),(3,.pointer (some ⟨b,0,none⟩)),(4,.pointer (some ⟨c,0,none⟩)),(7,.int .i64 s.act),(10,.bool q)]) (fun q=>fun w'=>q=(!utB s.act&&!plainB s.term)/\Ext x4 w') ?_ ?_
    ·
     refine Gs 2 O (G.call O Tryz.call201 (zde s.act _) ?_)
     rintro _ wz6 ⟨rfl,hz6⟩
     obtain⟨hE,hvs,hk,hb,hB_b,hB_c,hC5⟩:=Tr7 hz6 hE hvs hk hb hB_b hB_c hC5
     refine zm1 O O (zly O (by first | exact za | rfl)) (Gs 1 O (zlZ 36 O (fun hh7=>?_) (fun hh7=>?_)))
     ·
      refine Gs 1 O (zm7 O tg86 ts86 (hB_c.cells.sub 4 3) O (G.call O Tryz.call202 (zdd s.term _ D' _ (RTm.put hk)) ?_))
      rintro _ wz8 ⟨rfl,hz8⟩
      obtain⟨hE,hvs,hk,hb,hB_b,hB_c,hC5⟩:=Tr7 hz8 hE hvs hk hb hB_b hB_c hC5
      refine zm1 O O (zly O (by first | exact za | rfl)) (Gs 3 O ?_)
      refine zkm (_) (zlO O) (⟨by first | (simp only [hh7,Bool.true_and];done) | (exfalso;omega),hC5⟩)
     ·
      refine Gs 7 O ?_
      refine zkm (_) (Sub.cons O (Sub.cons O (Sub.cons O (Sub.cons O (Sub.cons (by first | rfl | (show some (Value.bool false)=some (Value.bool _);simp [*])) Sub.nil))))) (⟨by first | (simp only [hh7,Bool.false_and];done) | (exfalso;omega),hC5⟩)
    rintro q x5 ⟨hq5,hX5⟩
    subst hq5
    obtain⟨hE,hvs,hk,hb,hB_b,hB_c⟩:=Tr6 hX5 hE hvs hk hb hB_b hB_c
    refine Gs 1 O (G.bool O (fun hh105=>?_) (fun hh105=>?_))
    . refine Gs 11 O (zkq tr150 O ⟨_,rfl,by simp only [hh102,hh103,hh104,hh105,Bool.not_true,Bool.and_false,Bool.false_and],hE⟩)
    ·
     refine Gs 1 O ?_
     have hC6:=Keep.refl (fun _=>False) x5
     refine zkk (σ:=Bool) (fun q=>[(2,.bool last),(3,.pointer (some ⟨b,0,none⟩)),(4,.pointer (some ⟨c,0,none⟩)),(7,.int .i64 s.act),(10,.bool q)]) (fun q=>fun w'=>q=(decide (s.act ≠ 3)&&decide (s.act ≠ 4)&&decide (0<(s.thn.length:Int)))/\Ext x5 w') ?_ ?_
     ·
      refine Gs 4 O (G.sp 44 O (fun hh9=>?_) (fun hh9=>?_))
      ·
       refine Gs 4 O (G.sp 48 O (fun hh10=>?_) (fun hh10=>?_))
       ·
        refine Gs 1 O (zm5 O tg24 (hB_c.cells 7 _ O) (Gs 5 O ?_))
        refine zkm (_) (zlO O) (⟨by first | (simp only [hh9,hh10,decide_true,Bool.and_true,Bool.true_and,not_false_eq_true,ne_eq];done) | (exfalso;omega),hC6⟩)
       ·
        refine Gs 7 O ?_
        refine zkm (_) (Sub.cons O (Sub.cons O (Sub.cons O (Sub.cons O (Sub.cons (by first | rfl | (show some (Value.bool false)=some (Value.bool _);simp [*])) Sub.nil))))) (⟨by first | (simp only [hh9,hh10,decide_true,decide_false,Bool.and_false,Bool.false_and,not_false_eq_true,ne_eq];done) | (exfalso;omega),hC6⟩)
      ·
       refine Gs 11 O ?_
       refine zkm (_) (Sub.cons O (Sub.cons O (Sub.cons O (Sub.cons O (Sub.cons (by first | rfl | (show some (Value.bool false)=some (Value.bool _);simp [*])) Sub.nil))))) (⟨by first | (simp only [hh9,decide_false,Bool.false_and,ne_eq,decide_not];done) | (exfalso;omega),hC6⟩)
     rintro q x6 ⟨hq6,hX6⟩
     subst hq6
     obtain⟨hE,hvs,hk,hb,hB_b,hB_c⟩:=Tr6 hX6 hE hvs hk hb hB_b hB_c
     refine Gs 1 O (G.bool O (fun hh106=>?_) (fun hh106=>?_))
     . refine Gs 11 O (zkq tr150 O ⟨_,rfl,by simp only [hh102,hh103,hh104,hh105,hh106,Bool.not_true,Bool.and_false,Bool.false_and],hE⟩)
     ·
      refine Gs 1 O ?_
      have hC7:=Keep.refl (fun _=>False) x6
      refine zkk (σ:=Bool) (fun q=>[(2,.bool last),(3,.pointer (some ⟨b,0,none⟩)),(4,.pointer (some ⟨c,0,none⟩)),(7,.int .i64 s.act),(10,.bool q)]) (fun q=>fun w'=>q=(decide (s.act ≠ 3)&&decide (0<(s.els.length:Int)))/\Ext x6 w') ?_ ?_
      ·
       refine Gs 4 O (G.sp 56 O (fun hh11=>?_) (fun hh11=>?_))
       ·
        refine Gs 1 O (zm5 O tg24 (hB_c.cells 8 _ O) (Gs 5 O ?_))
        refine zkm (_) (zlO O) (⟨by first | (simp only [hh11,decide_true,Bool.true_and,not_false_eq_true,ne_eq];done) | (exfalso;omega),hC7⟩)
       ·
        refine Gs 7 O ?_
        refine zkm (_) (Sub.cons O (Sub.cons O (Sub.cons O (Sub.cons O (Sub.cons (by first | rfl | (show some (Value.bool false)=some (Value.bool _);simp [*])) Sub.nil))))) (⟨by first | (simp only [hh11,decide_false,Bool.false_and];done) | (exfalso;omega),hC7⟩)
      rintro q x7 ⟨hq7,hX7⟩
      subst hq7
      obtain⟨hE,hvs,hk,hb,hB_b,hB_c⟩:=Tr6 hX7 hE hvs hk hb hB_b hB_c
      refine Gs 1 O (G.bool O (fun hh107=>?_) (fun hh107=>?_))
      . refine Gs 11 O (zkq tr150 O ⟨_,rfl,by simp only [hh102,hh103,hh104,hh105,hh106,hh107,Bool.not_true,Bool.and_false,Bool.false_and],hE⟩)
      ·
       refine Gs 1 O ?_
       have hC8:=Keep.refl (fun _=>False) x7
       refine zkk (σ:=Bool) (fun q=>[(2,.bool last),(3,.pointer (some ⟨b,0,none⟩)),(4,.pointer (some ⟨c,0,none⟩)),(7,.int .i64 s.act),(10,.bool q)]) (fun q=>fun w'=>q=(decide (s.act ≠ 6)&&decide (0<(s.bounds.length:Int)))/\Ext x7 w') ?_ ?_
       ·
        refine Gs 4 O (G.sp 64 O (fun hh12=>?_) (fun hh12=>?_))
        ·
         refine Gs 1 O (zm5 O tg27 (hB_c.cells 9 _ O) (Gs 5 O ?_))
         refine zkm (_) (zlO O) (⟨by first | (simp only [hh12,decide_true,Bool.true_and,not_false_eq_true,ne_eq];done) | (exfalso;omega),hC8⟩)
        ·
         refine Gs 7 O ?_
         refine zkm (_) (Sub.cons O (Sub.cons O (Sub.cons O (Sub.cons O (Sub.cons (by first | rfl | (show some (Value.bool false)=some (Value.bool _);simp [*])) Sub.nil))))) (⟨by first | (simp only [hh12,decide_false,Bool.false_and];done) | (exfalso;omega),hC8⟩)
       rintro q x8 ⟨hq8,hX8⟩
       subst hq8
       obtain⟨hE,hvs,hk,hb,hB_b,hB_c⟩:=Tr6 hX8 hE hvs hk hb hB_b hB_c
       refine Gs 1 O (G.bool O (fun hh108=>?_) (fun hh108=>?_))
       . refine Gs 11 O (zkq tr150 O ⟨_,rfl,by simp only [hh102,hh103,hh104,hh105,hh106,hh107,hh108,Bool.not_true,Bool.and_false,Bool.false_and],hE⟩)
       ·
        refine Gs 1 O ?_
        have hC9:=Keep.refl (fun _=>False) x8
        refine zkk (σ:=Bool) (fun q=>[(2,.bool last),(3,.pointer (some ⟨b,0,none⟩)),(4,.pointer (some ⟨c,0,none⟩)),(7,.int .i64 s.act),(10,.bool q)]) (fun q=>fun w'=>q=(uvB s.act&&!yL f.vars s.var)/\Ext x8 w') ?_ ?_
        ·
         by_cases hv:0<=s.var/\s.var<f.vars.length
         ·
          obtain⟨x,he_x,hm_x⟩:=gE_ f.vars (s.var.toNat) (by omega)
          obtain⟨b_x,o_x,c_x,ha_x,_,hc_x,hR_x⟩:=hvs.at he_x
          have h1_x:=RVr.one hR_x
          obtain rfl:=hR_x
          have hlt_x:b_x<_:=znV _ _ (hc_x 0 _ rfl)
          have hil:yL f.vars s.var=decide (x.kind=0):=by unfold yL jV;rw [he_x,zo5 hv.1,zo5 hv.2];rfl
          refine Gs 2 O (G.call O Tryz.call199 (jY s.act _) ?_)
          rintro _ wz13 ⟨rfl,hz13⟩
          obtain⟨hE,hvs,hk,hb,hB_b,hB_c,hC9⟩:=Tr7 hz13 hE hvs hk hb hB_b hB_c hC9
          replace hc_x:=Tr1 hz13 hc_x
          refine Gs 1 O (zlZ 72 O (fun hh14=>?_) (fun hh14=>?_))
          ·
           refine Gs 1 O (zm5 O tg3 (hB_c.cells 2 _ O) (Gs 2 O (G.sp 76 O (fun hh15=>?_) (fun hh15=>?_))))
           ·
            refine Gs 20 O ?_
            refine zkm (_) (Sub.cons O (Sub.cons O (Sub.cons O (Sub.cons O (Sub.cons (by first | rfl | (show some (Value.bool true)=some (Value.bool _);simp [*])) Sub.nil))))) (⟨by first | (simp only [hil,hh14,Bool.true_and];done) | (simp only [hh14,Bool.true_and];done) | (exfalso;omega),hC9⟩)
           ·
            refine Gs 1 O (zm5 O tg3 (hB_c.cells 2 _ O) (Gs 1 O (zm5 O tg22 (hB_b.cells 0 _ O) (Gs 4 O (G.sp 84 O (fun hh16=>?_) (fun hh16=>?_))))))
            ·
             refine Gs 12 O ?_
             refine zkm (_) (Sub.cons O (Sub.cons O (Sub.cons O (Sub.cons O (Sub.cons (by first | rfl | (show some (Value.bool true)=some (Value.bool _);simp [*])) Sub.nil))))) (⟨by first | (simp only [hil,hh14,Bool.true_and];done) | (simp only [hh14,Bool.true_and];done) | (exfalso;omega),hC9⟩)
            ·
             refine Gs 1 O (zm5 O tg22 (hB_b.cells 0 _ O) (Gs 1 O (zm5 O tg3 (hB_c.cells 2 _ O) (zm1 O O (zkP tR22 ts89 O O ha_x (by omega)) (Gs 1 O (zm5 O tg53 (hc_x 1 _ O) (Gs 5 O ?_)))))))
             refine zkm (_) (zlO O) (⟨by first | (simp only [hil,hh14,Bool.true_and,ne_eq,decide_not];done) | (simp only [hh102,hh103,hh104,hh105,hh106,hh107,hh108,hh14,hh15,hh16,decide_true,decide_false,Bool.and_true,Bool.true_and,Bool.and_false,Bool.false_and,Bool.or_true,Bool.true_or,Bool.or_false,Bool.false_or,Bool.not_true,Bool.not_false,not_true,not_false_eq_true,ne_eq,decide_not];done) | (exfalso;omega),hC9⟩)
          ·
           refine Gs 24 O ?_
           refine zkm (_) (Sub.cons O (Sub.cons O (Sub.cons O (Sub.cons O (Sub.cons (by first | rfl | (show some (Value.bool false)=some (Value.bool _);simp [*])) Sub.nil))))) (⟨by first | (simp only [hil,hh14,Bool.false_and];done) | (simp only [hh102,hh103,hh104,hh105,hh106,hh107,hh108,hh14,decide_true,decide_false,Bool.and_true,Bool.true_and,Bool.and_false,Bool.false_and,Bool.or_true,Bool.true_or,Bool.or_false,Bool.false_or,Bool.not_true,Bool.not_false,not_true,not_false_eq_true,ne_eq,decide_not];done) | (exfalso;omega),hC9⟩)
         ·
          have hil:yL f.vars s.var=false:=by unfold yL;by_cases h0:0<=s.var <;> simp [h0] <;> omega
          refine Gs 2 O (G.call O Tryz.call199 (jY s.act _) ?_)
          rintro _ wz17 ⟨rfl,hz17⟩
          obtain⟨hE,hvs,hk,hb,hB_b,hB_c,hC9⟩:=Tr7 hz17 hE hvs hk hb hB_b hB_c hC9
          refine Gs 1 O (zlZ 72 O (fun hh18=>?_) (fun hh18=>?_))
          ·
           refine Gs 1 O (zm5 O tg3 (hB_c.cells 2 _ O) (Gs 2 O (G.sp 76 O (fun hh19=>?_) (fun hh19=>?_))))
           ·
            refine Gs 20 O ?_
            refine zkm (_) (Sub.cons O (Sub.cons O (Sub.cons O (Sub.cons O (Sub.cons (by first | rfl | (show some (Value.bool true)=some (Value.bool _);simp [*])) Sub.nil))))) (⟨by first | (simp only [hil,hh18,Bool.and_true,Bool.not_false];done) | (simp only [hh102,hh103,hh104,hh105,hh106,hh107,hh108,hh18,hh19,decide_true,decide_false,Bool.and_true,Bool.true_and,Bool.and_false,Bool.false_and,Bool.or_true,Bool.true_or,Bool.or_false,Bool.false_or,Bool.not_true,Bool.not_false,not_true,not_false_eq_true,ne_eq,decide_not];done) | (exfalso;omega),hC9⟩)
           ·
            refine Gs 1 O (zm5 O tg3 (hB_c.cells 2 _ O) (Gs 1 O (zm5 O tg22 (hB_b.cells 0 _ O) (Gs 4 O (G.sp 84 O (fun hh20=>?_) (fun hh20=>?_))))))
            ·
             refine Gs 12 O ?_
             refine zkm (_) (Sub.cons O (Sub.cons O (Sub.cons O (Sub.cons O (Sub.cons (by first | rfl | (show some (Value.bool true)=some (Value.bool _);simp [*])) Sub.nil))))) (⟨by first | (simp only [hil,hh18,Bool.and_true,Bool.not_false];done) | (simp only [hh102,hh103,hh104,hh105,hh106,hh107,hh108,hh18,hh19,hh20,decide_true,decide_false,Bool.and_true,Bool.true_and,Bool.and_false,Bool.false_and,Bool.or_true,Bool.true_or,Bool.or_false,Bool.false_or,Bool.not_true,Bool.not_false,not_true,not_false_eq_true,ne_eq,decide_not];done) | (exfalso;omega),hC9⟩)
            ·
             refine Gs 1 O (zm5 O tg22 (hB_b.cells 0 _ O) (Gs 1 O (zm5 O tg3 (hB_c.cells 2 _ O) ?_)))
             exfalso
             omega
          ·
           refine Gs 24 O ?_
           refine zkm (_) (Sub.cons O (Sub.cons O (Sub.cons O (Sub.cons O (Sub.cons (by first | rfl | (show some (Value.bool false)=some (Value.bool _);simp [*])) Sub.nil))))) (⟨by first | (simp only [hil,hh18,Bool.and_true,Bool.not_false];done) | (simp only [hh102,hh103,hh104,hh105,hh106,hh107,hh108,hh18,decide_true,decide_false,Bool.and_true,Bool.true_and,Bool.and_false,Bool.false_and,Bool.or_true,Bool.true_or,Bool.or_false,Bool.false_or,Bool.not_true,Bool.not_false,not_true,not_false_eq_true,ne_eq,decide_not];done) | (exfalso;omega),hC9⟩)
        rintro q x9 ⟨hq9,hX9⟩
        subst hq9
        obtain⟨hE,hvs,hk,hb,hB_b,hB_c⟩:=Tr6 hX9 hE hvs hk hb hB_b hB_c
        refine Gs 1 O (G.bool O (fun hh109=>?_) (fun hh109=>?_))
        . refine Gs 11 O (zkq tr150 O ⟨_,rfl,by simp only [hh102,hh103,hh104,hh105,hh106,hh107,hh108,hh109,Bool.not_true,Bool.and_false,Bool.false_and],hE⟩)
        ·
         have hC10:=Keep.refl (fun _=>False) x9
         refine zkk (σ:=Bool) (fun q=>[(2,.bool last),(3,.pointer (some ⟨b,0,none⟩)),(4,.pointer (some ⟨c,0,none⟩)),(7,.int .i64 s.act),(10,.bool q)]) (fun q=>fun w'=>q=(decide (s.act=5)&&(decide (s.n<0) || decide ((f.hatches.length:Int)<=s.n)))/\Ext x9 w') ?_ ?_
         ·
          refine Gs 4 O (G.sp 97 O (fun hh21=>?_) (fun hh21=>?_))
          ·
           refine Gs 1 O (zm5 O tg3 (hB_c.cells 3 _ O) (Gs 2 O (G.sp 101 O (fun hh22=>?_) (fun hh22=>?_))))
           ·
            refine Gs 10 O ?_
            refine zkm (_) (Sub.cons O (Sub.cons O (Sub.cons O (Sub.cons O (Sub.cons (by first | rfl | (show some (Value.bool true)=some (Value.bool _);simp [*])) Sub.nil))))) (⟨by first | (simp only [hh21,hh22,decide_true,Bool.and_true,Bool.true_or];done) | (exfalso;omega),hC10⟩)
           ·
            refine Gs 1 O (zm5 O tg3 (hB_c.cells 3 _ O) (Gs 1 O (zm5 O tg23 (hB_b.cells 1 _ O) (Gs 6 O ?_))))
            refine zkm (_) (zlO O) (⟨by first | (simp only [hh21,hh22,decide_true,decide_false,Bool.true_and,Bool.false_or];done) | (exfalso;omega),hC10⟩)
          ·
           refine Gs 14 O ?_
           refine zkm (_) (Sub.cons O (Sub.cons O (Sub.cons O (Sub.cons O (Sub.cons (by first | rfl | (show some (Value.bool false)=some (Value.bool _);simp [*])) Sub.nil))))) (⟨by first | (simp only [hh21,decide_false,Bool.false_and];done) | (exfalso;omega),hC10⟩)
         rintro q x10 ⟨hq10,hX10⟩
         subst hq10
         obtain⟨hE,hvs,hk,hb,hB_b,hB_c⟩:=Tr6 hX10 hE hvs hk hb hB_b hB_c
         refine Gs 1 O (G.bool O (fun hh110=>?_) (fun hh110=>?_))
         . refine Gs 8 O (zkq tr150 O ⟨_,rfl,by simp only [hh102,hh103,hh104,hh105,hh106,hh107,hh108,hh109,hh110,Bool.not_true,Bool.and_false,Bool.false_and],hE⟩)
         ·
          have hres:∀ q:Bool,q=(decide (s.act ≠ 6) || (last&&yl s.bounds))->∀ {w':World},Ext w w'->∃ v,Ending.returned (.bool q)=.returned v/\v=.bool (!(decide (s.act<0) || decide (6<s.act))&&!(!uvB s.act&&decide (s.var ≠ 0))&&!(!unB s.act&&decide (s.n ≠ 0))&&!(!utB s.act&&!plainB s.term)
  && !(decide (s.act ≠ 3)&&decide (s.act ≠ 4)&&decide (0<(s.thn.length:Int)))&&!(decide (s.act ≠ 3)&&decide (0<(s.els.length:Int)))&&!(decide (s.act ≠ 6)&&decide (0<(s.bounds.length:Int)))
  && !(uvB s.act&&!yL f.vars s.var)&&!(decide (s.act=5)&&(decide (s.n<0) || decide ((f.hatches.length:Int)<=s.n)))
  && (decide (s.act ≠ 6) || (last&&yl s.bounds)))/\Ext w w':=by
           intro q hq w' hw
           refine⟨_,rfl,?_,hw⟩
           rw [hq]
           simp only [hh102,hh103,hh104,hh105,hh106,hh107,hh108,hh109,hh110,Bool.not_false,Bool.true_and,Bool.and_true]
          by_cases hbl:0<s.bounds.length
          ·
           obtain⟨x0,hx0⟩:∃ x,s.bounds[0]?=some x:=⟨_,znT hbl⟩
           obtain⟨b_e0,o_e0,c_e0,ha_e0,_,hc_e0,hR_e0⟩:=hb.at (hx0)
           obtain rfl:=hR_e0
           have hlt_e0:b_e0<_:=znV _ _ (hc_e0 0 _ rfl)
           have hg:yl s.bounds=(decide ((s.bounds.length:Int)<=32)&&decide (0<=x0)&&yK s.bounds):=by
            unfold yl
            rw [hx0,zo5 (show 1<=s.bounds.length from hbl)]
            congr 2
            simp;omega
           refine Gs 8 O (G.sp 112 O (fun hh23=>?_) (fun hh23=>?_))
           . refine Gs 30 O (zkq tr150 O (hres _ (by first | (simp only [hg,hh23,decide_true,Bool.true_or,not_false_eq_true,ne_eq];done) | (exfalso;omega)) hE))
           ·
            refine Gs 2 O (zlZ 114 O (fun hh24=>?_) (fun hh24=>?_))
            ·
             refine Gs 1 O (zm5 O tg27 (hB_c.cells 9 _ O) (Gs 4 O (G.sp 120 O (fun hh25=>?_) (fun hh25=>?_))))
             ·
              refine Gs 1 O (zm5 O tg27 (hB_c.cells 9 _ O) (Gs 4 O (G.sp 126 O (fun hh26=>?_) (fun hh26=>?_))))
              ·
               refine Gs 1 O (zm5 O tg27 (hB_c.cells 9 _ O) (zm1 O O (zkP tR27 ts3 O O ha_e0 (by omega)) (zm5 O tg3 (hc_e0 0 _ O) (Gs 3 O (G.sp 133 O (fun hh27=>?_) (fun hh27=>?_))))))
               ·
                refine Gs 1 O (zm5 O tg27 (hB_c.cells 9 _ O) (G.call O Tryz.call203 (zbF s.bounds _ D' _ hb) ?_))
                rintro _ wz28 ⟨rfl,hz28⟩
                obtain⟨hE,hvs,hk,hb,hB_b,hB_c,hc_e0⟩:=Tr7 hz28 hE hvs hk hb hB_b hB_c hc_e0
                refine Gs 6 O (zkq tr150 O (hres _ (by first | (simp only [hg,hh23,hh24,hh26,hh27,decide_true,decide_false,Bool.and_true,Bool.true_and,Bool.false_or];done) | (exfalso;omega)) hE))
               . refine Gs 9 O (zkq tr150 O (hres _ (by first | (simp only [hg,hh23,hh24,hh26,hh27,decide_true,decide_false,Bool.and_false,Bool.false_and,Bool.or_false];done) | (exfalso;omega)) hE))
              . refine Gs 16 O (zkq tr150 O (hres _ (by first | (simp only [hg,hh23,hh24,hh26,decide_false,Bool.and_false,Bool.false_and,Bool.or_false];done) | (exfalso;omega)) hE))
             . refine Gs 22 O (zkq tr150 O (hres _ (by first | (simp only [hg,hh23,hh24,decide_false,Bool.true_and,Bool.false_or];done) | (exfalso;omega)) hE))
            . refine Gs 28 O (zkq tr150 O (hres _ (by first | (simp only [hg,hh23,hh24,decide_false,Bool.false_and,Bool.or_false];done) | (exfalso;omega)) hE))
          ·
           have hg:yl s.bounds=false:=by unfold yl;rw [zo6 (show ¬ 1<=s.bounds.length by omega)];rfl
           refine Gs 8 O (G.sp 112 O (fun hh29=>?_) (fun hh29=>?_))
           . refine Gs 30 O (zkq tr150 O (hres _ (by first | (simp only [hg,hh29,decide_true,Bool.and_false,Bool.or_false,not_false_eq_true,ne_eq];done) | (exfalso;omega)) hE))
           ·
            refine Gs 2 O (zlZ 114 O (fun hh30=>?_) (fun hh30=>?_))
            ·
             refine Gs 1 O (zm5 O tg27 (hB_c.cells 9 _ O) (Gs 4 O (G.sp 120 O (fun hh31=>?_) (fun hh31=>?_))))
             ·
              refine Gs 1 O (zm5 O tg27 (hB_c.cells 9 _ O) (Gs 4 O (G.sp 126 O (fun hh32=>?_) (fun hh32=>?_))))
              ·
               refine Gs 1 O (zm5 O tg27 (hB_c.cells 9 _ O) ?_)
               exfalso
               omega
              . refine Gs 16 O (zkq tr150 O (hres _ (by first | (simp only [hg,hh29,hh30,decide_false,Bool.and_false,Bool.or_false];done) | (exfalso;omega)) hE))
             . refine Gs 22 O (zkq tr150 O (hres _ (by first | (simp only [hg,hh29,hh30,decide_false,Bool.and_false,Bool.or_false];done) | (exfalso;omega)) hE))
            . refine Gs 28 O (zkq tr150 O (hres _ (by first | (simp only [hg,hh29,hh30,decide_false,Bool.and_false,Bool.or_false];done) | (exfalso;omega)) hE))
def xw (a:Int):Int:=if a=2 then 67108864 else 10000
def zR (s:St):Bool:=!(decide (s.cost<0) || decide (xw s.act<s.cost) || (decide (s.act=4)&&(decide (s.n<0) || decide (4096<s.n))))&&(decide (s.act ≠ 6) || decide (s.bounds[s.bounds.length - 1]?.getD 0<=67108864))
theorem zdf (s:St) (cs:List Value) (D:Nat->Prop) (w:World) (hs:RSt D w s cs) (hb:s.act=6->0<s.bounds.length):Calls Tryz.prog 151 #[.agg cs.toArray] w (Ret fun r w'=>r=.bool (zR s)/\Ext w w'):=by
 obtain⟨v1,v2,v3,v4,rfl,hk,ht,he,hbd⟩:=hs.get
 have hmx:=hbd.max
 obtain⟨av4,nv4,rfl⟩:=hbd.form
 have hlc:=hbd.len_cap.2
 have hE:=Keep.refl (fun _=>False) w
 refine zma Tryz.func151 O Tryz.ntmps151 O (Gs 2 O (G.mem O O (M.box O O) ?_))
 rintro _ w_b ⟨b,rfl,hg_b,hs_b,hB_b,hk_b⟩
 have hge_b:_<=b:=znZ hE.size (Nat.le_of_eq hg_b.symm)
 obtain⟨hE,hbd⟩:=Tr2 hk_b hE hbd
 refine Gs 12 O (zm5 O tg90 (hB_b.cells 0 _ O) (Gs 3 O (zk6 O (fun a2=>?_) (fun a2=>?_))))
 ·
  have hct:xw s.act=67108864:=by rw [xw,zo4 a2]
  have NB:zR s=(!((decide (s.cost<0) || decide (67108864<s.cost) || (decide (s.act=4)&&(decide (s.n<0) || decide (4096<s.n)))))&&(decide (s.act ≠ 6) || decide (s.bounds[s.bounds.length - 1]?.getD 0<=67108864))):=by rw [zR,hct]
  refine Gs 6 O ?_
  have hC:=Keep.refl (fun _=>False) w_b
  refine zkk (σ:=Bool) (fun q=>[(1,.pointer (some ⟨b,0,none⟩)),(30,.bool q)]) (fun q=>fun w'=>q=(decide (s.cost<0) || decide (67108864<s.cost) || (decide (s.act=4)&&(decide (s.n<0) || decide (4096<s.n))))/\Ext w_b w') ?_ ?_
  ·
   refine Gs 2 O (zm5 O tg3 (hB_b.cells 1 _ O) (Gs 2 O (G.sp 10 O (fun hh1=>?_) (fun hh1=>?_))))
   ·
    refine Gs 21 O ?_
    refine zkm (_) (Sub.cons O (Sub.cons (by first | rfl | (show some (Value.bool true)=some (Value.bool _);simp [*])) Sub.nil)) (⟨by first | (simp only [a2,hh1,decide_true,Bool.true_or];done) | (simp [a2,hh1];done) | (exfalso;omega),hC⟩)
   ·
    refine Gs 1 O (zm5 O tg3 (hB_b.cells 1 _ O) (Gs 4 O (G.sp 16 O (fun hh2=>?_) (fun hh2=>?_))))
    ·
     refine Gs 15 O ?_
     refine zkm (_) (Sub.cons O (Sub.cons (by first | rfl | (show some (Value.bool true)=some (Value.bool _);simp [*])) Sub.nil)) (⟨by first | (simp only [a2,hh1,hh2,decide_true,decide_false,Bool.or_true,Bool.true_or];done) | (simp [a2,hh1,hh2];done) | (exfalso;omega),hC⟩)
    ·
     refine Gs 1 O (zm5 O tg90 (hB_b.cells 0 _ O) (Gs 2 O (G.sp 20 O (fun hh3=>?_) (fun hh3=>?_))))
     ·
      refine Gs 1 O (zm5 O tg3 (hB_b.cells 3 _ O) (Gs 2 O (G.sp 24 O (fun hh4=>?_) (fun hh4=>?_))))
      ·
       refine Gs 7 O ?_
       refine zkm (_) (Sub.cons O (Sub.cons (by first | rfl | (show some (Value.bool true)=some (Value.bool _);simp [*])) Sub.nil)) (⟨by first | (simp only [a2,hh1,hh2,hh4,decide_true,decide_false,Bool.and_true,Bool.true_or,Bool.or_false,Bool.false_or];done) | (simp [a2,hh1,hh2,hh4];done) | (exfalso;omega),hC⟩)
      ·
       refine Gs 1 O (zm5 O tg3 (hB_b.cells 3 _ O) (Gs 5 O ?_))
       refine zkm (_) (zlO O) (⟨by first | (simp only [a2,hh1,hh2,hh4,decide_false,Bool.or_false,Bool.false_or];done) | (simp [a2,hh1,hh2,hh4];done) | (exfalso;omega),hC⟩)
     ·
      refine Gs 11 O ?_
      refine zkm (_) (Sub.cons O (Sub.cons (by first | rfl | (show some (Value.bool false)=some (Value.bool _);simp [*])) Sub.nil)) (⟨by first | (simp only [a2,hh1,hh2,decide_false,Bool.or_false,Bool.false_or];done) | (simp [a2,hh1,hh2];done) | (exfalso;omega),hC⟩)
  rintro q x1 ⟨hq1,hX1⟩
  subst hq1
  obtain⟨hE,hbd,hB_b⟩:=Tr3 hX1 hE hbd hB_b
  refine Gs 1 O (G.bool O (fun hh1=>?_) (fun hh1=>?_))
  . refine Gs 7 O (zkq tr151 O ⟨_,rfl,by rw [NB,hh1];rfl,hE⟩)
  ·
   refine Gs 5 O (zm5 O tg90 (hB_b.cells 0 _ O) (Gs 2 O (G.sp 34 O (fun a6=>?_) (fun a6=>?_))))
   . refine Gs 14 O (zkq tr151 O ⟨_,rfl,by rw [NB,hh1];simp [a6],hE⟩)
   ·
    have h6:s.act=6:=by omega
    have hb0:=hb h6
    obtain⟨x,hx⟩:∃ x,s.bounds[s.bounds.length - 1]?=some x:=⟨_,znT (by omega)⟩
    obtain⟨b_e,o_e,c_e,ha_e,_,hc_e,hR_e⟩:=hbd.at hx
    obtain rfl:=hR_e
    have hto:((s.bounds.length:Int) - 1).toNat=s.bounds.length - 1:=by omega
    refine Gs 1 O (zm5 O tg27 (hB_b.cells 9 _ O) (Gs 1 O (zm5 O tg27 (hB_b.cells 9 _ O) (Ga 2 O (by omega) (zm1 O O (zkP tR27 ts3 O O ha_e (by omega)) (zm5 O tg3 (by rw [hto];exact hc_e 0 _ O) (Gs 6 O (zkq tr151 O ⟨_,rfl,by rw [NB,hh1,hx];simp [h6],hE⟩))))))))
 ·
  have hct:xw s.act=10000:=by rw [xw,zo3 a2]
  have NB:zR s=(!((decide (s.cost<0) || decide (10000<s.cost) || (decide (s.act=4)&&(decide (s.n<0) || decide (4096<s.n)))))&&(decide (s.act ≠ 6) || decide (s.bounds[s.bounds.length - 1]?.getD 0<=67108864))):=by rw [zR,hct]
  refine Gs 4 O ?_
  have hC:=Keep.refl (fun _=>False) w_b
  refine zkk (σ:=Bool) (fun q=>[(1,.pointer (some ⟨b,0,none⟩)),(30,.bool q)]) (fun q=>fun w'=>q=(decide (s.cost<0) || decide (10000<s.cost) || (decide (s.act=4)&&(decide (s.n<0) || decide (4096<s.n))))/\Ext w_b w') ?_ ?_
  ·
   refine Gs 2 O (zm5 O tg3 (hB_b.cells 1 _ O) (Gs 2 O (G.sp 10 O (fun hh5=>?_) (fun hh5=>?_))))
   ·
    refine Gs 21 O ?_
    refine zkm (_) (Sub.cons O (Sub.cons (by first | rfl | (show some (Value.bool true)=some (Value.bool _);simp [*])) Sub.nil)) (⟨by first | (simp only [hh5,decide_true,Bool.true_or];done) | (simp [a2,hh5];done) | (exfalso;omega),hC⟩)
   ·
    refine Gs 1 O (zm5 O tg3 (hB_b.cells 1 _ O) (Gs 4 O (G.sp 16 O (fun hh6=>?_) (fun hh6=>?_))))
    ·
     refine Gs 15 O ?_
     refine zkm (_) (Sub.cons O (Sub.cons (by first | rfl | (show some (Value.bool true)=some (Value.bool _);simp [*])) Sub.nil)) (⟨by first | (simp only [hh5,hh6,decide_true,decide_false,Bool.or_true,Bool.true_or];done) | (simp [a2,hh5,hh6];done) | (exfalso;omega),hC⟩)
    ·
     refine Gs 1 O (zm5 O tg90 (hB_b.cells 0 _ O) (Gs 2 O (G.sp 20 O (fun hh7=>?_) (fun hh7=>?_))))
     ·
      refine Gs 1 O (zm5 O tg3 (hB_b.cells 3 _ O) (Gs 2 O (G.sp 24 O (fun hh8=>?_) (fun hh8=>?_))))
      ·
       refine Gs 7 O ?_
       refine zkm (_) (Sub.cons O (Sub.cons (by first | rfl | (show some (Value.bool true)=some (Value.bool _);simp [*])) Sub.nil)) (⟨by first | (simp only [hh5,hh6,hh7,hh8,decide_true,decide_false,Bool.and_true,Bool.or_true,Bool.true_or,Bool.or_false];done) | (simp [a2,hh5,hh6,hh7,hh8];done) | (exfalso;omega),hC⟩)
      ·
       refine Gs 1 O (zm5 O tg3 (hB_b.cells 3 _ O) (Gs 5 O ?_))
       refine zkm (_) (zlO O) (⟨by first | (simp only [hh5,hh6,hh7,hh8,decide_true,decide_false,Bool.true_and,Bool.or_false,Bool.false_or];done) | (simp [a2,hh5,hh6,hh7,hh8];done) | (exfalso;omega),hC⟩)
     ·
      refine Gs 11 O ?_
      refine zkm (_) (Sub.cons O (Sub.cons (by first | rfl | (show some (Value.bool false)=some (Value.bool _);simp [*])) Sub.nil)) (⟨by first | (simp only [hh5,hh6,hh7,decide_false,Bool.false_and,Bool.or_false];done) | (simp [a2,hh5,hh6,hh7];done) | (exfalso;omega),hC⟩)
  rintro q x2 ⟨hq2,hX2⟩
  subst hq2
  obtain⟨hE,hbd,hB_b⟩:=Tr3 hX2 hE hbd hB_b
  refine Gs 1 O (G.bool O (fun hh2=>?_) (fun hh2=>?_))
  . refine Gs 7 O (zkq tr151 O ⟨_,rfl,by rw [NB,hh2];rfl,hE⟩)
  ·
   refine Gs 5 O (zm5 O tg90 (hB_b.cells 0 _ O) (Gs 2 O (G.sp 34 O (fun a6=>?_) (fun a6=>?_))))
   . refine Gs 14 O (zkq tr151 O ⟨_,rfl,by rw [NB,hh2];simp [a6],hE⟩)
   ·
    have h6:s.act=6:=by omega
    have hb0:=hb h6
    obtain⟨x,hx⟩:∃ x,s.bounds[s.bounds.length - 1]?=some x:=⟨_,znT (by omega)⟩
    obtain⟨b_e,o_e,c_e,ha_e,_,hc_e,hR_e⟩:=hbd.at hx
    obtain rfl:=hR_e
    have hto:((s.bounds.length:Int) - 1).toNat=s.bounds.length - 1:=by omega
    refine Gs 1 O (zm5 O tg27 (hB_b.cells 9 _ O) (Gs 1 O (zm5 O tg27 (hB_b.cells 9 _ O) (Ga 2 O (by omega) (zm1 O O (zkP tR27 ts3 O O ha_e (by omega)) (zm5 O tg3 (by rw [hto];exact hc_e 0 _ O) (Gs 6 O (zkq tr151 O ⟨_,rfl,by rw [NB,hh2,hx];simp [h6],hE⟩))))))))
theorem zfe (vs:List Ht) (vv:Value) (D:Nat->Prop) (w:World) (hvs:SlR 6 RHt D w vv vs) (p:Ht->Bool) (g:FuncId) (cp:Value) (hf:∀ args w,(callFunc g args).run Tryz.prog w=.ok (.enter g args) w)
  (hc:∀ x ∈ vs,∀ kv w',Ext w w'->Calls Tryz.prog g #[.agg #[.string x.name,.int .i64 x.low,.int .i64 x.high,.int .i64 x.term.op,.int .i64 x.term.n,kv],cp] w' (Ret fun r w''=>r=.bool (p x)/\Ext w' w'')) :
  Calls Tryz.prog 196 #[vv,.func (.func g) #[] #[cp]] w (Ret fun r w'=>(∃ i:Int,r=.int .i64 i/\(0<=i ↔ vs.any p=true))/\Ext w w'):=by
 have hmx:=hvs.max
 obtain⟨av,nv,rfl⟩:=hvs.form
 refine zmb Tryz.func196 O Tryz.ntmps196 O (Gs 14 O (G.loop (σ:=Nat) (fun i=>[(0,.slice av vs.length nv),(1,.func (.func g) #[] #[cp]),(7,.int .i64 vs.length),(8,.int .i64 i)]) (fun i=>fun w'=>i<=vs.length/\(vs.take i).any p=false/\Ext w w') (fun i=>vs.length - i) (0) (zlO O) (⟨zo8 _,rfl,Keep.refl _ _⟩) ?_))
 rintro i w1 ⟨hi,hno,hL1⟩
 replace hvs:=Tr1 hL1 hvs
 refine Gs 6 O (zk6 O (fun hlt=>?_) (fun hlt=>?_))
 ·
  obtain⟨x,he_x,hm_x⟩:=gE_ vs (i) (by omega)
  obtain⟨b_x,o_x,c_x,ha_x,_,hc_x,hR_x⟩:=hvs.at he_x
  have h1_x:=RHt.one hR_x
  obtain⟨v1_x,rfl,hk_x⟩:=hR_x
  obtain⟨a1_x,n1_x,rfl⟩:=hk_x.form
  have hlt_x:b_x<_:=znV _ _ (hc_x 0 _ rfl)
  refine Gs 15 O (zm1 O O (zkP tR23 ts95 O O ha_x (by omega)) (zm7 O tg95 ts95 hc_x O (zkV O hf (hc x hm_x _ _ hL1) ?_)))
  rintro _ wz1 ⟨rfl,hz1⟩
  obtain⟨hvs,hL1,hc_x,hk_x⟩:=Tr4 hz1 hvs hL1 hc_x hk_x
  refine Gs 2 O (G.bool O (fun hp=>?_) (fun hp=>?_))
  . refine Gs 12 O (zkq Tryz.results196 O ⟨_,rfl,⟨_,rfl,by rw [zhH hm_x hp];simp⟩,hL1⟩)
  . refine Ga 7 O (by omega) (zkh (i+1) (zlO O) (⟨by omega,kC he_x hno hp,hL1⟩) (by first | omega | (dsimp only;omega)))
 ·
  have:i=vs.length:=by omega
  subst this
  rw [znY] at hno
  refine Gs 11 O (zkq Tryz.results196 O ⟨_,rfl,⟨_,rfl,by rw [hno];simp⟩,hL1⟩)
theorem zcz (vs:List Ht) (vv:Value) (D:Nat->Prop) (w:World) (hvs:SlR 6 RHt D w vv vs) (p:Ht->Bool) (g:FuncId) (cp:Value) (hf:∀ args w,(callFunc g args).run Tryz.prog w=.ok (.enter g args) w)
  (hc:∀ x ∈ vs,∀ kv w',Ext w w'->Calls Tryz.prog g #[.agg #[.string x.name,.int .i64 x.low,.int .i64 x.high,.int .i64 x.term.op,.int .i64 x.term.n,kv],cp] w' (Ret fun r w''=>r=.bool (p x)/\Ext w' w'')) :
  Calls Tryz.prog 148 #[vv,.func (.func g) #[] #[cp]] w (Ret fun r w'=>r=.bool (vs.any p)/\Ext w w'):=by
 have hE:=Keep.refl (fun _=>False) w
 refine zmb Tryz.func148 O Tryz.ntmps148 O (Gs 9 O (G.call O Tryz.call196 (zfe vs vv D w hvs p g cp hf hc) ?_))
 rintro _ wz1 ⟨⟨i,rfl,hi⟩,hz1⟩
 replace hE:=Tr1 hz1 hE
 refine Gs 5 O (zkq Tryz.results148 O ⟨_,rfl,by cases h:vs.any p <;> simp [h] at hi ⊢ <;> omega,hE⟩)
theorem zgQ (h x:Ht) (kv kx:Value) (c:Nat) (w:World) (hB:Blk w c [.string x.name,.int .i64 x.low,.int .i64 x.high,.int .i64 x.term.op,.int .i64 x.term.n,kx] 95):Calls Tryz.prog 147 #[.agg #[.string h.name,.int .i64 h.low,.int .i64 h.high,.int .i64 h.term.op,.int .i64 h.term.n,kv],.pointer (some ⟨c,0,none⟩)] w (Ret fun r w'=>r=.bool (zU h.name x.name)/\Ext w w'):=by
 have hE:=Keep.refl (fun _=>False) w
 refine zmb Tryz.func147 O Tryz.ntmps147 O (Gs 2 O (G.mem O O (M.box O O) ?_))
 rintro _ w_b ⟨b,rfl,hg_b,hs_b,hB_b,hk_b⟩
 have hge_b:_<=b:=znZ hE.size (Nat.le_of_eq hg_b.symm)
 obtain⟨hE,hB⟩:=Tr2 hk_b hE hB
 refine Gs 6 O (zm5 O tg9 (hB_b.cells 0 _ O) (Gs 1 O (zm5 O tg9 (hB.cells 0 _ O) (Gs 5 O (zkq Tryz.results147 O ⟨_,rfl,rfl,hE⟩)))))
def zJ (vs:List Vr) (prev:List Ht) (h:Ht):Int :=
 if zar h.name=false then 7
 else if prev.any (fun u=>zU u.name h.name)=true then 8
 else if zb3 h.low h.high=false then 3
 else zD vs true h.term
def qd (vs:List Vr) (hs:List Ht) (i:Nat):Int:=match hs[i]? with
 | some h=>zJ vs (hs.take i) h
 | none=>0
theorem jZ {vs:List Vr} {hs:List Ht} {i:Nat} {h:Ht} (e:hs[i]?=some h):qd vs hs i=zJ vs (hs.take i) h:=by simp [qd,e]
def zv (vs:List Vr) (hs:List Ht):Int:=yv (qd vs hs) 0 hs.length
theorem zb5 (f:Fl) (v1 v2 v3:Value) (D:Nat->Prop) (w:World) (hf:RFl D w f v1 v2 v3) (hg:∀ v ∈ f.vars,yp (v.low,v.high)) (hsz:∀ h ∈ f.hatches,h.term.nodes<=1000000) (hlen:f.hatches.length<=1000000):Calls Tryz.prog 116 #[.agg #[v1,v2,v3]] w (Ret fun r w'=>r=.int .i64 (zv f.vars f.hatches)/\Ext w w'):=by
 have hvs:=hf.vars
 have hhs:=hf.hatches
 obtain⟨av,nv,rfl⟩:=hhs.form
 have hlc:=hhs.len_cap.2
 have hE:=Keep.refl (fun _=>False) w
 refine zma Tryz.func116 O Tryz.ntmps116 O (Gs 2 O (G.mem O O (M.box O O) ?_))
 rintro _ w_b ⟨b,rfl,hg_b,hs_b,hB_b,hk_b⟩
 have hge_b:_<=b:=znZ hE.size (Nat.le_of_eq hg_b.symm)
 obtain⟨hvs,hhs,hE⟩:=Tr3 hk_b hvs hhs hE
 refine Gs 7 O (zm5 O tg23 (hB_b.cells 1 _ O) (Gs 5 O (G.loop (σ:=Nat) (fun i=>[(1,.pointer (some ⟨b,0,none⟩)),(8,.slice av f.hatches.length nv),(9,.int .i64 f.hatches.length),(10,.int .i64 i)]) (fun i=>fun w'=>i<=f.hatches.length/\(∀ j,j<i->qd f.vars f.hatches j=0)/\Ext w_b w') (fun i=>f.hatches.length - i) (0) (zlO O) (⟨zo8 _,fun j h=>absurd h (Nat.not_lt_zero _),Keep.refl _ _⟩) ?_)))
 rintro i w1 ⟨hi,hall,hL1⟩
 obtain⟨hvs,hhs,hE,hB_b⟩:=Tr4 hL1 hvs hhs hE hB_b
 refine Gs 6 O (zk6 O (fun hlt=>?_) (fun hlt=>?_))
 ·
  obtain⟨x,he_x,hm_x⟩:=gE_ f.hatches (i) (by omega)
  obtain⟨b_x,o_x,c_x,ha_x,_,hc_x,hR_x⟩:=hhs.at he_x
  have h1_x:=RHt.one hR_x
  obtain⟨v1_x,rfl,hk_x⟩:=hR_x
  obtain⟨a1_x,n1_x,rfl⟩:=hk_x.form
  have hlt_x:b_x<_:=znV _ _ (hc_x 0 _ rfl)
  have hat:=jZ (vs:=f.vars) he_x
  have hbad:∀ c:Int,zJ f.vars (f.hatches.take i) x=c->c ≠ 0->zv f.vars f.hatches=c:=by
   intro c h1 h2
   have h3:qd f.vars f.hatches i ≠ 0:=by rw [hat,h1];exact h2
   rw [zv,qc hall (by omega) h3,hat,h1]
  have hnext:zJ f.vars (f.hatches.take i) x=0->∀ j,j<i+1->qd f.vars f.hatches j=0:=by
   intro h j hj
   by_cases e:j=i
   . subst e;rw [hat,h]
   . exact hall j (by omega)
  refine Gs 7 O (zm1 O O (zkP tR23 ts95 O O ha_x (by omega)) (zm7 O tg95 ts95 hc_x O (G.mem O O (M.alloc (cs:=_) tz95 O) ?_)))
  rintro _ wa1 ⟨c,rfl,hg_c,hs_c,hB_c,hk_c⟩
  refine Gs 1 O (zkY O (zkZ ts95 O O O O h1_x hB_c (by simp)) ?_)
  rintro w_c ⟨_,hB_c,hkk_c⟩
  replace hk_c:=hk_c.trans hkk_c (fun q hq h=>by have h:q=c:=h;omega)
  have hn_b_c:b ≠ c:=by have:=hB_b.lt;omega
  have hge_c:_<=c:=znZ hE.size (Nat.le_of_eq hg_c.symm)
  obtain⟨hvs,hhs,hE,hB_b,hL1,hc_x,hk_x⟩:=Tr7 hk_c hvs hhs hE hB_b hL1 hc_x hk_x
  refine Gs 13 O (zm5 O tg9 (hB_c.cells 0 _ O) (G.call O Tryz.call144 (jD x.name _) ?_))
  rintro _ wz2 ⟨rfl,hz2⟩
  obtain⟨hvs,hhs,hE,hB_b,hL1,hc_x,hk_x⟩:=Tr7 hz2 hvs hhs hE hB_b hL1 hc_x hk_x
  replace hB_c:=Tr1 hz2 hB_c
  refine zm1 O O (zly O (by first | exact za | rfl)) (Gs 3 O (G.bool O (fun n0=>?_) (fun n0=>?_)))
  ·
   have n0':zar x.name=false:=by simpa using n0
   refine Gs 13 O (zkq tr116 O ⟨_,rfl,by rw [hbad 7 (by rw [zJ,zo4 n0']) (by decide)],hE⟩)
  ·
   have n0':¬ zar x.name=false:=by simpa using n0
   refine Gs 3 O (zm5 O tg23 (hB_b.cells 1 _ O) (Gs 1 O (zm1 O O (zlr tR23 ts95 O O (by omega)) (Gs 1 O ?_))))
   have htk:=hhs.take i (by omega)
   refine G.call O Tryz.call148 (zcz (f.hatches.take i) _ D _ htk (fun u=>zU u.name x.name) 147 (.pointer (some ⟨c,0,none⟩)) Tryz.call147 (fun y _ kv w' hw'=>zgQ y x kv _ c w' (hw'.blk hB_c (fun h=>h)))) ?_
   rintro _ wz3 ⟨rfl,hz3⟩
   obtain⟨hvs,hhs,hE,hB_b,hL1,hc_x,hk_x⟩:=Tr7 hz3 hvs hhs hE hB_b hL1 hc_x hk_x
   replace hB_c:=Tr1 hz3 hB_c
   refine Gs 3 O (G.bool O (fun d0=>?_) (fun d0=>?_))
   . refine Gs 13 O (zkq tr116 O ⟨_,rfl,by rw [hbad 8 (by rw [zJ,zo3 n0',zo4 d0]) (by decide)],hE⟩)
   ·
    have n1:¬ (f.hatches.take i).any (fun u=>zU u.name x.name)=true:=by rw [d0];decide
    refine Gs 3 O (zm5 O tg3 (hB_c.cells 1 _ O) (Gs 1 O (zm5 O tg3 (hB_c.cells 2 _ O) (G.call O Tryz.call146 (qY x.low x.high _) ?_))))
    rintro _ wz4 ⟨rfl,hz4⟩
    obtain⟨hvs,hhs,hE,hB_b,hL1,hc_x,hk_x⟩:=Tr7 hz4 hvs hhs hE hB_b hL1 hc_x hk_x
    replace hB_c:=Tr1 hz4 hB_c
    refine zm1 O O (zly O (by first | exact za | rfl)) (Gs 3 O (G.bool O (fun n3=>?_) (fun n3=>?_)))
    ·
     have n3':zb3 x.low x.high=false:=by simpa using n3
     refine Gs 13 O (zkq tr116 O ⟨_,rfl,by rw [hbad 3 (by rw [zJ,zo3 n0',zo3 n1,zo4 n3']) (by decide)],hE⟩)
    ·
     have n3':¬ zb3 x.low x.high=false:=by simpa using n3
     have hcc:zJ f.vars (f.hatches.take i) x=zD f.vars true x.term:=by rw [zJ,zo3 n0',zo3 n1,zo3 n3']
     refine Gs 6 O (zm5 O tg22 (hB_b.cells 0 _ O) (Gs 1 O (zm7 O tg86 ts86 (hB_c.cells.sub 3 3) O (G.call O Tryz.call149 (zaw f.vars true v1 _ D D _ x.term hg hvs (RTm.put hk_x) (hsz x hm_x)) ?_))))
     rintro _ wz5 ⟨rfl,hz5⟩
     obtain⟨hvs,hhs,hE,hB_b,hL1,hc_x,hk_x⟩:=Tr7 hz5 hvs hhs hE hB_b hL1 hc_x hk_x
     replace hB_c:=Tr1 hz5 hB_c
     refine Gs 9 O (zk6 O (fun tz=>?_) (fun tz=>?_))
     . refine Gs 12 O (zkq tr116 O ⟨_,rfl,by rw [hbad _ hcc tz],hE⟩)
     . refine Ga 7 O (by omega) (zkh (i+1) (zlO O) (⟨by omega,hnext (by rw [hcc];omega),hL1⟩) (by first | omega | (dsimp only;omega)))
 ·
  have hii:i=f.hatches.length:=by omega
  subst hii
  refine Gs 11 O (zkq tr116 O ⟨_,rfl,by rw [zv,xo hall],hE⟩)
mutual
def zA (vs:List Vr) (nh:Nat):St->Bool->Int
 | .mk a c v n t f g bs,last =>
  if zh vs nh (.mk a c v n t f g bs) last=false then 1
  else if zR (.mk a c v n t f g bs)=false then 3
  else if zD vs false t ≠ 0 then zD vs false t
  else if zb vs nh f false ≠ 0 then zb vs nh f false
  else zb vs nh g false
def zb (vs:List Vr) (nh:Nat):List St->Bool->Int
 | [],_=>0
 | s::r,top=>if zA vs nh s (top&&r.isEmpty) ≠ 0 then zA vs nh s (top&&r.isEmpty) else zb vs nh r top
end
theorem zy (vs:List Vr) (nh:Nat) (s:St) (last:Bool):zA vs nh s last =
  if zh vs nh s last=false then 1 else if zR s=false then 3 else if zD vs false s.term ≠ 0 then zD vs false s.term
  else if zb vs nh s.thn false ≠ 0 then zb vs nh s.thn false else zb vs nh s.els false:=by
 cases s;rw [zA];rfl
theorem ja (vs:List Vr) (nh:Nat) (top:Bool) (l:List St) (i:Nat) (x:St) (h:l[i]?=some x) :
  zb vs nh (l.drop i) top=if zA vs nh x (top&&decide (i=l.length - 1)) ≠ 0 then zA vs nh x (top&&decide (i=l.length - 1)) else zb vs nh (l.drop (i+1)) top:=by
 obtain⟨hi,hx⟩:=zo7.1 h
 rw [List.drop_eq_getElem_cons hi,hx,zb]
 have:(l.drop (i+1)).isEmpty=decide (i=l.length - 1):=by
  rw [Bool.eq_iff_iff];simp;omega
 rw [this]
theorem jH {vs:List Vr} {nh:Nat} {s:St} {last:Bool} (h:zh vs nh s last=true):s.act=6->0<s.bounds.length:=by
 intro h6
 rw [zaz] at h
 simp [h6,yl] at h
 omega
theorem zcA (f:Fl) (v1 v2 v3:Value) (hg:∀ v ∈ f.vars,yp (v.low,v.high)) (Df:Nat->Prop) (l:List St):∀ (v:Value) (D:Nat->Prop) (w:World) (top:Bool),RFl Df w f v1 v2 v3->SlR 10 RSt D w v l->zt l<=1000000->Calls Tryz.prog 117 #[.agg #[v1,v2,v3],v,.bool top] w (Ret fun r w'=>r=.int .i64 (zb f.vars f.hatches.length l top)/\Ext w w'):=by
 induction l using zlH with
 | h l ih =>
 intro v D w top hf hl hb
 obtain⟨hvs,hhs,hbd⟩:=hf
 have hmx:=hl.max
 obtain⟨av,nv,rfl⟩:=hl.form
 have hE:=Keep.refl (fun _=>False) w
 refine zmc Tryz.func117 O Tryz.ntmps117 O (Gs 2 O (G.mem O O (M.box O O) ?_))
 rintro _ w_b ⟨b,rfl,hg_b,hs_b,hB_b,hk_b⟩
 have hge_b:_<=b:=znZ hE.size (Nat.le_of_eq hg_b.symm)
 obtain⟨hE,hvs,hhs,hbd,hl⟩:=Tr5 hk_b hE hvs hhs hbd hl
 refine Gs 12 O (G.loop (σ:=Nat) (fun i=>[(1,.slice av l.length nv),(2,.bool top),(3,.pointer (some ⟨b,0,none⟩)),(13,.slice av l.length nv),(14,.int .i64 l.length),(15,.int .i64 i)]) (fun i=>fun w'=>i<=l.length/\zb f.vars f.hatches.length l top=zb f.vars f.hatches.length (l.drop i) top/\Ext w_b w') (fun i=>l.length - i) (0) (zlO O) (⟨zo8 _,rfl,Keep.refl _ _⟩) ?_)
 rintro i w1 ⟨hi,hall,hL1⟩
 obtain⟨hE,hvs,hhs,hbd,hl,hB_b⟩:=Tr6 hL1 hE hvs hhs hbd hl hB_b
 refine Gs 6 O (zk6 O (fun hlt=>?_) (fun hlt=>?_))
 ·
  obtain⟨x,he_x,hm_x⟩:=gE_ l (i) (by omega)
  obtain⟨b_x,o_x,c_x,ha_x,_,hc_x,hR_x⟩:=hl.at he_x
  have h1_x:=RSt.one hR_x
  obtain⟨v1_x,v2_x,v3_x,v4_x,rfl,hk_x,ht_x,hs_x,hb_x⟩:=hR_x.get
  obtain⟨a1_x,n1_x,rfl⟩:=hk_x.form
  obtain⟨a2_x,n2_x,rfl⟩:=ht_x.form
  obtain⟨a3_x,n3_x,rfl⟩:=hs_x.form
  obtain⟨a4_x,n4_x,rfl⟩:=hb_x.form
  have hlt_x:b_x<_:=znV _ _ (hc_x 0 _ rfl)
  have hst:=ja f.vars f.hatches.length top l i x he_x
  refine Gs 7 O (zm1 O O (zkP tR24 ts92 O O ha_x (by omega)) (zm7 O tg92 ts92 hc_x O (G.mem O O (M.alloc (cs:=_) tz92 O) ?_)))
  rintro _ wa1 ⟨c,rfl,hg_c,hs_c,hB_c,hk_c⟩
  refine Gs 1 O (zkY O (zkZ ts92 O O O O h1_x hB_c (by simp)) ?_)
  rintro w_c ⟨_,hB_c,hkk_c⟩
  replace hk_c:=hk_c.trans hkk_c (fun q hq h=>by have h:q=c:=h;omega)
  have hn_b_c:b ≠ c:=by have:=hB_b.lt;omega
  have hge_c:_<=c:=znZ hE.size (Nat.le_of_eq hg_c.symm)
  obtain⟨hE,hvs,hhs,hbd,hl,hB_b,hL1⟩:=Tr7 hk_c hE hvs hhs hbd hl hB_b hL1
  obtain⟨hc_x,hk_x,ht_x,hs_x,hb_x⟩:=Tr5 hk_c hc_x hk_x ht_x hs_x hb_x
  have hnl:((l.length:Int) - 1=((l.length - 1:Nat):Int)):=by omega
  refine Gs 4 O ?_
  have hC:=Keep.refl (fun _=>False) w_c
  refine zkk (σ:=Bool) (fun q=>[(1,.slice av l.length nv),(2,.bool top),(3,.pointer (some ⟨b,0,none⟩)),(7,.int .i64 i),(8,.pointer (some ⟨c,0,none⟩)),(13,.slice av l.length nv),(14,.int .i64 l.length),(15,.int .i64 i),(31,.bool q)]) (fun q=>fun w'=>q=!(zh f.vars f.hatches.length x (top&&decide (i=l.length - 1)))/\Ext w_c w') ?_ ?_
  ·
   refine Gs 1 O (zm7 O tg26 ts26 hB_b.cells O (zm7 O tg92 ts92 hB_c.cells O (Gs 2 O (zlZ 23 O (fun tt=>?_) (fun tt=>?_)))))
   ·
    refine Ga 6 O (by omega) (G.call O Tryz.call150 (jG f x _ v1 v2 v3 _ _ _ _ ⟨hvs,hhs,hbd⟩ (RSt.put hk_x ht_x hs_x hb_x)) ?_)
    rintro _ wz2 ⟨rfl,hz2⟩
    obtain⟨hE,hvs,hhs,hbd,hl,hB_b,hL1⟩:=Tr7 hz2 hE hvs hhs hbd hl hB_b hL1
    obtain⟨hc_x,hk_x,ht_x,hs_x,hb_x,hB_c,hC⟩:=Tr7 hz2 hc_x hk_x ht_x hs_x hb_x hB_c hC
    refine zm1 O O (zly O (by first | exact za | rfl)) (Gs 1 O ?_)
    refine zkm (_) (zlO O) (⟨by rw [tt,Bool.true_and];congr 2;simp only [zol];omega,hC⟩)
   ·
    refine Gs 6 O (G.call O Tryz.call150 (jG f x _ v1 v2 v3 _ _ _ _ ⟨hvs,hhs,hbd⟩ (RSt.put hk_x ht_x hs_x hb_x)) ?_)
    rintro _ wz3 ⟨rfl,hz3⟩
    obtain⟨hE,hvs,hhs,hbd,hl,hB_b,hL1⟩:=Tr7 hz3 hE hvs hhs hbd hl hB_b hL1
    obtain⟨hc_x,hk_x,ht_x,hs_x,hb_x,hB_c,hC⟩:=Tr7 hz3 hc_x hk_x ht_x hs_x hb_x hB_c hC
    refine zm1 O O (zly O (by first | exact za | rfl)) (Gs 1 O ?_)
    refine zkm (_) (zlO O) (⟨by rw [tt,Bool.false_and],hC⟩)
  rintro q x1 ⟨hq,hX1⟩
  subst hq
  obtain⟨hE,hvs,hhs,hbd,hl,hB_b,hL1⟩:=Tr7 hX1 hE hvs hhs hbd hl hB_b hL1
  obtain⟨hc_x,hk_x,ht_x,hs_x,hb_x,hB_c⟩:=Tr6 hX1 hc_x hk_x ht_x hs_x hb_x hB_c
  generalize hlast:(top&&decide (i=l.length - 1))=last at *
  refine Gs 1 O (G.bool O (fun hsh=>?_) (fun hsh=>?_))
  ·
   have hsh':zh f.vars f.hatches.length x last=false:=by simpa using hsh
   refine Gs 12 O (zkq tr117 O ⟨_,rfl,by rw [hall,hst,zy,zo4 hsh'];rfl,hE⟩)
  ·
   have hsh':zh f.vars f.hatches.length x last=true:=by simpa using hsh
   have hshn:¬ zh f.vars f.hatches.length x last=false:=by rw [hsh'];decide
   refine Gs 5 O (zm7 O tg92 ts92 hB_c.cells O (G.call O Tryz.call151 (zdf x _ D _ (RSt.put hk_x ht_x hs_x hb_x) (jH hsh')) ?_))
   rintro _ wz4 ⟨rfl,hz4⟩
   obtain⟨hE,hvs,hhs,hbd,hl,hB_b,hL1⟩:=Tr7 hz4 hE hvs hhs hbd hl hB_b hL1
   obtain⟨hc_x,hk_x,ht_x,hs_x,hb_x,hB_c⟩:=Tr6 hz4 hc_x hk_x ht_x hs_x hb_x hB_c
   refine zm1 O O (zly O (by first | exact za | rfl)) (Gs 2 O (G.bool O (fun hnu=>?_) (fun hnu=>?_)))
   ·
    have hnu':zR x=false:=by simpa using hnu
    refine Gs 12 O (zkq tr117 O ⟨_,rfl,by rw [hall,hst,zy,zo3 hshn,zo4 hnu'];rfl,hE⟩)
   ·
    have hnu':¬ zR x=false:=by simpa using hnu
    refine Gs 6 O (zm5 O tg22 (hB_b.cells 0 _ O) (Gs 1 O (zm7 O tg86 ts86 (hB_c.cells.sub 4 3) O ?_)))
    have hbx:=qw hm_x
    rw [St.bulk_eq] at hbx
    refine G.call O Tryz.call149 (zaw f.vars false v1 _ _ _ _ x.term hg hvs (RTm.put hk_x) (by omega)) ?_
    rintro _ wz5 ⟨rfl,hz5⟩
    obtain⟨hE,hvs,hhs,hbd,hl,hB_b,hL1⟩:=Tr7 hz5 hE hvs hhs hbd hl hB_b hL1
    obtain⟨hc_x,hk_x,ht_x,hs_x,hb_x,hB_c⟩:=Tr6 hz5 hc_x hk_x ht_x hs_x hb_x hB_c
    refine Gs 9 O (zk6 O (fun tz=>?_) (fun tz=>?_))
    . refine Gs 13 O (zkq tr117 O ⟨_,rfl,by rw [hall,hst,zy,zo3 hshn,zo3 hnu',zo4 tz,zo4 tz],hE⟩)
    ·
     have hcode:zA f.vars f.hatches.length x last=if zb f.vars f.hatches.length x.thn false ≠ 0 then zb f.vars f.hatches.length x.thn false else zb f.vars f.hatches.length x.els false:=by rw [zy,zo3 hshn,zo3 hnu',zo3 tz]
     refine Gs 5 O (zm5 O tg24 (hB_c.cells 7 _ O) (Gs 1 O (zm5 O tg24 (hB_c.cells 8 _ O) (G.mem O O (M.buildSlice (cs:=[.slice a2_x x.thn.length n2_x,.slice a3_x x.els.length n3_x]) [(0,_),(1,_)] Tryz.runUnderlying190 ts24 Tryz.zeroValue24 (by decide) O (by kernel_rfl)) ?_))))
     rintro _ w3 ⟨b3,rfl,hg_b3,hs_b3,hB_b3,hk_b3⟩
     obtain⟨hE,hvs,hhs,hbd,hl,hB_b,hL1⟩:=Tr7 hk_b3 hE hvs hhs hbd hl hB_b hL1
     obtain⟨hc_x,hk_x,ht_x,hs_x,hb_x,hB_c⟩:=Tr6 hk_b3 hc_x hk_x ht_x hs_x hb_x hB_c
     refine Gs 5 O (G.loop (σ:=Nat) (fun k=>[(1,.slice av l.length nv),(2,.bool top),(3,.pointer (some ⟨b,0,none⟩)),(7,.int .i64 i),(8,.pointer (some ⟨c,0,none⟩)),(13,.slice av l.length nv),(14,.int .i64 l.length),(15,.int .i64 i),(47,.slice (some ⟨b3,0,none⟩) 2 2),(48,.int .i64 2),(49,.int .i64 k)]) (fun k=>fun w'=>k<=2/\(1<=k->zb f.vars f.hatches.length x.thn false=0)/\(2<=k->zb f.vars f.hatches.length x.els false=0)/\Ext w3 w') (fun k=>2 - k) (0) (zlO O) (⟨zo8 _,fun h=>absurd h (by decide),fun h=>absurd h (by decide),Keep.refl _ _⟩) ?_)
     rintro k w4 ⟨hk2,hk0,hk1,hL2⟩
     obtain⟨hE,hvs,hhs,hbd,hl,hB_b,hL1⟩:=Tr7 hL2 hE hvs hhs hbd hl hB_b hL1
     obtain⟨hc_x,hk_x,ht_x,hs_x,hb_x,hB_c,hB_b3⟩:=Tr7 hL2 hc_x hk_x ht_x hs_x hb_x hB_c hB_b3
     refine Gs 6 O (zk6 O (fun klt=>?_) (fun klt=>?_))
     ·
      rcases (show k=0\/k=1 by omega) with rfl | rfl
      ·
       refine Ga 7 O (by omega) (zm5 O tg24 (hB_b3.cells 0 _ O) (Gs 5 O (zm7 O tg26 ts26 hB_b.cells O (Gs 1 O (G.call O Tryz.call117 ((ih x hm_x).1 _ _ _ false ⟨hvs,hhs,hbd⟩ ht_x (by omega)) ?_)))))
       rintro _ wz6 ⟨rfl,hz6⟩
       obtain⟨hE,hvs,hhs,hbd,hl,hB_b,hL1⟩:=Tr7 hz6 hE hvs hhs hbd hl hB_b hL1
       obtain⟨hc_x,hk_x,ht_x,hs_x,hb_x,hB_c,hB_b3⟩:=Tr7 hz6 hc_x hk_x ht_x hs_x hb_x hB_c hB_b3
       replace hL2:=Tr1 hz6 hL2
       refine Gs 9 O (zk6 O (fun tz1=>?_) (fun tz1=>?_))
       . refine Gs 16 O (zkq tr117 O ⟨_,rfl,by rw [hall,hst,hcode,zo4 tz1,zo4 tz1],hE⟩)
       . refine Ga 7 O (by omega) (zkh (1) (zlO O) (⟨by omega,fun _=>by omega,fun h=>absurd h (by decide),hL2⟩) (by first | omega | (dsimp only;omega)))
      ·
       refine Ga 7 O (by omega) (zm5 O tg24 (hB_b3.cells 1 _ O) (Gs 5 O (zm7 O tg26 ts26 hB_b.cells O (Gs 1 O (G.call O Tryz.call117 ((ih x hm_x).2 _ _ _ false ⟨hvs,hhs,hbd⟩ hs_x (by omega)) ?_)))))
       rintro _ wz7 ⟨rfl,hz7⟩
       obtain⟨hE,hvs,hhs,hbd,hl,hB_b,hL1⟩:=Tr7 hz7 hE hvs hhs hbd hl hB_b hL1
       obtain⟨hc_x,hk_x,ht_x,hs_x,hb_x,hB_c,hB_b3⟩:=Tr7 hz7 hc_x hk_x ht_x hs_x hb_x hB_c hB_b3
       replace hL2:=Tr1 hz7 hL2
       refine Gs 9 O ?_
       have hthn:=hk0 (zoi _)
       have hcode2:zA f.vars f.hatches.length x last=zb f.vars f.hatches.length x.els false:=by rw [hcode,zo3 (by simp [hthn])]
       refine zk6 O (fun tz1=>?_) (fun tz1=>?_)
       . refine Gs 16 O (zkq tr117 O ⟨_,rfl,by rw [hall,hst,hcode2,zo4 tz1],hE⟩)
       . refine Ga 7 O (by omega) (zkh (2) (zlO O) (⟨by omega,fun _=>hthn,fun _=>by omega,hL2⟩) (by first | omega | (dsimp only;omega)))
     ·
      have hx0:zA f.vars f.hatches.length x last=0:=by rw [hcode,zo3 (by simp [hk0 (by omega)]),hk1 (by omega)]
      refine Ga 10 O (by omega) (zkh (i+1) (zlO O) (⟨by omega,by rw [hall,hst,hx0,zo3 (by decide)],hL1⟩) (by first | omega | (dsimp only;omega)))
 ·
  have hii:i=l.length:=by omega
  subst hii
  refine Gs 11 O (zkq tr117 O ⟨_,rfl,by rw [hall,List.drop_length];rfl,hE⟩)
open Go.GL
def zjA (s:St):Bool:=decide (s.cost<0) || decide (xw s.act<s.cost) || decide (s.n<0) || (decide (s.act=4)&&decide (4096<s.n))
def zgt (s:St):Bool:=decide ((0:Int)<s.bounds.length)&&decide (67108864<s.bounds[s.bounds.length - 1]?.getD 0)
theorem zbf {vs:List Vr} {nh:Nat} {s:St} {last:Bool} (h:zh vs nh s last=true):zR s=(!zjA s&&!zgt s):=by
 have h0:(s.n<0->s.act=4)/\(s.act ≠ 6->s.bounds.length=0):=by
  unfold zh at h
  repeat' split at h
  all_goals simp [kO] at h
  all_goals (refine⟨fun hn=>?_,fun h6=>?_⟩ <;> first | omega | simp_all)
 have h1:=jH h
 unfold zR zjA zgt
 rw [Bool.eq_iff_iff]
 simp only [Bool.and_eq_true,Bool.not_eq_true',Bool.and_eq_false_iff,Bool.or_eq_false_iff,Bool.or_eq_true,decide_eq_false_iff_not,decide_eq_true_eq]
 generalize s.bounds[s.bounds.length - 1]?.getD 0=e
 omega
theorem zbG (f:Fl) (v1 v2 v3:Value) (hg:∀ v ∈ f.vars,yp (v.low,v.high)) (Df:Nat->Prop) (l:List St):∀ (v:Value) (D:Nat->Prop) (w:World) (top:Bool),RFl Df w f v1 v2 v3->SlR 10 RSt D w v l->zt l<=1000000->Calls Tryz.prog 58 #[.agg #[v1,v2,v3],v,.bool top] w (Ret fun r w'=>r=.int .i64 (zb f.vars f.hatches.length l top)/\Ext w w'):=by
 induction l using zlH with
 | h l ih =>
 intro v D w top hf hl hb
 obtain⟨hvs,hhs,hbd⟩:=hf
 have hmx:=hl.max
 obtain⟨av,nv,rfl⟩:=hl.form
 have hE:=Keep.refl (fun _=>False) w
 refine zmc Tryz.func58 O Tryz.ntmps58 O (Gs 2 O (G.mem O O (M.box O O) ?_))
 rintro _ w_b ⟨b,rfl,hg_b,hs_b,hB_b,hk_b⟩
 have hge_b:_<=b:=znZ hE.size (Nat.le_of_eq hg_b.symm)
 obtain⟨hE,hvs,hhs,hbd,hl⟩:=Tr5 hk_b hE hvs hhs hbd hl
 refine Gs 10 O (G.loop (σ:=Nat) (fun i=>[(1,.slice av l.length nv),(2,.bool top),(3,.pointer (some ⟨b,0,none⟩)),(7,.int .i64 i)]) (fun i=>fun w'=>i<=l.length/\zb f.vars f.hatches.length l top=zb f.vars f.hatches.length (l.drop i) top/\Ext w_b w') (fun i=>l.length - i) (0) (zlO O) (⟨zo8 _,rfl,Keep.refl _ _⟩) ?_)
 rintro i w1 ⟨hi,hall,hL1⟩
 obtain⟨hE,hvs,hhs,hbd,hl,hB_b⟩:=Tr6 hL1 hE hvs hhs hbd hl hB_b
 refine Gs 9 O (zk6 O (fun hlt=>?_) (fun hlt=>?_))
 ·
  obtain⟨x,he_x,hm_x⟩:=gE_ l (i) (by omega)
  obtain⟨b_x,o_x,c_x,ha_x,_,hc_x,hR_x⟩:=hl.at he_x
  have h1_x:=RSt.one hR_x
  obtain⟨v1_x,v2_x,v3_x,v4_x,rfl,hk_x,ht_x,hs_x,hb_x⟩:=hR_x.get
  obtain⟨a1_x,n1_x,rfl⟩:=hk_x.form
  obtain⟨a2_x,n2_x,rfl⟩:=ht_x.form
  obtain⟨a3_x,n3_x,rfl⟩:=hs_x.form
  obtain⟨a4_x,n4_x,rfl⟩:=hb_x.form
  have hlt_x:b_x<_:=znV _ _ (hc_x 0 _ rfl)
  have hst:=ja f.vars f.hatches.length top l i x he_x
  refine Gs 8 O (zm1 O O (zkP tR24 ts92 O O ha_x (by omega)) (zm7 O tg92 ts92 hc_x O (G.mem O O (M.alloc (cs:=_) tz92 O) ?_)))
  rintro _ wa1 ⟨c,rfl,hg_c,hs_c,hB_c,hk_c⟩
  refine zkY O (zkZ ts92 O O O O h1_x hB_c (by simp)) ?_
  rintro w_c ⟨_,hB_c,hkk_c⟩
  replace hk_c:=hk_c.trans hkk_c (fun q hq h=>by have h:q=c:=h;omega)
  have hn_b_c:b ≠ c:=by have:=hB_b.lt;omega
  have hge_c:_<=c:=znZ hE.size (Nat.le_of_eq hg_c.symm)
  obtain⟨hE,hvs,hhs,hbd,hl,hB_b,hL1⟩:=Tr7 hk_c hE hvs hhs hbd hl hB_b hL1
  obtain⟨hc_x,hk_x,ht_x,hs_x,hb_x⟩:=Tr5 hk_c hc_x hk_x ht_x hs_x hb_x
  have hnl:((l.length:Int) - 1=((l.length - 1:Nat):Int)):=by omega
  refine Gs 4 O ?_
  have hC:=Keep.refl (fun _=>False) w_c
  refine zkk (σ:=Bool) (fun q=>[(1,.slice av l.length nv),(2,.bool top),(3,.pointer (some ⟨b,0,none⟩)),(7,.int .i64 i),(8,.pointer (some ⟨c,0,none⟩)),(32,.bool q)]) (fun q=>fun w'=>q=!(zh f.vars f.hatches.length x (top&&decide (i=l.length - 1)))/\Ext w_c w') ?_ ?_
  ·
   refine Gs 1 O (zm7 O tg26 ts26 hB_b.cells O (zm7 O tg92 ts92 hB_c.cells O (Gs 2 O (zlZ 24 O (fun tt=>?_) (fun tt=>?_)))))
   ·
    refine Ga 6 O (by omega) (G.call O Tryz.call109 (kD f x _ v1 v2 v3 _ _ _ _ ⟨hvs,hhs,hbd⟩ (RSt.put hk_x ht_x hs_x hb_x)) ?_)
    rintro _ wz2 ⟨rfl,hz2⟩
    obtain⟨hE,hvs,hhs,hbd,hl,hB_b,hL1⟩:=Tr7 hz2 hE hvs hhs hbd hl hB_b hL1
    obtain⟨hc_x,hk_x,ht_x,hs_x,hb_x,hB_c,hC⟩:=Tr7 hz2 hc_x hk_x ht_x hs_x hb_x hB_c hC
    refine zm1 O O (zly O (by first | exact za | rfl)) (Gs 1 O ?_)
    refine zkm (_) (zlO O) (⟨by rw [tt,Bool.true_and];congr 2;simp only [zol];omega,hC⟩)
   ·
    refine Gs 6 O (G.call O Tryz.call109 (kD f x _ v1 v2 v3 _ _ _ _ ⟨hvs,hhs,hbd⟩ (RSt.put hk_x ht_x hs_x hb_x)) ?_)
    rintro _ wz3 ⟨rfl,hz3⟩
    obtain⟨hE,hvs,hhs,hbd,hl,hB_b,hL1⟩:=Tr7 hz3 hE hvs hhs hbd hl hB_b hL1
    obtain⟨hc_x,hk_x,ht_x,hs_x,hb_x,hB_c,hC⟩:=Tr7 hz3 hc_x hk_x ht_x hs_x hb_x hB_c hC
    refine zm1 O O (zly O (by first | exact za | rfl)) (Gs 1 O ?_)
    refine zkm (_) (zlO O) (⟨by rw [tt,Bool.false_and],hC⟩)
  rintro q w_n ⟨hq,hX1⟩
  subst hq
  obtain⟨hE,hvs,hhs,hbd,hl,hB_b,hL1⟩:=Tr7 hX1 hE hvs hhs hbd hl hB_b hL1
  obtain⟨hc_x,hk_x,ht_x,hs_x,hb_x,hB_c⟩:=Tr6 hX1 hc_x hk_x ht_x hs_x hb_x hB_c
  generalize hlast:(top&&decide (i=l.length - 1))=last at *
  refine Gs 1 O (G.bool O (fun hsh=>?_) (fun hsh=>?_))
  ·
   have hsh':zh f.vars f.hatches.length x last=false:=by simpa using hsh
   refine Gs 12 O (zkq tr58 O ⟨_,rfl,by rw [hall,hst,zy,zo4 hsh'];rfl,hE⟩)
  ·
   have hsh':zh f.vars f.hatches.length x last=true:=by simpa using hsh
   have hshn:¬ zh f.vars f.hatches.length x last=false:=by rw [hsh'];decide
   refine Gs 11 O (zm5 O tg90 (hB_c.cells 0 _ O) (Gs 3 O (zk6 O (fun a2=>?_) (fun a2=>?_))))
   ·
    have hct:xw x.act=67108864:=by rw [xw,zo4 a2]
    have hnb:zR x=(!(decide (x.cost<0) || decide (67108864<x.cost) || decide (x.n<0) || (decide (x.act=4)&&decide (4096<x.n)))&&!zgt x):=by rw [zbf hsh',zjA,hct]
    refine Gs 6 O ?_
    have hC:=Keep.refl (fun _=>False) w_n
    refine zkk (σ:=Bool) (fun q=>[(1,.slice av l.length nv),(2,.bool top),(3,.pointer (some ⟨b,0,none⟩)),(7,.int .i64 i),(8,.pointer (some ⟨c,0,none⟩)),(59,.bool q)]) (fun q=>fun w'=>q=(decide (x.cost<0) || decide (67108864<x.cost) || decide (x.n<0) || (decide (x.act=4)&&decide (4096<x.n)))/\Ext w_n w') ?_ ?_
    ·
     refine Gs 2 O (zm5 O tg3 (hB_c.cells 1 _ O) (Gs 2 O (G.sp 39 O (fun hh4=>?_) (fun hh4=>?_))))
     ·
      refine Gs 21 O ?_
      refine zkm (_) (Sub.cons O (Sub.cons O (Sub.cons O (Sub.cons O (Sub.cons O (Sub.cons (by first | rfl | (show some (Value.bool true)=some (Value.bool _);simp [*])) Sub.nil)))))) (⟨by first | (simp only [a2,hh4,decide_true,Bool.true_or];done) | (simp [hlt,hsh,a2,hh4];done) | (exfalso;omega),hC⟩)
     ·
      refine Gs 1 O (zm5 O tg3 (hB_c.cells 1 _ O) (Gs 4 O (G.sp 45 O (fun hh5=>?_) (fun hh5=>?_))))
      ·
       refine Gs 15 O ?_
       refine zkm (_) (Sub.cons O (Sub.cons O (Sub.cons O (Sub.cons O (Sub.cons O (Sub.cons (by first | rfl | (show some (Value.bool true)=some (Value.bool _);simp [*])) Sub.nil)))))) (⟨by first | (simp only [a2,hh4,hh5,decide_true,decide_false,Bool.or_true,Bool.true_or];done) | (simp [hlt,hsh,a2,hh4,hh5];done) | (exfalso;omega),hC⟩)
      ·
       refine Gs 1 O (zm5 O tg3 (hB_c.cells 3 _ O) (Gs 3 O (G.sp 50 O (fun hh6=>?_) (fun hh6=>?_))))
       ·
        refine Gs 10 O ?_
        refine zkm (_) (Sub.cons O (Sub.cons O (Sub.cons O (Sub.cons O (Sub.cons O (Sub.cons (by first | rfl | (show some (Value.bool true)=some (Value.bool _);simp [*])) Sub.nil)))))) (⟨by first | (simp only [a2,hh4,hh5,hh6,decide_true,decide_false,Bool.or_true,Bool.true_or,Bool.or_false];done) | (simp [hlt,hsh,a2,hh4,hh5,hh6];done) | (exfalso;omega),hC⟩)
       ·
        refine Gs 1 O (zm5 O tg90 (hB_c.cells 0 _ O) (Gs 2 O (G.sp 54 O (fun hh7=>?_) (fun hh7=>?_))))
        ·
         refine Gs 1 O (zm5 O tg3 (hB_c.cells 3 _ O) (Gs 4 O ?_))
         refine zkm (_) (zlO O) (⟨by first | (simp only [a2,hh4,hh5,hh6,decide_false,Bool.or_false,Bool.false_or];done) | (simp [a2,hh4,hh5,hh6];done) | (exfalso;omega),hC⟩)
        ·
         refine Gs 6 O ?_
         refine zkm (_) (Sub.cons O (Sub.cons O (Sub.cons O (Sub.cons O (Sub.cons O (Sub.cons (by first | rfl | (show some (Value.bool false)=some (Value.bool _);simp [*])) Sub.nil)))))) (⟨by first | (simp only [a2,hh4,hh5,hh6,decide_false,Bool.or_false,Bool.false_or];done) | (simp [a2,hh4,hh5,hh6];done) | (exfalso;omega),hC⟩)
    rintro q x2 ⟨hq,hX2⟩
    subst hq
    obtain⟨hE,hvs,hhs,hbd,hl,hB_b,hL1⟩:=Tr7 hX2 hE hvs hhs hbd hl hB_b hL1
    obtain⟨hc_x,hk_x,ht_x,hs_x,hb_x,hB_c⟩:=Tr6 hX2 hc_x hk_x ht_x hs_x hb_x hB_c
    refine Gs 1 O (G.bool O (fun hba=>?_) (fun hba=>?_))
    . refine Gs 12 O (zkq tr58 O ⟨_,rfl,by rw [hall,hst,zy,zo3 hshn,zo4 (show zR x=false by simp [hnb,hba])];rfl,hE⟩)
    ·
     rw [hba,Bool.not_false,Bool.true_and] at hnb
     refine Gs 4 O ?_
     have hC:=Keep.refl (fun _=>False) x2
     refine zkk (σ:=Bool) (fun q=>[(1,.slice av l.length nv),(2,.bool top),(3,.pointer (some ⟨b,0,none⟩)),(7,.int .i64 i),(8,.pointer (some ⟨c,0,none⟩)),(74,.bool q)]) (fun q=>fun w'=>q=zgt x/\Ext x2 w') ?_ ?_
     ·
      by_cases hbl:0<x.bounds.length
      ·
       obtain⟨y,hy⟩:∃ y,x.bounds[x.bounds.length - 1]?=some y:=⟨_,znT (by omega)⟩
       obtain⟨b_e,o_e,c_e,ha_e,_,hc_e,hR_e⟩:=hb_x.at hy
       obtain rfl:=hR_e
       have hmxb:=hb_x.max
       have hto:((x.bounds.length:Int) - 1).toNat=x.bounds.length - 1:=by omega
       refine Gs 2 O (zm5 O tg27 (hB_c.cells 9 _ O) (Gs 3 O (G.sp 64 O (fun hb0=>?_) (fun hb0=>?_))))
       ·
        refine Gs 1 O (zm5 O tg27 (hB_c.cells 9 _ O) (Gs 1 O (zm5 O tg27 (hB_c.cells 9 _ O) (Ga 2 O (by omega) (zm1 O O (zkP tR27 ts3 O O ha_e (by omega)) (zm5 O tg3 (by rw [hto];exact hc_e 0 _ O) (Gs 3 O ?_)))))))
        refine zkm (_) (zlO O) (⟨by unfold zgt;rw [zo5 hb0,Bool.true_and,hy];rfl,hC⟩)
       . exact absurd (by omega) hb0
      ·
       refine Gs 2 O (zm5 O tg27 (hB_c.cells 9 _ O) (Gs 3 O (G.sp 64 O (fun hb0=>?_) (fun hb0=>?_))))
       . exact absurd hb0 (by omega)
       ·
        refine Gs 11 O ?_
        refine zkm (_) (Sub.cons O (Sub.cons O (Sub.cons O (Sub.cons O (Sub.cons O (Sub.cons (by first | rfl | (show some (Value.bool false)=some (Value.bool _);simp [*])) Sub.nil)))))) (⟨by unfold zgt;rw [zo6 hb0];rfl,hC⟩)
     rintro q x3 ⟨hq,hX3⟩
     subst hq
     obtain⟨hE,hvs,hhs,hbd,hl,hB_b,hL1⟩:=Tr7 hX3 hE hvs hhs hbd hl hB_b hL1
     obtain⟨hc_x,hk_x,ht_x,hs_x,hb_x,hB_c⟩:=Tr6 hX3 hc_x hk_x ht_x hs_x hb_x hB_c
     refine Gs 1 O (G.bool O (fun hbb=>?_) (fun hbb=>?_))
     . refine Gs 12 O (zkq tr58 O ⟨_,rfl,by rw [hall,hst,zy,zo3 hshn,zo4 (show zR x=false by simp [hnb,hbb])];rfl,hE⟩)
     ·
      have hnu':¬ zR x=false:=by rw [hnb,hbb];decide
      have hbx:=qw hm_x
      rw [St.bulk_eq] at hbx
      refine Gs 5 O (zm5 O tg22 (hB_b.cells 0 _ O) (Gs 1 O (zm7 O tg86 ts86 (hB_c.cells.sub 4 3) O (G.call O Tryz.call57 (xv f.vars false v1 _ _ _ _ x.term hg hvs (RTm.put hk_x) (by omega)) ?_))))
      rintro _ wz8 ⟨rfl,hz8⟩
      obtain⟨hE,hvs,hhs,hbd,hl,hB_b,hL1⟩:=Tr7 hz8 hE hvs hhs hbd hl hB_b hL1
      obtain⟨hc_x,hk_x,ht_x,hs_x,hb_x,hB_c⟩:=Tr6 hz8 hc_x hk_x ht_x hs_x hb_x hB_c
      refine Gs 10 O (zk6 O (fun tz=>?_) (fun tz=>?_))
      . refine Gs 13 O (zkq tr58 O ⟨_,rfl,by rw [hall,hst,zy,zo3 hshn,zo3 hnu',zo4 tz,zo4 tz],hE⟩)
      ·
       have hcode:zA f.vars f.hatches.length x last=if zb f.vars f.hatches.length x.thn false ≠ 0 then zb f.vars f.hatches.length x.thn false else zb f.vars f.hatches.length x.els false:=by rw [zy,zo3 hshn,zo3 hnu',zo3 tz]
       refine Gs 4 O (zm7 O tg26 ts26 hB_b.cells O (Gs 1 O (zm5 O tg24 (hB_c.cells 7 _ O) (G.call O tc58 ((ih x hm_x).1 _ _ _ false ⟨hvs,hhs,hbd⟩ ht_x (by omega)) ?_))))
       rintro _ wz9 ⟨rfl,hz9⟩
       obtain⟨hE,hvs,hhs,hbd,hl,hB_b,hL1⟩:=Tr7 hz9 hE hvs hhs hbd hl hB_b hL1
       obtain⟨hc_x,hk_x,ht_x,hs_x,hb_x,hB_c⟩:=Tr6 hz9 hc_x hk_x ht_x hs_x hb_x hB_c
       refine Gs 10 O (zk6 O (fun tz1=>?_) (fun tz1=>?_))
       . refine Gs 13 O (zkq tr58 O ⟨_,rfl,by rw [hall,hst,hcode,zo4 tz1,zo4 tz1],hE⟩)
       ·
        have hcode2:zA f.vars f.hatches.length x last=zb f.vars f.hatches.length x.els false:=by rw [hcode,zo3 tz1]
        refine Gs 4 O (zm7 O tg26 ts26 hB_b.cells O (Gs 1 O (zm5 O tg24 (hB_c.cells 8 _ O) (G.call O tc58 ((ih x hm_x).2 _ _ _ false ⟨hvs,hhs,hbd⟩ hs_x (by omega)) ?_))))
        rintro _ wz10 ⟨rfl,hz10⟩
        obtain⟨hE,hvs,hhs,hbd,hl,hB_b,hL1⟩:=Tr7 hz10 hE hvs hhs hbd hl hB_b hL1
        obtain⟨hc_x,hk_x,ht_x,hs_x,hb_x,hB_c⟩:=Tr6 hz10 hc_x hk_x ht_x hs_x hb_x hB_c
        refine Gs 9 O (zk6 O (fun tz2=>?_) (fun tz2=>?_))
        . refine Gs 12 O (zkq tr58 O ⟨_,rfl,by rw [hall,hst,hcode2,zo4 tz2],hE⟩)
        . refine Ga 8 O (by omega) (zkh (i+1) (zlO O) (⟨by omega,by rw [hall,hst,hcode2,zo3 tz2],hL1⟩) (by first | omega | (dsimp only;omega)))
   ·
    have hct:xw x.act=10000:=by rw [xw,zo3 a2]
    have hnb:zR x=(!(decide (x.cost<0) || decide (10000<x.cost) || decide (x.n<0) || (decide (x.act=4)&&decide (4096<x.n)))&&!zgt x):=by rw [zbf hsh',zjA,hct]
    refine Gs 4 O ?_
    have hC:=Keep.refl (fun _=>False) w_n
    refine zkk (σ:=Bool) (fun q=>[(1,.slice av l.length nv),(2,.bool top),(3,.pointer (some ⟨b,0,none⟩)),(7,.int .i64 i),(8,.pointer (some ⟨c,0,none⟩)),(59,.bool q)]) (fun q=>fun w'=>q=(decide (x.cost<0) || decide (10000<x.cost) || decide (x.n<0) || (decide (x.act=4)&&decide (4096<x.n)))/\Ext w_n w') ?_ ?_
    ·
     refine Gs 2 O (zm5 O tg3 (hB_c.cells 1 _ O) (Gs 2 O (G.sp 39 O (fun hh11=>?_) (fun hh11=>?_))))
     ·
      refine Gs 21 O ?_
      refine zkm (_) (Sub.cons O (Sub.cons O (Sub.cons O (Sub.cons O (Sub.cons O (Sub.cons (by first | rfl | (show some (Value.bool true)=some (Value.bool _);simp [*])) Sub.nil)))))) (⟨by first | (simp only [hh11,decide_true,Bool.true_or];done) | (simp [hlt,hsh,a2,hh11];done) | (exfalso;omega),hC⟩)
     ·
      refine Gs 1 O (zm5 O tg3 (hB_c.cells 1 _ O) (Gs 4 O (G.sp 45 O (fun hh12=>?_) (fun hh12=>?_))))
      ·
       refine Gs 15 O ?_
       refine zkm (_) (Sub.cons O (Sub.cons O (Sub.cons O (Sub.cons O (Sub.cons O (Sub.cons (by first | rfl | (show some (Value.bool true)=some (Value.bool _);simp [*])) Sub.nil)))))) (⟨by first | (simp only [hh11,hh12,decide_true,decide_false,Bool.or_true,Bool.true_or];done) | (simp [hlt,hsh,a2,hh11,hh12];done) | (exfalso;omega),hC⟩)
      ·
       refine Gs 1 O (zm5 O tg3 (hB_c.cells 3 _ O) (Gs 3 O (G.sp 50 O (fun hh13=>?_) (fun hh13=>?_))))
       ·
        refine Gs 10 O ?_
        refine zkm (_) (Sub.cons O (Sub.cons O (Sub.cons O (Sub.cons O (Sub.cons O (Sub.cons (by first | rfl | (show some (Value.bool true)=some (Value.bool _);simp [*])) Sub.nil)))))) (⟨by first | (simp only [hh11,hh12,hh13,decide_true,decide_false,Bool.or_true,Bool.true_or,Bool.or_false];done) | (simp [hlt,hsh,a2,hh11,hh12,hh13];done) | (exfalso;omega),hC⟩)
       ·
        refine Gs 1 O (zm5 O tg90 (hB_c.cells 0 _ O) (Gs 2 O (G.sp 54 O (fun hh14=>?_) (fun hh14=>?_))))
        ·
         refine Gs 1 O (zm5 O tg3 (hB_c.cells 3 _ O) (Gs 4 O ?_))
         refine zkm (_) (zlO O) (⟨by first | (simp only [hh11,hh12,hh13,hh14,decide_true,decide_false,Bool.true_and,Bool.or_false,Bool.false_or];done) | (simp [hlt,hsh,a2,hh11,hh12,hh13,hh14];done) | (exfalso;omega),hC⟩)
        ·
         refine Gs 6 O ?_
         refine zkm (_) (Sub.cons O (Sub.cons O (Sub.cons O (Sub.cons O (Sub.cons O (Sub.cons (by first | rfl | (show some (Value.bool false)=some (Value.bool _);simp [*])) Sub.nil)))))) (⟨by first | (simp only [hh11,hh12,hh13,hh14,decide_false,Bool.false_and,Bool.or_false];done) | (simp [hlt,hsh,a2,hh11,hh12,hh13,hh14];done) | (exfalso;omega),hC⟩)
    rintro q x2 ⟨hq,hX2⟩
    subst hq
    obtain⟨hE,hvs,hhs,hbd,hl,hB_b,hL1⟩:=Tr7 hX2 hE hvs hhs hbd hl hB_b hL1
    obtain⟨hc_x,hk_x,ht_x,hs_x,hb_x,hB_c⟩:=Tr6 hX2 hc_x hk_x ht_x hs_x hb_x hB_c
    refine Gs 1 O (G.bool O (fun hba=>?_) (fun hba=>?_))
    . refine Gs 12 O (zkq tr58 O ⟨_,rfl,by rw [hall,hst,zy,zo3 hshn,zo4 (show zR x=false by simp [hnb,hba])];rfl,hE⟩)
    ·
     rw [hba,Bool.not_false,Bool.true_and] at hnb
     refine Gs 4 O ?_
     have hC:=Keep.refl (fun _=>False) x2
     refine zkk (σ:=Bool) (fun q=>[(1,.slice av l.length nv),(2,.bool top),(3,.pointer (some ⟨b,0,none⟩)),(7,.int .i64 i),(8,.pointer (some ⟨c,0,none⟩)),(74,.bool q)]) (fun q=>fun w'=>q=zgt x/\Ext x2 w') ?_ ?_
     ·
      by_cases hbl:0<x.bounds.length
      ·
       obtain⟨y,hy⟩:∃ y,x.bounds[x.bounds.length - 1]?=some y:=⟨_,znT (by omega)⟩
       obtain⟨b_e,o_e,c_e,ha_e,_,hc_e,hR_e⟩:=hb_x.at hy
       obtain rfl:=hR_e
       have hmxb:=hb_x.max
       have hto:((x.bounds.length:Int) - 1).toNat=x.bounds.length - 1:=by omega
       refine Gs 2 O (zm5 O tg27 (hB_c.cells 9 _ O) (Gs 3 O (G.sp 64 O (fun hb0=>?_) (fun hb0=>?_))))
       ·
        refine Gs 1 O (zm5 O tg27 (hB_c.cells 9 _ O) (Gs 1 O (zm5 O tg27 (hB_c.cells 9 _ O) (Ga 2 O (by omega) (zm1 O O (zkP tR27 ts3 O O ha_e (by omega)) (zm5 O tg3 (by rw [hto];exact hc_e 0 _ O) (Gs 3 O ?_)))))))
        refine zkm (_) (zlO O) (⟨by unfold zgt;rw [zo5 hb0,Bool.true_and,hy];rfl,hC⟩)
       . exact absurd (by omega) hb0
      ·
       refine Gs 2 O (zm5 O tg27 (hB_c.cells 9 _ O) (Gs 3 O (G.sp 64 O (fun hb0=>?_) (fun hb0=>?_))))
       . exact absurd hb0 (by omega)
       ·
        refine Gs 11 O ?_
        refine zkm (_) (Sub.cons O (Sub.cons O (Sub.cons O (Sub.cons O (Sub.cons O (Sub.cons (by first | rfl | (show some (Value.bool false)=some (Value.bool _);simp [*])) Sub.nil)))))) (⟨by unfold zgt;rw [zo6 hb0];rfl,hC⟩)
     rintro q x3 ⟨hq,hX3⟩
     subst hq
     obtain⟨hE,hvs,hhs,hbd,hl,hB_b,hL1⟩:=Tr7 hX3 hE hvs hhs hbd hl hB_b hL1
     obtain⟨hc_x,hk_x,ht_x,hs_x,hb_x,hB_c⟩:=Tr6 hX3 hc_x hk_x ht_x hs_x hb_x hB_c
     refine Gs 1 O (G.bool O (fun hbb=>?_) (fun hbb=>?_))
     . refine Gs 12 O (zkq tr58 O ⟨_,rfl,by rw [hall,hst,zy,zo3 hshn,zo4 (show zR x=false by simp [hnb,hbb])];rfl,hE⟩)
     ·
      have hnu':¬ zR x=false:=by rw [hnb,hbb];decide
      have hbx:=qw hm_x
      rw [St.bulk_eq] at hbx
      refine Gs 5 O (zm5 O tg22 (hB_b.cells 0 _ O) (Gs 1 O (zm7 O tg86 ts86 (hB_c.cells.sub 4 3) O (G.call O Tryz.call57 (xv f.vars false v1 _ _ _ _ x.term hg hvs (RTm.put hk_x) (by omega)) ?_))))
      rintro _ wz15 ⟨rfl,hz15⟩
      obtain⟨hE,hvs,hhs,hbd,hl,hB_b,hL1⟩:=Tr7 hz15 hE hvs hhs hbd hl hB_b hL1
      obtain⟨hc_x,hk_x,ht_x,hs_x,hb_x,hB_c⟩:=Tr6 hz15 hc_x hk_x ht_x hs_x hb_x hB_c
      refine Gs 10 O (zk6 O (fun tz=>?_) (fun tz=>?_))
      . refine Gs 13 O (zkq tr58 O ⟨_,rfl,by rw [hall,hst,zy,zo3 hshn,zo3 hnu',zo4 tz,zo4 tz],hE⟩)
      ·
       have hcode:zA f.vars f.hatches.length x last=if zb f.vars f.hatches.length x.thn false ≠ 0 then zb f.vars f.hatches.length x.thn false else zb f.vars f.hatches.length x.els false:=by rw [zy,zo3 hshn,zo3 hnu',zo3 tz]
       refine Gs 4 O (zm7 O tg26 ts26 hB_b.cells O (Gs 1 O (zm5 O tg24 (hB_c.cells 7 _ O) (G.call O tc58 ((ih x hm_x).1 _ _ _ false ⟨hvs,hhs,hbd⟩ ht_x (by omega)) ?_))))
       rintro _ wz16 ⟨rfl,hz16⟩
       obtain⟨hE,hvs,hhs,hbd,hl,hB_b,hL1⟩:=Tr7 hz16 hE hvs hhs hbd hl hB_b hL1
       obtain⟨hc_x,hk_x,ht_x,hs_x,hb_x,hB_c⟩:=Tr6 hz16 hc_x hk_x ht_x hs_x hb_x hB_c
       refine Gs 10 O (zk6 O (fun tz1=>?_) (fun tz1=>?_))
       . refine Gs 13 O (zkq tr58 O ⟨_,rfl,by rw [hall,hst,hcode,zo4 tz1,zo4 tz1],hE⟩)
       ·
        have hcode2:zA f.vars f.hatches.length x last=zb f.vars f.hatches.length x.els false:=by rw [hcode,zo3 tz1]
        refine Gs 4 O (zm7 O tg26 ts26 hB_b.cells O (Gs 1 O (zm5 O tg24 (hB_c.cells 8 _ O) (G.call O tc58 ((ih x hm_x).2 _ _ _ false ⟨hvs,hhs,hbd⟩ hs_x (by omega)) ?_))))
        rintro _ wz17 ⟨rfl,hz17⟩
        obtain⟨hE,hvs,hhs,hbd,hl,hB_b,hL1⟩:=Tr7 hz17 hE hvs hhs hbd hl hB_b hL1
        obtain⟨hc_x,hk_x,ht_x,hs_x,hb_x,hB_c⟩:=Tr6 hz17 hc_x hk_x ht_x hs_x hb_x hB_c
        refine Gs 9 O (zk6 O (fun tz2=>?_) (fun tz2=>?_))
        . refine Gs 12 O (zkq tr58 O ⟨_,rfl,by rw [hall,hst,hcode2,zo4 tz2],hE⟩)
        . refine Ga 8 O (by omega) (zkh (i+1) (zlO O) (⟨by omega,by rw [hall,hst,hcode2,zo3 tz2],hL1⟩) (by first | omega | (dsimp only;omega)))
 ·
  have hii:i=l.length:=by omega
  subst hii
  refine Gs 11 O (zkq tr58 O ⟨_,rfl,by rw [hall,List.drop_length];rfl,hE⟩)
mutual
def yo:St->Int × Int × Int
 | .mk a c _ n _ f g _=>if a=4 then (1+n*(1+(bds f).1),n*(bds f).2.1,n*(c+(bds f).2.2))
  else (1+max (bds f).1 (bds g).1,if a=1 then 1 else max (bds f).2.1 (bds g).2.1,c+max (bds f).2.2 (bds g).2.2)
def bds:List St->Int × Int × Int
 | []=>(0,0,0)
 | s::r=>((yo s).1+(bds r).1,(yo s).2.1+(bds r).2.1,(yo s).2.2+(bds r).2.2)
end
theorem yb (s:St):yo s=if s.act=4 then (1+s.n*(1+(bds s.thn).1),s.n*(bds s.thn).2.1,s.n*(s.cost+(bds s.thn).2.2))
  else (1+max (bds s.thn).1 (bds s.els).1,if s.act=1 then 1 else max (bds s.thn).2.1 (bds s.els).2.1,s.cost+max (bds s.thn).2.2 (bds s.els).2.2):=by cases s;rw [yo];rfl
theorem zet (a b:List St):bds (a++b)=((bds a).1+(bds b).1,(bds a).2.1+(bds b).2.1,(bds a).2.2+(bds b).2.2):=by
 induction a with
 | nil=>simp [bds]
 | cons s r ih=>rw [List.cons_append,bds,ih,bds];simp only [Prod.mk.injEq];omega
theorem zdS {l:List St} {i:Nat} {x:St} (h:l[i]?=some x):bds (l.take (i+1))=((bds (l.take i)).1+(yo x).1,(bds (l.take i)).2.1+(yo x).2.1,(bds (l.take i)).2.2+(yo x).2.2):=by
 rw [zg h,zet];simp [bds]
structure OkS (s:St):Prop where
 cost:0<=s.cost/\s.cost<=67108864
 rep:s.act=4->0<=s.n/\s.n<=4096/\s.els=[]
 free:s.act ≠ 3->s.act ≠ 4->s.thn=[]/\s.els=[]
theorem xK {vs:List Vr} {nh:Nat} {s:St} {last:Bool} (h:zA vs nh s last=0):OkS s/\zD vs false s.term=0/\zh vs nh s last=true/\zb vs nh s.thn false=0/\zb vs nh s.els false=0:=by
 rw [zy] at h
 split at h
 . cases h
 rename_i h1
 split at h
 . cases h
 rename_i h2
 split at h
 . rename_i h3;exact absurd h h3
 rename_i h3
 split at h
 . rename_i h4;exact absurd h h4
 rename_i h4
 have h1':zh vs nh s last=true:=by simpa using h1
 refine⟨?_,by omega,h1',by omega,h⟩
 have h2':zR s=true:=by simpa using h2
 unfold zR xw at h2'
 simp at h2'
 have hz:∀ l:List St,(l.length:Int)=0->l=[]:=fun l h=>List.eq_nil_of_length_eq_zero (by omega)
 refine⟨by split at h2' <;> omega,fun h4=>?_,fun h3 h4=>?_⟩
 ·
  have hh:=h2'.1.2.resolve_left (fun h=>h h4)
  refine⟨by omega,by omega,?_⟩
  unfold zh at h1'
  rw [zo3 (by omega),zo3 (by omega),zo3 (by omega),zo3 (by omega),zo4 h4] at h1'
  simp at h1'
  exact h1'.1.2
 ·
  unfold zh at h1'
  repeat' split at h1'
  all_goals simp [kO] at h1'
  all_goals first | exact⟨h1'.1.1.1.1,h1'.1.1.1.2⟩ | exact⟨h1'.1.1.1.1.1,h1'.1.1.1.1.2⟩ | exact⟨h1'.1.1.1.1.1.1,h1'.1.1.1.1.1.2⟩ | omega | simp_all
theorem xd {vs:List Vr} {nh:Nat}:∀ (l:List St) (top:Bool),zb vs nh l top=0->∀ x ∈ l,∃ last,zA vs nh x last=0
 | [],_,_,x,hx=>by simp at hx
 | s::r,top,h,x,hx=>by
  rw [zb] at h
  split at h
  . rename_i h1;exact absurd h h1
  ·
   rename_i h1
   rcases zo9.1 hx with rfl | hx
   . exact⟨_,by simpa using h1⟩
   . exact xd r top h x hx
theorem zj0 (n c a K:Int) (hn:0<=n) (hc:0<=c) (ha:0<=a) (hK:0<=K):min (n*(c+min a K)) K=min (n*(c+a)) K:=by
 rcases Int.le_total a K with h | h
 . rw [Int.min_eq_left h]
 ·
  rw [Int.min_eq_right h]
  by_cases h0:n=0
  . subst h0;simp
  ·
   have h1:1*(c+K)<=n*(c+K):=Int.mul_le_mul_of_nonneg_right (by omega) (by omega)
   have h2:1*(c+a)<=n*(c+a):=Int.mul_le_mul_of_nonneg_right (by omega) (by omega)
   omega
def cap (K a:Int):Int:=min a K
theorem zF {K a:Int} (ha:0<=a) (hK:0<=K):0<=cap K a/\cap K a<=K:=by unfold cap;omega
theorem yd {K S x x':Int} (hS:0<=S) (hx:0<=x) (hx':0<=x') (h:cap K x'=cap K x):min (cap K S+x') K=cap K (S+x):=by unfold cap at *;omega
theorem zbH {K c a b:Int} (hc:0<=c) (_:0<=a) (_:0<=b):cap K (c+max (cap K a) (cap K b))=cap K (c+max a b):=by unfold cap;omega
theorem zdT {K a b:Int} (_:0<=a) (_:0<=b):cap K (max (cap K a) (cap K b))=cap K (max a b):=by unfold cap;omega
theorem zaA {K n c a:Int} (hn:0<=n) (hc:0<=c) (ha:0<=a) (hK:0<=K):cap K (n*(c+cap K a))=cap K (n*(c+a)):=by unfold cap;exact zj0 n c a K hn hc ha hK
theorem zdU {K n a:Int} (hn:0<=n) (ha:0<=a) (hK:0<=K):cap K (n*cap K a)=cap K (n*a):=by
 have:=zaA (c:=0) hn (Int.le_refl 0) ha hK
 rwa [Int.zero_add,Int.zero_add] at this
theorem zff {K a b:Int} (_:0<=a) (_:0<=b) (h:cap K a=cap K b):cap K (1+a)=cap K (1+b):=by unfold cap at *;omega
theorem xR (n a N A:Int) (hn:0<=n) (hN:n<=N) (ha:0<=a) (hA:a<=A):0<=n*a/\n*a<=N*A :=
 ⟨zoo hn ha,Int.mul_le_mul hN hA ha (by omega)⟩
theorem yD {vs:List Vr} {nh:Nat} (l:List St):∀ top,zb vs nh l top=0->0<=(bds l).1/\0<=(bds l).2.1/\0<=(bds l).2.2:=by
 induction l using zlH with
 | h l ih =>
 intro top h
 have hm:=xd l top h
 have key:∀ r:List St,(∀ x ∈ r,x ∈ l)->0<=(bds r).1/\0<=(bds r).2.1/\0<=(bds r).2.2:=by
  intro r
  induction r with
  | nil=>intro _;simp [bds]
  | cons x r ihr =>
   intro hx
   have h1:=ihr (fun y hy=>hx y (znW _ hy))
   obtain⟨last,h2⟩:=hm x (hx x (znX ..))
   obtain⟨h3,_,_,h4,h5⟩:=xK h2
   have h6:=(ih x (hx x (znX ..))).1 _ h4
   have h7:=(ih x (hx x (znX ..))).2 _ h5
   have h8:=h3.cost
   rw [bds,yb]
   split
   ·
    rename_i ha
    have h9:=h3.rep ha
    have p1:=zoo h9.1 (show 0<=1+(bds x.thn).1 by omega)
    have p2:=zoo h9.1 h6.2.1
    have p3:=zoo h9.1 (show 0<=x.cost+(bds x.thn).2.2 by omega)
    simp only
    omega
   ·
    simp only
    refine⟨by omega,?_,by omega⟩
    split <;> omega
 exact key l (fun x hx=>hx)
theorem zfg {vs:List Vr} {nh:Nat} {l:List St} {top:Bool} (h:zb vs nh l top=0) (i:Nat):0<=(bds (l.take i)).1/\0<=(bds (l.take i)).2.1/\0<=(bds (l.take i)).2.2:=by
 have key:∀ r:List St,(∀ x ∈ r,x ∈ l)->0<=(bds r).1/\0<=(bds r).2.1/\0<=(bds r).2.2:=by
  intro r
  induction r with
  | nil=>intro _;simp [bds]
  | cons x r ihr =>
   intro hx
   have h1:=ihr (fun y hy=>hx y (znW _ hy))
   obtain⟨last,h2⟩:=xd l top h x (hx x (znX ..))
   have h3:zb vs nh [x] true=0\/zb vs nh [x] false=0:=by
    cases last
    . right;simp [zb,h2]
    . left;simp [zb,h2]
   have h4:0<=(bds [x]).1/\0<=(bds [x]).2.1/\0<=(bds [x]).2.2:=by rcases h3 with h3 | h3 <;> exact yD _ _ h3
   simp only [bds] at h4 ⊢
   omega
 exact key _ (fun x hx=>List.mem_of_mem_take hx)
theorem kE {vs:List Vr} {nh:Nat} {x:St} {last:Bool} (h:zA vs nh x last=0):0<=(yo x).1/\0<=(yo x).2.1/\0<=(yo x).2.2:=by
 have h3:zb vs nh [x] true=0\/zb vs nh [x] false=0:=by
  cases last
  . right;simp [zb,h]
  . left;simp [zb,h]
 have h4:0<=(bds [x]).1/\0<=(bds [x]).2.1/\0<=(bds [x]).2.2:=by rcases h3 with h3 | h3 <;> exact yD _ _ h3
 simpa [bds] using h4
theorem kF (vs:List Vr) (nh:Nat) (l:List St):∀ (v:Value) (D:Nat->Prop) (w:World) (top:Bool),zb vs nh l top=0->SlR 10 RSt D w v l->zt l<=1000000->Calls Tryz.prog 59 #[v] w (Ret fun r w'=>r=.tuple #[.int .i64 (cap 4097 (bds l).1),.int .i64 (cap 9 (bds l).2.1),.int .i64 (cap 67108865 (bds l).2.2)]/\Ext w w'):=by
 induction l using zlH with
 | h l ih =>
 intro v D w top hok hl hb
 have hmx:=hl.max
 obtain⟨av,nv,rfl⟩:=hl.form
 refine zma Tryz.func59 O Tryz.ntmps59 O (Gs 21 O (G.loop (σ:=Nat) (fun i=>[(0,.slice av l.length nv),(5,.int .i64 (cap 4097 (bds (l.take i)).1)),(6,.int .i64 (cap 9 (bds (l.take i)).2.1)),(7,.int .i64 (cap 67108865 (bds (l.take i)).2.2)),(8,.int .i64 i)]) (fun i=>fun w'=>i<=l.length/\Ext w w') (fun i=>l.length - i) (0) (zlO O) (⟨zo8 _,Keep.refl _ _⟩) ?_))
 rintro i w1 ⟨hi,hL1⟩
 replace hl:=Tr1 hL1 hl
 refine Gs 9 O (zk6 O (fun hlt=>?_) (fun hlt=>?_))
 ·
  obtain⟨x,he_x,hm_x⟩:=gE_ l (i) (by omega)
  obtain⟨b_x,o_x,c_x,ha_x,_,hc_x,hR_x⟩:=hl.at he_x
  have h1_x:=RSt.one hR_x
  obtain⟨v1_x,v2_x,v3_x,v4_x,rfl,hk_x,ht_x,hs_x,hb_x⟩:=hR_x.get
  obtain⟨a1_x,n1_x,rfl⟩:=hk_x.form
  obtain⟨a2_x,n2_x,rfl⟩:=ht_x.form
  obtain⟨a3_x,n3_x,rfl⟩:=hs_x.form
  obtain⟨a4_x,n4_x,rfl⟩:=hb_x.form
  have hlt_x:b_x<_:=znV _ _ (hc_x 0 _ rfl)
  have hE:=Keep.refl (fun _=>False) w1
  have htk:=zdS he_x
  have htk1:(bds (l.take (i+1))).1=(bds (l.take i)).1+(yo x).1:=by rw [htk]
  have htk2:(bds (l.take (i+1))).2.1=(bds (l.take i)).2.1+(yo x).2.1:=by rw [htk]
  have htk3:(bds (l.take (i+1))).2.2=(bds (l.take i)).2.2+(yo x).2.2:=by rw [htk]
  have hpre:0<=(bds (l.take i)).1/\0<=(bds (l.take i)).2.1/\0<=(bds (l.take i)).2.2:=zfg hok i
  obtain⟨last,hx0⟩:=xd l top hok x hm_x
  obtain⟨hS,_,_,hs1,hs2⟩:=xK hx0
  have hcost:=hS.cost
  have n1:=yD x.thn _ hs1
  have n2:=yD x.els _ hs2
  have r1:=zF n1.1 (show (0:Int)<=4097 by decide)
  have r2:=zF n1.2.1 (show (0:Int)<=9 by decide)
  have r3:=zF n1.2.2 (show (0:Int)<=67108865 by decide)
  have r4:=zF n2.1 (show (0:Int)<=4097 by decide)
  have r5:=zF n2.2.1 (show (0:Int)<=9 by decide)
  have r6:=zF n2.2.2 (show (0:Int)<=67108865 by decide)
  have t1:=zF hpre.1 (show (0:Int)<=4097 by decide)
  have t2:=zF hpre.2.1 (show (0:Int)<=9 by decide)
  have t3:=zF hpre.2.2 (show (0:Int)<=67108865 by decide)
  have y:=kE hx0
  have hbx:=qw hm_x
  rw [St.bulk_eq] at hbx
  refine Gs 8 O (zm1 O O (zkP tR24 ts92 O O ha_x (by omega)) (zm7 O tg92 ts92 hc_x O (G.mem O O (M.alloc (cs:=_) tz92 O) ?_)))
  rintro _ wa1 ⟨c,rfl,hg_c,hs_c,hB_c,hk_c⟩
  refine zkY O (zkZ ts92 O O O O h1_x hB_c (by simp)) ?_
  rintro w_c ⟨_,hB_c,hkk_c⟩
  replace hk_c:=hk_c.trans hkk_c (fun q hq h=>by have h:q=c:=h;omega)
  have hge_c:_<=c:=znZ hE.size (Nat.le_of_eq hg_c.symm)
  obtain⟨hl,hL1,hc_x,hk_x,ht_x,hs_x,hb_x⟩:=Tr7 hk_c hl hL1 hc_x hk_x ht_x hs_x hb_x
  replace hE:=Tr1 hk_c hE
  refine Gs 5 O (zm5 O tg24 (hB_c.cells 7 _ O) (G.call O Tryz.call59 ((ih x hm_x).1 _ _ _ _ hs1 ht_x (by omega)) ?_))
  rintro _ wz2 ⟨rfl,hz2⟩
  obtain⟨hl,hL1,hc_x,hk_x,ht_x,hs_x,hb_x⟩:=Tr7 hz2 hl hL1 hc_x hk_x ht_x hs_x hb_x
  obtain⟨hE,hB_c⟩:=Tr2 hz2 hE hB_c
  refine Gs 12 O (zm5 O tg24 (hB_c.cells 8 _ O) (G.call O Tryz.call59 ((ih x hm_x).2 _ _ _ _ hs2 hs_x (by omega)) ?_))
  rintro _ wz3 ⟨rfl,hz3⟩
  obtain⟨hl,hL1,hc_x,hk_x,ht_x,hs_x,hb_x⟩:=Tr7 hz3 hl hL1 hc_x hk_x ht_x hs_x hb_x
  obtain⟨hE,hB_c⟩:=Tr2 hz3 hE hB_c
  refine Gs 10 O (Dw (fun q=>Ext wz3 q) [] (fun wd4 hD _=>?_))
  refine Ds [0,1,4,5,7] (by kernel_rfl) O (WD.take 8 O (by kernel_rfl) O O O hD (fun w1 hw1=>R.load tg3 O ((hw1.blk hB_c (fun h=>h)).cells 1 _ O)) (Ds [9,10] (by kernel_rfl) O (WD.call 2 O (by kernel_rfl) O O O (F.call (vs:=[_,_]) tc110 O) (ya _ _ _) ?_)))
  rintro _ wz5 ⟨rfl,hz5⟩
  replace hD:=hD.ext hz5
  refine⟨fun _=>hD,?_⟩
  refine Da [3] (by kernel_rfl) O (by omega) (WD.call 6 O (by kernel_rfl) O O O (F.call (vs:=[_,_]) tc110 O) (ya _ _ _) ?_)
  rintro _ wz6 ⟨rfl,hz6⟩
  replace hD:=hD.ext hz6
  refine⟨fun _=>hD,?_⟩
  refine WD.call 11 O (by kernel_rfl) O O O (F.call (vs:=[_,_]) tc110 O) (ya _ _ _) ?_
  rintro _ wz7 ⟨rfl,hz7⟩
  replace hD:=hD.ext hz7
  refine⟨fun _=>hD,?_⟩
  refine Da [12,13,14,15] (by kernel_rfl) O (by omega) (zla (by kernel_rfl) ?_ _)
  obtain⟨hl,hL1,hc_x,hk_x,ht_x,hs_x,hb_x⟩:=Tr7 hD hl hL1 hc_x hk_x ht_x hs_x hb_x
  obtain⟨hE,hB_c⟩:=Tr2 hD hE hB_c
  refine Gs 5 O (zm5 O tg90 (hB_c.cells 0 _ O) (Gs 3 O (zk6 O (fun a4=>?_) (fun a4=>?_))))
  ·
   have hr:=hS.rep a4
   have p1:=xR x.n (1+cap 4097 (bds x.thn).1) 4096 4098 hr.1 hr.2.1 (by omega) (by omega)
   have p2:=xR x.n (cap 9 (bds x.thn).2.1) 4096 9 hr.1 hr.2.1 (by omega) (by omega)
   have p3:=xR x.n (x.cost+cap 67108865 (bds x.thn).2.2) 4096 134217729 hr.1 hr.2.1 (by omega) (by omega)
   have q1:=zoo hr.1 (show 0<=1+(bds x.thn).1 by omega)
   have q2:=zoo hr.1 n1.2.1
   have q3:=zoo hr.1 (show 0<=x.cost+(bds x.thn).2.2 by omega)
   have f1:cap 4097 (1+x.n*(1+cap 4097 (bds x.thn).1))=cap 4097 (yo x).1:=by rw [yb,zo4 a4];exact zff p1.1 q1 (zaA hr.1 (by omega) n1.1 (by omega))
   have f2:cap 9 (x.n*cap 9 (bds x.thn).2.1)=cap 9 (yo x).2.1:=by rw [yb,zo4 a4];exact zdU hr.1 n1.2.1 (by omega)
   have f3:cap 67108865 (x.n*(x.cost+cap 67108865 (bds x.thn).2.2))=cap 67108865 (yo x).2.2:=by rw [yb,zo4 a4];exact zaA hr.1 hcost.1 n1.2.2 (by omega)
   have z1:0<=1+x.n*(1+cap 4097 (bds x.thn).1):=by omega
   have z2:=p2.1
   have z3:=p3.1
   refine Qt (by kernel_rfl) (Gs 1 O (zm6 O tg3 (fun w1 hw1=>((hw1.blk hB_c (fun h=>h)).cells 3 _ O)) (Ga 5 O (by omega) (zm6 O tg3 (fun w1 hw1=>((hw1.blk hB_c (fun h=>h)).cells 3 _ O)) (Ga 3 O (by omega) (zm6 O tg3 (fun w1 hw1=>((hw1.blk hB_c (fun h=>h)).cells 3 _ O)) (Gs 1 O (zm6 O tg3 (fun w1 hw1=>((hw1.blk hB_c (fun h=>h)).cells 1 _ O)) (Ga 6 O (by omega) (zm8 (fun wz8 hz8=>?_)))))))))))
   obtain⟨hl,hL1,hc_x,hk_x,ht_x,hs_x,hb_x⟩:=Tr7 hz8 hl hL1 hc_x hk_x ht_x hs_x hb_x
   obtain⟨hE,hB_c⟩:=Tr2 hz8 hE hB_c
   refine Gs 5 O (zm5 O tg90 (hB_c.cells 0 _ O) (Gs 3 O (zk6 O (fun a1=>?_) (fun a1=>?_))))
   . exact absurd a1 (by omega)
   ·
    refine Ga 7 O (by omega) (G.call O tc111 (zu _ _ _) ?_)
    rintro _ wz9 ⟨rfl,hz9⟩
    obtain⟨hl,hL1,hc_x,hk_x,ht_x,hs_x,hb_x⟩:=Tr7 hz9 hl hL1 hc_x hk_x ht_x hs_x hb_x
    obtain⟨hE,hB_c⟩:=Tr2 hz9 hE hB_c
    refine Ga 8 O (by omega) (G.call O tc111 (zu _ _ _) ?_)
    rintro _ wz10 ⟨rfl,hz10⟩
    obtain⟨hl,hL1,hc_x,hk_x,ht_x,hs_x,hb_x⟩:=Tr7 hz10 hl hL1 hc_x hk_x ht_x hs_x hb_x
    obtain⟨hE,hB_c⟩:=Tr2 hz10 hE hB_c
    refine Ga 7 O (by omega) (G.call O tc111 (zu _ _ _) ?_)
    rintro _ wz11 ⟨rfl,hz11⟩
    obtain⟨hl,hL1,hc_x,hk_x,ht_x,hs_x,hb_x⟩:=Tr7 hz11 hl hL1 hc_x hk_x ht_x hs_x hb_x
    obtain⟨hE,hB_c⟩:=Tr2 hz11 hE hB_c
    refine Ga 9 O (by omega) (zkh (i+1) (Sub.cons O (Sub.cons (xB O (by rw [htk1];exact yd hpre.1 y.1 z1 f1)) (Sub.cons (xB O (by rw [htk2];exact yd hpre.2.1 y.2.1 z2 f2)) (Sub.cons (xB O (by rw [htk3];exact yd hpre.2.2 y.2.2 z3 f3)) (zlO O))))) (⟨by omega,hL1⟩) (by first | omega | (dsimp only;omega)))
  ·
   have f1:cap 4097 (1+max (cap 4097 (bds x.thn).1) (cap 4097 (bds x.els).1))=cap 4097 (yo x).1:=by rw [yb,zo3 a4];exact zbH (by omega) n1.1 n2.1
   have f3:cap 67108865 (x.cost+max (cap 67108865 (bds x.thn).2.2) (cap 67108865 (bds x.els).2.2))=cap 67108865 (yo x).2.2:=by rw [yb,zo3 a4];exact zbH hcost.1 n1.2.2 n2.2.2
   have z1:0<=1+max (cap 4097 (bds x.thn).1) (cap 4097 (bds x.els).1):=by omega
   have z3:0<=x.cost+max (cap 67108865 (bds x.thn).2.2) (cap 67108865 (bds x.els).2.2):=by omega
   refine Gs 6 O (zm5 O tg90 (hB_c.cells 0 _ O) (Gs 3 O (zk6 O (fun a1=>?_) (fun a1=>?_))))
   ·
    have f2:cap 9 1=cap 9 (yo x).2.1:=by rw [yb,zo3 a4];simp [a1]
    have z2:(0:Int)<=1:=by decide
    refine Ga 9 O (by omega) (G.call O tc111 (zu _ _ _) ?_)
    rintro _ wz12 ⟨rfl,hz12⟩
    obtain⟨hl,hL1,hc_x,hk_x,ht_x,hs_x,hb_x⟩:=Tr7 hz12 hl hL1 hc_x hk_x ht_x hs_x hb_x
    obtain⟨hE,hB_c⟩:=Tr2 hz12 hE hB_c
    refine Ga 8 O (by omega) (G.call O tc111 (zu _ _ _) ?_)
    rintro _ wz13 ⟨rfl,hz13⟩
    obtain⟨hl,hL1,hc_x,hk_x,ht_x,hs_x,hb_x⟩:=Tr7 hz13 hl hL1 hc_x hk_x ht_x hs_x hb_x
    obtain⟨hE,hB_c⟩:=Tr2 hz13 hE hB_c
    refine Ga 7 O (by omega) (G.call O tc111 (zu _ _ _) ?_)
    rintro _ wz14 ⟨rfl,hz14⟩
    obtain⟨hl,hL1,hc_x,hk_x,ht_x,hs_x,hb_x⟩:=Tr7 hz14 hl hL1 hc_x hk_x ht_x hs_x hb_x
    obtain⟨hE,hB_c⟩:=Tr2 hz14 hE hB_c
    refine Ga 9 O (by omega) (zkh (i+1) (Sub.cons O (Sub.cons (xB O (by rw [htk1];exact yd hpre.1 y.1 z1 f1)) (Sub.cons (xB O (by rw [htk2];exact yd hpre.2.1 y.2.1 z2 f2)) (Sub.cons (xB O (by rw [htk3];exact yd hpre.2.2 y.2.2 z3 f3)) (zlO O))))) (⟨by omega,hL1⟩) (by first | omega | (dsimp only;omega)))
   ·
    have f2:cap 9 (max (cap 9 (bds x.thn).2.1) (cap 9 (bds x.els).2.1))=cap 9 (yo x).2.1:=by rw [yb,zo3 a4];simp only [a1,if_false];exact zdT n1.2.1 n2.2.1
    have z2:0<=max (cap 9 (bds x.thn).2.1) (cap 9 (bds x.els).2.1):=by omega
    refine Ga 7 O (by omega) (G.call O tc111 (zu _ _ _) ?_)
    rintro _ wz15 ⟨rfl,hz15⟩
    obtain⟨hl,hL1,hc_x,hk_x,ht_x,hs_x,hb_x⟩:=Tr7 hz15 hl hL1 hc_x hk_x ht_x hs_x hb_x
    obtain⟨hE,hB_c⟩:=Tr2 hz15 hE hB_c
    refine Ga 8 O (by omega) (G.call O tc111 (zu _ _ _) ?_)
    rintro _ wz16 ⟨rfl,hz16⟩
    obtain⟨hl,hL1,hc_x,hk_x,ht_x,hs_x,hb_x⟩:=Tr7 hz16 hl hL1 hc_x hk_x ht_x hs_x hb_x
    obtain⟨hE,hB_c⟩:=Tr2 hz16 hE hB_c
    refine Ga 7 O (by omega) (G.call O tc111 (zu _ _ _) ?_)
    rintro _ wz17 ⟨rfl,hz17⟩
    obtain⟨hl,hL1,hc_x,hk_x,ht_x,hs_x,hb_x⟩:=Tr7 hz17 hl hL1 hc_x hk_x ht_x hs_x hb_x
    obtain⟨hE,hB_c⟩:=Tr2 hz17 hE hB_c
    refine Ga 9 O (by omega) (zkh (i+1) (Sub.cons O (Sub.cons (xB O (by rw [htk1];exact yd hpre.1 y.1 z1 f1)) (Sub.cons (xB O (by rw [htk2];exact yd hpre.2.1 y.2.1 z2 f2)) (Sub.cons (xB O (by rw [htk3];exact yd hpre.2.2 y.2.2 z3 f3)) (zlO O))))) (⟨by omega,hL1⟩) (by first | omega | (dsimp only;omega)))
 ·
  have hii:i=l.length:=by omega
  subst hii
  refine Gs 16 O (zkw Tryz.results59 O O O ⟨_,rfl,by rw [znY],hL1⟩)
open Go.GL
theorem qe (m:Nat) (n:Int) (d:Bool) (w:World) (hB_m:Blk w m [.int .i64 n,.bool d] 144):Calls Tryz.prog 113 #[.pointer (some ⟨m,0,none⟩)] w (Ret fun r w'=>r=.bool (d || decide (1024<n))/\Ext w w'):=by
 have hE:=Keep.refl (fun _=>False) w
 refine zma Tryz.func113 O Tryz.ntmps113 O (Gs 10 O (zm5 O tg4 (hB_m.cells 1 _ O) (Gs 1 O (zlZ 7 O (fun hd=>?_) (fun hd=>?_)))))
 . refine Gs 10 O (zkq Tryz.results113 O ⟨_,rfl,by rw [hd] <;> simp,hE⟩)
 . refine Gs 3 O (zm5 O tg3 (hB_m.cells 0 _ O) (Gs 6 O (zkq Tryz.results113 O ⟨_,rfl,by rw [hd] <;> simp,hE⟩)))
theorem zaB (t:Tm):∀ (cs:List Value) (D:Nat->Prop) (w:World) (m:Nat) (n:Int) (d:Bool) (dep:Int),RTm D w t cs->(∀ q,D q->q ≠ m)->Blk w m [.int .i64 n,.bool d] 144->0<=n->n+t.nodes<=1024->1<=dep->dep<=13->Calls Tryz.prog 114 #[.pointer (some ⟨m,0,none⟩),.agg cs.toArray,.int .i64 dep] w (Ret fun u w'=>u=.tuple #[]/\(∃ n':Int,n<=n'/\n'<=n+t.nodes/\Blk w' m [.int .i64 n',.bool (d || decide (12<dep+t.depth - 1))] 144)/\Keep (fun q=>q=m) w w'):=by
 induction t using zlF with
 | h t ih =>
 intro cs D w m n d dep ht DM hB_m hn hsz hd1 hd2
 obtain⟨v,rfl,hk⟩:=ht.get
 obtain⟨av,nv,rfl⟩:=hk.form
 have hX:=Keep.refl (fun q=>q=m) w
 have hnn:=t.nodes_eq
 have hdd:=t.depth_eq
 refine zmc Tryz.func114 O Tryz.ntmps114 O (Gs 2 O (G.mem O O (M.box O O) ?_))
 rintro _ w_b ⟨b,rfl,hg_b,hs_b,hB_b,hk_b⟩
 have hn_m_b:m ≠ b:=by have:=hB_m.lt;omega
 obtain⟨hX,hB_m,hk⟩:=Tr3 hk_b hX hB_m hk
 refine Gs 7 O (zm5 O tg3 (hB_m.cells 0 _ O) (Ga 3 O (by omega) (zkY O (M.store ts3 O O O O hB_m (by simp)) ?_)))
 rintro ws1 ⟨_,hB_m,hs1⟩
 replace hX:=hX.trans hs1 (fun q hq h=>h)
 replace hk:=hk.keep zp hs1 (fun q hd hq h=>DM q hd h)
 replace hB_b:=hs1.blk hB_b (fun h=>hn_m_b h.symm)
 refine Gs 3 O ?_
 have hC:=Keep.refl (fun q=>q=m) ws1
 refine zkk (σ:=Unit) (fun u=>[(0,.pointer (some ⟨m,0,none⟩)),(2,.int .i64 dep),(4,.pointer (some ⟨b,0,none⟩))]) (fun u=>fun w'=>Blk w' m [.int .i64 (n+1),.bool (d || decide (12<dep))] 144/\Keep (fun q=>q=m) ws1 w') ?_ ?_
 ·
  refine Gs 5 O (zm5 O tg4 (hB_m.cells 1 _ O) (Gs 1 O (zlZ 20 O (fun hd=>?_) (fun hd=>?_))))
  ·
   refine Gs 5 O (zkY O (M.store ts4 O O O O hB_m (by simp)) ?_)
   rintro ws2 ⟨_,hB_m,hs2⟩
   replace hX:=hX.trans hs2 (fun q hq h=>h)
   replace hk:=hk.keep zp hs2 (fun q hd hq h=>DM q hd h)
   replace hB_b:=hs2.blk hB_b (fun h=>hn_m_b h.symm)
   replace hC:=hC.trans hs2 (fun q hq h=>h)
   refine Gs 1 O (zkm (()) (zlO O) (⟨by rw [hd] at hB_m ⊢;exact hB_m,hC⟩))
  ·
   refine Gs 5 O (zkY O (M.store ts4 O O O O hB_m (by simp)) ?_)
   rintro ws2 ⟨_,hB_m,hs2⟩
   replace hX:=hX.trans hs2 (fun q hq h=>h)
   replace hk:=hk.keep zp hs2 (fun q hd hq h=>DM q hd h)
   replace hB_b:=hs2.blk hB_b (fun h=>hn_m_b h.symm)
   replace hC:=hC.trans hs2 (fun q hq h=>h)
   refine Gs 1 O (zkm (()) (zlO O) (⟨by rw [hd] at hB_m ⊢;exact hB_m,hC⟩))
 rintro u x2 ⟨hB_m,hX2⟩
 replace hX:=hX.trans hX2 (fun q hq h=>h)
 replace hk:=hk.keep zp hX2 (fun q hd hq h=>DM q hd h)
 replace hB_b:=hX2.blk hB_b (fun h=>hn_m_b h.symm)
 refine Gs 5 O (G.call O Tryz.call113 (qe m _ _ _ hB_m) ?_)
 rintro _ wz1 ⟨rfl,hz1⟩
 obtain⟨hX,hk,hB_b,hB_m⟩:=Tr4 hz1 hX hk hB_b hB_m
 have ho:decide (1024<n+1)=false:=zo6 (by omega)
 rw [ho,Bool.or_false]
 refine Gs 2 O (G.bool O (fun hov=>?_) (fun hov=>?_))
 ·
  refine Gs 2 O (zkE Tryz.results114 ⟨_,rfl,rfl,⟨n+1,by omega,by omega,?_⟩,hX⟩)
  have:(d || decide (12<dep+(t.depth:Int) - 1))=(d || decide (12<dep)):=by
   rw [hov];revert hov;cases d <;> simp;omega
  rw [this];exact hB_m
 ·
  have hd0:d=false/\¬ 12<dep:=by revert hov;cases d <;> simp
  have hfin:(d || decide (12<dep+(t.depth:Int) - 1))=decide (12<dep+(yr t.kids:Int)):=by
   rw [hd0.1,Bool.false_or,zol];omega
  rw [hov] at hB_m
  have hlen:=zal t.kids
  refine Gs 5 O (zm5 O tg84 (hB_b.cells 2 _ O) (Gs 5 O (G.loop (σ:=Nat) (fun i=>[(0,.pointer (some ⟨m,0,none⟩)),(2,.int .i64 dep),(29,.slice av t.kids.length nv),(30,.int .i64 t.kids.length),(31,.int .i64 i)]) (fun i=>fun w'=>i<=t.kids.length/\(∃ n':Int,n<=n'/\n'<=n+1+zM (t.kids.take i)/\Blk w' m [.int .i64 n',.bool (decide (12<dep+(yr (t.kids.take i):Int)))] 144)/\SlR 3 RTm D w' (.slice av t.kids.length nv) t.kids/\Keep (fun q=>q=m) w w') (fun i=>t.kids.length - i) (0) (zlO O) (⟨zo8 _,⟨n+1,by omega,by simp [zM],by rw [show decide (12<dep+(yr (t.kids.take 0):Int))=false from zo6 (by simp [yr];omega)];exact hB_m⟩,hk,hX⟩) ?_)))
  rintro i w5 ⟨hi,⟨n',hn1,hn2,hB_m⟩,hk,hX⟩
  refine Gs 6 O (zk6 O (fun hlt=>?_) (fun hlt=>?_))
  ·
   obtain⟨x,he_x,hm_x⟩:=gE_ t.kids (i) (by omega)
   obtain⟨b_x,o_x,c_x,ha_x,_,hc_x,hR_x⟩:=hk.at he_x
   have h1_x:=RTm.one hR_x
   obtain⟨v1_x,rfl,hk_x⟩:=hR_x.get
   obtain⟨a1_x,n1_x,rfl⟩:=hk_x.form
   have hlt_x:b_x<_:=znV _ _ (hc_x 0 _ rfl)
   have hsp:=yY he_x
   have htk:=jc he_x
   have hdk:=zah he_x
   refine Gs 6 O (zm1 O O (zkP tR84 ts86 O O ha_x (by omega)) (zm7 O tg86 ts86 hc_x O (G.mem O O (M.alloc (cs:=_) tz86 O) ?_)))
   rintro _ wa2 ⟨c,rfl,hg_c,hs_c,hB_c,hk_c⟩
   refine zkY O (zkZ ts86 O O O O h1_x hB_c (by simp)) ?_
   rintro w_c ⟨_,hB_c,hkk_c⟩
   replace hk_c:=hk_c.trans hkk_c (fun q hq h=>by have h:q=c:=h;omega)
   have hn_m_c:m ≠ c:=by have:=hB_m.lt;omega
   obtain⟨hX,hB_m,hk,hc_x,hk_x⟩:=Tr5 hk_c hX hB_m hk hc_x hk_x
   refine Gs 4 O (zm7 O tg86 ts86 hB_c.cells O (Ga 2 O (by omega) (G.call O Tryz.call114 (ih x hm_x _ _ _ m n' _ (dep+1) (RTm.put hk_x) DM hB_m (by omega) (by omega) (by omega) (by omega)) ?_)))
   rintro _ w6 ⟨rfl,⟨n2,h1,h2,hB2⟩,hz⟩
   replace hX:=hX.trans hz (fun q hq h=>h)
   replace hk:=hk.keep zp hz (fun q hd hq h=>DM q hd h)
   replace hB_c:=hz.blk hB_c (fun h=>hn_m_c h.symm)
   refine Ga 7 O (by omega) (zkh (i+1) (zlO O) (⟨by omega,⟨n2,by omega,by omega,?_⟩,hk,hX⟩) (by first | omega | (dsimp only;omega)))
   have hb2:(decide (12<dep+(yr (t.kids.take i):Int)) || decide (12<dep+1+(x.depth:Int) - 1))=decide (12<dep+(yr (t.kids.take (i+1)):Int)):=by
    rw [hdk,<- Bool.decide_or,zol];omega
   rw [hb2] at hB2
   exact hB2
  ·
   have hii:i=t.kids.length:=by omega
   subst hii
   rw [znY] at hn2 hB_m
   refine Gs 4 O (zkE Tryz.results114 ⟨_,rfl,rfl,⟨n',hn1,by omega,by rw [hfin];exact hB_m⟩,hX⟩)
def xC (dep:Int) (l:List St):Bool:=decide (12<dep+zL l - 1) || yg l
theorem zeu {l:List St} {x:St} (h:x ∈ l):1<=zL l:=by
 obtain⟨i,hi⟩:=List.mem_iff_getElem?.1 h
 conv=>rhs;rw [yI hi]
 rw [xX,zL,St.depth_eq];omega
theorem zev {dep:Int} {l:List St} {i:Nat} (h:xC dep (l.take i)=true):xC dep l=true:=by
 unfold xC at *
 have h1:zL (l.take i)<=zL l:=by
  conv=>rhs;rw [<- List.take_append_drop i l]
  rw [xX];omega
 have h2:yg (l.take i)=true->yg l=true:=by
  intro h
  rw [<- List.take_append_drop i l,xY,h];rfl
 rw [Bool.or_eq_true,decide_eq_true_eq] at *
 rcases h with h | h
 . left;omega
 . exact .inr (h2 h)
theorem zcB (l:List St):∀ (v:Value) (D:Nat->Prop) (w:World) (m:Nat) (n:Int) (d:Bool) (dep:Int),SlR 10 RSt D w v l->(∀ q,D q->q ≠ m)->Blk w m [.int .i64 n,.bool d] 144->0<=n->n+zm l<=1024->1<=dep->dep<=13->Calls Tryz.prog 112 #[.pointer (some ⟨m,0,none⟩),v,.int .i64 dep] w (Ret fun u w'=>u=.tuple #[]/\(∃ n':Int,n<=n'/\n'<=n+zm l/\Blk w' m [.int .i64 n',.bool (d || xC dep l)] 144)/\Keep (fun q=>q=m) w w'):=by
 induction l using zlH with
 | h l ih =>
 intro v D w m n d dep hl DM hB_m hn hsz hd1 hd2
 have hmx:=hl.max
 obtain⟨av,nv,rfl⟩:=hl.form
 have hX:=Keep.refl (fun q=>q=m) w
 have hlen:=zby l
 have h00:(d || xC dep (l.take 0))=d:=by
  have:xC dep (l.take 0)=false:=by unfold xC;simp [zL,yg];omega
  rw [this,Bool.or_false]
 refine zmc Tryz.func112 O Tryz.ntmps112 O (Gs 8 O (G.loop (σ:=Nat) (fun i=>[(0,.pointer (some ⟨m,0,none⟩)),(2,.int .i64 dep),(8,.slice av l.length nv),(9,.int .i64 l.length),(10,.int .i64 i)]) (fun i=>fun w'=>i<=l.length/\(∃ n':Int,n<=n'/\n'<=n+zm (l.take i)/\Blk w' m [.int .i64 n',.bool (d || xC dep (l.take i))] 144)/\SlR 10 RSt D w' (.slice av l.length nv) l/\Keep (fun q=>q=m) w w') (fun i=>l.length - i) (0) (zlO O) (⟨zo8 _,⟨n,by omega,by simp [zm],by rw [h00];exact hB_m⟩,hl,hX⟩) ?_))
 rintro i w5 ⟨hi,⟨n',hn1,hn2,hB_m⟩,hl,hX⟩
 refine Gs 6 O (zk6 O (fun hlt=>?_) (fun hlt=>?_))
 ·
  obtain⟨x,he_x,hm_x⟩:=gE_ l (i) (by omega)
  obtain⟨b_x,o_x,c_x,ha_x,_,hc_x,hR_x⟩:=hl.at he_x
  have h1_x:=RSt.one hR_x
  obtain⟨v1_x,v2_x,v3_x,v4_x,rfl,hk_x,ht_x,hs_x,hb_x⟩:=hR_x.get
  obtain⟨a1_x,n1_x,rfl⟩:=hk_x.form
  obtain⟨a2_x,n2_x,rfl⟩:=ht_x.form
  obtain⟨a3_x,n3_x,rfl⟩:=hs_x.form
  obtain⟨a4_x,n4_x,rfl⟩:=hb_x.form
  have hlt_x:b_x<_:=znV _ _ (hc_x 0 _ rfl)
  have hsp:=xG he_x
  have htk:=zai he_x
  have hxn:=x.nodes_eq
  refine Gs 6 O (zm1 O O (zkP tR24 ts92 O O ha_x (by omega)) (zm7 O tg92 ts92 hc_x O (G.mem O O (M.alloc (cs:=_) tz92 O) ?_)))
  rintro _ wa1 ⟨c,rfl,hg_c,hs_c,hB_c,hk_c⟩
  refine zkY O (zkZ ts92 O O O O h1_x hB_c (by simp)) ?_
  rintro w_c ⟨_,hB_c,hkk_c⟩
  replace hk_c:=hk_c.trans hkk_c (fun q hq h=>by have h:q=c:=h;omega)
  have hn_m_c:m ≠ c:=by have:=hB_m.lt;omega
  obtain⟨hX,hB_m,hl,hc_x,hk_x,ht_x,hs_x⟩:=Tr7 hk_c hX hB_m hl hc_x hk_x ht_x hs_x
  replace hb_x:=Tr1 hk_c hb_x
  refine Gs 7 O (zm5 O tg3 (hB_m.cells 0 _ O) (Ga 3 O (by omega) (zkY O (M.store ts3 O O O O hB_m (by simp)) ?_)))
  rintro ws1 ⟨_,hB_m,hs1⟩
  replace hX:=hX.trans hs1 (fun q hq h=>h)
  replace hl:=hl.keep zf hs1 (fun q hd hq h=>DM q hd h)
  replace hk_x:=hk_x.keep zp hs1 (fun q hd hq h=>DM q hd h)
  replace ht_x:=ht_x.keep zf hs1 (fun q hd hq h=>DM q hd h)
  replace hs_x:=hs_x.keep zf hs1 (fun q hd hq h=>DM q hd h)
  replace hb_x:=hb_x.keep zc hs1 (fun q hd hq h=>DM q hd h)
  replace hB_c:=hs1.blk hB_c (fun h=>hn_m_c h.symm)
  refine Gs 3 O ?_
  have hC:=Keep.refl (fun q=>q=m) ws1
  refine zkk (σ:=Unit) (fun u=>[(0,.pointer (some ⟨m,0,none⟩)),(2,.int .i64 dep),(7,.pointer (some ⟨c,0,none⟩)),(8,.slice av l.length nv),(9,.int .i64 l.length),(10,.int .i64 i)]) (fun u=>fun w'=>Blk w' m [.int .i64 (n'+1),.bool ((d || xC dep (l.take i)) || decide (12<dep))] 144/\Keep (fun q=>q=m) ws1 w') ?_ ?_
  ·
   refine Gs 5 O (zm5 O tg4 (hB_m.cells 1 _ O) (Gs 1 O (zlZ 26 O (fun hd=>?_) (fun hd=>?_))))
   ·
    refine Gs 5 O (zkY O (M.store ts4 O O O O hB_m (by simp)) ?_)
    rintro ws2 ⟨_,hB_m,hs2⟩
    replace hX:=hX.trans hs2 (fun q hq h=>h)
    replace hl:=hl.keep zf hs2 (fun q hd hq h=>DM q hd h)
    replace hk_x:=hk_x.keep zp hs2 (fun q hd hq h=>DM q hd h)
    replace ht_x:=ht_x.keep zf hs2 (fun q hd hq h=>DM q hd h)
    replace hs_x:=hs_x.keep zf hs2 (fun q hd hq h=>DM q hd h)
    replace hb_x:=hb_x.keep zc hs2 (fun q hd hq h=>DM q hd h)
    replace hB_c:=hs2.blk hB_c (fun h=>hn_m_c h.symm)
    replace hC:=hC.trans hs2 (fun q hq h=>h)
    refine Gs 1 O (zkm (()) (zlO O) (⟨by rw [hd] at hB_m ⊢;exact hB_m,hC⟩))
   ·
    refine Gs 5 O (zkY O (M.store ts4 O O O O hB_m (by simp)) ?_)
    rintro ws2 ⟨_,hB_m,hs2⟩
    replace hX:=hX.trans hs2 (fun q hq h=>h)
    replace hl:=hl.keep zf hs2 (fun q hd hq h=>DM q hd h)
    replace hk_x:=hk_x.keep zp hs2 (fun q hd hq h=>DM q hd h)
    replace ht_x:=ht_x.keep zf hs2 (fun q hd hq h=>DM q hd h)
    replace hs_x:=hs_x.keep zf hs2 (fun q hd hq h=>DM q hd h)
    replace hb_x:=hb_x.keep zc hs2 (fun q hd hq h=>DM q hd h)
    replace hB_c:=hs2.blk hB_c (fun h=>hn_m_c h.symm)
    replace hC:=hC.trans hs2 (fun q hq h=>h)
    refine Gs 1 O (zkm (()) (zlO O) (⟨by rw [hd] at hB_m ⊢;exact hB_m,hC⟩))
  rintro u x2 ⟨hB_m,hX2⟩
  replace hX:=hX.trans hX2 (fun q hq h=>h)
  replace hl:=hl.keep zf hX2 (fun q hd hq h=>DM q hd h)
  replace hk_x:=hk_x.keep zp hX2 (fun q hd hq h=>DM q hd h)
  replace ht_x:=ht_x.keep zf hX2 (fun q hd hq h=>DM q hd h)
  replace hs_x:=hs_x.keep zf hX2 (fun q hd hq h=>DM q hd h)
  replace hb_x:=hb_x.keep zc hX2 (fun q hd hq h=>DM q hd h)
  replace hB_c:=hX2.blk hB_c (fun h=>hn_m_c h.symm)
  refine Gs 5 O (G.call O Tryz.call113 (qe m _ _ _ hB_m) ?_)
  rintro _ wz2 ⟨rfl,hz2⟩
  obtain⟨hX,hl,hk_x,ht_x,hs_x,hb_x,hB_c⟩:=Tr7 hz2 hX hl hk_x ht_x hs_x hb_x hB_c
  replace hB_m:=Tr1 hz2 hB_m
  have ho:decide (1024<n'+1)=false:=zo6 (by omega)
  rw [ho,Bool.or_false]
  refine Gs 2 O (G.bool O (fun hov=>?_) (fun hov=>?_))
  ·
   refine Gs 6 O (zkE Tryz.results112 ⟨_,rfl,rfl,⟨n'+1,by omega,by omega,?_⟩,hX⟩)
   have:(d || xC dep l)=((d || xC dep (l.take i)) || decide (12<dep)):=by
    rw [hov]
    simp only [Bool.or_eq_true,decide_eq_true_eq] at hov ⊢
    rcases hov with (h | h) | h
    . exact .inl h
    . exact .inr (zev h)
    . right;unfold xC;rw [zo5 (by have:=zeu hm_x;omega)];rfl
   rw [this];exact hB_m
  ·
   rw [hov] at hB_m
   simp only [Bool.or_eq_false_iff,decide_eq_false_iff_not] at hov
   refine Gs 6 O (zm7 O tg86 ts86 (hB_c.cells.sub 4 3) O (G.call O Tryz.call114 (zaB x.term _ D _ m _ _ 1 (RTm.put hk_x) DM hB_m (by omega) (by omega) (by omega) (by omega)) ?_))
   rintro _ w6 ⟨rfl,⟨n2,h1,h2,hB2⟩,hz⟩
   replace hX:=hX.trans hz (fun q hq h=>h)
   replace hl:=hl.keep zf hz (fun q hd hq h=>DM q hd h)
   replace hk_x:=hk_x.keep zp hz (fun q hd hq h=>DM q hd h)
   replace ht_x:=ht_x.keep zf hz (fun q hd hq h=>DM q hd h)
   replace hs_x:=hs_x.keep zf hz (fun q hd hq h=>DM q hd h)
   replace hb_x:=hb_x.keep zc hz (fun q hd hq h=>DM q hd h)
   replace hB_c:=hz.blk hB_c (fun h=>hn_m_c h.symm)
   refine Gs 6 O (zm5 O tg24 (hB_c.cells 7 _ O) (Ga 2 O (by omega) (G.call O Tryz.call112 ((ih x hm_x).1 _ D _ m _ _ (dep+1) ht_x DM hB2 (by omega) (by omega) (by omega) (by omega)) ?_)))
   rintro _ w7 ⟨rfl,⟨n3,h3,h4,hB3⟩,hz3⟩
   replace hX:=hX.trans hz3 (fun q hq h=>h)
   replace hl:=hl.keep zf hz3 (fun q hd hq h=>DM q hd h)
   replace hk_x:=hk_x.keep zp hz3 (fun q hd hq h=>DM q hd h)
   replace ht_x:=ht_x.keep zf hz3 (fun q hd hq h=>DM q hd h)
   replace hs_x:=hs_x.keep zf hz3 (fun q hd hq h=>DM q hd h)
   replace hb_x:=hb_x.keep zc hz3 (fun q hd hq h=>DM q hd h)
   replace hB_c:=hz3.blk hB_c (fun h=>hn_m_c h.symm)
   refine Gs 5 O (zm5 O tg24 (hB_c.cells 8 _ O) (Ga 2 O (by omega) (G.call O Tryz.call112 ((ih x hm_x).2 _ D _ m _ _ (dep+1) hs_x DM hB3 (by omega) (by omega) (by omega) (by omega)) ?_)))
   rintro _ w8 ⟨rfl,⟨n4,h5,h6,hB4⟩,hz4⟩
   replace hX:=hX.trans hz4 (fun q hq h=>h)
   replace hl:=hl.keep zf hz4 (fun q hd hq h=>DM q hd h)
   replace hk_x:=hk_x.keep zp hz4 (fun q hd hq h=>DM q hd h)
   replace ht_x:=ht_x.keep zf hz4 (fun q hd hq h=>DM q hd h)
   replace hs_x:=hs_x.keep zf hz4 (fun q hd hq h=>DM q hd h)
   replace hb_x:=hb_x.keep zc hz4 (fun q hd hq h=>DM q hd h)
   replace hB_c:=hz4.blk hB_c (fun h=>hn_m_c h.symm)
   refine Ga 7 O (by omega) (zkh (i+1) (zlO O) (⟨by omega,⟨n4,by omega,by omega,?_⟩,hl,hX⟩) (by first | omega | (dsimp only;omega)))
   have hb:(((false || decide (12<1+(x.term.depth:Int) - 1)) || xC (dep+1) x.thn) || xC (dep+1) x.els)=(d || xC dep (l.take (i+1))):=by
    have h9:=hov.1.2
    unfold xC at h9 ⊢
    rw [Bool.or_eq_false_iff,decide_eq_false_iff_not] at h9
    rw [hov.1.1,zaj he_x,zak he_x,h9.2,St.tdeep_eq,St.depth_eq,Bool.eq_iff_iff]
    simp only [Bool.or_eq_true,decide_eq_true_eq,Bool.false_or]
    have h10:∀ a b c d e:Prop,True:=fun _ _ _ _ _=>trivial
    generalize yg x.thn=q1
    generalize yg x.els=q2
    cases q1 <;> cases q2 <;> simp <;> omega
   rw [hb] at hB4
   exact hB4
 ·
  have hii:i=l.length:=by omega
  subst hii
  rw [znY] at hn2 hB_m
  refine Gs 4 O (zkE Tryz.results112 ⟨_,rfl,rfl,⟨n',hn1,hn2,hB_m⟩,hX⟩)
end Go.Proofs.YtaenledoagbddaaGreatDoor
