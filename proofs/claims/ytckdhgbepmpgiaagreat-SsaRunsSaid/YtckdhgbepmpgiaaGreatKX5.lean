/-
  Contracts and the mathematics that the proof needs. Nothing here is a claim.
-/
import Derived.Test.YtckdhgbepmpgiaaGreatKX4
namespace Go.Proofs.YtckdhgbepmpgiaaGreat
open Go.GL
theorem yT (vs:List Vr) (k:Int) (vv:Value) (D:Nat->Prop) (W:World) (hk:0<=k/\k<=3) (hg:∀ v ∈ vs,yr (v.low,v.high)) (dg:vs.length<=1000000) (dz:SlR 5 RVr D W vv vs) :
  Calls Tryz.prog 42 #[vv,.int .i64 k] W (Ret fun r w'=>r=.tuple #[.int .i64 ((zo k vs).getD 0),.int .i64 (if (zo k vs).isSome then 0 else 4)]/\Ext W w'):=by
 have dr:∀ v ∈ zf k vs,yr (v.low,v.high):=fun v hv=>hg v (zrc.1 hv).1
 have dy:zZ k (zf k vs) 1=zo k vs:=xf k vs 1
 have dt:∀ v ∈ zf k vs,v.kind=k:=fun v hv=>by simpa using (zrc.1 hv).2
 have dF:=zpq (xW k vs) dg
 refine znl Tryz.func42 O Tryz.ntmps42 O (znE (Vs 8 O (zof (σ:=Unit) [0,1] [] [] O (fun e u=>(23,.bool (decide (¬ (0<=k/\k<=3))))::e) (fun e u=>e) (fun u=>True) (fun _=>rfl) (fun _=>rfl) ?_ ?_)))
 .
  refine Vs 4 O (V.sp 12 O (fun k1_=>?_) (fun k1_=>?_))
  .
   refine Vs 4 O (V.sp 16 O (fun k2_=>?_) (fun k2_=>?_))
   .
    refine Vs 4 O (V.sp 20 O (fun k3_=>?_) (fun k3_=>?_))
    . refine Vs 4 O (zlT (()) (Sub.cons (by first | exact boolT (by omega) | exact ziK (by omega) | exact ziL (by omega)) (Sub.of O)) (Has.of O) (trivial) 0 O O)
    refine Vs 4 O (zlT (()) (Sub.cons (by first | exact boolT (by omega) | exact ziK (by omega) | exact ziL (by omega)) (Sub.of O)) (Has.of O) (trivial) 0 O O)
   refine Vs 8 O (zlT (()) (Sub.cons (by first | exact boolT (by omega) | exact ziK (by omega) | exact ziL (by omega)) (Sub.of O)) (Has.of O) (trivial) 0 O O)
  refine Vs 12 O (zlT (()) (Sub.cons (by first | exact boolT (by omega) | exact ziK (by omega) | exact ziL (by omega)) (Sub.of O)) (Has.of O) (trivial) 0 O O)
 rintro u _
 refine Vs 1 O (zlG O (fun h0=>?_) (fun h0=>?_))
 . exact absurd hk h0
 refine Vs 6 O (zo1 Tryz.call85 O (fun w hI=>zfr vs k vv D w (Tr1 hI.k0 dz) dg) ?_)
 rintro l w1 w2 dG dA dl dh
 obtain⟨al,cl,rfl⟩:=dl.form
 have dH:=dl.max
 refine Vs 10 O (zoe (σ:=Nat) [6] [] [] O (fun e i=>(7,.int .i64 i)::e) (fun e i=>e) (fun i=>i<=(zf k vs).length) (fun i=>(zf k vs).length - i) (0) (Sub.of O) (Has.of O) (fun _=>rfl) (fun _=>rfl) (fun _=>rfl) (zpz _) ?_)
 rintro i hi
 refine Vs 9 O (zlG O (fun dB=>?_) (fun dB=>?_))
 .
  refine Vs 5 O ?_
  obtain⟨x,da,db⟩:=gE_ (zf k vs) (i) (by omega)
  obtain⟨dC,dD,dE,hY,dc,de,df⟩:=dl.atD da
  obtain rfl:=df
  refine zob 1000 0 O O (fun h_=>by have du:=dh _ h_;have dw:=dc;first | omega | exact du dw) de ?_
  have di:=dr x db
  unfold yr at di
  dsimp only at di
  refine Vq (by kernel_rfl) (Vs 2 O ?_)
  refine znQ 1000 tR22 ts142 O hY (by omega) (_) (rfl) O (Vs 4 O ?_)
  refine znQ 1000 tR22 ts142 O hY (by omega) (_) (rfl) O (Vs 4 O (V.sp 44 O (fun b1=>?_) (fun b1=>?_)))
  . exact absurd b1 (by omega)
  refine Vs 2 O ?_
  refine znQ 1000 tR22 ts142 O hY (by omega) (_) (rfl) O (Vs 5 O (V.sp 52 O (fun b2=>?_) (fun b2=>?_)))
  . exact absurd b2 (by omega)
  refine Vs 2 O ?_
  refine znQ 1000 tR22 ts142 O hY (by omega) (_) (rfl) O (Vs 6 O (zlG O (fun b3=>?_) (fun b3=>?_)))
  . exact absurd b3 (by omega)
  refine Va 8 O (by omega) (V.back (i+1) (Sub.of O) (Has.of O) (by omega) (by first | omega | (dsimp only;omega)) 0 O O)
 refine Vs 17 O (zoe (σ:=Nat × Int) [6] [] [] O (fun e ⟨j,n⟩=>(8,.int .i64 n)::(9,.int .i64 j)::e) (fun e ⟨j,n⟩=>e) (fun⟨j,n⟩=>j<=(zf k vs).length/\zZ k ((zf k vs).take j) 1=some n) (fun⟨j,n⟩=>(zf k vs).length - j) ((0,1)) (Sub.of O) (Has.of O) (fun _=>rfl) (fun _=>rfl) (fun _=>rfl) (⟨zpz _,rfl⟩) ?_)
 rintro⟨j,n⟩ ⟨hj,hs⟩
 show V _ _ _ _ _ ((8,.int .i64 n)::(9,.int .i64 j)::_) _ (_) _
 have hn:=zU k ((zf k vs).take j) 1 n (fun v hv=>dr v (zri hv)) (by omega) (by omega) hs
 refine Vs 9 O (zlG O (fun dx=>?_) (fun dx=>?_))
 .
  refine Vs 5 O ?_
  obtain⟨x,da,db⟩:=gE_ (zf k vs) (j) (by omega)
  obtain⟨dC,dD,dE,hY,dc,de,df⟩:=dl.atD da
  obtain rfl:=df
  refine zob 2000 0 O O (fun h_=>by have du:=dh _ h_;have dw:=dc;first | omega | exact du dw) de ?_
  have di:=dr x db
  unfold yr at di
  dsimp only at di
  have hp:=zeF (n:=n) (s:=x.high - x.low+1) hn.1 hn.2 (by omega) (by omega)
  have dm:zZ k ((zf k vs).take (j+1)) 1=if 4096<n*(x.high - x.low+1) then none else some (n*(x.high - x.low+1)):=by
   rw[ze da,ya,hs];simp[zZ,dt x db]
  refine Vq (by kernel_rfl) (Vs 3 O ?_)
  refine znQ 2000 tR22 ts142 O hY (by omega) (_) (rfl) O (Vs 4 O ?_)
  refine znQ 2000 tR22 ts142 O hY (by omega) (_) (rfl) O (Va 14 O (by omega) (zlG O (fun hb=>?_) (fun hb=>?_)))
  .
   rw[zpv hb]at dm
   have dk:zo k vs=none:=by
    rw[<- dy,<- zrD (j+1) (zf k vs),ya,dm];rfl
   refine Vs 12 O (zlZ Tryz.results42 O O (fun w hI=>⟨_,rfl,by rw[dk];rfl,hI.k1⟩))
  rw[zpu hb]at dm
  refine Va 8 O (by omega) (V.back ((j+1,n*(x.high - x.low+1))) (Sub.of O) (Has.of O) (⟨by omega,dm⟩) (by first | omega | (dsimp only;omega)) 0 O O)
 have:j=(zf k vs).length:=by omega
 subst this
 rw[zpp,dy]at hs
 refine Vs 13 O (zlZ Tryz.results42 O O (fun w hI=>⟨_,rfl,by rw[hs];rfl,hI.k1⟩))
theorem jp (vs:List Vr) (k r:Int) (vv:Value) (D:Nat->Prop) (W:World) (hk:0<=k/\k<=3) (hg:∀ v ∈ vs,yr (v.low,v.high)) (hY:vs.length<=1000000) (dl:SlR 5 RVr D W vv vs) :
  Calls Tryz.prog 86 #[vv,.int .i64 k,.int .i64 r] W (Ret fun rr w'=>(∃ u,rr=.tuple #[u,.int .i64 (zK k vs r)]/\(zK k vs r ≠ 0->u=.slice none 0 0)/\(zK k vs r=0->SlR 1 zC (fun b=>W.heap.size<=b) w' u (zG (zf k vs) r).1))/\Ext W w'):=by
 have dm:∀ v ∈ zf k vs,yr (v.low,v.high):=fun v hv=>hg v (zrc.1 hv).1
 have dc:∀ v ∈ zf k vs,1<=v.high - v.low+1:=fun v hv=>by have:=dm v hv;unfold yr at this;dsimp only at this;omega
 have dD:=zpq (xW k vs) hY
 have du:=xv (zf k vs) r
 refine znm Tryz.func86 O Tryz.ntmps86 O (znE (Vs 10 O (znZ tc42 O (fun w hI=>yT vs k vv D w hk hg hY (Tr1 hI.k0 dl)) (Vs 14 O (zlG O (fun c0=>?_) (fun c0=>?_))))))
 .
  have hc:¬ (zo k vs).isSome=true:=fun h=>c0 (zpv h)
  have hC:zK k vs r=4:=by unfold zK;rw[zpu hc]
  refine Vs 9 O (zlZ tr86 O O (fun w hI=>⟨_,rfl,⟨_,by rw[hC,zpu hc],fun _=>rfl,fun h=>by rw[hC]at h;cases h⟩,hI.k0⟩))
 have hc:(zo k vs).isSome=true:=by
  cases h:(zo k vs).isSome with
  | true=>rfl
  | false=>rw[h]at c0;exact absurd (by decide) c0
 have hN:=ziJ hg hc
 obtain⟨m,hm⟩:=zs8.1 hc
 have dw:=zg4 hm
 have hU:zK k vs r=if r<0\/m<=r then 3 else 0:=by unfold zK;rw[zpv hc,hm];rfl
 rw[hm]at hN
 simp only[zs6]at hN
 rw[hm]
 simp only[zs6]
 refine Vs 8 O (V.sp 25 O (fun r0=>?_) (fun r0=>?_))
 .
  have hC:zK k vs r=3:=by rw[hU,zpv (.inl r0)]
  refine Vs 15 O (zlZ tr86 O O (fun w hI=>⟨_,rfl,⟨_,by rw[hC],fun _=>rfl,fun h=>by rw[hC]at h;cases h⟩,hI.k0⟩))
 refine Vs 6 O (zlG O (fun r1=>?_) (fun r1=>?_))
 .
  have hC:zK k vs r=3:=by rw[hU,zpv (.inr r1)]
  refine Vs 8 O (zlZ tr86 O O (fun w hI=>⟨_,rfl,⟨_,by rw[hC],fun _=>rfl,fun h=>by rw[hC]at h;cases h⟩,hI.k0⟩))
 have hC:zK k vs r=0:=by rw[hU,zpu (by omega)]
 refine Vs 6 O (zo1 Tryz.call85 O (fun w hI=>zfr vs k vv D w (Tr1 hI.k0 dl) hY) ?_)
 rintro l w1 w2 dE dx de df
 obtain⟨al,cl,rfl⟩:=de.form
 have dF:=de.max
 refine Vs 5 O (zoj 33 tR27 ts3 O (fun b33=>?_))
 refine Vs 10 O (zoe (σ:=Nat × Int × Value) [2,10] [] [] O (fun e ⟨i,n,v⟩=>(12,.int .i64 i)::(8,.int .i64 n)::(11,v)::e) (fun e ⟨i,n,v⟩=>(33,.row 3 1 v i (((zG (zf k vs) r).1.take i).map zc))::e) (fun⟨i,n,v⟩=>i<=(zf k vs).length/\n=jo ((zf k vs).drop i)/\n<=4096) (fun⟨i,n,v⟩=>(zf k vs).length - i) ((0,m,.slice (some ⟨b33,0,none⟩) 0 0)) (Sub.of O) (Has.of O) (fun _=>rfl) (fun _=>rfl) (fun _=>rfl) (⟨zpz _,dw,hN⟩) ?_)
 rintro⟨i,n,v⟩ ⟨hi,hn,dG⟩
 show V _ _ _ _ _ ((12,.int .i64 i)::(8,.int .i64 n)::(11,v)::_) _ ((33,.row 3 1 v i (((zG (zf k vs) r).1.take i).map zc))::_) _
 refine Vs 9 O (zlG O (fun dy=>?_) (fun dy=>?_))
 .
  refine Vs 5 O ?_
  obtain⟨x,da,dg⟩:=gE_ (zf k vs) (i) (by omega)
  obtain⟨dH,dI,dJ,db,dh,di,dk⟩:=de.atD da
  obtain rfl:=dk
  refine zob 1000 0 O O (fun h_=>by have dz:=df _ h_;have dA:=dh;first | omega | exact dz dA) di ?_
  have dr:=dm x dg
  unfold yr at dr
  dsimp only at dr
  have dB:=zfq da
  have dK:=kW (vs:=(zf k vs).drop (i+1)) fun y hy=>dc y (zrh hy)
  have dt:n.tdiv (x.high - x.low+1)=jo ((zf k vs).drop (i+1)):=by
   rw[hn,dB,jo,Int.mul_tdiv_cancel_left _ (by omega)]
  have dL:1<=n:=by rw[hn];exact kW fun y hy=>dc y (zrh hy)
  have dM:=Int.tdiv_le_self (x.high - x.low+1) (show 0<=n by omega)
  have dC:=Int.tdiv_nonneg (show 0<=r by omega) (show 0<=n.tdiv (x.high - x.low+1) by omega)
  have dN:=Int.tdiv_le_self (n.tdiv (x.high - x.low+1)) (show 0<=r by omega)
  have dO:=Int.tmod_nonneg (x.high - x.low+1) dC
  have dQ:=Int.tmod_lt_of_pos (r.tdiv (n.tdiv (x.high - x.low+1))) (show 0<x.high - x.low+1 by omega)
  have hget:=zao (r:=r) (by omega) dc da
  rw[<- zqt (by omega),<- dt]at hget
  refine Vq (by kernel_rfl) (Vs 2 O ?_)
  refine znQ 1000 tR22 ts142 O db (by omega) (_) (rfl) O (Vs 4 O ?_)
  refine znQ 1000 tR22 ts142 O db (by omega) (_) (rfl) O (Va 11 O (by omega) (znb O (fun w hI=>R.quo O O (by omega) (by omega)) (Vs 3 O (Vw [1000] [] O (Vd [0,1,2,6,7,9] 0 (by kernel_rfl) O O O ?_)))))
  refine znO 3 1000 tR22 ts142 O (by kernel_rfl) O db (by omega) (_) (rfl) O (Vd [4,5] 0 (by kernel_rfl) O O O (zon 8 O (by kernel_rfl) O (fun w=>R.quo O O (by omega) (by omega)) (zon 10 O (by kernel_rfl) O (fun w=>R.rem O O (by omega) (by omega)) (Vb [11] 0 (by kernel_rfl) O O O (by omega) (VD.bs 12 67 0 [(0,_)] tR27 ts3 tz3 (by decide) O (by kernel_rfl) O O (by kernel_rfl) (fun b67=>?_))))))
  refine znT 13 33 67 0 tu27 Tryz.el3 O (by decide) O (by kernel_rfl) O O O (by omega) (by omega) (fun u33=>(Vd [14] 0 (by kernel_rfl) O O O (VD.done (by kernel_rfl) (Vs 2 O (zod 33 O (e':=.row 3 1 u33 (i+1) (((zG (zf k vs) r).1.take (i+1)).map zc)) (by rw[zrC,hget,zr3];rfl) (Va 5 O (by omega) (V.back (⟨i+1,n.tdiv (x.high - x.low+1),u33⟩) (Sub.of O) (Has.of O) (⟨by omega,dt,by omega⟩) (by first | omega | (dsimp only;omega)) 0 O O)))))))
 have:i=(zf k vs).length:=by omega
 subst this
 refine zod 33 O (e':=.row 3 1 v (zG (zf k vs) r).1.length ((zG (zf k vs) r).1.map zc)) (by rw[<- du,zpp]) (Vs 13 O (zlZ tr86 O O (fun w hI=>⟨_,rfl,⟨_,by rw[hC],fun h=>absurd hC h,fun _=>zmM zc (fun _ _=>rfl) (hI.at 33 O) (fun b hb=>hI.own 33 1 O O b hb)⟩,hI.k1⟩)))
def spN (f:Fl):Nat:=((zo 1 f.vars).getD 0).toNat
theorem qT {f:Fl} (vd:Valid f):(∃ m,zo 1 f.vars=some m)/\(∃ m,zo 2 f.vars=some m)/\∃ m,zo 3 f.vars=some m:=by
 have h:=(yi vd.ok).2.1
 unfold zv at h
 split at h
 . rename_i h1;exact absurd h h1
 split at h
 . cases h
 rename_i h2
 unfold yO at h2
 cases h3:zo 1 f.vars<;>cases h4:zo 2 f.vars<;>cases h5:zo 3 f.vars<;>simp[h3,h4,h5]at h2 ⊢
def rnN (f:Fl):Nat:=((zo 3 f.vars).getD 0).toNat
theorem zjJ {f:Fl} (vd:Valid f):(zo 1 f.vars).getD 0=(spN f:Int)/\1<=spN f/\spN f<=4096:=by
 obtain⟨⟨m,h⟩,_⟩:=qT vd
 have h1:=zU 1 f.vars 1 m vd.good (by omega) (by omega) h
 unfold spN
 rw[h,zs6]
 omega
theorem zjK {f:Fl} (vd:Valid f):(zo 3 f.vars).getD 0=(rnN f:Int)/\1<=rnN f/\rnN f<=4096:=by
 obtain⟨_,_,m,h⟩:=qT vd
 have h1:=zU 3 f.vars 1 m vd.good (by omega) (by omega) h
 unfold rnN
 rw[h,zs6]
 omega
structure Phn where
 var:Int
 ver:Int
 frm:List Int
 args:List Int
structure Sn where
 phis:List Phn
 uses:List (Int × Int)
 dfn:Int
structure Sf where
 of_:List Int
 nodes:List Sn
def xk (x y:Int):Int:=if y=-1\/y=x then x else if x=-1 then y else -2
def LeV (x y:Int):Prop:=x=-1\/x=y\/y=-2
theorem LeV.refl (x:Int):LeV x x:=.inr (.inl rfl)
theorem LeV.trans {x y z:Int} (h:LeV x y) (h':LeV y z):LeV x z:=by unfold LeV at *;omega
theorem zhc {a b c d:Int} (h:LeV a c) (h':LeV b d):LeV (xk a b) (xk c d):=by
 unfold LeV xk at *
 split<;>split<;>(try split)<;>(try split)<;>omega
theorem zhd (x y:Int):LeV x (xk x y):=by
 unfold LeV xk
 split<;>(try split)<;>omega
theorem zg5 (x y:Int):LeV y (xk x y):=by
 unfold LeV xk
 split<;>(try split)<;>omega
def ja (l:List Int):Int:=l.foldl xk (-1)
theorem zhe (l:List Int):∀ a,LeV a (l.foldl xk a):=by
 induction l with
 | nil=>exact fun a=>LeV.refl a
 | cons x l ih=>exact fun a=>(zhd a x).trans (ih _)
theorem ziM {l:List Int} {y:Int} (h:y ∈ l):∀ a,LeV y (l.foldl xk a):=by
 induction l with
 | nil=>cases h
 | cons x l ih =>
  intro a
  rcases zpA.1 h with rfl | h
  . exact(zg5 a y).trans (zhe l _)
  exact ih h _
theorem zfs {l:List Int} {y:Int} (h:y ∈ l):LeV y (ja l):=ziM h _
theorem zhf {α:Type} {F G:α->Int} {l:List α}:∀ {a b:Int},LeV a b->(∀ x ∈ l,LeV (F x) (G x))->LeV ((l.map F).foldl xk a) ((l.map G).foldl xk b):=by
 induction l with
 | nil=>exact fun h _=>h
 | cons x l ih=>exact fun h hl=>ih (zhc h (hl x (zpo ..))) fun y hy=>hl y (zpn _ hy)
theorem zhg {α:Type} {F G:α->Int} {l:List α} (h:∀ x ∈ l,LeV (F x) (G x)):LeV (ja (l.map F)) (ja (l.map G)):=zhf (LeV.refl _) h
theorem ze2 (l:List Int) (x:Int):ja (l++[x])=xk (ja l) x:=by unfold ja;rw[zqT];rfl
def SndV (P:Int->Prop) (x:Int):Prop:=x=-1\/(0<=x/\P x)\/(x=-2/\∃ a b,P a/\P b/\a ≠ b)
theorem SndV.imp {P Q:Int->Prop} {x:Int} (h:SndV P x) (hi:∀ k,P k->Q k):SndV Q x:=by
 rcases h with h | ⟨h0,h⟩ | ⟨h0,a,b,ha,hb,hn⟩
 . exact .inl h
 . exact .inr (.inl ⟨h0,hi _ h⟩)
 exact .inr (.inr ⟨h0,a,b,hi _ ha,hi _ hb,hn⟩)
theorem ziN {P:Int->Prop} {x y:Int} (hx:SndV P x) (hy:SndV P y):SndV P (xk x y):=by
 unfold xk
 split
 . exact hx
 rename_i h1
 split
 . exact hy
 rename_i h2
 refine .inr (.inr ⟨rfl,?_⟩)
 rcases hx with hx | ⟨_,hx⟩ | ⟨_,hx⟩
 . exact absurd hx h2
 .
  rcases hy with hy | ⟨_,hy⟩ | ⟨_,hy⟩
  . exact absurd (.inl hy) h1
  . exact⟨x,y,hx,hy,fun e=>h1 (.inr e.symm)⟩
  exact hy
 exact hx
theorem zft {P:Int->Prop} {l:List Int} (h:∀ x ∈ l,SndV P x):SndV P (ja l):=by
 suffices ∀ a,SndV P a->SndV P (l.foldl xk a) from this _ (.inl rfl)
 induction l with
 | nil=>exact fun a ha=>ha
 | cons x l ih=>exact fun a ha=>ih (fun y hy=>h y (zpn _ hy)) _ (ziN ha (h x (zpo ..)))
def SumV (P:Int->Prop) (x:Int):Prop:=SndV P x/\∀ k,P k->LeV k x
theorem SumV.unique {P:Int->Prop} (hP:∀ k,P k->0<=k) {x y:Int} (hx:SumV P x) (hy:SumV P y):x=y:=by
 have main:∀ {x y:Int},SumV P x->SumV P y->LeV x y:=by
  intro x y hx hy
  rcases hx.1 with h | ⟨_,h⟩ | ⟨_,a,b,ha,hb,hn⟩
  . exact .inl h
  . exact hy.2 x h
  have h1:=hy.2 a ha
  have h2:=hy.2 b hb
  have h3:=hP a ha
  have h4:=hP b hb
  unfold LeV at *
  omega
 have h1:=main hx hy
 have h2:=main hy hx
 unfold LeV at h1 h2
 omega
section
variable (f:Fl) (g:List Nd) (s:Sf)
def zj (i:Nat):Sn:=s.nodes[i]?.getD ⟨[],[],-1⟩
def xX (i:Nat):Int:=if zeR f (xL g i)=true then (zW f (xL g i).at_).var else -1
def ze3 (l:List Phn) (v:Int):Option Int:=(l.find? fun p=>decide (p.var=v)).map (·.ver)
def zg6 (i:Nat) (v:Int):Option Int:=ze3 (zj s i).phis v
def yG (B:Nat->Int->Int) (i:Nat) (v:Int):Int:=if xX f g i=v then (zj s i).dfn else B i v
def xj (i:Nat):List Nat:=(List.range g.length).filter fun y=>decide ((xL g y).next=(i:Int)\/(xL g y).other=(i:Int))
def eqV (O:Nat->Int->Int) (i:Nat) (v:Int):Int:=if i=0 then v else match zg6 s i v with
 | some k=>k
 | none=>ja ((xj g i).map fun y=>O y v)
inductive RV (v:Int):Nat->Int->Prop
 | ini:RV v 0 v
 | phi {i:Nat} {k:Int}:i ≠ 0->zg6 s i v=some k->RV v i k
 | dfn {i y:Nat}:i ≠ 0->zg6 s i v=none->y ∈ xj g i->xX f g y=v->RV v i (zj s y).dfn
 | pass {i y:Nat} {k:Int}:i ≠ 0->zg6 s i v=none->y ∈ xj g i->xX f g y ≠ v->RV v y k->RV v i k
end
section
variable {f:Fl} {g:List Nd} {s:Sf}
theorem xw {i y:Nat} (h:y ∈ xj g i):y<g.length:=zrj.1 (zrc.1 h).1
structure NnS (f:Fl) (g:List Nd) (s:Sf):Prop where
 dfn:∀ y,y<g.length->0<=xX f g y->0<=(zj s y).dfn
 phi:∀ i v k,zg6 s i v=some k->0<=k
theorem RV.nn (hs:NnS f g s) {v:Int} (hv:0<=v) {i:Nat} {k:Int} (h:RV f g s v i k):0<=k:=by
 induction h with
 | ini=>exact hv
 | phi _ h=>exact hs.phi _ _ _ h
 | dfn _ _ hy hd=>exact hs.dfn _ (xw hy) (by omega)
 | pass _ _ _ _ _ ih=>exact ih
theorem zkU {B:Nat->Int->Int} (hs:NnS f g s) {v:Int} (hv:0<=v) {i:Nat} (h:∀ y,y<g.length->SndV (RV f g s v y) (B y v)):SndV (RV f g s v i) (eqV g s (yG f g s B) i v):=by
 unfold eqV
 split
 .
  rename_i h0
  subst h0
  exact .inr (.inl ⟨hv,.ini⟩)
 rename_i h0
 split
 .
  rename_i k hk
  exact .inr (.inl ⟨hs.phi _ _ _ hk,.phi h0 hk⟩)
 rename_i hk
 refine zft fun x hx=>?_
 obtain⟨y,hy,rfl⟩:=zrf.1 hx
 unfold yG
 split
 .
  rename_i hd
  exact .inr (.inl ⟨hs.dfn _ (xw hy) (by omega),.dfn h0 hk hy hd⟩)
 rename_i hd
 exact(h y (xw hy)).imp fun k hY=>.pass h0 hk hy hd hY
theorem ziO {B C:Nat->Int->Int} {y:Nat} {v:Int} (h:LeV (B y v) (C y v)):LeV (yG f g s B y v) (yG f g s C y v):=by
 unfold yG
 split
 . exact LeV.refl _
 exact h
theorem zhh {O O':Nat->Int->Int} {i:Nat} {v:Int} (h:∀ y,y<g.length->LeV (O y v) (O' y v)):LeV (eqV g s O i v) (eqV g s O' i v):=by
 unfold eqV
 split
 . exact LeV.refl _
 split
 . exact LeV.refl _
 exact zhg fun y hy=>h y (xw hy)
structure SolV (f:Fl) (g:List Nd) (s:Sf) (nv:Nat) (B:Nat->Int->Int):Prop where
 snd:∀ i,i<g.length->∀ v:Int,0<=v->v<(nv:Int)->SndV (RV f g s v i) (B i v)
 eq:∀ i,i<g.length->∀ v:Int,0<=v->v<(nv:Int)->B i v=eqV g s (yG f g s B) i v
theorem SolV.all {nv:Nat} {B:Nat->Int->Int} (h:SolV f g s nv B) {v:Int} (hv:0<=v) (hn:v<(nv:Int)) {i:Nat} (hi:i<g.length):SumV (RV f g s v i) (B i v):=by
 refine⟨h.snd i hi v hv hn,fun k hk=>?_⟩
 induction hk with
 | ini=>rw[h.eq 0 hi v hv hn];exact LeV.refl _
 | @phi i k h0 hk=>rw[h.eq i hi v hv hn];unfold eqV;rw[zpu h0,hk];exact LeV.refl _
 | @dfn i y h0 hk hy hd =>
  rw[h.eq i hi v hv hn];unfold eqV;rw[zpu h0,hk]
  refine zfs (zrf.2 ⟨y,hy,?_⟩)
  unfold yG
  rw[zpv hd]
 | @pass i y k h0 hk hy hd _ ih =>
  rw[h.eq i hi v hv hn];unfold eqV;rw[zpu h0,hk]
  refine(ih (xw hy)).trans (zfs (zrf.2 ⟨y,hy,?_⟩))
  unfold yG
  rw[zpu hd]
noncomputable def zll (P:Int->Prop):Int:=by
 classical
 exact if ∃ a b,P a/\P b/\a ≠ b then -2 else if h:∃ a,P a then Classical.choose h else -1
theorem zhi {P:Int->Prop} (hP:∀ k,P k->0<=k):SumV P (zll P):=by
 classical
 unfold zll
 split
 .
  rename_i h
  exact⟨.inr (.inr ⟨rfl,h⟩),fun k _=>.inr (.inr O)⟩
 rename_i h
 split
 .
  rename_i h2
  have h3:=Classical.choose_spec h2
  refine⟨.inr (.inl ⟨hP _ h3,h3⟩),fun k hk=>?_⟩
  by_cases e:k=Classical.choose h2
  . exact .inr (.inl e)
  exact absurd ⟨k,_,hk,h3,e⟩ h
 rename_i h2
 exact⟨.inl rfl,fun k hk=>absurd ⟨k,hk⟩ h2⟩
noncomputable def inV (f:Fl) (g:List Nd) (s:Sf) (i:Nat) (v:Int):Int:=zll (RV f g s v i)
noncomputable def zap (f:Fl) (g:List Nd) (s:Sf) (i:Nat) (v:Int):Int:=yG f g s (inV f g s) i v
theorem SolV.is {nv:Nat} {B:Nat->Int->Int} (hs:NnS f g s) (h:SolV f g s nv B) {v:Int} (hv:0<=v) (hn:v<(nv:Int)) {i:Nat} (hi:i<g.length):B i v=inV f g s i v :=
 SumV.unique (fun _ hk=>hk.nn hs hv) (h.all hv hn hi) (zhi fun _ hk=>hk.nn hs hv)
structure RunV (f:Fl) (g:List Nd) (s:Sf) (nv:Nat) (B:Nat->Int->Int):Prop where
 snd:∀ i,i<g.length->∀ v:Int,0<=v->v<(nv:Int)->SndV (RV f g s v i) (B i v)
 le:∀ i,i<g.length->∀ v:Int,0<=v->v<(nv:Int)->LeV (B i v) (eqV g s (yG f g s B) i v)
def zc4 (B:Nat->Int->Int) (i:Nat) (v x:Int):Nat->Int->Int:=fun j u=>if j=i/\u=v then x else B j u
theorem RunV.start {nv:Nat} {B:Nat->Int->Int} (h:∀ i v,B i v=if i=0 then v else -1):RunV f g s nv B:=by
 refine⟨fun i _ v hv _=>?_,fun i _ v _ _=>?_⟩
 .
  rw[h]
  split
  . rename_i e;subst e;exact .inr (.inl ⟨hv,.ini⟩)
  exact .inl O
 rw[h]
 split
 . rename_i e;unfold eqV;rw[zpv e];exact LeV.refl _
 exact .inl O
theorem RunV.next {nv:Nat} {B:Nat->Int->Int} (hs:NnS f g s) (h:RunV f g s nv B) {i:Nat} (hi:i<g.length) {v:Int} (hv:0<=v) (hn:v<(nv:Int)):RunV f g s nv (zc4 B i v (eqV g s (yG f g s B) i v)):=by
 have hB:∀ j,j<g.length->∀ u:Int,0<=u->u<(nv:Int)->LeV (B j u) (zc4 B i v (eqV g s (yG f g s B) i v) j u):=fun j hj u hu hY=>by
  unfold zc4
  split
  . rename_i e;obtain⟨rfl,rfl⟩:=e;exact h.le j hj u hu hY
  exact LeV.refl _
 refine⟨fun j hj u hu hY=>?_,fun j hj u hu hY=>?_⟩
 .
  unfold zc4
  split
  .
   rename_i e;obtain⟨rfl,rfl⟩:=e
   exact zkU hs hu fun y hy=>h.snd y hy u hu hY
  exact h.snd j hj u hu hY
 have hm:LeV (eqV g s (yG f g s B) j u) (eqV g s (yG f g s (zc4 B i v (eqV g s (yG f g s B) i v))) j u):=zhh fun y hy=>ziO (hB y hy u hu hY)
 by_cases e:j=i/\u=v
 .
  obtain⟨rfl,rfl⟩:=e
  rw[show zc4 B j u (eqV g s (yG f g s B) j u) j u=eqV g s (yG f g s B) j u from zpv ⟨rfl,rfl⟩]
  exact hm
 rw[show zc4 B i v (eqV g s (yG f g s B) i v) j u=B j u from zpu e]
 exact(h.le j hj u hu hY).trans hm
theorem RunV.done {nv:Nat} {B:Nat->Int->Int} (h:RunV f g s nv B) (hd:∀ i,i<g.length->∀ v:Int,0<=v->v<(nv:Int)->B i v=-2\/eqV g s (yG f g s B) i v=B i v\/eqV g s (yG f g s B) i v=-1):SolV f g s nv B:=by
 refine⟨h.snd,fun i hi v hv hn=>?_⟩
 have h1:=h.le i hi v hv hn
 have h2:=hd i hi v hv hn
 unfold LeV at h1
 omega
def jq (x:Int):Nat:=if x=-1 then 0 else if x=-2 then 2 else 1
theorem zd3 {x y:Int} (h:LeV x y) (hn:y ≠ x):jq x<jq y:=by
 unfold LeV at h
 unfold jq
 split<;>split<;>(try split)<;>(try split)<;>omega
theorem zkd (x:Int):jq x<=2:=by
 unfold jq
 split<;>(try split)<;>omega
end
open Go.GL
def kn (f:Fl) (s:Sf) (k v:Int) (fresh:Bool):Prop:=0<=k/\s.of_[k.toNat]?=some v/\(fresh=true->(f.vars.length:Int)<=k)
instance (f:Fl) (s:Sf) (k v:Int) (b:Bool):Decidable (kn f s k v b):=by unfold kn;infer_instance
def qU (g:List Nd) (n:Nat):List Int:=(xj g n).map fun i:Nat=>(i:Int)
def dfL (f:Fl) (g:List Nd) (s:Sf) (n:Nat):List Int:=(zj s n).phis.map (·.ver)++if 0<=xX f g n then [(zj s n).dfn] else []
def qy (f:Fl) (g:List Nd) (s:Sf):List Int:=(List.range g.length).flatMap (dfL f g s)
section
variable (f:Fl) (g:List Nd) (s:Sf) (rd:Nat->List Int)
structure PhiF (n:Nat) (l:List Phn):Prop where
 zero:n=0->l=[]
 asc:l.Pairwise fun p q=>p.var<q.var
 ver:∀ p ∈ l,kn f s p.ver p.var true
 frm:∀ p ∈ l,p.frm=qU g n
 len:∀ p ∈ l,p.args.length=p.frm.length
 args:∀ p ∈ l,∀ a ∈ p.args,kn f s a p.var false
structure NodF (n:Nat) (x:Sn):Prop where
 phi:PhiF f g s n x.phis
 no:xX f g n<0->x.dfn=-1
 yes:0<=xX f g n->kn f s x.dfn (xX f g n) true
 use:x.uses.map (·.1)=rd n
 ver:∀ u ∈ x.uses,kn f s u.2 u.1 false
structure OfF:Prop where
 len:f.vars.length<=s.of_.length
 ini:∀ (k:Nat) v,s.of_[k]?=some v->k<f.vars.length->v=(k:Int)
 new:∀ (k:Nat) v,s.of_[k]?=some v->f.vars.length<=k->0<=v/\∃ x,f.vars[v.toNat]?=some x/\x.kind=0
structure FormF:Prop where
 of_:OfF f s
 len:s.nodes.length=g.length
 nod:∀ (n:Nat) x,s.nodes[n]?=some x->NodF f g s rd n x
 one:∀ k:Nat,f.vars.length<=k->k<s.of_.length->(qy f g s).count (k:Int)=1
structure RightF:Prop extends FormF f g s rd where
 use:∀ (n:Nat) x,s.nodes[n]?=some x->∀ u ∈ x.uses,inV f g s n u.1=u.2
 arg:∀ (n:Nat) x,s.nodes[n]?=some x->∀ p ∈ x.phis,∀ (i:Nat) y a,p.frm[i]?=some y->p.args[i]?=some a->zap f g s y.toNat p.var=a
end
section
variable {f:Fl} {g:List Nd} {s:Sf} {rd:Nat->List Int}
theorem yP {n:Nat} {x:Sn} (h:s.nodes[n]?=some x):zj s n=x:=by unfold zj;rw[h];rfl
theorem zaq {n:Nat} (h:¬ n<s.nodes.length):zj s n=⟨[],[],-1⟩:=by unfold zj;rw[zpI (by omega)];rfl
theorem FormF.at (h:FormF f g s rd) {n:Nat} (hn:n<g.length):NodF f g s rd n (zj s n):=by
 have hl:=h.len
 have e:=zpk (show n<s.nodes.length by omega)
 rw[yP e]
 exact h.nod n _ e
theorem FormF.nn (h:FormF f g s rd):NnS f g s:=by
 refine⟨fun y hy hd=>((h.at hy).yes hd).1,fun i v k hk=>?_⟩
 unfold zg6 ze3 at hk
 obtain⟨p,hp,rfl⟩:=zsa.1 hk
 have hm:=zrg hp
 by_cases hi:i<g.length
 . exact((h.at hi).phi.ver p hm).1
 have hl:=h.len
 rw[zaq (by omega)]at hm
 cases hm
theorem ziP {l:List Phn} (h:l.Pairwise fun p q=>p.var<q.var) {p:Phn} (hp:p ∈ l):ze3 l p.var=some p.ver:=by
 unfold ze3
 induction l with
 | nil=>cases hp
 | cons q l ih =>
  rw[zro]at h
  rcases zpA.1 hp with rfl | hp
  . rw[List.find?_cons_of_pos (by simp)];rfl
  have:=h.1 p hp
  rw[List.find?_cons_of_neg (by simp;omega)]
  exact ih h.2 hp
theorem ziQ {l:List Phn} {v:Int} (h:ze3 l v=none):∀ p ∈ l,p.var ≠ v:=fun p hp e=>by
 unfold ze3 at h
 rw[Option.map_eq_none_iff,List.find?_eq_none]at h
 exact h p hp (by simpa using e)
theorem zfu {l:List Phn} {v k:Int} (h:ze3 l v=some k):∃ p ∈ l,p.var=v/\p.ver=k:=by
 unfold ze3 at h
 obtain⟨p,hp,rfl⟩:=zsa.1 h
 exact⟨p,zrg hp,by simpa using List.find?_some hp,rfl⟩
theorem ze4 (h:FormF f g s rd) {n:Nat} (hn:n<g.length) {k:Int} (hk:k ∈ dfL f g s n):(f.vars.length:Int)<=k/\k<(s.of_.length:Int):=by
 have main:∀ {k v:Int},kn f s k v true->(f.vars.length:Int)<=k/\k<(s.of_.length:Int):=fun {k v} hv=>by
  obtain⟨h0,h1,h2⟩:=hv
  have:=(zpy.1 h1).1
  have:=h2 rfl
  omega
 unfold dfL at hk
 rcases zpD.1 hk with hk | hk
 .
  obtain⟨p,hp,rfl⟩:=zrf.1 hk
  exact main ((h.at hn).phi.ver p hp)
 split at hk
 .
  rename_i hd
  rw[zpC]at hk
  subst hk
  exact main ((h.at hn).yes hd)
 cases hk
theorem qg (h:FormF f g s rd) {k:Int} (hk:k ∈ qy f g s):(f.vars.length:Int)<=k/\k<(s.of_.length:Int):=by
 obtain⟨n,hn,hk⟩:=zrd.1 hk
 exact ze4 h (zrj.1 hn) hk
end
open Go.GL
section
variable {f:Fl} {g:List Nd} {s:Sf} {rd:Nat->List Int}
theorem SumV.le {P Q:Int->Prop} (hi:∀ k,P k->Q k) {x y:Int} (hx:SumV P x) (hy:SumV Q y) (hP:∀ k,P k->0<=k):LeV x y:=by
 rcases hx.1 with h | ⟨_,h⟩ | ⟨_,a,b,ha,hb,hn⟩
 . exact .inl h
 . exact hy.2 x (hi x h)
 have h1:=hy.2 a (hi a ha)
 have h2:=hy.2 b (hi b hb)
 have h3:=hP a ha
 have h4:=hP b hb
 unfold LeV at *
 omega
theorem zcm (hs:NnS f g s) {v:Int} (hv:0<=v) (i:Nat):SumV (RV f g s v i) (inV f g s i v):=zhi fun _ hk=>hk.nn hs hv
theorem ziR (hs:NnS f g s) {v:Int} (hv:0<=v):inV f g s 0 v=v :=
 SumV.unique (P:=RV f g s v 0) (fun _ hk=>hk.nn hs hv) (zcm hs hv 0) ⟨.inr (.inl ⟨hv,.ini⟩),fun k hk=>by
  cases hk with
  | ini=>exact LeV.refl _
  | phi h _=>exact absurd rfl h
  | dfn h _ _ _=>exact absurd rfl h
  | pass h _ _ _ _=>exact absurd rfl h⟩
theorem zke (hs:NnS f g s) {v k:Int} (hv:0<=v) {i:Nat} (hi:i ≠ 0) (hk:zg6 s i v=some k):inV f g s i v=k :=
 SumV.unique (P:=RV f g s v i) (fun _ hk=>hk.nn hs hv) (zcm hs hv i) ⟨.inr (.inl ⟨hs.phi _ _ _ hk,.phi hi hk⟩),fun k' hY=>by
  cases hY with
  | ini=>exact absurd rfl hi
  | phi _ h=>rw[hk]at h;cases h;exact LeV.refl _
  | dfn _ h _ _=>rw[hk]at h;cases h
  | pass _ h _ _ _=>rw[hk]at h;cases h⟩
theorem ziS (hs:NnS f g s) {v:Int} (hv:0<=v) {i y:Nat} (hi:i ≠ 0) (hk:zg6 s i v=none) (hy:y ∈ xj g i):LeV (zap f g s y v) (inV f g s i v):=by
 unfold zap yG
 split
 .
  rename_i hd
  exact(zcm hs hv i).2 _ (.dfn hi hk hy hd)
 rename_i hd
 exact(zcm hs hv y).le (fun k hY=>.pass hi hk hy hd hY) (zcm hs hv i) fun _ h=>h.nn hs hv
theorem RV.of (h:FormF f g s rd) {v:Int} (hv:0<=v/\v<(f.vars.length:Int)) {i:Nat} {k:Int} (hi:i<g.length) (hr:RV f g s v i k):0<=k/\s.of_[k.toNat]?=some v:=by
 induction hr with
 | ini =>
  have hl:=h.of_.len
  have e:=zpk (show v.toNat<s.of_.length by omega)
  have:=h.of_.ini _ _ e (by omega)
  exact⟨hv.1,by rw[e,this];congr 1;omega⟩
 | @phi i k h0 hk =>
  obtain⟨p,hp,rfl,rfl⟩:=zfu hk
  have:=(h.at hi).phi.ver p hp
  exact⟨this.1,this.2.1⟩
 | @dfn i y h0 hk hy hd =>
  have:=(h.at (xw hy)).yes (by omega)
  rw[hd]at this
  exact⟨this.1,this.2.1⟩
 | @pass i y k h0 hk hy hd _ ih=>exact ih (xw hy)
theorem zjL (h:FormF f g s rd) {v:Int} (hv:0<=v/\v<(f.vars.length:Int)) {i:Nat} (hi:i<g.length) (h0:0<=inV f g s i v):s.of_[(inV f g s i v).toNat]?=some v:=by
 rcases (zcm h.nn hv.1 i).1 with h1 | ⟨_,h1⟩ | ⟨h1,_⟩
 . omega
 . exact(h1.of h hv hi).2
 omega
def InvV (f:Fl) (g:List Nd) (s:Sf) (i:Nat) (vl vals:List Int):Prop:=∀ v:Nat,v<f.vars.length->inV f g s i v ≠ -1/\(0<=inV f g s i v->vl[(inV f g s i v).toNat]?=vals[v]?)
def zhj (f:Fl) (g:List Nd) (s:Sf) (i:Nat) (vl vals:List Int):Prop:=∀ v:Nat,v<f.vars.length->zap f g s i v ≠ -1/\(0<=zap f g s i v->vl[(zap f g s i v).toNat]?=vals[v]?)
theorem InvV.start (h:FormF f g s rd) {vl vals:List Int} (he:∀ v:Nat,v<f.vars.length->vl[v]?=vals[v]?):InvV f g s 0 vl vals:=fun v hv=>by
 rw[ziR h.nn (by omega)]
 exact⟨by omega,fun _=>by rw[zpG];exact he v hv⟩
theorem zoW (h:RightF f g s rd) {i y:Nat} (h0:i ≠ 0) (hi:i<g.length) (hy:y ∈ xj g i) {vl vl' vals:List Int} (hp:zhj f g s y vl vals)
  (h1:∀ p ∈ (zj s i).phis,vl'[p.ver.toNat]?=vl[(zap f g s y p.var).toNat]?) (h2:∀ k:Nat,(∀ p ∈ (zj s i).phis,p.ver ≠ (k:Int))->vl'[k]?=vl[k]?) (h3:∀ p ∈ (zj s i).phis,0<=zap f g s y p.var):InvV f g s i vl' vals:=fun v hv=>by
 have hf:=h.toFormF
 have hn:=hf.at hi
 obtain⟨g1,g2⟩:=hp v hv
 cases hk:zg6 s i v with
 | some k =>
  rw[zke hf.nn (by omega) h0 hk]
  obtain⟨p,da,de,rfl⟩:=zfu hk
  have hY:=hn.phi.ver p da
  have h4:=h1 p da
  have h5:=h3 p da
  rw[de]at h4 h5
  exact⟨by have:=hY.1;omega,fun _=>h4.trans (g2 h5)⟩
 | none =>
  have dc:=ziS hf.nn (show (0:Int)<=(v:Int) by omega) h0 hk hy
  have df:inV f g s i v ≠ -1:=by unfold LeV at dc;omega
  refine⟨df,fun hz=>?_⟩
  have he:zap f g s y v=inV f g s i v:=by unfold LeV at dc;omega
  have db:=zjL hf (v:=(v:Int)) ⟨by omega,by omega⟩ hi hz
  rw[h2 _ fun p da e=>?_,<- he]
  . exact g2 (by omega)
  have hY:=(hn.phi.ver p da).2.1
  have e2:p.ver.toNat=(inV f g s i v).toNat:=by omega
  rw[e2,db]at hY
  exact ziQ hk p da (Option.some.inj hY).symm
theorem InvV.pass (_:RightF f g s rd) {i:Nat} {vl vals:List Int} (hI:InvV f g s i vl vals) (hd:xX f g i<0):zhj f g s i vl vals:=fun v hv=>by
 have e:zap f g s i v=inV f g s i v:=by unfold zap yG;rw[zpu (by omega)]
 rw[e]
 exact hI v hv
theorem InvV.set (h:RightF f g s rd) {i:Nat} (hi:i<g.length) {vl vals:List Int} (hI:InvV f g s i vl vals) {k:Nat} (hd:xX f g i=(k:Int)) (hk:k<f.vars.length) (da:k<vals.length) (db:(s.of_.length:Nat)<=vl.length) (x:Int):zhj f g s i (vl.set (zj s i).dfn.toNat x) (vals.set k x):=fun v hv=>by
 have hf:=h.toFormF
 have hy:=(hf.at hi).yes (by omega)
 have hl:(zj s i).dfn.toNat<s.of_.length:=(zpy.1 hy.2.1).1
 by_cases e:v=k
 .
  subst e
  have e2:zap f g s i v=(zj s i).dfn:=by unfold zap yG;rw[zpv hd]
  rw[e2]
  exact⟨by have:=hy.1;omega,fun _=>by rw[List.getElem?_set_self (by omega),List.getElem?_set_self da]⟩
 have e2:zap f g s i v=inV f g s i v:=by unfold zap yG;rw[zpu (by omega)]
 rw[e2]
 obtain⟨g1,g2⟩:=hI v hv
 refine⟨g1,fun hz=>?_⟩
 have hY:=zjL hf (v:=(v:Int)) ⟨by omega,by omega⟩ hi hz
 rw[List.getElem?_set_ne (fun e3=>?_),List.getElem?_set_ne (fun e3=>e e3.symm)]
 . exact g2 hz
 have:=hy.2.1
 rw[e3,hY,hd]at this
 have:=Option.some.inj this
 omega
end
end Go.Proofs.YtckdhgbepmpgiaaGreat
namespace Go.Proofs
open Go.Shelf
def Tryz.lays189_ren:Go.Shelf.Ren:=⟨fun | 189=>116 | 125=>155 | 257=>154 | 128=>193 | 129=>194 | 294=>184 | 295=>185 | 296=>186 | 297=>187 | 298=>188 | 299=>189 | 216=>190 | 300=>191 | 301=>192 | 328=>208 | 329=>209 | 330=>210 | 331=>211 | 332=>212 | 215=>213 | 343=>224 | n=>n,fun | 28=>27 | 3=>3 | 46=>222 | 0=>0 | 51=>252 | 53=>254 | 4=>4 | 183=>246 | 182=>245 | 131=>207 | 5=>5 | 9=>9 | 218=>262 | 222=>266 | 228=>274 | 229=>201 | n=>n,fun | n=>n⟩
theorem Tryz.lays189:Go.Proofs.Lays.n189 Tryz.prog Tryz.lays189_ren:={
  mixed:=by kernel_rfl
  f125:=Tryz.func155.trans (congrArg some (by kernel_rfl))
  f128:=Tryz.func193.trans (congrArg some (by kernel_rfl))
  f129:=Tryz.func194.trans (congrArg some (by kernel_rfl))
  f189:=Tryz.func116.trans (congrArg some (by kernel_rfl))
  f215:=Tryz.func213.trans (congrArg some (by kernel_rfl))
  f216:=Tryz.func190.trans (congrArg some (by kernel_rfl))
  f257:=Tryz.func154.trans (congrArg some (by kernel_rfl))
  f294:=Tryz.func184.trans (congrArg some (by kernel_rfl))
  f295:=Tryz.func185.trans (congrArg some (by kernel_rfl))
  f296:=Tryz.func186.trans (congrArg some (by kernel_rfl))
  f297:=Tryz.func187.trans (congrArg some (by kernel_rfl))
  f298:=Tryz.func188.trans (congrArg some (by kernel_rfl))
  f299:=Tryz.func189.trans (congrArg some (by kernel_rfl))
  f300:=Tryz.func191.trans (congrArg some (by kernel_rfl))
  f301:=Tryz.func192.trans (congrArg some (by kernel_rfl))
  f328:=Tryz.func208.trans (congrArg some (by kernel_rfl))
  f329:=Tryz.func209.trans (congrArg some (by kernel_rfl))
  f330:=Tryz.func210.trans (congrArg some (by kernel_rfl))
  f331:=Tryz.func211.trans (congrArg some (by kernel_rfl))
  f332:=Tryz.func212.trans (congrArg some (by kernel_rfl))
  f343:=Tryz.func224.trans (congrArg some (by kernel_rfl))
  t0:=Tryz.underlying0
  a0:=Tryz.isAgg0
  z0:=Tryz.sizeOf0
  v0:=Tryz.zeroValue0
  t3:=Tryz.underlying3
  a3:=tg3
  z3:=ts3
  v3:=tz3
  t4:=Tryz.underlying4
  a4:=tg4
  z4:=ts4
  v4:=Tryz.zeroValue4
  t5:=Tryz.underlying5
  a5:=Tryz.isAgg5
  z5:=Tryz.sizeOf5
  v5:=Tryz.zeroValue5
  t9:=tu9
  a9:=tg9
  z9:=ts9
  v9:=Tryz.zeroValue9
  t28:=tu27
  a28:=tg27
  z28:=ts27
  v28:=tz27
  t46:=Tryz.underlying222
  a46:=Tryz.isAgg222
  z46:=Tryz.sizeOf222
  v46:=Tryz.zeroValue222
  t51:=Tryz.underlying252
  a51:=Tryz.isAgg252
  z51:=Tryz.sizeOf252
  v51:=Tryz.zeroValue252
  t53:=Tryz.underlying254
  a53:=Tryz.isAgg254
  z53:=Tryz.sizeOf254
  v53:=Tryz.zeroValue254
  t131:=Tryz.underlying207
  a131:=Tryz.isAgg207
  z131:=Tryz.sizeOf207
  v131:=Tryz.zeroValue207
  t182:=Tryz.underlying245
  a182:=Tryz.isAgg245
  z182:=Tryz.sizeOf245
  v182:=Tryz.zeroValue245
  t183:=Tryz.underlying246
  a183:=Tryz.isAgg246
  z183:=Tryz.sizeOf246
  v183:=Tryz.zeroValue246
  t218:=Tryz.underlying262
  a218:=Tryz.isAgg262
  z218:=Tryz.sizeOf262
  v218:=Tryz.zeroValue262
  t222:=Tryz.underlying266
  a222:=Tryz.isAgg266
  z222:=Tryz.sizeOf266
  v222:=Tryz.zeroValue266
  t228:=Tryz.underlying274
  a228:=Tryz.isAgg274
  z228:=Tryz.sizeOf274
  v228:=Tryz.zeroValue274
  t229:=Tryz.underlying201
  a229:=Tryz.isAgg201
  z229:=Tryz.sizeOf201
  v229:=Tryz.zeroValue201 }
open Go.Sort Go.RowKit in
theorem Tryz.slices_Sort_int (blk off cap:Nat) (zs:List Int) (w:World) (hH:Holds (Value.int .i64) w blk off zs.toArray) (hY:blk<w.heap.size) (da:zs.length<4611686018427387904) :
    Calls Tryz.prog 116 #[.slice (some ⟨blk,off,none⟩) zs.length cap] w fun e w' =>
      e=.returned (.tuple #[])/\∃ n os,w'=grow (putRow (Value.int .i64) (Sort.ahead w n) blk off (zs.mergeSort fun x y=>decide (x<=y)).toArray) os:=Any.slices_Sort_int Tryz.lays189 blk off cap zs w hH hY da
open Go.RowKit Go.Sort in
theorem Tryz.slices_Sort_int_none (p:Option Addr) (cap:Nat) (w:World) :
    Calls Tryz.prog 116 #[.slice p 0 cap] w fun e w'=>e=.returned (.tuple #[])/\w'=w:=Any.slices_Sort_int_none Tryz.lays189 p cap w
end Go.Proofs
namespace Go.Proofs.YtckdhgbepmpgiaaGreat
open Go.GL
theorem zd4 {w:World} {b:Nat} {l:List Int} {sp:List Value} {e:TypeId} (hb:Blk w b (l.map (.int .i64)++sp) e) (d:List Int) (hs:d.length=l.length) (m:Nat) (os:Array Obj) :
  Blk (Go.Sort.grow (Go.Sort.putRow (Value.int .i64) (Go.Sort.ahead w m) b 0 d.toArray) os) b (d.map (.int .i64)++sp) e/\Keep (fun q=>q=b) w (Go.Sort.grow (Go.Sort.putRow (Value.int .i64) (Go.Sort.ahead w m) b 0 d.toArray) os):=by
 have hY:=hb.lt
 have da:(Go.Sort.putRow (Value.int .i64) (Go.Sort.ahead w m) b 0 d.toArray).heap.size=w.heap.size:=by simp[Go.Sort.ahead]
 have db:∀ i,i<w.heap.size->(Go.Sort.grow (Go.Sort.putRow (Value.int .i64) (Go.Sort.ahead w m) b 0 d.toArray) os).heap[i]?=(Go.Sort.putRow (Value.int .i64) (Go.Sort.ahead w m) b 0 d.toArray).heap[i]?:=by
  intro i hi
  show ((Go.Sort.putRow (Value.int .i64) (Go.Sort.ahead w m) b 0 d.toArray).heap++os)[i]?=_
  rw[Array.getElem?_append_left (by rw[da];exact hi)]
 refine⟨?_,rfl,rfl,rfl,Nat.le_add_right _ _,?_,?_⟩
 .
  unfold Blk at *
  rw[db b hY]
  show (w.heap.modify b _)[b]?=_
  rw[Array.getElem?_modify,zpv rfl,hb]
  simp only[zsb,Go.Sort.onCells]
  congr 2
  apply Array.ext_getElem?
  intro j
  simp only[Go.Sort.putCells,Array.getElem?_mapIdx,List.getElem?_toArray]
  by_cases hj:j<d.length
  .
   rw[zpK (by simpa[<- hs] using hj),zpK (by simpa using hj)]
   rw[zpk (by simpa[<- hs] using hj)]
   simp[hj]
  rw[zpL (by simp;omega),zpL (by simp;omega)]
  have dc:¬ j<l.length:=by omega
  simp[hs,dc]
 .
  show w.heap.size<=((Go.Sort.putRow (Value.int .i64) (Go.Sort.ahead w m) b 0 d.toArray).heap++os).size
  rw[Array.size_append,da];omega
 intro i hi de
 rw[db i hi]
 show (w.heap.modify b _)[i]?=_
 rw[Array.getElem?_modify,zpu (fun h=>de h.symm)]
def jr (l:List Int):List Int:=l.mergeSort fun x y=>decide (x<=y)
theorem zhk (l:List Int) (x:Int):x ∈ jr l ↔ x ∈ l:=List.mem_mergeSort
theorem qD (l:List Int):(jr l).length=l.length:=List.length_mergeSort _
theorem ziT (l:List Int) (v:Value) (n:Nat) (w:World) (hY:w.ownsRow 0 3 1 v n (l.map (.int .i64))) (db:l.length<=1048576):Calls Tryz.prog 116 #[v] w (Ret fun u w'=>u=.tuple #[]/\w'.ownsRow 0 3 1 v n ((jr l).map (.int .i64))/\Keep (fun q=>v.ownBlock=some q) w w'):=by
 have hn:=zih hY
 subst hn
 by_cases h0:l=[]
 .
  subst h0
  obtain⟨ao,c,rfl⟩:=xa hY
  refine(Tryz.slices_Sort_int_none ao c w).mono ?_
  rintro e w' ⟨rfl,rfl⟩
  exact⟨_,rfl,rfl,by simpa[jr] using hY,Keep.refl _ _⟩
 obtain⟨g,cap,sp,rfl,_,df,dc,hB,de⟩:=zgC hY h0
 have hH:Go.Sort.Holds (Value.int .i64) w g 0 l.toArray:=by
  intro j hj
  have da:j<l.length:=by simpa using hj
  refine⟨?_,hB.frozen⟩
  refine hB.cells j _ ?_
  rw[zpK (by simpa using da),zpB,zpk da]
  simp[da]
 refine(Tryz.slices_Sort_int g 0 cap l w hH hB.lt (by omega)).mono ?_
 rintro e w' ⟨rfl,q,os,rfl⟩
 have hw:=zd4 hB (jr l) (qD l) q os
 refine⟨_,rfl,rfl,?_,hw.2.mono (fun q _ h=>by rw[h];rfl)⟩
 have:=zgD hw.1 (cap:=cap) (by rw[<- de];simp[qD]) dc
 rw[qD]at this
 exact this
mutual
/-- The variables that a term mentions, in order. -/
def yz:Tm->List Int
 | .mk op n ks=>(if op=24 then [n] else [])++mentL ks
def mentL:List Tm->List Int
 | []=>[]
 | k::r=>yz k++mentL r
end
theorem zaS (t:Tm):yz t=(if t.op=24 then [t.n] else [])++mentL t.kids:=by cases t;rw[yz];rfl
theorem mentL_mem {l:List Tm} {v:Int}:v ∈ mentL l ↔ ∃ k ∈ l,v ∈ yz k:=by
 induction l with
 | nil=>simp[mentL]
 | cons k r ih=>rw[mentL,zpD,ih];simp
theorem zg7 (l:List Tm) (k:Tm):mentL (l++[k])=mentL l++yz k:=by
 induction l with
 | nil=>simp[mentL]
 | cons x r ih=>rw[zqA,mentL,mentL,ih,zqy]
theorem ziU {a b:List Int} (t:Tm):(∀ v ∈ yz t,lki a v.toNat=lki b v.toNat)->xt a t=xt b t:=by
 induction t using znv with
 | h t ih =>
  intro h
  rw[zbF,zbF]
  have hk:valL a t.kids=valL b t.kids:=by
   rw[zaR,zaR]
   exact zr4 fun k hk=>ih k hk fun v hv=>h v (by rw[zaS];exact zrb _ (mentL_mem.2 ⟨k,hk,hv⟩))
  rw[hk]
  unfold ql
  split
  . rfl
  split
  .
   rename_i e
   exact h t.n (by rw[zaS,zpv e];simp)
  rfl
def rdB (f:Fl) (x:Nd):Bool:=decide (x.kind=3\/x.kind=5\/(x.kind=2/\((zW f x.at_).act=0\/(zW f x.at_).act=1)))
def rdN (f:Fl) (x:Nd):List Int:=if rdB f x=true then Gr.compactL (jr (yz (zW f x.at_).term)) else []
def rdV (f:Fl) (g:List Nd) (n:Nat):List Int:=rdN f (xL g n)
theorem zkV {f:Fl} {x:Nd} (h:rdB f x=true) {v:Int}:v ∈ rdN f x ↔ v ∈ yz (zW f x.at_).term:=by
 unfold rdN
 rw[zpv h,Gr.compactL_mem,zhk]
section
variable (f:Fl) (g:List Nd) (s:Sf)
def jK (n:Nat):Bool:=decide (¬ 0<=(zj s n).dfn/\((xL g n).kind ≠ 2\/(zW f (xL g n).at_).act=1))
inductive NeedV:Int->Prop
 | sink {n:Nat} {u:Int × Int}:n<g.length->jK f g s n=true->u ∈ (zj s n).uses->NeedV u.2
 | use {n:Nat} {u:Int × Int}:n<g.length->0<=(zj s n).dfn->NeedV (zj s n).dfn->u ∈ (zj s n).uses->NeedV u.2
 | arg {n:Nat} {p:Phn} {a:Int}:n<g.length->p ∈ (zj s n).phis->NeedV p.ver->a ∈ p.args->NeedV a
theorem NeedV.all {P:Int->Prop} (h1:∀ n,n<g.length->jK f g s n=true->∀ u ∈ (zj s n).uses,P u.2)
  (h2:∀ n,n<g.length->0<=(zj s n).dfn->P (zj s n).dfn->∀ u ∈ (zj s n).uses,P u.2) (h3:∀ n,n<g.length->∀ p ∈ (zj s n).phis,P p.ver->∀ a ∈ p.args,P a) {k:Int} (h:NeedV f g s k):P k:=by
 induction h with
 | sink hn hs hu=>exact h1 _ hn hs _ hu
 | use hn hd _ hu ih=>exact h2 _ hn hd ih _ hu
 | arg hn hp _ ha ih=>exact h3 _ hn _ hp ih _ ha
end
open Go.GL
def zkf:Rel Phn:=fun D w p cs=>∃ u1 u2,cs=[.int .i64 p.var,.int .i64 p.ver,u1,u2]/\SlR 1 zC D w u1 p.frm/\SlR 1 zC D w u2 p.args
def RSn:Rel Sn:=fun D w x cs=>∃ u1 u2,cs=[u1,u2,.int .i64 x.dfn]/\SlR 4 zkf D w u1 x.phis/\SlR 2 zb1 D w u2 x.uses
theorem ze5:zR zb1:=fun _ _ _ _ _ _ _ _ h=>h
theorem zcn:zR zkf:=fun _ _ _ _ hD hk _ _ ⟨u1,u2,h0,h1,h2⟩=>⟨u1,u2,h0,h1.stable zb hD hk,h2.stable zb hD hk⟩
theorem kX:zR RSn:=fun _ _ _ _ hD hk _ _ ⟨u1,u2,h0,h1,h2⟩=>⟨u1,u2,h0,h1.stable zcn hD hk,h2.stable ze5 hD hk⟩
theorem ze6:qm zb1:=fun _ _ _ _ h=>h
theorem zg8:qm zkf:=fun _ _ _ _ ⟨u1,u2,h0,h1,h2⟩=>⟨u1,u2,h0,h1.narrow (by omega) yl,h2.narrow (by omega) yl⟩
theorem zhl:qm RSn:=fun _ _ _ _ ⟨u1,u2,h0,h1,h2⟩=>⟨u1,u2,h0,h1.narrow (by omega) zg8,h2.narrow (by omega) ze6⟩
instance:StC zkf:=⟨zcn⟩
structure RSf (D:Nat->Prop) (w:World) (s:Sf) (u1 u2:Value):Prop where
 of_:SlR 1 zC D w u1 s.of_
 nodes:SlR 3 RSn D w u2 s.nodes
theorem RSf.keep {D S:Nat->Prop} {w w':World} {s:Sf} {u1 u2:Value} (h:RSf D w s u1 u2) (hk:Keep S w w') (hS:∀ b,D b->b<w.heap.size->¬ S b):RSf D w' s u1 u2:=⟨h.of_.keep zb hk hS,h.nodes.keep kX hk hS⟩
theorem RSf.ext {D:Nat->Prop} {w w':World} {s:Sf} {u1 u2:Value} (h:RSf D w s u1 u2) (hk:Ext w w'):RSf D w' s u1 u2:=⟨h.of_.ext zb hk,h.nodes.ext kX hk⟩
instance {D:Nat->Prop} {w w':World} {s:Sf} {u1 u2:Value}:Tr (RSf D w s u1 u2) w w' (RSf D w' s u1 u2):=⟨fun h hk=>RSf.ext h hk⟩
theorem RSf.wide {D D':Nat->Prop} {w:World} {s:Sf} {u1 u2:Value} (h:RSf D w s u1 u2) (hD:∀ q,D q->D' q):RSf D' w s u1 u2:=⟨h.of_.wide zb hD,h.nodes.wide kX hD⟩
def stN (f:Fl) (x:Nd):St:=if 0<=x.at_ then zW f x.at_ else zkI
def zeU (g:List Nd):List (List Int):=(List.range g.length).map (qU g)
def GrO (D:Nat->Prop) (w:World) (f:Fl) (g:List Nd) (b:Nat):Prop:=∃ v1 v2 v3 gv sv pv,D b/\Cells w b 0 [v1,v2,v3,gv,sv,pv]/\RFl D w f v1 v2 v3/\SlR 4 RNd D w gv g/\SlR 10 RSt D w sv (g.map (stN f))/\SlR 1 (RSl 1 zC) D w pv (zeU g)
theorem GrO.keep {D S:Nat->Prop} {w w':World} {f:Fl} {g:List Nd} {b:Nat} (h:GrO D w f g b) (hk:Keep S w w') (hS:∀ b,D b->b<w.heap.size->¬ S b):GrO D w' f g b:=by
 obtain⟨v1,v2,v3,gv,sv,pv,h0,h1,h2,h3,h4,h5⟩:=h
 exact⟨v1,v2,v3,gv,sv,pv,h0,hk.cells h1 (hS b h0 (zpm _ _ (h1 0 _ O))),⟨h2.vars.keep xD hk hS,h2.hatches.keep xE hk hS,h2.body.keep zd hk hS⟩,h3.keep zH hk hS,h4.keep zd hk hS,h5.keep (qz zb) hk hS⟩
theorem GrO.ext {D:Nat->Prop} {w w':World} {f:Fl} {g:List Nd} {b:Nat} (h:GrO D w f g b) (hk:Ext w w'):GrO D w' f g b:=h.keep hk fun _ _ _ h=>h
instance {D:Nat->Prop} {w w':World} {f:Fl} {g:List Nd} {b:Nat}:Tr (GrO D w f g b) w w' (GrO D w' f g b):=⟨fun h hk=>GrO.ext h hk⟩
theorem yQ {g:List Nd} {i:Nat} {x:Nd} (h:g[i]?=some x):xL g (i:Int)=x:=by unfold xL;rw[zpG,h];rfl
theorem zfv {g:List Nd} {i:Nat} (h:i<g.length):(zeU g)[i]?=some (qU g i):=by unfold zeU;rw[zpB,List.getElem?_range h];rfl
theorem pred_mem {g:List Nd} {i y:Nat}:y ∈ xj g i ↔ y<g.length/\((xL g y).next=(i:Int)\/(xL g y).other=(i:Int)):=by
 unfold xj
 rw[zrc,zrj,decide_eq_true_iff]
def GOk (f:Fl) (g:List Nd):Prop:=∀ (i:Nat) x,g[i]?=some x->(x.at_<0->x.kind=0\/x.kind=1)/\(0<=x.at_->x.at_<((preL f.body).length:Int)/\(yz (zW f x.at_).term).length<=100000)
theorem GOk.at {f:Fl} {g:List Nd} (h:GOk f g) {i:Nat} {x:Nd} (hx:g[i]?=some x) (hk:x.kind=2\/x.kind=3\/x.kind=5):0<=x.at_/\x.at_<((preL f.body).length:Int)/\(yz (zW f x.at_).term).length<=100000:=by
 obtain⟨h1,h2⟩:=h i x hx
 have h0:0<=x.at_:=by
  by_cases e:x.at_<0
  . have:=h1 e;omega
  omega
 exact⟨h0,h2 h0⟩
theorem zbM (f:Fl) (g:List Nd) (hk:GOk f g) (i:Nat) (hi:i<g.length) (b:Nat) (D:Nat->Prop) (W:World) (hG:GrO D W f g b) :
  Calls Tryz.prog 79 #[.pointer (some ⟨b,0,none⟩),.int .i64 i] W (Ret fun r w'=>r=.int .i64 (xX f g i)/\Ext W w'):=by
 obtain⟨v1,v2,v3,gv,sv,pv,hD,dc,hf,hg,hs,hp⟩:=hG
 obtain⟨as_,cs_,rfl⟩:=hs.form
 obtain⟨ag,cg,rfl⟩:=hg.form
 have dO:(g.map (stN f)).length=g.length:=zpE _
 have dQ:=hs.max
 refine znl Tryz.func79 O Tryz.ntmps79 O (znE (zob 900 0 O O (fun h=>h) dc (znL 0 900 0 O O (Vs 13 O ?_))))
 obtain⟨st,hY,dw⟩:=gE_ (g.map (stN f)) (i) (by omega)
 obtain⟨dJ,dK,dL,de,_,df,dg⟩:=hs.at hY
 obtain⟨dx,dy,dz,dA,rfl,dh,di,dk,dl⟩:=dg.get
 obtain⟨dB,dC,rfl⟩:=dh.form
 obtain⟨dD,dE,rfl⟩:=di.form
 obtain⟨dF,dG,rfl⟩:=dk.form
 obtain⟨dH,dI,rfl⟩:=dl.form
 refine zoa 1000 0 O O df ?_
 refine znN 1000 tR24 ts72 O de (by omega) (_) (rfl) O (Vs 1 O (V.alloc 5 tz72 O O (fun b5=>?_)))
 refine Vs 10 O ?_
 obtain⟨x,da,dM⟩:=gE_ g (i) (by omega)
 obtain⟨dR,dS,dT,dm,_,dr,dt⟩:=hg.at da
 obtain rfl:=dt
 refine zoa 2000 0 O O dr ?_
 refine znN 2000 tR34 ts65 O dm (by omega) (_) (rfl) O ?_
 have hx:=yQ da
 have dN:st=stN f x:=by rw[zpB,da]at hY;exact(Option.some.inj hY).symm
 refine Vs 4 O (V.sp 22 O (fun g1=>?_) (fun g1=>?_))
 .
  have h0:=(hk.at da (.inl g1)).1
  have du:st=zW f x.at_:=by rw[dN];exact zpv h0
  have db:xX f g i=if st.act=0\/st.act=5 then st.var else -1:=by
   unfold xX zeR
   rw[hx,<- du]
   by_cases e:st.act=0\/st.act=5
   . rw[zpv e,zpv (by simpa[g1] using e)]
   rw[zpu e,zpu (by simpa[g1] using e)]
  refine Vs 4 O (V.sp 26 O (fun g2=>?_) (fun g2=>?_))
  . refine Vs 17 O (zlW tr79 O (fun w hI=>⟨_,rfl,by rw[db,zpv (.inl g2)],hI.k0⟩))
  refine Vs 7 O (zlG O (fun g3=>?_) (fun g3=>?_))
  . refine Vs 9 O (zlW tr79 O (fun w hI=>⟨_,rfl,by rw[db,zpv (.inr g3)],hI.k0⟩))
  refine Vs 8 O (zlW tr79 O (fun w hI=>⟨_,rfl,by rw[db,zpu (fun h=>h.elim g2 g3)],hI.k0⟩))
 refine Vs 20 O (zlW tr79 O (fun w hI=>⟨_,rfl,by unfold xX zeR;rw[hx,zpu (by simp[g1])],hI.k0⟩))
end Go.Proofs.YtckdhgbepmpgiaaGreat
namespace Go.GL
section
variable {P:Program} {n:Nat} {Q:Exit->Act->World->Prop} {ks:List Fr} {env:Env} {A:Tgs} {H Hs:Hp} {Bs B0:zF} {ops:Array Oper} {L:List Nat} {fuel:Nat} {listed:Array Bool}
theorem znM (s k off:Nat) (h:zet env s=jT H (some (k,off))) (hs:(jT H (some (k,off))).isSome=true) (h1:VD P n Q ks ops Hs B0 L fuel listed env ((s,some (k,off))::A) H Bs):VD P n Q ks ops Hs B0 L fuel listed env A H Bs:=by
 refine fun hH hA w hI=>h1 hH (fun s' k' off' hk=>?_) w hI
 simp only[tgt]at hk
 cases hb:Nat.beq s s' with
 | false=>rw[hb]at hk;exact hA s' k' off' hk
 | true =>
  rw[hb]at hk
  cases hk
  have:=TgOk.of (A:=[(s,some (k,off))]) (env:=env) (H:=H) (by simpa using h) (by simpa using hs)
  exact this s' k off (by simp[tgt,hb])
end
theorem VI.inS {Bs:zF} {H:Hp} {w w0:World} {e:HE} {S:Nat->Prop} (hI:VI Bs H w) (j k:Nat) (hb:Bs[j]?=some (w0,S)) (hg:hget H k=some e) {q:Nat} (hq:e.S q):(S q\/w0.heap.size<=q)/\q<w.heap.size :=
 ⟨(hI.base _ (zpl hb)).2 _ (zr hg) q hq,hI.low _ (zr hg) q hq⟩
theorem VI.offD {Bs:zF} {H:Hp} {w w0:World} {e:HE} {S:Nat->Prop} (hI:VI Bs H w) (j k:Nat) (hb:Bs[j]?=some (w0,S)) (hg:hget H k=some e) {q:Nat} (hq:q<w0.heap.size) (hS:¬ S q):¬ e.S q:=fun h=>(hI.inS j k hb hg h).1.elim hS (fun h=>by omega)
theorem VI.hsE {Bs:zF} {H:Hp} {w w0:World} (hI:VI Bs H w) (j:Nat) (hb:Bs[j]?=some (w0,fun _=>False)) {q:Nat} (hs:HS H q):w0.heap.size<=q:=by
 obtain⟨x,hx,hq⟩:=hs
 exact((hI.base _ (zpl hb)).2 x hx q hq).elim False.elim id
end Go.GL
namespace Go.Proofs.YtckdhgbepmpgiaaGreat
open Go.GL
def zT (t:Tm):List Int:=if t.op=24 then [t.n] else []
theorem zd5 (t:Tm):yz t=zT t++mentL t.kids:=zaS t
theorem zco {l:List Tm} {i:Nat} {k:Tm} (h:l[i]?=some k):mentL (l.take (i+1))=mentL (l.take i)++yz k:=by rw[ze h,zg7]
theorem zfw (l:List Tm) (i:Nat):(mentL (l.take i)).length<=(mentL l).length:=by
 have main:∀ a b:List Tm,mentL (a++b)=mentL a++mentL b:=fun a b=>by
  induction a with
  | nil=>simp[mentL]
  | cons x r ih=>rw[zqA,mentL,mentL,ih,zqy]
 have:=congrArg List.length (main (l.take i) (l.drop i))
 rw[zrD,zps]at this
 omega
abbrev xO (u:Value) (l:List Int):HE:=.row 3 1 u l.length (l.map zc)
theorem ziV (t:Tm):∀ (kv uo:Value) (acc:List Int) (D:Nat->Prop) (W:World),SlR 3 RTm D W kv t.kids->(xO uo acc).holds W->(∀ q,D q->q<W.heap.size/\uo.ownBlock ≠ some q)->acc.length+(yz t).length<=1000000 ->
  Calls Tryz.prog 127 #[.agg #[.int .i64 t.op,.int .i64 t.n,kv],uo] W (Ret fun r w'=>∃ x:Value,r=x/\(xO x (acc++yz t)).holds w'/\Keep (xO uo acc).S W w'/\∀ q,(xO x (acc++yz t)).S q->((xO uo acc).S q\/W.heap.size<=q)/\q<w'.heap.size):=by
 induction t using znv with
 | h t ih =>
 intro kv uo acc D W hk hY dc de
 obtain⟨ak,ck,rfl⟩:=hk.form
 have dz:=hk.max
 have df:∀ q,(xO uo acc).S q->¬ D q:=fun q h hd=>(dc q hd).2 h
 rw[zd5,zps]at de
 refine znl Tryz.func127 O Tryz.ntmps127 O (zop 900 (.row 3 1 uo acc.length (acc.map zc)) (hY) trivial (fun _ h=>h) (fun q hq=>xB hY hq) (Vs 2 O (V.box 2 O O (fun b2=>?_))))
 refine Vs 4 O (zof (σ:=Value) [2] [2] [2] O (fun e u=>(1,u)::e) (fun e u=>(900,.row 3 1 u (acc++zT t).length ((acc++zT t).map zc))::e) (fun u=>True) (fun _=>rfl) (fun _=>rfl) ?_ ?_)
 .
  refine Vs 7 O (zlG O (fun e=>?_) (fun e=>?_))
  .
   refine Vs 4 O (V.bs 13 [(0,_)] tR27 ts3 tz3 (by decide) O O (by kernel_rfl) (fun b13=>?_))
   refine znS 900 13 tu27 Tryz.el3 O (by decide) O O (by omega) (by omega) (fun u900=>(Vs 2 O (zod 900 O (e':=.row 3 1 u900 (acc++zT t).length ((acc++zT t).map zc)) (by unfold zT;rw[zpv e,zps,zr3];rfl) (zlT (u900) (Sub.of O) (Has.of O) (True.intro) 0 O O))))
  refine zod 900 O (e':=.row 3 1 uo (acc++zT t).length ((acc++zT t).map zc)) (by unfold zT;rw[zpu e,zqz]) (Vs 1 O (zlT (uo) (Sub.of O) (Has.of O) (True.intro) 0 O O))
 rintro u -
 refine Vs 10 O (zod 900 O (e':=.row 3 1 u (acc++zT t++mentL (t.kids.take 0)).length ((acc++zT t++mentL (t.kids.take 0)).map zc)) (by rw[show acc++zT t++mentL (t.kids.take 0)=acc++zT t from zqz _]) (Vs 1 O (zoe (σ:=Nat × Value) [16,17] [] [] O (fun e ⟨i,u⟩=>(18,.int .i64 i)::(1,u)::e) (fun e ⟨i,u⟩=>(900,.row 3 1 u (acc++zT t++mentL (t.kids.take i)).length ((acc++zT t++mentL (t.kids.take i)).map zc))::e) (fun⟨i,u⟩=>i<=t.kids.length) (fun⟨i,u⟩=>t.kids.length - i) ((0,u)) (Sub.of O) (Has.of O) (fun _=>rfl) (fun _=>rfl) (fun _=>rfl) (zpz _) ?_)))
 rintro⟨i,u⟩ hi
 show V _ _ _ _ _ ((18,.int .i64 i)::(1,u)::_) _ ((900,.row 3 1 u (acc++zT t++mentL (t.kids.take i)).length ((acc++zT t++mentL (t.kids.take i)).map zc))::_) _
 refine Vs 6 O (zlG O (fun lt=>?_) (fun lt=>?_))
 .
  refine Vs 6 O ?_
  obtain⟨k,da,dg⟩:=gE_ t.kids (i) (by omega)
  obtain⟨dA,dB,dC,dh,di,dk,dl⟩:=hk.atD da
  obtain⟨dr,rfl,db⟩:=dl.get
  obtain⟨dt,du,rfl⟩:=db.form
  refine zob 1000 0 O O (fun h_=>by have dw:=df _ h_;have dx:=di;first | omega | exact dw dx) dk ?_
  refine znN 1000 tR68 ts70 O dh (by omega) (_) (rfl) O ?_
  have dm:=zco da
  have dy:=zfw t.kids (i+1)
  rw[dm,zps]at dy
  refine Vs 1 O (V.alloc 6 tz70 O O (fun b6=>?_))
  refine Vs 6 O (zo4 900 (E:=fun x=>.row 3 1 x (acc++zT t++mentL (t.kids.take i)++yz k).length ((acc++zT t++mentL (t.kids.take i)++yz k).map zc)) Tryz.call127 O (fun _=>⟨trivial,fun _ h=>h⟩) (fun w hI=>ih k dg _ _ (acc++zT t++mentL (t.kids.take i)) D w (db.keep zh hI.k0 (fun q hq _ hs=>df q hs hq)) (hI.at 900 O) (fun q hq=>⟨zrT (dc q hq).1 hI.k0.size,show ¬ (xO u (acc++zT t++mentL (t.kids.take i))).S q from hI.offD 0 900 O O (dc q hq).1 (fun h=>df q h hq)⟩) (by simp only[zps]at *;omega)) ?_)
  rintro u2 _ rfl
  refine Va 8 O (by omega) (zod 900 O (e':=.row 3 1 u2 (acc++zT t++mentL (t.kids.take (i+1))).length ((acc++zT t++mentL (t.kids.take (i+1))).map zc)) (by rw[dm,<- zqy]) (V.back (⟨i+1,u2⟩) (Sub.of O) (Has.of O) (by omega) (by first | omega | (dsimp only;omega)) 0 O O))
 obtain rfl:i=t.kids.length:=by omega
 refine zod 900 O (e':=xO u (acc++yz t)) (by rw[zpp,zd5,<- zqy]) (Vs 12 O (zlW Tryz.results127 O (fun w hI=>⟨_,rfl,⟨u,rfl,hI.at 900 rfl,hI.k0,fun q hq=>hI.inS 0 900 O O hq⟩⟩)))
theorem zaT (xs ys:List Int) (u v:Value) (D D':Nat->Prop) (w:World) (hx:SlR 1 zC D w u xs) (hy:SlR 1 zC D' w v ys):Calls Tryz.prog 69 #[u,v] w (Ret fun r w'=>r=.bool (decide (xs=ys))/\Ext w w'):=by
 obtain⟨ao,cx,rfl,dy,dz,di⟩:=hx
 obtain⟨bo,cy,rfl,dA,dB,dk⟩:=hy
 refine znl Tryz.func69 O Tryz.ntmps69 O (Gs 15 O (zn9 O (fun dl=>?_) (fun dC=>?_)))
 .
  refine Gs 7 O ?_
  have:¬ xs=ys:=fun h=>dl (by rw[h])
  refine zlV Tryz.results69 O ⟨_,rfl,by rw[zpx this],Keep.refl _ _⟩
 have hl:xs.length=ys.length:=by omega
 refine Gs 11 O (G.loop (σ:=Nat) (fun k=>[(0,.slice ao xs.length cx),(1,.slice bo ys.length cy),(11,.slice ao xs.length cx),(12,.int .i64 xs.length),(13,.int .i64 k)]) (fun k=>fun w'=>k<=xs.length/\xs.take k=ys.take k/\Ext w w') (fun k=>xs.length - k) (0) (Sub.of O) (⟨zpz _,rfl,Keep.refl _ _⟩) ?_)
 rintro k w1 ⟨dD,de,hY⟩
 refine Gs 6 O (zn9 O (fun dE=>?_) (fun dF=>?_))
 .
  obtain⟨x,hx⟩:∃ x,xs[k]?=some x:=⟨_,zpk (by omega)⟩
  obtain⟨y,hy⟩:∃ y,ys[k]?=some y:=⟨_,zpk (by omega)⟩
  obtain⟨b1,o1,c1,dm,_,dr,df,rfl⟩:=di k x hx
  obtain⟨b2,o2,c2,dt,_,du,dg,rfl⟩:=dk k y hy
  have da:=hY.cells df (fun h=>h)
  have db:=hY.cells dg (fun h=>h)
  refine Gs 11 O (Qt (by kernel_rfl) (Gs 2 O (znd O O (fun w1 dc=>zmh tR27 ts3 O O dm (by omega)) (znf O tg3 (fun w1 dc=>(dc.cell (da 0 _ O) (fun h=>h))) (Gs 2 O (znd O O (fun w1 dc=>zmh tR27 ts3 O O dt (by omega)) (znf O tg3 (fun w1 dc=>(dc.cell (db 0 _ O) (fun h=>h))) (Gs 1 O (znh (fun w2 dh=>?_))))))))))
  refine Gs 1 O (zn9 O (fun hd=>?_) (fun he=>?_))
  .
   have:¬ xs=ys:=by
    rintro rfl
    rw[hx]at hy
    exact hd (Option.some.inj hy)
   refine Gs 11 O (zlV Tryz.results69 O ⟨_,rfl,by rw[zpx this],hY.ext dh⟩)
  have dw:x=y:=zpt.1 he
  refine Ga 7 O (by omega) (G.back (k+1) (Sub.of O) (⟨by omega,?_,hY.ext dh⟩) (by first | omega | (dsimp only;omega)))
  obtain⟨h1,h2⟩:=zpy.1 hx
  obtain⟨h3,h4⟩:=zpy.1 hy
  rw[zrH h1,zrH h3,de,h2,h4,dw]
 have dx:k=xs.length:=by omega
 have:xs=ys:=by
  rw[dx,zpp]at de
  rw[hl,zpp]at de
  exact de
 refine Gs 11 O (zlV Tryz.results69 O ⟨_,rfl,by rw[zpw this],hY⟩)
theorem ze7 {α:Type} {c:Nat} {enc:α->List Value} (hc:∀ x,(enc x).length=c) {v:Value} {j:Nat} {x y:α} (hj:j<c) (hy:enc y=(enc x).set j v):∀ (L:List α) (k:Nat) (sp:List Value),L[k]?=some x->(L.flatMap enc++sp).set (k*c+j) v=(L.set k y).flatMap enc++sp
 | [],k,sp,h=>by simp at h
 | z::r,0,sp,h=>by
  simp at h
  subst h
  simp only[zs4,zs3,zqP,List.set_cons_zero,zqy]
  rw[zrv _ _ (by rw[hc];exact hj),<- hy]
 | z::r,k+1,sp,h=>by
  simp only[List.getElem?_cons_succ]at h
  simp only[zqP,List.set_cons_succ,zqy]
  rw[zrw _ _ (by rw[hc,zs1];omega),hc]
  rw[show (k+1)*c+j - c=k*c+j from by rw[zs1];omega,ze7 hc hj hy r k sp h]
theorem zkW (m:Nat):Builtin.zeroCells (Value.int .i64 0).cells m=(List.replicate (m*1) (.int .i64 0)).toArray:=by
 apply Array.ext
 . simp[Builtin.zeroCells,Value.cells]
 intro i h1 h2
 have:i % 1=0:=by omega
 simp[Builtin.zeroCells,Value.cells,this]
theorem zeV (es:List Int) (v:Value) (n:Nat) (w:World) (hY:w.ownsRow 0 3 1 v n (es.flatMap zc3)) (dE:es.length<=1048576):Calls Tryz.prog 117 #[v] w (Ret fun u w'=>w'.ownsRow 0 3 1 u (Gr.compactL es).length ((Gr.compactL es).flatMap zc3)/\u.ownBlock=v.ownBlock/\Keep (fun q=>v.ownBlock=some q) w w'):=by
 have hn:n=es.length:=by
  have:=hY.1
  rw[kM]at this
  omega
 subst hn
 by_cases h0:es=[]
 .
  subst h0
  obtain⟨l,c,hv⟩:∃ ao c,v=.slice ao 0 c:=by
   rcases hY.2 with⟨rfl,_⟩ | ⟨g,cap,cur,rfl,_⟩<;>exact⟨_,_,rfl⟩
  subst hv
  refine znk Tryz.func117 O Tryz.ntmps117 O (Gs 13 O (G.tt O (rfl) (Gs 8 O (zlV tr117 O ⟨_,rfl,hY,rfl,Keep.refl _ _⟩))))
 obtain⟨g,cap,sp,rfl,_,dW,dF,hB,dG⟩:=ku xA (by omega) hY h0
 refine znk Tryz.func117 O Tryz.ntmps117 O (Gs 13 O (zn9 O (fun h2=>?_) (fun h2=>?_)))
 .
  refine Gs 8 O ?_
  have e1:Gr.compactL es=es:=by
   match es,h0,h2 with
   | [x],_,_=>rfl
   | x::y::r,_,h=>simp at h;omega
  refine zlV tr117 O ⟨_,rfl,by rw[e1];exact hY,rfl,Keep.refl _ _⟩
 refine Gs 9 O ?_
 have e1:Gr.compactL (es.take 1)=es.take 1:=by
  match es,h0 with
  | x::r,_=>rfl
 refine G.loop (σ:=Nat) (fun k=>[(0,.slice (some ⟨g,0,none⟩) es.length cap),(3,.int .i64 k)]) (fun k=>fun w'=>1<=k/\k<=es.length/\Gr.compactL (es.take k)=es.take k/\Ext w w') (fun k=>es.length - k) (1) (Sub.of O) (⟨by omega,by omega,e1,Keep.refl _ _⟩) ?_
 rintro k w2 ⟨dX,dY,di,dg⟩
 have dr:=dg.blk hB (fun h=>h)
 refine Gs 9 O (zn9 O (fun dZ=>?_) (fun d5=>?_))
 .
  refine Gs 5 O (Qt (by kernel_rfl) (Gs 2 O ?_))
  obtain⟨x,hx⟩:∃ e,es[k]?=some e:=⟨_,zpk (by omega)⟩
  obtain⟨y,hy⟩:∃ e,es[k - 1]?=some e:=⟨_,zpk (by omega)⟩
  refine Ga 1 O (by omega) (znf O tg3 (fun w1 dc=>(dc.cell (jw xA dr hx 0 _ O) (fun h=>h))) (Ga 4 O (by omega) (znf O tg3 (fun w1 dc=>((show Cells w2 g (0+((k:Int) - 1).toNat*1) (zc3 y) from by rw[show ((k:Int) - 1).toNat=k - 1 from by omega];exact jw xA dr hy) 0 _ O |> fun h=>dc.cell h (fun h=>h))) (Gs 1 O (znh (fun w3 dt=>?_))))))
  have dH:=dt.blk dr (fun h=>h)
  have db:(Gr.compactL (es.take k)).getLast?=some y:=by
   have:=Gr.compactL_last hy
   rwa [show k - 1+1=k from by omega]at this
  refine Gs 1 O (zn9 O (fun dI=>?_) (fun dJ=>?_))
  .
   refine Gs 4 O ?_
   have dK:x=y:=dI
   refine zna O O (zmP tR27 ts3 O O O (by omega) (by omega)) (Gs 10 O ?_)
   have dL:Gr.compactL (es.take (k+1))=es.take k:=by
    rw[Gr.compactL_take hx]
    unfold Gr.cstep
    rw[zpv (by rw[db,dK]),di]
   refine G.loop (σ:=Nat × Nat × List Int) (fun⟨q,k2,L⟩=>[(0,.slice (some ⟨g,0,none⟩) es.length cap),(3,.int .i64 q),(4,.slice (some ⟨g,0+k*1,none⟩) (es.length - k) (cap - k)),(5,.int .i64 k2)]) (fun⟨q,k2,L⟩=>fun w'=>Blk w' g (L.flatMap zc3++sp) 3/\L.length=es.length/\k<=q/\q+1<=k+k2/\1<=k2/\k2<=es.length - k/\L.take q=Gr.compactL (es.take (k+k2))/\L.drop (k+k2 - 1)=es.drop (k+k2 - 1)/\Keep (fun b=>b=g) w w') (fun⟨q,k2,L⟩=>es.length - k - k2) ((k,1,es)) (Sub.of O) (⟨dH,rfl,zpJ _,by omega,by omega,by omega,dL.symm,rfl,(dg.ext dt).mono (fun _ _ h=>h.elim)⟩) ?_
   rintro⟨q,k2,L⟩ w4 ⟨dk,hL,d6,d7,dM,dN,de,dl,du⟩
   show G _ _ _ _ _ [(0,.slice (some ⟨g,0,none⟩) es.length cap),(3,.int .i64 q),(4,.slice (some ⟨g,0+k*1,none⟩) (es.length - k) (cap - k)),(5,.int .i64 k2)] _
   have df:(L.flatMap zc3++sp).length=cap*1:=by rw[<- dG,zps,zps,kM,kM,hL]
   refine Gs 9 O (zn9 O (fun dO=>?_) (fun dQ=>?_))
   .
    refine Gs 5 O (Qt (by kernel_rfl) (Gs 2 O ?_))
    obtain⟨x2,dw⟩:∃ e,es[k+k2]?=some e:=⟨_,zpk (by omega)⟩
    obtain⟨y2,dB⟩:∃ e,es[k+k2 - 1]?=some e:=⟨_,zpk (by omega)⟩
    have dR:L[k+k2]?=some x2:=by
     have:=congrArg (fun l=>l[1]?) dl
     simp only[List.getElem?_drop]at this
     rw[show k+k2 - 1+1=k+k2 from by omega]at this
     rw[this];exact dw
    have dS:L[k+k2 - 1]?=some y2:=by
     have:=congrArg (fun l=>l[0]?) dl
     simp only[List.getElem?_drop,zrN]at this
     rw[this];exact dB
    have dC:Cells w4 g (0+k*1+(k2:Int).toNat*1) (zc3 x2):=by
     have:=jw xA dk dR
     rwa [show 0+(k+k2)*1=0+k*1+(k2:Int).toNat*1 from by rw[zpG];omega]at this
    have dT:Cells w4 g (0+k*1+((k2:Int) - 1).toNat*1) (zc3 y2):=by
     have:=jw xA dk dS
     rwa [show 0+(k+k2 - 1)*1=0+k*1+((k2:Int) - 1).toNat*1 from by omega]at this
    refine Ga 1 O (by omega) (znf O tg3 (fun w1 dc=>(dc.cell (dC 0 _ O) (fun h=>h))) (Ga 4 O (by omega) (znf O tg3 (fun w1 dc=>(dc.cell (dT 0 _ O) (fun h=>h))) (Gs 1 O (znh (fun w5 dm=>?_))))))
    have dD:=dm.blk dk (fun h=>h)
    have da:(Gr.compactL (es.take (k+k2))).getLast?=some y2:=by
     have:=Gr.compactL_last dB
     rwa [show k+k2 - 1+1=k+k2 from by omega]at this
    refine Gs 1 O (zn9 O (fun dx=>?_) (fun dy=>?_))
    .
     refine Ga 7 O (by omega) (zne O tg3 (dm.cell (dC 0 _ O) (fun h=>h)) (Ga 1 O (by omega) (zmw O (M.store ts3 O O O O dD (by rw[zpG,df];omega)) ?_)))
     rintro w6 ⟨dU,dh,dz⟩
     obtain⟨z,hz⟩:∃ z,L[q]?=some z:=⟨_,zpk (by omega)⟩
     rw[zpG,zs3,<- zrN (q*1),ze7 xA (y:=x2) (by decide) rfl L q sp hz]at dh
     refine Ga 14 O (by omega) (G.back ((q+1,k2+1,L.set q x2)) (Sub.of O) (⟨dh,by simp[hL],by omega,by omega,by omega,by omega,?_,?_,(du.ext dm).trans dz (fun _ _ h=>h)⟩) (by first | omega | (dsimp only;omega)))
     .
      rw[show k+(k2+1)=k+k2+1 from by omega,Gr.compactL_take dw,<- de]
      unfold Gr.cstep
      rw[zpu (by rw[de,da];intro h;exact dx (by cases h;rfl))]
      rw[zrH (by simp;omega)]
      simp[zrG]
     rw[zqG (by omega)]
     have:=congrArg (List.drop 1) dl
     simp only[zqD]at this
     rw[show k+(k2+1) - 1=k+k2 - 1+1 from by omega]
     exact this
    refine Ga 8 O (by omega) (G.back ((q,k2+1,L)) (Sub.of O) (⟨dD,hL,by omega,by omega,by omega,by omega,?_,?_,du.ext dm⟩) (by first | omega | (dsimp only;omega)))
    .
     rw[show k+(k2+1)=k+k2+1 from by omega,Gr.compactL_take dw,<- de]
     unfold Gr.cstep
     have:x2=y2:=by
      have:=dy
      simp only[ne_eq,zpt]at this
      exact this
     rw[zpv (by rw[de,da,this])]
    have:=congrArg (List.drop 1) dl
    simp only[zqD]at this
    rw[show k+(k2+1) - 1=k+k2 - 1+1 from by omega]
    exact this
   refine Gs 9 O (zna O O (zmP tR27 ts3 O O O (by omega) (by omega)) (zmt O (M.clear (k:=1) (zs:=List.replicate ((es.length - q)*1) (.int .i64 0)) tR27 tz3 O (by omega) (zkW _) (by simp) (by intro u hu;rw[zqJ hu];rfl) dk (by rw[zpG,df];omega)) ?_))
   rintro _ w6 ⟨rfl,dU,dh,dz⟩
   refine Gs 6 O (zna O O (zmO tR27 ts3 O O (by omega)) (Gs 9 O (zlV tr117 O ⟨_,rfl,?_,rfl,(du.trans dz (fun _ _ h=>h)).mono (fun q _ h=>by rw[h];rfl)⟩)))
   have dA:k+k2=es.length:=by omega
   rw[dA,zpp]at de
   have dV:(Gr.compactL es).length=q:=by rw[<- de,zpO];omega
   have d8:q*1<=(L.flatMap zc3++sp).length:=by rw[df];omega
   rw[dV]
   rw[zpG,zs3]at dh
   have h7:=ye (k:=1) (n:=q) (cap:=cap) dh (by omega) dF (by simp only[zps,zpO,zqX,zr1]at *;omega)
   rw[zqy,zrE (by rw[zpO];omega),List.take_take,Nat.min_self,zrE (by rw[kM];omega),kr xA,de]at h7
   exact h7
  refine Ga 8 O (by omega) (G.back (k+1) (Sub.of O) (⟨by omega,by omega,?_,dg.ext dt⟩) (by first | omega | (dsimp only;omega)))
  rw[Gr.compactL_take hx]
  unfold Gr.cstep
  rw[zpu (by rw[db];intro h;exact dJ (by cases h;rfl)),di]
  rw[zrH (by omega)]
  rw[zpk (by omega)]at hx
  cases hx
  rfl
 refine Gs 12 O ?_
 have:k=es.length:=by omega
 subst this
 rw[zpp]at di
 refine zlV tr117 O ⟨_,rfl,by rw[di];exact zm hY dg (fun _ _ h=>h),rfl,dg.mono (fun _ _ h=>h.elim)⟩
theorem ziW (t:Tm):∀ (kv uo:Value) (acc:List Int) (D:Nat->Prop) (W:World),SlR 3 RTm D W kv t.kids->(xO uo acc).holds W->(∀ q,D q->q<W.heap.size/\uo.ownBlock ≠ some q)->acc.length+(yz t).length<=1000000 ->
  Calls Tryz.prog 115 #[.agg #[.int .i64 t.op,.int .i64 t.n,kv],uo] W (Ret fun r w'=>∃ x:Value,r=x/\(xO x (acc++yz t)).holds w'/\Keep (xO uo acc).S W w'/\∀ q,(xO x (acc++yz t)).S q->((xO uo acc).S q\/W.heap.size<=q)/\q<w'.heap.size):=by
 induction t using znv with
 | h t ih =>
 intro kv uo acc D W hk hY dc de
 obtain⟨ak,ck,rfl⟩:=hk.form
 have dz:=hk.max
 have df:∀ q,(xO uo acc).S q->¬ D q:=fun q h hd=>(dc q hd).2 h
 rw[zd5,zps]at de
 refine znl Tryz.func115 O Tryz.ntmps115 O (zop 900 (.row 3 1 uo acc.length (acc.map zc)) (hY) trivial (fun _ h=>h) (fun q hq=>xB hY hq) (Vs 2 O (V.box 2 O O (fun b2=>?_))))
 refine Vs 4 O (zof (σ:=Value) [2] [2] [2] O (fun e u=>(1,u)::e) (fun e u=>(900,.row 3 1 u (acc++zT t).length ((acc++zT t).map zc))::e) (fun u=>True) (fun _=>rfl) (fun _=>rfl) ?_ ?_)
 .
  refine Vs 7 O (zlG O (fun e=>?_) (fun e=>?_))
  .
   refine Vs 4 O (V.bs 13 [(0,_)] tR27 ts3 tz3 (by decide) O O (by kernel_rfl) (fun b13=>?_))
   refine znS 900 13 tu27 Tryz.el3 O (by decide) O O (by omega) (by omega) (fun u900=>(Vs 2 O (zod 900 O (e':=.row 3 1 u900 (acc++zT t).length ((acc++zT t).map zc)) (by unfold zT;rw[zpv e,zps,zr3];rfl) (zlT (u900) (Sub.of O) (Has.of O) (True.intro) 0 O O))))
  refine zod 900 O (e':=.row 3 1 uo (acc++zT t).length ((acc++zT t).map zc)) (by unfold zT;rw[zpu e,zqz]) (Vs 1 O (zlT (uo) (Sub.of O) (Has.of O) (True.intro) 0 O O))
 rintro u -
 refine Vs 10 O (zod 900 O (e':=.row 3 1 u (acc++zT t++mentL (t.kids.take 0)).length ((acc++zT t++mentL (t.kids.take 0)).map zc)) (by rw[show acc++zT t++mentL (t.kids.take 0)=acc++zT t from zqz _]) (Vs 1 O (zoe (σ:=Nat × Value) [16,17] [] [] O (fun e ⟨i,u⟩=>(18,.int .i64 i)::(1,u)::e) (fun e ⟨i,u⟩=>(900,.row 3 1 u (acc++zT t++mentL (t.kids.take i)).length ((acc++zT t++mentL (t.kids.take i)).map zc))::e) (fun⟨i,u⟩=>i<=t.kids.length) (fun⟨i,u⟩=>t.kids.length - i) ((0,u)) (Sub.of O) (Has.of O) (fun _=>rfl) (fun _=>rfl) (fun _=>rfl) (zpz _) ?_)))
 rintro⟨i,u⟩ hi
 show V _ _ _ _ _ ((18,.int .i64 i)::(1,u)::_) _ ((900,.row 3 1 u (acc++zT t++mentL (t.kids.take i)).length ((acc++zT t++mentL (t.kids.take i)).map zc))::_) _
 refine Vs 6 O (zlG O (fun lt=>?_) (fun lt=>?_))
 .
  refine Vs 6 O ?_
  obtain⟨k,da,dg⟩:=gE_ t.kids (i) (by omega)
  obtain⟨dA,dB,dC,dh,di,dk,dl⟩:=hk.atD da
  obtain⟨dr,rfl,db⟩:=dl.get
  obtain⟨dt,du,rfl⟩:=db.form
  refine zob 1000 0 O O (fun h_=>by have dw:=df _ h_;have dx:=di;first | omega | exact dw dx) dk ?_
  refine znN 1000 tR68 ts70 O dh (by omega) (_) (rfl) O ?_
  have dm:=zco da
  have dy:=zfw t.kids (i+1)
  rw[dm,zps]at dy
  refine Vs 1 O (V.alloc 6 tz70 O O (fun b6=>?_))
  refine Vs 6 O (zo4 900 (E:=fun x=>.row 3 1 x (acc++zT t++mentL (t.kids.take i)++yz k).length ((acc++zT t++mentL (t.kids.take i)++yz k).map zc)) Tryz.call115 O (fun _=>⟨trivial,fun _ h=>h⟩) (fun w hI=>ih k dg _ _ (acc++zT t++mentL (t.kids.take i)) D w (db.keep zh hI.k0 (fun q hq _ hs=>df q hs hq)) (hI.at 900 O) (fun q hq=>⟨zrT (dc q hq).1 hI.k0.size,show ¬ (xO u (acc++zT t++mentL (t.kids.take i))).S q from hI.offD 0 900 O O (dc q hq).1 (fun h=>df q h hq)⟩) (by simp only[zps]at *;omega)) ?_)
  rintro u2 _ rfl
  refine Va 8 O (by omega) (zod 900 O (e':=.row 3 1 u2 (acc++zT t++mentL (t.kids.take (i+1))).length ((acc++zT t++mentL (t.kids.take (i+1))).map zc)) (by rw[dm,<- zqy]) (V.back (⟨i+1,u2⟩) (Sub.of O) (Has.of O) (by omega) (by first | omega | (dsimp only;omega)) 0 O O))
 obtain rfl:i=t.kids.length:=by omega
 refine zod 900 O (e':=xO u (acc++yz t)) (by rw[zpp,zd5,<- zqy]) (Vs 12 O (zlW Tryz.results115 O (fun w hI=>⟨_,rfl,⟨u,rfl,hI.at 900 rfl,hI.k0,fun q hq=>hI.inS 0 900 O O hq⟩⟩)))
theorem zhm {w:World} (u:Value) (l:List Int) (h:(xO u l).holds w) (hl:l.length<=1048576):Calls Tryz.prog 116 #[u] w (Ret fun r w'=>∃ _:Unit,r=.tuple #[]/\(xO u (jr l)).holds w'/\Keep (xO u l).S w w'/\∀ q,(xO u (jr l)).S q->((xO u l).S q\/w.heap.size<=q)/\q<w'.heap.size):=by
 refine(ziT l u l.length w h hl).mono ?_
 rintro _ w' ⟨_,rfl,rfl,h1,h2⟩
 have hY:(xO u (jr l)).holds w':=by rw[<- qD l]at h1;exact h1
 exact⟨_,rfl,(),rfl,hY,h2,fun q hq=>⟨.inl hq,xB h1 hq⟩⟩
theorem zcp {w:World} (u:Value) (l:List Int) (h:(xO u l).holds w) (hl:l.length<=1048576):Calls Tryz.prog 117 #[u] w (Ret fun r w'=>∃ x:Value,r=x/\(xO x (Gr.compactL l)).holds w'/\Keep (xO u l).S w w'/\∀ q,(xO x (Gr.compactL l)).S q->((xO u l).S q\/w.heap.size<=q)/\q<w'.heap.size):=by
 have he:∀ l:List Int,l.map zc=l.flatMap zc3:=fun l=>by rw[List.map_eq_flatMap];rfl
 have h':w.ownsRow 0 3 1 u l.length (l.flatMap zc3):=by rw[<- he];exact h
 refine(zeV l u l.length w h' hl).mono ?_
 rintro _ w' ⟨x,rfl,h1,h2,h3⟩
 rw[<- he]at h1
 exact⟨_,rfl,x,rfl,h1,h3,fun q hq=>⟨.inl (show u.ownBlock=some q from h2 ▸ hq),xB h1 hq⟩⟩
theorem zhn (f:Fl) (g:List Nd) (hk:GOk f g) (i:Nat) (hi:i<g.length) (b:Nat) (D:Nat->Prop) (W:World) (hG:GrO D W f g b) :
  Calls Tryz.prog 81 #[.pointer (some ⟨b,0,none⟩),.int .i64 i] W (Ret fun r w'=>SlR 1 zC (fun q=>W.heap.size<=q) w' r (rdV f g i)/\Ext W w'):=by
 obtain⟨v1,v2,v3,gv,sv,pv,hD,de,hf,hg,hs,hp⟩:=hG
 obtain⟨as_,cs_,rfl⟩:=hs.form
 obtain⟨ag,cg,rfl⟩:=hg.form
 have dT:(g.map (stN f)).length=g.length:=zpE _
 have dU:=hs.max
 refine znl Tryz.func81 O Tryz.ntmps81 O (znE (zob 900 0 O O (fun h=>h) de (znL 0 900 0 O O (Vs 12 O ?_))))
 obtain⟨st,da,dx⟩:=gE_ (g.map (stN f)) (i) (by omega)
 obtain⟨dN,dO,dQ,df,_,dg,dh⟩:=hs.at da
 obtain⟨dy,dz,dA,dB,rfl,dc,di,dk,dl⟩:=dh.get
 obtain⟨dC,dD,rfl⟩:=dc.form
 obtain⟨dE,dF,rfl⟩:=di.form
 obtain⟨dG,dH,rfl⟩:=dk.form
 obtain⟨dI,dJ,rfl⟩:=dl.form
 refine zoa 1000 0 O O dg ?_
 refine znN 1000 tR24 ts72 O df (by omega) (_) (rfl) O (Vs 1 O (V.alloc 5 tz72 O O (fun b5=>?_)))
 refine Vs 11 O ?_
 obtain⟨x,db,dR⟩:=gE_ g (i) (by omega)
 obtain⟨dV,dW,dX,dm,_,dr,dt⟩:=hg.at db
 obtain rfl:=dt
 refine zoa 2000 0 O O dr ?_
 refine znN 2000 tR34 ts65 O dm (by omega) (_) (rfl) O ?_
 have hx:=yQ db
 have dK:st=stN f x:=by rw[zpB,db]at da;exact(Option.some.inj da).symm
 have dL:rdV f g i=rdN f x:=by unfold rdV;rw[hx]
 have dM:rdB f x=false->SlR 1 zC (fun q=>W.heap.size<=q) W (.slice none 0 0) (rdV f g i):=fun h=>by rw[dL];unfold rdN;rw[h];exact SlR.nil
 refine Vs 4 O (zof (σ:=Unit) [5] [5] [5] O (fun e u=>e) (fun e u=>e) (fun u=>rdB f x=true) (fun _=>rfl) (fun _=>rfl) ?_ ?_)
 .
  refine Vs 8 O (zlG O (fun k3=>?_) (fun k3=>?_))
  . refine Vs 5 O (zlT (()) (Sub.of O) (Has.of O) (by unfold rdB;simp[k3]) 0 O O)
  refine Vs 5 O (zlG O (fun k5=>?_) (fun k5=>?_))
  . refine Vs 2 O (zlT (()) (Sub.of O) (Has.of O) (by unfold rdB;simp[k5]) 0 O O)
  refine Vs 6 O (zlG O (fun k2=>?_) (fun k2=>?_))
  .
   have h0:=(hk.at db (.inl k2)).1
   have hY:st=zW f x.at_:=by rw[dK];exact zpv h0
   refine Vs 6 O (V.sp 30 O (fun a0=>?_) (fun a0=>?_))
   .
    refine Vs 6 O (zlG O (fun a1=>?_) (fun a1=>?_))
    . refine Vs 9 O (zlW Tryz.results81 O (fun w hI=>⟨_,rfl,Tr1 hI.k0 (dM (by unfold rdB;rw[<- hY];simp[k2,a0,a1])),hI.k0⟩))
    refine Vs 2 O (zlT (()) (Sub.of O) (Has.of O) (by unfold rdB;rw[<- hY];simp[k2,zpt.1 a1]) 0 O O)
   refine Vs 9 O (zlT (()) (Sub.of O) (Has.of O) (by unfold rdB;rw[<- hY];simp[k2,zpt.1 a0]) 0 O O)
  refine Vs 9 O (zlW Tryz.results81 O (fun w hI=>⟨_,rfl,Tr1 hI.k0 (dM (by unfold rdB;simp[k2,k3,k5])),hI.k0⟩))
 rintro u du
 have dS:x.kind=2\/x.kind=3\/x.kind=5:=by unfold rdB at du;simp at du;omega
 obtain⟨h0,h1,h2⟩:=hk.at db dS
 have hY:st=zW f x.at_:=by rw[dK];exact zpv h0
 rw[<- hY]at h2
 have dw:rdV f g i=Gr.compactL (jr (yz st.term)):=by rw[dL];unfold rdN;rw[zpv du,<- hY]
 refine Vs 2 O (znR 901 3 1 O (Vs 3 O (zo4 901 (E:=fun x=>xO x ([]++yz st.term)) Tryz.call127 O (fun _=>⟨trivial,fun _ h=>h⟩) (fun w hI=>ziV st.term _ _ [] (fun q=>D q/\q<W.heap.size) w ((dc.narrow (by omega) zb6).ext zh hI.k0) (hI.at 901 O) (fun q hq=>⟨zrT hq.2 (hI.k0).size,fun h=>by cases h⟩) (by simp;omega)) ?_)))
 rintro u2 _ rfl
 rw[zrk]
 refine Vs 6 O (zo4 901 (E:=fun _:Unit=>xO u2 (jr (yz st.term))) Tryz.call116 O (fun _=>⟨trivial,fun _ h=>h⟩) (fun w hI=>zhm u2 (yz st.term) (hI.at 901 O) (by omega)) ?_)
 rintro _ _ rfl
 refine Vs 5 O (zo4 901 (E:=fun x=>xO x (Gr.compactL (jr (yz st.term)))) Tryz.call117 O (fun _=>⟨trivial,fun _ h=>h⟩) (fun w hI=>zcp u2 (jr (yz st.term)) (hI.at 901 O) (by rw[qD];omega)) ?_)
 rintro u3 _ rfl
 refine Vs 4 O (zlW Tryz.results81 O (fun w hI=>⟨_,rfl,by rw[dw];exact zmM zc (fun _ _=>rfl) (hI.at 901 O) (fun g hg=>hI.own 901 0 O O g hg),hI.k0⟩))
theorem zho (l:List St):plainL l=true->∀ (a n e:Nat) (G:List Nd) (P:List St),CtxG G n (layL l a n e)->CtxP P a (preL l)->∀ x ∈ layL l a n e,
  (x.kind=2->∃ s,P[x.at_.toNat]?=some s/\s.act ≠ 3/\s.act ≠ 4)/\(x.kind=4->0<=x.next/\∃ y,G[x.next.toNat]?=some y/\y.kind=5/\y.at_=x.at_)/\(x.kind=5->∃ s,P[x.at_.toNat]?=some s/\s.act=4):=by
 induction l using znx with
 | h l ih =>
 intro hp
 have key:∀ r:List St,(∀ x ∈ r,x ∈ l)->∀ (a n e:Nat) (G:List Nd) (P:List St),CtxG G n (layL r a n e)->CtxP P a (preL r)->∀ x ∈ layL r a n e,
   (x.kind=2->∃ s,P[x.at_.toNat]?=some s/\s.act ≠ 3/\s.act ≠ 4)/\(x.kind=4->0<=x.next/\∃ y,G[x.next.toNat]?=some y/\y.kind=5/\y.at_=x.at_)/\(x.kind=5->∃ s,P[x.at_.toNat]?=some s/\s.act=4):=by
  intro r
  induction r with
  | nil=>intro _ a n e G P _ _ x hx;simp[layL]at hx
  | cons s r ihr =>
   intro hm a n e G P hG hP x hx
   have hs:=yV hp s (hm s (zpo ..))
   have da:=hs
   rw[s.plainB_eq,zpW,zpW]at hs
   have h1:=(ih s (hm s (zpo ..))).1 hs.1.2
   have h2:=(ih s (hm s (zpo ..))).2 hs.2
   have hw:=s.wid_eq
   rw[layL]at hG hx
   rw[preL]at hP
   have hY:(s.lay a n (if r.isEmpty then e else n+s.wid)).length=s.wid:=by
    have h1:=zX [s] (by rw[plainL,da];rfl) a n (if r.isEmpty then e else n+s.wid)
    simpa[layL,widL] using h1
   have dc:s.pre.length=s.size:=by
    have:=yk [s]
    simpa[preL,ssize] using this
   rw[zpD]at hx
   rcases hx with hx | hx
   .
    replace hG:=hG.left
    replace hP:=hP.left
    generalize (if r.isEmpty then e else n+s.wid)=e' at hG hx hY
    rw[s.lay_eq]at hG hx
    rw[s.pre_eq]at hP
    have db:=yk s.thn
    split at hx
    .
     rename_i a3
     rw[zpv a3]at hG
     have de:=zX s.thn hs.1.2 (a+1) (n+1) e'
     rw[zpA,zpD]at hx
     rcases hx with rfl | hx | hx
     . exact⟨fun h=>by (cases h),fun h=>by (cases h),fun h=>by (cases h)⟩
     . exact h1 _ _ _ G P hG.tail.left hP.tail.left x hx
     exact h2 _ _ _ G P (hG.tail.right (by omega)) (hP.tail.right (by omega)) x hx
    rename_i a3
    split at hx
    .
     rename_i a4
     rw[zpu a3,zpv a4]at hG
     rw[zpA,zpA]at hx
     rcases hx with rfl | rfl | hx
     . exact⟨fun h=>by (cases h),fun _=>⟨zqs _,⟨5,a,if s.thn.isEmpty then (n+1:Nat) else (n+2:Nat),e'⟩,by dsimp only;rw[zpG];exact hG.tail.head,rfl,rfl⟩,fun h=>by (cases h)⟩
     . exact⟨fun h=>by (cases h),fun h=>by (cases h),fun _=>⟨s,by dsimp only;rw[zpG];exact hP.head,a4⟩⟩
     exact h1 _ _ _ G P hG.tail.tail hP.tail.left x hx
    rename_i a4
    rw[zpC]at hx
    subst hx
    exact⟨fun _=>⟨s,by dsimp only;rw[zpG];exact hP.head,a3,a4⟩,fun h=>by (cases h),fun h=>by (cases h)⟩
   exact ihr (fun y hy=>hm y (zpn _ hy)) _ _ _ G P (hG.right (by omega)) (hP.right (by omega)) x hx
 exact key l (fun x h=>h)
theorem zhp (l:List St):plainL l=true->∀ a n e:Nat,(layL l a n e).Pairwise fun x y=>x.kind=y.kind->x.at_ ≠ y.at_:=by
 induction l using znx with
 | h l ih =>
 intro hp
 have key:∀ r:List St,(∀ x ∈ r,x ∈ l)->∀ a n e:Nat,(layL r a n e).Pairwise fun x y=>x.kind=y.kind->x.at_ ≠ y.at_:=by
  intro r
  induction r with
  | nil=>intro _ a n e;simp[layL]
  | cons s r ihr =>
   intro hm a n e
   have hs:=yV hp s (hm s (zpo ..))
   have hr:plainL r=true:=zbp fun y hy=>yV hp y (hm y (zpn _ hy))
   have hY:=(jB [s] (by rw[plainL,hs];rfl) a n (if r.isEmpty then e else n+s.wid)).range
   have da:=(jB r hr (a+s.size) (n+s.wid) e).range
   rw[s.plainB_eq,zpW,zpW]at hs
   have h1:=(ih s (hm s (zpo ..))).1 hs.1.2
   have h2:=(ih s (hm s (zpo ..))).2 hs.2
   simp only[layL,List.isEmpty_nil,if_true,zqz,ssize,zrN]at hY
   rw[layL,zrn]
   refine⟨?_,ihr (fun y hy=>hm y (zpn _ hy)) _ _ _,fun x hx y hy _=>by have:=hY x hx;have:=da y hy;omega⟩
   generalize (if r.isEmpty then e else n+s.wid)=e'
   rw[s.lay_eq]
   split
   .
    have n1:=(jB s.thn hs.1.2 (a+1) (n+1) e').range
    have n2:=(jB s.els hs.2 (a+1+ssize s.thn) (n+1+widL s.thn) e').range
    exact List.Pairwise.cons (fun y hy _=>by
     rcases zpD.1 hy with hy | hy
     . have:=n1 y hy;dsimp only;omega
     .
      have:=n2 y hy;dsimp only;omega) (zrn.2 ⟨h1 _ _ _,h2 _ _ _,fun x hx y hy _=>by have:=n1 x hx;have:=n2 y hy;omega⟩)
   split
   .
    have n1:=(jB s.thn hs.1.2 (a+1) (n+2) (n+1)).range
    exact List.Pairwise.cons (fun y hy h=>by
     rcases zpA.1 hy with rfl | hy
     . cases h
     .
      have:=n1 y hy;dsimp only;omega) (List.Pairwise.cons (fun y hy _=>by have:=n1 y hy;dsimp only;omega) (h1 _ _ _))
   exact List.Pairwise.cons (fun y hy=>by cases hy) List.Pairwise.nil
 exact key l (fun x h=>h)
theorem Valid.part {f:Fl} (V:Valid f) {i:Nat} {x:Nd} (hx:(zk f)[i]?=some x) :
  (x.kind=2->(zW f x.at_).act ≠ 3/\(zW f x.at_).act ≠ 4)/\(x.kind=4->0<=x.next/\∃ y,(zk f)[x.next.toNat]?=some y/\y.kind=5/\y.at_=x.at_)/\(x.kind=5->(zW f x.at_).act=4):=by
 have hm:=zpl hx
 have hG:CtxG (zk f) 1 (layL f.body 0 1 (1+widL f.body)):=by
  intro i x hx
  have hi:=(zpy.1 hx).1
  unfold zk
  rw[show 1+i=i+1 by omega,List.getElem?_cons_succ,zpK hi];exact hx
 unfold zk at hm
 rw[zpA,zpD,zpC]at hm
 rcases hm with rfl | hm | rfl
 . exact⟨fun h=>by (cases h),fun h=>by (cases h),fun h=>by (cases h)⟩
 .
  obtain⟨p1,p2,p3⟩:=zho f.body V.plain 0 1 (1+widL f.body) (zk f) (preL f.body) hG (fun i x hx=>by rw[zs3];exact hx) x hm
  refine⟨fun h=>?_,p2,fun h=>?_⟩
  .
   obtain⟨s,h1,h2⟩:=p1 h
   unfold zW
   rw[h1];exact h2
  obtain⟨s,h1,h2⟩:=p3 h
  unfold zW
  rw[h1];exact h2
 exact⟨fun h=>by (cases h),fun h=>by (cases h),fun h=>by (cases h)⟩
theorem Valid.same {f:Fl} (V:Valid f) {i j:Nat} {x y:Nd} (hx:(zk f)[i]?=some x) (hy:(zk f)[j]?=some y) (hk:x.kind=y.kind) (he:x.at_=y.at_):i=j:=by
 have hP:(zk f).Pairwise fun x y=>x.kind=y.kind->x.at_ ≠ y.at_:=by
  have hY:=kU f.body 0 1 (1+widL f.body)
  unfold zk
  refine List.Pairwise.cons (fun y hy h=>?_) (zrn.2 ⟨zhp f.body V.plain _ _ _,by simp,fun x hx y hy h=>?_⟩)
  .
   rcases zpD.1 hy with hy | hy
   . have:=hY y hy;dsimp only at h;omega
   rw[zpC]at hy;subst hy;cases h
  rw[zpC]at hy
  have:=hY x hx
  subst hy
  dsimp only at h
  omega
 obtain⟨hi,rfl⟩:=zpy.1 hx
 obtain⟨hj,rfl⟩:=zpy.1 hy
 rcases Nat.lt_trichotomy i j with h | h | h
 . exact absurd he (zrp.1 hP i j hi hj h hk)
 . exact h
 exact absurd he.symm (zrp.1 hP j i hj hi h hk.symm)
theorem Valid.heads {f:Fl} (V:Valid f) {i j:Nat} {x y:Nd} (hx:(zk f)[i]?=some x) (hy:(zk f)[j]?=some y) (kx:x.kind=5) (ky:y.kind=5) (he:x.at_=y.at_):i=j:=V.same hx hy (kx.trans ky.symm) he
theorem ze8 (l:List St) (v:Value) (D:Nat->Prop) (W:World) (k:Int) (_:SlR 10 RSt D W v l) (hk:k<0) :
  Calls Tryz.prog 25 #[v,.int .i64 k] W (Ret fun r w'=>r=.tuple #[.agg #[.int .i64 0,.int .i64 0,.int .i64 0,.int .i64 0,.int .i64 0,.int .i64 0,.slice none 0 0,.slice none 0 0,.slice none 0 0,.slice none 0 0],.bool false]/\Ext W w'):=by
 refine znl Tryz.func25 O Tryz.ntmps25 O (znE (Vs 2 O (V.alloc 4 tz72 O O (fun b4=>?_))))
 refine Vs 10 O (zlG O (fun h=>?_) (fun h=>?_))
 . refine Vs 2 O (zol [Value.int IntKind.i64 0,Value.int IntKind.i64 0,Value.int IntKind.i64 0,Value.int IntKind.i64 0,Value.int IntKind.i64 0,Value.int IntKind.i64 0,Value.slice none 0 0,Value.slice none 0 0,Value.slice none 0 0,Value.slice none 0 0] [(0,1),(1,1),(2,1),(3,1),(4,3),(7,1),(8,1),(9,1)] [] O O (fun _=>by kernel_rfl) (Vs 6 O (zm7 tr25 tg72 ts72 O O O O (fun w hI=>⟨_,rfl,rfl,hI.k0⟩))))
 omega
end Go.Proofs.YtckdhgbepmpgiaaGreat
namespace Go.GL
theorem qE:qm RNd:=fun _ _ _ _ h=>h
end Go.GL
namespace Go.Proofs.YtckdhgbepmpgiaaGreat
open Go.GL
theorem zhq (l:List St):∀ (a n e N:Nat),n+widL l<=N->e<N->∀ x ∈ layL l a n e,(-1<=x.next/\x.next<N)/\(-1<=x.other/\x.other<N):=by
 induction l using znx with
 | h l ih =>
 have wpos:∀ r:List St,r.isEmpty=false->1<=widL r:=by
  intro r hr
  cases r with
  | nil=>simp at hr
  | cons s t=>have:=s.wid_eq;simp only[widL];omega
 have key:∀ r:List St,(∀ x ∈ r,x ∈ l)->∀ (a n e N:Nat),n+widL r<=N->e<N->∀ x ∈ layL r a n e,(-1<=x.next/\x.next<N)/\(-1<=x.other/\x.other<N):=by
  intro r
  induction r with
  | nil=>intro _ a n e N _ _ x hx;simp[layL]at hx
  | cons s r ihr =>
   intro hm a n e N hN he x hx
   have h1:=(ih s (hm s (zpo ..))).1
   have h2:=(ih s (hm s (zpo ..))).2
   have hw:=s.wid_eq
   simp only[widL]at hN
   rw[layL,zpD]at hx
   rcases hx with hx | hx
   .
    have hY:(if r.isEmpty then e else n+s.wid)<N:=by
     cases hr:r.isEmpty
     . have:=wpos r hr;simp;omega
     simpa using he
    generalize (if r.isEmpty then e else n+s.wid)=e' at hx hY
    rw[s.lay_eq]at hx
    split at hx
    .
     rename_i a3
     rw[zpu (show ¬ s.act=4 by omega)]at hw
     rw[zpA,zpD]at hx
     rcases hx with rfl | hx | hx
     .
      dsimp only
      refine⟨?_,?_⟩
      .
       cases hr:s.thn.isEmpty
       . have:=wpos _ hr;simp;omega
       simp;omega
      cases hr:s.els.isEmpty
      . have:=wpos _ hr;simp;omega
      simp;omega
     . exact h1 _ _ _ N (by omega) hY x hx
     exact h2 _ _ _ N (by omega) hY x hx
    split at hx
    .
     rename_i a4
     rw[zpv a4]at hw
     rw[zpA,zpA]at hx
     rcases hx with rfl | rfl | hx
     . dsimp only;omega
     .
      dsimp only
      refine⟨?_,by omega⟩
      cases hr:s.thn.isEmpty
      . have:=wpos _ hr;simp;omega
      simp;omega
     exact h1 _ _ _ N (by omega) (by omega) x hx
    rw[zpC]at hx
    subst hx
    dsimp only;omega
   exact ihr (fun y hy=>hm y (zpn _ hy)) _ _ _ N (by omega) he x hx
 exact key l (fun x h=>h)
theorem Valid.edge {f:Fl} (V:Valid f) {i:Nat} {x:Nd} (hx:(zk f)[i]?=some x):(∀ to,to=x.next\/to=x.other -> -1<=to/\to<(zk f).length)/\(x.kind=2->0<=x.at_/\x.at_<(preL f.body).length):=by
 have da:=yI f V.plain
 have hi:=(zpy.1 hx).1
 refine⟨?_,fun k2=>?_⟩
 .
  have hm:=zpl hx
  unfold zk at hm
  rw[zpA,zpD,zpC]at hm
  rcases hm with rfl | hm | rfl
  . dsimp only;intro to h;omega
  .
   have:=zhq f.body 0 1 (1+widL f.body) (zk f).length (by omega) (by omega) x hm
   intro to h
   rcases h with rfl | rfl<;>omega
  dsimp only;intro to h;omega
 by_cases hl:i<(zk f).length - 1
 .
  obtain⟨h1,h2⟩:=V.node (k:=(i:Int)) (by omega) (by omega)
  rw[zpG,hx]at h1
  have e:=Option.some.inj h1
  rw[<- e]at h2
  obtain⟨h3,h4,_⟩:=h2.step (by omega)
  have:=(zpy.1 h4).1
  omega
 have hY:=hx
 unfold zk at hY
 obtain⟨j,rfl⟩:∃ j,i=j+1:=⟨i - 1,by omega⟩
 rw[List.getElem?_cons_succ,zpL (by rw[zX _ V.plain];omega),zX _ V.plain]at hY
 rw[show j - widL f.body=0 by omega]at hY
 simp at hY
 subst hY
 cases k2
theorem zfx (l:List St) (v:Value) (D:Nat->Prop) (w:World) (k:Int) (s:St) (hl:SlR 10 RSt D w v l) (h0:0<=k) (hs:(preL l)[k.toNat]?=some s) (hz:ssize l<=10000) :
  Calls Tryz.prog 25 #[v,.int .i64 k] w (Ret fun r w'=>(∃ a1 c1 a2 c2 a3 c3 a4 c4,r=.tuple #[.agg #[.int .i64 s.act,.int .i64 s.cost,.int .i64 s.var,.int .i64 s.n,.int .i64 s.term.op,.int .i64 s.term.n,.slice a1 s.term.kids.length c1,.slice a2 s.thn.length c2,.slice a3 s.els.length c3,.slice a4 s.bounds.length c4],.bool true]/\RSt D w' s [.int .i64 s.act,.int .i64 s.cost,.int .i64 s.var,.int .i64 s.n,.int .i64 s.term.op,.int .i64 s.term.n,.slice a1 s.term.kids.length c1,.slice a2 s.thn.length c2,.slice a3 s.els.length c3,.slice a4 s.bounds.length c4]/\SlR 3 RTm D w' (.slice a1 s.term.kids.length c1) s.term.kids)/\Ext w w'):=by
 obtain⟨k,rfl⟩:=zqg h0
 refine(zk6 l v D w k s hl hs hz).mono fun e w'=>?_
 rintro⟨_,rfl,⟨cs,rfl,_,hR⟩,hk⟩
 have hY:=hR
 obtain⟨u1,u2,u3,u4,rfl,h1,h2,h3,h4⟩:=hR.get
 obtain⟨a1,c1,rfl⟩:=h1.form
 obtain⟨a2,c2,rfl⟩:=h2.form
 obtain⟨a3,c3,rfl⟩:=h3.form
 obtain⟨a4,c4,rfl⟩:=h4.form
 exact⟨_,rfl,⟨a1,c1,a2,c2,a3,c3,a4,c4,rfl,hY,h1⟩,hk⟩
abbrev yR (f:Fl) (r:Ins) (j:Nat):Mc:=zc7 f (yc f r) (zk f) j (zlx f r)
theorem zhr {f:Fl} {r:Ins} (vd:Valid f) (e0:zl f.vars r=0) {K:Nat} (hg:GoesAll f r K):∀ j,j<=K->MInv f j (yR f r j)
 | 0,_=>⟨jn e0,by show (0:Int)<=0/\(0:Int)<=_;omega,zpJ _,fun k=>by show (0:Int)<=0/\(0:Int)<=_;omega⟩
 | j+1,h=>by
  have h3:0<=(yR f r j).at_/\(yR f r j).at_<((zk f).length:Int) - 1:=by
   obtain⟨_,_,h2⟩:=hg
   exact h2 j (by omega)
  rw[show yR f r (j+1)=jJ f (yc f r) (zk f) (yR f r j) from zcj _ _ _ _ _]
  exact zh5 vd.good (vd.node h3.1 h3.2).2 (zhr vd e0 hg j (by omega))
def CtOk (f:Fl) (cl:List Int) (rd:Int->Int):Prop:=∀ (i:Nat) x,(zk f)[i]?=some x->x.kind=5->cl[i]?=some (rd x.at_)
theorem CtOk.set {f:Fl} (vd:Valid f) {cl:List Int} {rd:Int->Int} (h:CtOk f cl rd) (hl:cl.length=(zk f).length) {i:Nat} {x:Nd} (hx:(zk f)[i]?=some x) (hk:x.kind=5) (v:Int):CtOk f (cl.set i v) (zdg rd x.at_ v):=by
 intro q y hy ky
 have hi:=(zpy.1 hx).1
 unfold zdg
 by_cases e:y.at_=x.at_
 .
  obtain rfl:q=i:=vd.heads hy hx ky hk e
  rw[zpv e,List.getElem?_set_self (by omega)]
 rw[zpu e,List.getElem?_set_ne (fun h=>e (by subst h;rw[hx]at hy;cases hy;rfl))]
 exact h q y hy ky
theorem zkg {f:Fl} (vd:Valid f) {i:Nat} {x:Nd} (hx:(zk f)[i]?=some x):(i+1=(zk f).length->x=⟨1,-1,-1,-1⟩)/\(x.kind=0->x.at_=-1):=by
 have hY:=yI f vd.plain
 have hi:=(zpy.1 hx).1
 unfold zk at hx
 cases i with
 | zero=>simp at hx;subst hx;exact⟨fun h=>by omega,fun _=>rfl⟩
 | succ i =>
  rw[List.getElem?_cons_succ]at hx
  by_cases da:i<widL f.body
  .
   rw[zpK (by rw[zX _ vd.plain];omega)]at hx
   refine⟨fun h=>by omega,fun h=>?_⟩
   rcases kU _ _ _ _ x (zpl hx) with h' | h' | h' | h'<;>omega
  rw[zpL (by rw[zX _ vd.plain];omega),zX _ vd.plain,show i - widL f.body=0 by omega]at hx
  simp at hx;subst hx
  exact⟨fun _=>rfl,fun h=>by (cases h)⟩
end Go.Proofs.YtckdhgbepmpgiaaGreat
namespace Go.GL
open Go.RowKit
section
variable {P:Program} {n:Nat} {Q:Exit->Act->World->Prop} {ks:List Fr} {pos:Pos} {env:Env} {A:Tgs} {H Hs:Hp} {Bs B0:zF} {ops:Array Oper} {rest:List Oper} {v:Value} {L:List Nat} {fuel:Nat} {listed:Array Bool}
variable {d:Nat} {op:Op} {ty:TypeId} {ps:String} {aft:Array Edge} {g:Option (Nat × Bool)}
theorem V.opM (k:Nat) {e e':HE} {r:Value} (hn:(Nat.blt d n,gd ops env g,hget H k,qH H k)=(true,some true,some e,none)) (hl:e'.loc) (hz:∀ b,¬ e'.fz b) (hm:∀ w,VI Bs H w->yH P ⟨some d,op,ty,ps,aft,g⟩ env w (fun u w'=>u=r/\e'.holds w'/\Keep e.S w w'/\∀ q,e'.S q->(e.S q\/w.heap.size<=q)/\q<w'.heap.size))
  (h:V P n Q ks (.o ops rest) ((d,r)::env) ((d,none)::A) (yx H k e') Bs):V P n Q ks (.o ops (⟨some d,op,ty,ps,aft,g⟩::rest)) env A H Bs:=by
 simp only[Prod.mk.injEq]at hn
 refine fun hA w hI=>zmr hn.1 hn.2.1 (hm w hI) ?_
 rintro _ w' ⟨rfl,hh,hk,hS⟩
 exact h (TgOk.none (hA.res hn.2.2.1 hn.2.2.2)) w' (hI.set hn.2.2.1 hk hh hl hz hS)
end
section
variable {P:Program} {n:Nat} {Q:Exit->Act->World->Prop} {ks:List Fr} {env:Env} {A:Tgs} {H Hs:Hp} {Bs B0:zF} {ops:Array Oper} {L:List Nat} {fuel:Nat} {listed:Array Bool}
variable {d:Nat} {ty:TypeId} {ps:String} {aft:Array Edge}
theorem zoX (i i2 k2 j:Nat) (kk:List Nat) {f:FuncId} {xs:Array Operand} {ts:Array TypeId} {vs:List Value} {α:Type} {Hn:α->Hp} {Φ:Value->α->Prop} (A1:Tgs) {e2 ty2:TypeId} {ps2:String} {aft2:Array Edge} {d2:Nat} {z:Value} {cs:List Value} (hf:∀ args w,(callFunc f args).run P w=.ok (.enter f args) w)
  (hi:(ops[i]?,ops[i2]?)=(some ⟨some d,.call ⟨.value (.func f),xs,ts⟩,ty,ps,aft,none⟩,some ⟨some d2,.alloc e2,ty2,ps2,aft2,none⟩)) (hr:Region.ready .any ops listed=[i,i2]) (hn:(Nat.blt d n,Nat.blt d2 n,jc env xs.toList,(hget H k2).isNone,qA (Hs.map (·.1)))=(true,true,some vs,true,true)) (hB:Bs.drop j=B0)
  (hY:∀ x,Hs.map (fun y=>hget (Hn x++yS kk H) y.1)=Hs.map (fun y=>some y.2))
  (dg:∀ r x,A1.map (fun p=>zet ((d,r)::env) p.1)=A1.map (fun p=>jT (Hn x++yS kk H) p.2)) (dh:∀ x,A1.all (fun p=>(jT (Hn x++yS kk H) p.2).isSome)=true)
  (hz:∀ w,(zeroValue e2).run P w=.ok z w) (di:z.cells=cs.toArray)
  (hc:∀ w,VI Bs H w->Calls P f vs.toArray w (Ret fun r w'=>∃ x,Φ r x/\Hands H kk (Hn x) w w'))
  (h:∀ r x,Φ r x->VD P n Q ks ops Hs B0 L fuel (listed.setIfInBounds i true) ((d,r)::env) A1 (Hn x++yS kk H) Bs)
  (h2:∀ b,VD P n Q ks ops Hs B0 L fuel (listed.setIfInBounds i2 true) ((d2,.pointer (some ⟨b,0,none⟩))::env) ((d2,some (k2,0))::A) ((k2,.own b cs e2)::H) Bs):VD P n Q ks ops Hs B0 L (fuel+1) listed env A H Bs:=by
 simp only[Prod.mk.injEq,zs7]at hi hn
 subst hB
 obtain⟨dk,dl⟩:=hi
 obtain⟨dm,dr,hv,da,db⟩:=hn
 intro hH hA w hI
 refine zmJ i i2 (R:=fun r w'=>∃ x,Φ r x/\Hands H kk (Hn x) w w') (Rj:=fun r w'=>∃ b,r=.pointer (some ⟨b,0,none⟩)/\New w cs e2 b w') dk dl hr O O dm O O dr (.inr ⟨f,_,F.call hf (xd hv),hc w hI⟩) (.inl (M.alloc hz di)) ?_ ?_
 .
  rintro r w1 ⟨x,hP,hh⟩
  have dc:=hI.hands hh
  exact⟨fun _=>(dc.drop j).pick (Has.of (hY x)) db,h r x hP (Has.of (hY x)) (TgOk.of (dg r x) (dh x)) w1 dc⟩
 rintro _ w1 ⟨b,rfl,hb,hs,hB,hk⟩
 have de:VI Bs ((k2,.own b cs e2)::H) w1:=hI.new hk k2 hB trivial (fun _ h=>h) (fun q hq=>by have hq:q=b:=hq;omega)
 have df:Has Hs ((k2,.own b cs e2)::H):=hH.new da
 refine⟨fun _=>(de.drop j).pick df db,h2 b df ((hA.new da).push fun k' off hg=>?_) w1 de⟩
 cases hg
 exact⟨b,0,by simp[qH,hget,],rfl⟩
end
end Go.GL
namespace Go.Proofs.YtckdhgbepmpgiaaGreat
open Go.GL
abbrev FQ:=(Option Addr × Nat) × (Option Addr × Nat) × (Option Addr × Nat) × (Option Addr × Nat)
abbrev zlm (s:St) (y:FQ):Value:=.agg #[.int .i64 s.act,.int .i64 s.cost,.int .i64 s.var,.int .i64 s.n,.int .i64 s.term.op,.int .i64 s.term.n,.slice y.1.1 s.term.kids.length y.1.2,.slice y.2.1.1 s.thn.length y.2.1.2,.slice y.2.2.1.1 s.els.length y.2.2.1.2,.slice y.2.2.2.1 s.bounds.length y.2.2.2.2]
theorem zhs {H:Hp} (l:List St) (v:Value) (D:Nat->Prop) (w:World) (k:Int) (s:St) (hl:SlR 10 RSt D w v l) (h0:0<=k) (hs:(preL l)[k.toNat]?=some s) (hz:ssize l<=10000) :
  Calls Tryz.prog 25 #[v,.int .i64 k] w (Ret fun r w'=>∃ y:FQ,r=.tuple #[zlm s y,.bool true]/\Hands H [] [] w w'):=by
 refine(zfx l v D w k s hl h0 hs hz).mono ?_
 rintro _ w' ⟨_,rfl,⟨a1,c1,a2,c2,a3,c3,a4,c4,rfl,_,_⟩,hk⟩
 exact⟨_,rfl,((a1,c1),(a2,c2),(a3,c3),(a4,c4)),rfl,hk.mono fun q _ h=>h.elim,fun x hx=>(by cases hx),List.Pairwise.nil⟩
theorem jG {f:Fl} {k:Int} (h0:0<=k) (h1:k<((preL f.body).length:Int)):(preL f.body)[k.toNat]?=some (zW f k):=by
 unfold zW
 rw[zpk (show k.toNat<(preL f.body).length by omega)]
 rfl
theorem zbN (f:Fl) (g:List Nd) (hk:GOk f g) (hz:ssize f.body<=10000) (i:Nat) (hi:i<g.length) (v1 v2 v3 gv:Value) (D D':Nat->Prop) (W:World) (hf:RFl D W f v1 v2 v3) (hg:SlR 4 RNd D' W gv g) :
  Calls Tryz.prog 23 #[.agg #[v1,v2,v3],.agg #[gv],.int .i64 i] W (Ret fun r w'=>r=.int .i64 (xX f g i)/\Ext W w'):=by
 obtain⟨ag,cg,rfl⟩:=hg.form
 have dh:=hg.max
 refine znm Tryz.func23 O Tryz.ntmps23 O (znE (Vs 2 O (V.box 3 O O (fun b3=>?_))))
 refine V.box 4 O O (fun b4=>(Vs 9 O ?_))
 obtain⟨x,da,dg⟩:=gE_ g (i) (by omega)
 obtain⟨di,dk,dl,db,_,dc,de⟩:=hg.at da
 obtain rfl:=de
 refine zoa 1000 0 O O dc ?_
 refine znN 1000 tR34 ts65 O db (by omega) (_) (rfl) O ?_
 have hx:=yQ da
 refine Vs 5 O (zlG O (fun k2=>?_) (fun k2=>?_))
 . refine Vs 7 O (zlW tr23 O (fun w hI=>⟨_,rfl,by unfold xX zeR;rw[hx,zpu (by simp[k2])],hI.k0⟩))
 have k2:=zpt.1 k2
 obtain⟨h0,h1,h2⟩:=hk.at da (.inl k2)
 have hY:xX f g i=if (zW f x.at_).act=0\/(zW f x.at_).act=5 then (zW f x.at_).var else -1:=by
  unfold xX zeR
  rw[hx]
  by_cases e:(zW f x.at_).act=0\/(zW f x.at_).act=5
  . rw[zpv e,zpv (by simpa[k2] using e)]
  rw[zpu e,zpu (by simpa[k2] using e)]
 generalize df:zW f x.at_=s at *
 refine Vs 3 O (Vw [3,4,1000] [] O (Vd [0,1,2,3,4] 0 (by kernel_rfl) O O O ?_))
 refine znO 5 1000 tR34 ts65 O (by kernel_rfl) O db (by omega) (_) (rfl) O (Vd [6,7] 0 (by kernel_rfl) O O O (zoX 8 12 7 0 [] (Hn:=fun y:FQ=>[]) [(3,some (3,0)),(4,some (4,0)),(9,some (4,0)),(12,some (1000,0)),(13,some (1000,0)),(17,some (3,2)),(19,some (4,0)),(22,some (1000,0)),(23,some (1000,1))] tc25 O (by kernel_rfl) O O (fun _=>rfl) (fun _ _=>rfl) (fun _=>rfl) tz72 O (fun w hI=>zhs f.body v3 D w x.at_ s (Tr1 hI.k0 hf.body) h0 (df ▸ jG h0 h1) hz) ?_ (fun b7=>?_)))
 .
  rintro _ ⟨⟨a1,c1⟩,⟨a2,c2⟩,⟨a3,c3⟩,⟨a4,c4⟩⟩ rfl
  refine Vd [9,10,11] 0 (by kernel_rfl) O O O (znK 12 7 0 O (by kernel_rfl) O O (fun _ _=>M.alloc tz72 O) (fun b7=>?_))
  refine Ve 13 0 O (by kernel_rfl) O O O (Vd [14] 0 (by kernel_rfl) O O O (VD.done (by kernel_rfl) (Vs 8 O (V.sp 31 O (fun a0=>?_) (fun a0=>?_)))))
  . refine Vs 16 O (zlW tr23 O (fun w hI=>⟨_,rfl,by rw[hY,zpv (.inl a0)],hI.k0⟩))
  refine Vs 6 O (zlG O (fun a5=>?_) (fun a5=>?_))
  . refine Vs 9 O (zlW tr23 O (fun w hI=>⟨_,rfl,by rw[hY,zpv (.inr a5)],hI.k0⟩))
  refine Vs 8 O (zlW tr23 O (fun w hI=>⟨_,rfl,by rw[hY,zpu (fun h=>h.elim a0 a5)],hI.k0⟩))
 refine zoA 8 0 [] (Hn:=fun y:FQ=>[]) [(3,some (3,0)),(4,some (4,0)),(7,some (7,0)),(9,some (4,0)),(12,some (1000,0)),(13,some (1000,0)),(17,some (3,2)),(19,some (4,0)),(22,some (1000,0)),(23,some (1000,1))] tc25 O (by kernel_rfl) O O (fun _=>rfl) (fun _ _=>rfl) (fun _=>rfl) (fun w hI=>zhs f.body v3 D w x.at_ s (Tr1 hI.k0 hf.body) h0 (df ▸ jG h0 h1) hz) ?_
 rintro _ ⟨⟨a1,c1⟩,⟨a2,c2⟩,⟨a3,c3⟩,⟨a4,c4⟩⟩ rfl
 refine Vd [9,10,11] 0 (by kernel_rfl) O O O (Ve 13 0 O (by kernel_rfl) O O O (Vd [14] 0 (by kernel_rfl) O O O (VD.done (by kernel_rfl) (Vs 8 O (V.sp 31 O (fun a0=>?_) (fun a0=>?_))))))
 . refine Vs 16 O (zlW tr23 O (fun w hI=>⟨_,rfl,by rw[hY,zpv (.inl a0)],hI.k0⟩))
 refine Vs 6 O (zlG O (fun a5=>?_) (fun a5=>?_))
 . refine Vs 9 O (zlW tr23 O (fun w hI=>⟨_,rfl,by rw[hY,zpv (.inr a5)],hI.k0⟩))
 refine Vs 8 O (zlW tr23 O (fun w hI=>⟨_,rfl,by rw[hY,zpu (fun h=>h.elim a0 a5)],hI.k0⟩))
theorem zht (f:Fl) (g:List Nd) (hk:GOk f g) (hz:ssize f.body<=10000) (i:Nat) (hi:i<g.length) (v1 v2 v3 gv:Value) (D D':Nat->Prop) (W:World) (hf:RFl D W f v1 v2 v3) (hg:SlR 4 RNd D' W gv g) :
  Calls Tryz.prog 71 #[.agg #[v1,v2,v3],.agg #[gv],.int .i64 i] W (Ret fun r w'=>SlR 1 zC (fun q=>W.heap.size<=q) w' r (rdV f g i)/\Ext W w'):=by
 obtain⟨ag,cg,rfl⟩:=hg.form
 have dz:=hg.max
 refine znm Tryz.func71 O Tryz.ntmps71 O (znE (Vs 2 O (V.box 3 O O (fun b3=>?_))))
 refine V.box 4 O O (fun b4=>(Vs 8 O ?_))
 obtain⟨x,hY,dm⟩:=gE_ g (i) (by omega)
 obtain⟨dA,dB,dC,dc,_,de,df⟩:=hg.at hY
 obtain rfl:=df
 refine zoa 1000 0 O O de ?_
 refine znN 1000 tR34 ts65 O dc (by omega) (_) (rfl) O ?_
 have hx:=yQ hY
 obtain⟨dr,dt⟩:=hk i x hY
 have dl:rdV f g i=rdN f x:=by unfold rdV;rw[hx]
 have dg:rdB f x=false->SlR 1 zC (fun q=>W.heap.size<=q) W (.slice none 0 0) (rdV f g i):=fun h=>by rw[dl];unfold rdN;rw[h];exact SlR.nil
 refine Vs 1 O (V.alloc 7 tz65 O O (fun b7=>?_))
 refine Vs 4 O (znF (p:=x.at_<0) (fun dh=>?_) (fun dh=>?_))
 .
  have dD:=dr dh
  refine Vs 5 O (znZ tc25 O (fun w hI=>ze8 f.body v3 D w x.at_ (Tr1 hI.k0 hf.body) dh) ?_)
  have di:rdB f x=false:=zpx (by omega)
  refine Vs 3 O (V.alloc 8 tz72 O O (fun b8=>?_))
  refine Vs 11 O (V.sp 27 O (fun p1=>?_) (fun p1=>?_))
  .
   refine Vs 5 O (V.sp 32 O (fun p2=>?_) (fun p2=>?_))
   .
    refine Vs 4 O (V.sp 36 O (fun p3=>?_) (fun p3=>?_))
    . refine Vs 20 O (zlW tr71 O (fun w hI=>⟨_,rfl,Tr1 hI.k0 (dg di),hI.k0⟩))
    omega
   omega
  omega
 obtain⟨h1,h2⟩:=dt (by omega)
 have du:=jG (show 0<=x.at_ by omega) h1
 generalize da:zW f x.at_=s at *
 refine Vs 5 O (zo1 tc25 O (fun w hI=>zfx f.body v3 (fun b=>D b/\b<W.heap.size) w x.at_ s ((SlR.narrow (by omega) jd hf.body).ext zd hI.k0) (by omega) du hz) ?_)
 rintro rr w1 w2 dw dx ⟨a1,c1,a2,c2,a3,c3,a4,c4,rfl,hR,db⟩ dy
 refine Vs 3 O (V.alloc 1008 tz72 O O (fun b1008=>?_))
 refine Vs 5 O (zof (σ:=Unit) [8] [1008] [8] O (fun e u=>e) (fun e u=>e) (fun u=>rdB f x=true) (fun _=>rfl) (fun _=>rfl) ?_ ?_)
 .
  refine Vs 6 O (V.sp 27 O (fun k1_=>?_) (fun k1_=>?_))
  .
   refine Vs 5 O (V.sp 32 O (fun k2_=>?_) (fun k2_=>?_))
   .
    refine Vs 4 O (V.sp 36 O (fun k3_=>?_) (fun k3_=>?_))
    . refine Vs 21 O (zlW tr71 O (fun w hI=>⟨_,rfl,Tr1 hI.k1 (dg (by unfold rdB;rw[da];exact zpx (by omega))),hI.k1⟩))
    refine Vs 4 O (V.sp 40 O (fun k4_=>?_) (fun k4_=>?_))
    .
     refine Vs 8 O (zlG O (fun k5_=>?_) (fun k5_=>?_))
     . refine Vs 8 O (zlW tr71 O (fun w hI=>⟨_,rfl,Tr1 hI.k1 (dg (by unfold rdB;rw[da];exact zpx (by omega))),hI.k1⟩))
     refine Vs 1 O (zlT (()) (Sub.of O) (Has.of O) (by unfold rdB;rw[da];exact zpw (by omega)) 0 O O)
    refine Vs 10 O (zlT (()) (Sub.of O) (Has.of O) (by unfold rdB;rw[da];exact zpw (by omega)) 0 O O)
   refine Vs 18 O (zlT (()) (Sub.of O) (Has.of O) (by unfold rdB;rw[da];exact zpw (by omega)) 0 O O)
  refine Vs 23 O (zlT (()) (Sub.of O) (Has.of O) (by unfold rdB;rw[da];exact zpw (by omega)) 0 O O)
 rintro u di
 have dk:rdV f g i=Gr.compactL (jr (yz s.term)):=by rw[dl];unfold rdN;rw[zpv di,da]
 refine Vs 2 O (znR 901 3 1 O (Vs 3 O (zo4 901 (E:=fun x=>xO x ([]++yz s.term)) Tryz.call115 O (fun _=>⟨trivial,fun _ h=>h⟩) (fun w hI=>ziW s.term _ _ [] (fun q=>D q/\q<W.heap.size) w ((db.wide zh (fun q h=>(⟨h.1,h.2⟩:D q/\q<W.heap.size))).keep zh hI.k0 (fun b hb _ hs=>by have:=dw.hsE 0 O hs;have:=hb.2;omega)) (hI.at 901 O) (fun q hq=>⟨zrT hq.2 (hI.k1).size,fun h=>by cases h⟩) (by simp;omega)) ?_)))
 rintro u2 _ rfl
 rw[zrk]
 refine Vs 6 O (zo4 901 (E:=fun _:Unit=>xO u2 (jr (yz s.term))) Tryz.call116 O (fun _=>⟨trivial,fun _ h=>h⟩) (fun w hI=>zhm u2 (yz s.term) (hI.at 901 O) (by omega)) ?_)
 rintro _ _ rfl
 refine Vs 5 O (zo4 901 (E:=fun x=>xO x (Gr.compactL (jr (yz s.term)))) Tryz.call117 O (fun _=>⟨trivial,fun _ h=>h⟩) (fun w hI=>zcp u2 (jr (yz s.term)) (hI.at 901 O) (by rw[qD];omega)) ?_)
 rintro u3 _ rfl
 refine Vs 4 O (zlW tr71 O (fun w hI=>⟨_,rfl,by rw[dk];exact zmM zc (fun _ _=>rfl) (hI.at 901 O) (fun g hg=>hI.own 901 1 O O g hg),hI.k1⟩))
theorem verB_nat {f:Fl} {s:Sf} {n:Nat} {v:Int} {b:Bool}:kn f s (n:Int) v b ↔ s.of_[n]?=some v/\(b=true->f.vars.length<=n):=by
 unfold kn
 rw[zpG]
 constructor
 . exact fun h=>⟨h.2.1,fun hb=>by have:=h.2.2 hb;omega⟩
 exact fun h=>⟨by omega,h.1,fun hb=>by have:=h.2 hb;omega⟩
theorem zfy {f:Fl} {s:Sf} {k v:Int} {b:Bool} (h:¬ 0<=k):¬ kn f s k v b:=fun h2=>h h2.1
abbrev chk (gb:Nat) (ofv nv bv dv:Value):List Value:=[.pointer (some ⟨gb,0,none⟩),ofv,nv,bv,dv]
theorem zfz (f:Fl) (s:Sf) (k v:Int) (b gb:Nat) (ofv nv bv dv:Value) (D:Nat->Prop) (W:World) (hc:Cells W b 0 (chk gb ofv nv bv dv)) (da:SlR 1 zC D W ofv s.of_) :
  Calls Tryz.prog 82 #[.pointer (some ⟨b,0,none⟩),.int .i64 k,.int .i64 v] W (Ret fun r w'=>r=.bool (decide (kn f s k v false))/\Ext W w'):=by
 obtain⟨ao,co,rfl⟩:=da.form
 have dg:=da.max
 refine znm Tryz.func82 O Tryz.ntmps82 O (znE (zob 900 0 O O (fun h=>h) hc (znL 0 900 0 O O (Vs 10 O (V.sp 9 O (fun g0=>?_) (fun g0=>?_))))))
 .
  obtain⟨n,rfl⟩:=zqg g0
  refine Vs 10 O (V.sp 19 O (fun g1=>?_) (fun g1=>?_))
  .
   refine Vs 6 O ?_
   obtain⟨x,hY,df⟩:=gE_ s.of_ (n) (by omega)
   obtain⟨dh,di,dk,db,_,dc,de⟩:=da.at hY
   obtain rfl:=de
   refine zoa 1000 0 O O dc ?_
   refine znN 1000 tR27 ts3 O db (by omega) (_) (rfl) O (Vs 8 O (zlW Tryz.results82 O (fun w hI=>⟨_,rfl,by rw[zpM.2 (show kn f s (n:Int) v false ↔ x=v by rw[verB_nat,hY];simp)],hI.k0⟩)))
  refine Vs 15 O (zlW Tryz.results82 O (fun w hI=>⟨_,rfl,by rw[zpx (fun h=>g1 (by have:=(zpy.1 (verB_nat.1 h).1).1;omega))],hI.k0⟩))
 refine Vs 25 O (zlW Tryz.results82 O (fun w hI=>⟨_,rfl,by rw[zpx (zfy g0)],hI.k0⟩))
theorem zbO (f:Fl) (g:List Nd) (s:Sf) (k v:Int) (b gb:Nat) (ofv nv bv dv:Value) (D D':Nat->Prop) (W:World) (hc:Cells W b 0 (chk gb ofv nv bv dv)) (da:SlR 1 zC D W ofv s.of_) (hG:GrO D' W f g gb) :
  Calls Tryz.prog 80 #[.pointer (some ⟨b,0,none⟩),.int .i64 k,.int .i64 v] W (Ret fun r w'=>r=.bool (decide (kn f s k v true))/\Ext W w'):=by
 obtain⟨v1,v2,v3,gv,sv,pv,hD,hY,hf,hg,hs,hp⟩:=hG
 obtain⟨a1,c1,rfl⟩:=hf.vars.form
 obtain⟨ao,co,rfl⟩:=da.form
 refine znm Tryz.func80 O Tryz.ntmps80 O (znE (zob 900 0 O O (fun h=>h) hc (zob 901 0 O O (fun h=>h) hY (znL 0 900 0 O O (Vs 12 O (znL 11 901 0 O O (Vs 7 O (V.sp 18 O (fun g0=>?_) (fun g0=>?_)))))))))
 . refine Vs 3 O (znZ Tryz.call82 O (fun w hI=>zfz f s k v b gb _ _ _ _ D w (Tr1 hI.k0 hc) (Tr1 hI.k0 da)) (Vs 5 O (zlW Tryz.results80 O (fun w hI=>⟨_,rfl,by rw[zpM.2 (show kn f s k v true ↔ kn f s k v false by unfold kn;simp;omega)],hI.k0⟩))))
 refine Vs 9 O (zlW Tryz.results80 O (fun w hI=>⟨_,rfl,by rw[zpx (fun h=>g0 (by have:=h.2.2 rfl;omega))],hI.k0⟩))
theorem qh (f:Fl) (s:Sf) (k v:Int) (fr:Bool) (v1 v2 v3 ofv nv:Value) (D D':Nat->Prop) (W:World) (hf:RFl D' W f v1 v2 v3) (da:SlR 1 zC D W ofv s.of_) :
  Calls Tryz.prog 68 #[.agg #[v1,v2,v3],.agg #[ofv,nv],.int .i64 k,.int .i64 v,.bool fr] W (Ret fun r w'=>r=.bool (decide (kn f s k v fr))/\Ext W w'):=by
 obtain⟨a1,c1,rfl⟩:=hf.vars.form
 obtain⟨ao,co,rfl⟩:=da.form
 have dh:=da.max
 refine G.in5 Tryz.func68 O Tryz.ntmps68 O (znE (Vs 2 O (V.box 5 O O (fun b5=>?_))))
 refine V.box 6 O O (fun b6=>(Vs 8 O (V.sp 13 O (fun g0=>?_) (fun g0=>?_))))
 .
  obtain⟨n,rfl⟩:=zqg g0
  refine Vs 7 O (V.sp 20 O (fun g1=>?_) (fun g1=>?_))
  .
   refine Vs 3 O ?_
   obtain⟨x,hY,dg⟩:=gE_ s.of_ (n) (by omega)
   obtain⟨di,dk,dl,db,_,dc,de⟩:=da.at hY
   obtain rfl:=de
   refine zoa 1000 0 O O dc ?_
   refine znN 1000 tR27 ts3 O db (by omega) (_) (rfl) O (Vs 5 O (V.sp 29 O (fun g2=>?_) (fun g2=>?_)))
   .
    refine Vs 1 O (znb O (fun w hI=>zmT O (by first | exact za | rfl)) (Vs 1 O (V.sb 32 O (fun g3=>?_) (fun g3=>?_))))
    .
     have df:fr=false:=by simpa using g3
     refine Vs 11 O (zlW tr68 O (fun w hI=>⟨_,rfl,by rw[df,zpw (verB_nat.2 ⟨by rw[hY,g2],fun h=>by cases h⟩)],hI.k0⟩))
    have df:fr=true:=by simpa using g3
    refine Vs 11 O (zlW tr68 O (fun w hI=>⟨_,rfl,by rw[df,zpM.2 (show kn f s (n:Int) v true ↔ (n:Int) ≥ (f.vars.length:Int) by rw[verB_nat,hY,g2];simp)],hI.k0⟩))
   refine Vs 14 O (zlW tr68 O (fun w hI=>⟨_,rfl,by rw[zpx (fun h=>g2 (by have:=(verB_nat.1 h).1;rw[hY]at this;exact Option.some.inj this))],hI.k0⟩))
  refine Vs 23 O (zlW tr68 O (fun w hI=>⟨_,rfl,by rw[zpx (fun h=>g1 (by have:=(zpy.1 (verB_nat.1 h).1).1;omega))],hI.k0⟩))
 refine Vs 30 O (zlW tr68 O (fun w hI=>⟨_,rfl,by rw[zpx (zfy g0)],hI.k0⟩))
def qV (g:List Nd) (n:Nat) (i:Nat):List Int:=((List.range i).filter fun y:Nat=>decide ((xL g y).next=(n:Int)\/(xL g y).other=(n:Int))).map fun i:Nat=>(i:Int)
theorem zg9 (g:List Nd) (n i:Nat):qV g n (i+1)=qV g n i++if (xL g i).next=(n:Int)\/(xL g i).other=(n:Int) then [(i:Int)] else []:=by
 unfold qV
 rw[zrs,zqL,zr3]
 congr 1
 by_cases e:(xL g i).next=(n:Int)\/(xL g i).other=(n:Int)
 . rw[zpv e,zqN (by simpa using e)];rfl
 rw[zpu e,zqM (by simpa using e)];rfl
theorem ziX (g:List Nd) (n i:Nat):(qV g n i).length<=i:=by
 unfold qV
 rw[zpE]
 exact zpq (zqZ _ _) (zrS zr0)
theorem zar (g:List Nd) (dg:g.length<=1000000) (n:Nat) (gv:Value) (D:Nat->Prop) (W:World) (hg:SlR 4 RNd D W gv g) :
  Calls Tryz.prog 70 #[.agg #[gv],.int .i64 n] W (Ret fun r w'=>SlR 1 zC (fun q=>W.heap.size<=q) w' r (qU g n)/\Ext W w'):=by
 obtain⟨ag,cg,rfl⟩:=hg.form
 refine znl Tryz.func70 O Tryz.ntmps70 O (znE (Vs 2 O (V.box 2 O O (fun b2=>?_))))
 refine Vs 4 O (znR 901 3 1 O (Vs 14 O (zoe (σ:=Nat × Value) [1,9,10] [] [] O (fun e ⟨i,u⟩=>(11,.int .i64 i)::(5,u)::e) (fun e ⟨i,u⟩=>(901,.row 3 1 u (qV g n i).length ((qV g n i).map zc))::e) (fun⟨i,u⟩=>i<=g.length) (fun⟨i,u⟩=>g.length - i) ((0,_)) (Sub.of O) (Has.of O) (fun _=>rfl) (fun _=>rfl) (fun _=>rfl) (zpz _) ?_)))
 rintro⟨i,u⟩ hi
 show V _ _ _ _ _ ((11,.int .i64 i)::(5,u)::_) _ ((901,.row 3 1 u (qV g n i).length ((qV g n i).map zc))::_) _
 have dh:=ziX g n i
 have da:=zg9 g n i
 refine Vs 6 O (zlG O (fun lt=>?_) (fun lt=>?_))
 .
  refine Vs 7 O ?_
  obtain⟨x,hY,df⟩:=gE_ g (i) (by omega)
  obtain⟨di,dk,dl,db,_,dc,de⟩:=hg.at hY
  obtain rfl:=de
  refine zoa 1000 0 O O dc ?_
  refine znN 1000 tR34 ts65 O db (by omega) (_) (rfl) O ?_
  have hx:=yQ hY
  rw[hx]at da
  refine Vs 1 O (V.alloc 7 tz65 O O (fun b7=>?_))
  refine Vs 4 O (zof (σ:=Value) [1,9,10,11] [] [] O (fun e u'=>(5,u')::e) (fun e u'=>(901,.row 3 1 u' (qV g n (i+1)).length ((qV g n (i+1)).map zc))::e) (fun u'=>True) (fun _=>rfl) (fun _=>rfl) ?_ ?_)
  .
   refine Vs 7 O (V.sp 20 O (fun g1=>?_) (fun g1=>?_))
   .
    refine Vs 11 O (V.bs 28 [(0,_)] tR27 ts3 tz3 (by decide) O O (by kernel_rfl) (fun b28=>?_))
    refine znS 901 28 tu27 Tryz.el3 O (by decide) O O (by omega) (by omega) (fun u901=>(Vs 2 O (zod 901 O (e':=.row 3 1 u901 (qV g n (i+1)).length ((qV g n (i+1)).map zc)) (by rw[da,zpv (.inl g1),zps,zr3];rfl) (zlT (u901) (Sub.of O) (Has.of O) (True.intro) 0 O O))))
   refine Vs 7 O (zlG O (fun g2=>?_) (fun g2=>?_))
   .
    refine Vs 3 O (V.bs 1028 [(0,_)] tR27 ts3 tz3 (by decide) O O (by kernel_rfl) (fun b1028=>?_))
    refine znS 901 1028 tu27 Tryz.el3 O (by decide) O O (by omega) (by omega) (fun u901=>(Vs 2 O (zod 901 O (e':=.row 3 1 u901 (qV g n (i+1)).length ((qV g n (i+1)).map zc)) (by rw[da,zpv (.inr g2),zps,zr3];rfl) (zlT (u901) (Sub.of O) (Has.of O) (True.intro) 0 O O))))
   refine zod 901 O (e':=.row 3 1 u (qV g n (i+1)).length ((qV g n (i+1)).map zc)) (by rw[da,zpu (fun h=>h.elim g1 g2),zqz]) (Vs 1 O (zlT (u) (Sub.of O) (Has.of O) (True.intro) 0 O O))
  rintro u' -
  show V _ _ _ _ _ ((5,u')::_) _ ((901,.row 3 1 u' (qV g n (i+1)).length ((qV g n (i+1)).map zc))::_) _
  refine Va 6 O (by omega) (V.back (⟨i+1,u'⟩) (Sub.of O) (Has.of O) (by omega) (by first | omega | (dsimp only;omega)) 0 O O)
 obtain rfl:i=g.length:=by omega
 refine Vs 12 O (zlW Tryz.results70 O (fun w hI=>⟨_,rfl,zmM zc (fun _ _=>rfl) (show w.ownsRow 0 3 1 u (qU g n).length ((qU g n).map zc) from hI.at 901 O) (fun g hg=>hI.own 901 0 O O g hg),hI.k0⟩))
def VOk (f:Fl) (j:Nat) (v:Int):Prop:=(j<f.vars.length->v=(j:Int))/\(f.vars.length<=j->0<=v/\∃ x,f.vars[v.toNat]?=some x/\x.kind=0)
theorem ofF_iff {f:Fl} {s:Sf}:OfF f s ↔ f.vars.length<=s.of_.length/\∀ (j:Nat) v,s.of_[j]?=some v->VOk f j v :=
 ⟨fun h=>⟨h.len,fun j v hv=>⟨fun hj=>h.ini j v hv hj,fun hj=>h.new j v hv hj⟩⟩,fun h=>⟨h.1,fun j v hv hj=>(h.2 j v hv).1 hj,fun j v hv hj=>(h.2 j v hv).2 hj⟩⟩
theorem yd {α:Type} {l:List α} {P:Nat->α->Prop} {i:Nat} {x:α} (h:∀ (j:Nat) y,j<i->l[j]?=some y->P j y) (hx:l[i]?=some x) (hp:P i x):∀ (j:Nat) y,j<i+1->l[j]?=some y->P j y:=fun j y hj hy=>by
 by_cases e:j=i
 . subst e;rw[hx]at hy;cases hy;exact hp
 exact h j y (by omega) hy
theorem xP {α:Type} {l:List α} {P:Nat->α->Prop} (h:∀ (j:Nat) y,j<l.length->l[j]?=some y->P j y):∀ (j:Nat) y,l[j]?=some y->P j y:=fun j y hy=>h j y (zpy.1 hy).1 hy
theorem ze9 (f:Fl) (g:List Nd) (s:Sf) (b gb:Nat) (ofv nv bv dv:Value) (D D':Nat->Prop) (W:World) (hc:Cells W b 0 (chk gb ofv nv bv dv)) (di:SlR 1 zC D W ofv s.of_) (hG:GrO D' W f g gb) :
  Calls Tryz.prog 38 #[.pointer (some ⟨b,0,none⟩)] W (Ret fun r w'=>(∃ q:Bool,r=.bool q/\(q=true ↔ OfF f s))/\Ext W w'):=by
 obtain⟨v1,v2,v3,gv,sv,pv,hD,dc,hf,hg,hs,hp⟩:=hG
 have dt:=hf.vars
 obtain⟨a1,c1,rfl⟩:=dt.form
 obtain⟨ao,co,rfl⟩:=di.form
 have dA:=di.max
 have dh:∀ (j:Nat) v,s.of_[j]?=some v->¬ VOk f j v->((false:Bool)=true ↔ OfF f s):=fun j v hv hn=>⟨fun h=>(by cases h),fun h=>absurd ((ofF_iff.1 h).2 j v hv) hn⟩
 refine znk Tryz.func38 O Tryz.ntmps38 O (znE (zob 900 0 O O (fun h=>h) hc (zob 901 0 O O (fun h=>h) dc (znL 0 900 0 O O (Vs 11 O (znL 9 901 0 O O (Vs 21 O (zlG O (fun l0=>?_) (fun l0=>?_)))))))))
 . refine Vs 7 O (zlW tr38 O (fun w hI=>⟨_,rfl,⟨_,rfl,⟨fun h=>(by cases h),fun h=>absurd h.len (by omega)⟩⟩,hI.k0⟩))
 refine Vs 15 O (zoe (σ:=Nat) [0,3,27,28] [900,901] [0] O (fun e i=>(29,.int .i64 i)::e) (fun e i=>e) (fun i=>i<=s.of_.length/\∀ (j:Nat) v,j<i->s.of_[j]?=some v->VOk f j v) (fun i=>s.of_.length - i) (0) (Sub.of O) (Has.of O) (fun _=>rfl) (fun _=>rfl) (fun _=>rfl) (⟨zpz _,fun j v h=>absurd h (zrZ _)⟩) ?_)
 rintro i ⟨hi,db⟩
 refine Vs 6 O (zlG O (fun lt=>?_) (fun lt=>?_))
 .
  refine Vs 7 O ?_
  obtain⟨v,hY,dw⟩:=gE_ s.of_ (i) (by omega)
  obtain⟨dB,dC,dD,dk,_,dl,dm⟩:=di.at hY
  obtain rfl:=dm
  refine zoa 1000 0 O O dl ?_
  refine znN 1000 tR27 ts3 O dk (by omega) (_) (rfl) O (Vs 12 O (V.sp 37 O (fun a1=>?_) (fun a1=>?_)))
  .
   refine Vs 6 O (zlG O (fun a2=>?_) (fun a2=>?_))
   . refine Vs 12 O (zlW tr38 O (fun w hI=>⟨_,rfl,⟨_,rfl,dh i v hY fun h=>a2 (h.1 (by omega))⟩,hI.k0⟩))
   have dr:=yd db hY ⟨fun _=>zpt.1 a2,fun h=>by omega⟩
   refine Vs 8 O (V.sp 45 O (fun b1=>?_) (fun b1=>?_))
   . omega
   refine Va 33 O (by omega) (V.back (i+1) (Sub.of O) (Has.of O) (⟨by omega,dr⟩) (by first | omega | (dsimp only;omega)) 0 O O)
  refine Vs 15 O (V.sp 45 O (fun b1=>?_) (fun b1=>?_))
  .
   refine Vs 3 O (V.sp 48 O (fun b2=>?_) (fun b2=>?_))
   . refine Vs 34 O (zlW tr38 O (fun w hI=>⟨_,rfl,⟨_,rfl,dh i v hY fun h=>by have:=(h.2 (by omega)).1;omega⟩,hI.k0⟩))
   obtain⟨m,rfl⟩:=zqg (show 0<=v by omega)
   refine Vs 5 O (V.sp 53 O (fun b3=>?_) (fun b3=>?_))
   .
    refine Vs 29 O ?_
    have hb:¬ VOk f i (m:Int):=fun h=>by
     obtain⟨_,x,hx,_⟩:=h.2 (by omega)
     have:=(zpy.1 hx).1
     omega
    refine zlW tr38 O (fun w hI=>⟨_,rfl,⟨_,rfl,dh i m hY hb⟩,hI.k0⟩)
   refine Vs 4 O (znL 57 901 0 O O (Vs 5 O ?_))
   obtain⟨vr,da,du⟩:=gE_ f.vars (m) (by omega)
   obtain⟨dx,dy,dz,de,_,df,dg⟩:=dt.at da
   obtain rfl:=dg
   refine zoa 2000 0 O O df ?_
   refine znN 2000 tR22 ts142 O de (by omega) (_) (rfl) O (Vs 7 O (zlG O (fun b4=>?_) (fun b4=>?_)))
   .
    have hb:¬ VOk f i (m:Int):=fun h=>by
     obtain⟨_,x,hx,h0⟩:=h.2 (by omega)
     rw[zpG,da]at hx
     cases hx
     exact b4 h0
    refine Vs 11 O (zlW tr38 O (fun w hI=>⟨_,rfl,⟨_,rfl,dh i m hY hb⟩,hI.k0⟩))
   have dr:=yd db hY ⟨fun h=>by omega,fun _=>⟨by omega,vr,da,zpt.1 b4⟩⟩
   refine Va 7 O (by omega) (V.back (i+1) (Sub.of O) (Has.of O) (⟨by omega,dr⟩) (by first | omega | (dsimp only;omega)) 0 O O)
  omega
 obtain rfl:i=s.of_.length:=by omega
 refine Vs 11 O (zlW tr38 O (fun w hI=>⟨_,rfl,⟨_,rfl,⟨fun _=>ofF_iff.2 ⟨by omega,xP db⟩,fun _=>rfl⟩⟩,hI.k0⟩))
structure PhOne (f:Fl) (g:List Nd) (s:Sf) (n:Nat) (p:Phn):Prop where
 ver:kn f s p.ver p.var true
 frm:p.frm=qU g n
 len:p.args.length=p.frm.length
 args:∀ a ∈ p.args,kn f s a p.var false
structure PhTo (f:Fl) (g:List Nd) (s:Sf) (n:Nat) (l:List Phn) (i:Nat):Prop where
 asc:(l.take i).Pairwise fun p q=>p.var<q.var
 one:∀ p ∈ l.take i,PhOne f g s n p
theorem PhTo.start {f:Fl} {g:List Nd} {s:Sf} {n:Nat} {l:List Phn}:PhTo f g s n l 0:=⟨List.Pairwise.nil,fun p h=>by cases h⟩
theorem PhTo.next {f:Fl} {g:List Nd} {s:Sf} {n:Nat} {l:List Phn} {i:Nat} {p:Phn} (h:PhTo f g s n l i) (hp:l[i]?=some p) (hv:0<i->∃ q,l[i - 1]?=some q/\q.var<p.var) (h1:PhOne f g s n p):PhTo f g s n l (i+1):=by
 refine⟨?_,fun q hq=>?_⟩
 .
  rw[ze hp]
  refine zrn.2 ⟨h.asc,zrq _ _,fun x hx y hy=>?_⟩
  rw[zpC]at hy
  subst hy
  obtain⟨k,hk⟩:=zre.1 hx
  have da:=(zpy.1 hk).1
  rw[zpO]at da
  obtain⟨q,hq,db⟩:=hv (by omega)
  by_cases e:k=i - 1
  .
   subst e
   rw[List.getElem?_take_of_lt (by omega),hq]at hk
   cases hk
   exact db
  have hY:(l.take i)[i - 1]?=some q:=by rw[List.getElem?_take_of_lt (by omega)];exact hq
  have:=zrp.1 h.asc k (i - 1) (by rw[zpO];omega) (by have:=(zpy.1 hY).1;exact this) (by omega)
  rw[(zpy.1 hk).2,(zpy.1 hY).2]at this
  omega
 rw[ze hp,zpD,zpC]at hq
 rcases hq with hq | rfl
 . exact h.one q hq
 exact h1
theorem PhTo.done {f:Fl} {g:List Nd} {s:Sf} {n:Nat} {l:List Phn} (h:PhTo f g s n l l.length) (h0:n=0->l=[]):PhiF f g s n l:=by
 have ha:=h.asc
 have ho:=h.one
 rw[zpp]at ha ho
 exact⟨h0,ha,fun p hp=>(ho p hp).ver,fun p hp=>(ho p hp).frm,fun p hp=>(ho p hp).len,fun p hp=>(ho p hp).args⟩
theorem PhiF.bad {f:Fl} {g:List Nd} {s:Sf} {n:Nat} {l:List Phn} {p:Phn} (h:PhiF f g s n l) (hp:p ∈ l):PhOne f g s n p:=⟨h.ver p hp,h.frm p hp,h.len p hp,h.args p hp⟩
theorem ziY (f:Fl) (g:List Nd) (s:Sf) (n:Nat) (hn:n<g.length) (l:List Phn) (b gb:Nat) (lv ofv nv bv dv:Value) (D D' Dl:Nat->Prop) (W:World) (hc:Cells W b 0 (chk gb ofv nv bv dv)) (dy:SlR 1 zC D W ofv s.of_) (hG:GrO D' W f g gb) (hl:SlR 4 zkf Dl W lv l) :
  Calls Tryz.prog 78 #[.pointer (some ⟨b,0,none⟩),.int .i64 n,lv] W (Ret fun r w'=>(∃ q:Bool,r=.bool q/\(q=true ↔ PhiF f g s n l))/\Ext W w'):=by
 have dU:=hG
 obtain⟨v1,v2,v3,gv,sv,pv,hD,dz,hf,hg,hs,dD⟩:=dU
 obtain⟨apr,cpr,rfl⟩:=dD.form
 obtain⟨al,cl,rfl⟩:=hl.form
 have dV:(zeU g).length=g.length:=by simp[zeU]
 have dW:=dD.max
 have ep:=hl.max
 have dX:=dy.max
 have dl:∀ p ∈ l,¬ PhOne f g s n p->((false:Bool)=true ↔ PhiF f g s n l):=fun p hp hb=>⟨fun h=>(by cases h),fun h=>absurd (h.bad hp) hb⟩
 refine znm Tryz.func78 O Tryz.ntmps78 O (znE (zob 900 0 O O (fun h=>h) hc (zob 901 0 O O (fun h=>h) dz (znL 0 900 0 O O (Vs 6 O (zof (σ:=Unit) [0,1,2] [900,901] [0] O (fun e u=>e) (fun e u=>e) (fun u=>n=0->l=[]) (fun _=>rfl) (fun _=>rfl) ?_ ?_))))))
 .
  refine Vs 5 O (V.sp 13 O (fun z1=>?_) (fun z1=>?_))
  .
   refine Vs 6 O (zlG O (fun z2=>?_) (fun z2=>?_))
   . refine Vs 8 O (zlW tr78 O (fun w hI=>⟨_,rfl,⟨_,rfl,⟨fun h=>(by cases h),fun h=>absurd (h.zero (by omega)) (fun e=>by rw[e]at z2;simp at z2)⟩⟩,hI.k0⟩))
   refine Vs 1 O (zlT (()) (Sub.of O) (Has.of O) (fun _=>zqY.1 (by omega)) 0 O O)
  refine Vs 8 O (zlT (()) (Sub.of O) (Has.of O) (fun e=>absurd (by rw[e];rfl) z1) 0 O O)
 rintro u h0
 refine Vs 10 O (zoe (σ:=Nat) [0,1,2,18,19] [900,901] [0] O (fun e i=>(20,.int .i64 i)::e) (fun e i=>e) (fun i=>i<=l.length/\PhTo f g s n l i) (fun i=>l.length - i) (0) (Sub.of O) (Has.of O) (fun _=>rfl) (fun _=>rfl) (fun _=>rfl) (⟨zpz _,PhTo.start⟩) ?_)
 rintro i ⟨hi,dE⟩
 refine Vs 6 O (zlG O (fun lt=>?_) (fun lt=>?_))
 .
  refine Vs 7 O ?_
  obtain⟨p,da,hY⟩:=gE_ l (i) (by omega)
  obtain⟨er,eu,ew,dF,_,dG,dH⟩:=hl.at da
  obtain⟨dY,dZ,rfl,dg,dh⟩:=dH
  obtain⟨d5,d6,rfl⟩:=dg.form
  obtain⟨d7,d8,rfl⟩:=dh.form
  refine zoa 1000 0 O O dG ?_
  refine znN 1000 tR56 ts88 O dF (by omega) (_) (rfl) O ?_
  have d9:=dh.max
  have ea:=dg.max
  obtain⟨pr,db,dQ⟩:=gE_ (zeU g) (n) (by omega)
  obtain⟨eb,ec,ed,dm,_,dA,dB⟩:=dD.at db
  obtain⟨dR,rfl,dc⟩:=dB
  obtain⟨dS,dT,rfl⟩:=dc.form
  refine zoa 2000 0 O O dA ?_
  have di:pr=qU g n:=by rw[zfv hn]at db;exact(Option.some.inj db).symm
  refine Vs 1 O (V.alloc 8 tz88 O O (fun b8=>?_))
  refine Vs 6 O (znF (p:=0<i) (fun ci=>?_) (fun ci=>?_))
  .
   obtain⟨q,dk,ee⟩:=gE_ l ((i-1)) (by omega)
   obtain⟨ey,ez,eA,dI,_,dJ,dK⟩:=hl.at dk
   obtain⟨ef,eg,rfl,dL,dM⟩:=dK
   obtain⟨eh,ei,rfl⟩:=dL.form
   obtain⟨ej,ek,rfl⟩:=dM.form
   refine zoa 3000 0 O O dJ (Vw [900,901,1000,2000,8,3000] [] O (Vd [0,1,2] 0 (by kernel_rfl) O O O (VD.sp 27 O (fun c1=>?_) (fun c1=>?_))))
   .
    refine Vb [3,4,5,6,7] 0 (by kernel_rfl) O O O (by omega) (znO 8 3000 tR56 ts88 O (by kernel_rfl) O dI (by omega) (i - 1) (by omega) O (Vd [9,10,11,12,13] 0 (by kernel_rfl) O O O (VD.sp 38 O (fun c2=>?_) (fun c2=>?_))))
    .
     have dN:¬ PhiF f g s n l:=fun h=>by
      have:=zrp.1 h.asc (i - 1) i (zpy.1 dk).1 (zpy.1 da).1 (by omega)
      rw[(zpy.1 dk).2,(zpy.1 da).2]at this
      omega
     refine Vd [14,15,16,17,18] 0 (by kernel_rfl) O O O (VD.skip 19 0 O (by kernel_rfl) O O (Vd [20,21,22,23,24,25,26,27,28,29,30,31,32,33,34] 0 (by kernel_rfl) O O O (VD.skip 35 0 O (by kernel_rfl) O O (Vd [36,37,38,39,40,41,42,43,44,45,46] 0 (by kernel_rfl) O O O (VD.done (by kernel_rfl) (Vs 14 O (zlW tr78 O (fun w hI=>⟨_,rfl,⟨_,rfl,⟨fun h=>(by cases h),fun h=>absurd h dN⟩⟩,hI.k0⟩))))))))
    have dO:0<i->∃ q,l[i - 1]?=some q/\q.var<p.var:=fun _=>⟨q,dk,by omega⟩
    refine Vd [14,15,16,17,18] 0 (by kernel_rfl) O O O (zo0 19 0 Tryz.call80 O (by kernel_rfl) O O (fun w hI=>zbO f g s p.ver p.var b gb _ _ _ _ D D' w (Tr1 hI.k0 hc) (Tr1 hI.k0 dy) (Tr1 hI.k0 hG)) (znc 20 0 O (by kernel_rfl) O O (fun w hI=>zmT O za) (Vd [21,22] 0 (by kernel_rfl) O O O (VD.sp 47 O (fun c3=>?_) (fun c3=>?_)))))
    . refine Vd [23,24,25,26,27,28,29,30,31,32,33,34] 0 (by kernel_rfl) O O O (VD.skip 35 0 O (by kernel_rfl) O O (Vd [36,37,38,39,40,41,42,43,44,45,46] 0 (by kernel_rfl) O O O (VD.done (by kernel_rfl) (Vs 14 O (zlW tr78 O (fun w hI=>⟨_,rfl,⟨_,rfl,dl p hY fun h=>c3 h.ver⟩,hI.k0⟩))))))
    have c3:=zpt.1 c3
    refine Vd [23,24,25,26,27,28] 0 (by kernel_rfl) O O O (znM 53 901 0 O O (Vd [29,30,31,32] 0 (by kernel_rfl) O O O (znO 33 2000 tR89 ts27 O (by kernel_rfl) O dm (by omega) (n) (by omega) O (Vd [34] 0 (by kernel_rfl) O O O (zo0 35 0 Tryz.call69 O (by kernel_rfl) O O (fun w hI=>zaT p.frm pr _ _ _ _ w (Tr1 hI.k0 dg) (Tr1 hI.k0 dc)) (znc 36 0 O (by kernel_rfl) O O (fun w hI=>zmT O za) (Vd [37,38] 0 (by kernel_rfl) O O O (VD.sp 63 O (fun c4=>?_) (fun c4=>?_)))))))))
    . refine Vd [39,40,41,42,43,44,45,46] 0 (by kernel_rfl) O O O (VD.done (by kernel_rfl) (Vs 14 O (zlW tr78 O (fun w hI=>⟨_,rfl,⟨_,rfl,dl p hY fun h=>c4 (by rw[di];exact h.frm)⟩,hI.k0⟩))))
    have c4:=zpt.1 c4
    refine Vd [39,40,41,42,43,44,45,46] 0 (by kernel_rfl) O O O (VD.done (by kernel_rfl) (Vs 1 O (zlG O (fun c5=>?_) (fun c5=>?_))))
    . refine Vs 12 O (zlW tr78 O (fun w hI=>⟨_,rfl,⟨_,rfl,dl p hY fun h=>c5 (by have:=h.len;omega)⟩,hI.k0⟩))
    refine Vs 11 O (zoe (σ:=Nat) [0,1,2,8,18,19,20,73,74] [8,900,901] [0,8] O (fun e j=>(75,.int .i64 j)::e) (fun e j=>e) (fun j=>j<=p.args.length/\∀ (q:Nat) a,q<j->p.args[q]?=some a->kn f s a p.var false) (fun j=>p.args.length - j) (0) (Sub.of O) (Has.of O) (fun _=>rfl) (fun _=>rfl) (fun _=>rfl) (⟨zpz _,fun q a h=>absurd h (zrZ _)⟩) ?_)
    rintro j ⟨hj,de⟩
    refine Vs 6 O (zlG O (fun lj=>?_) (fun lj=>?_))
    .
     refine Vs 6 O ?_
     obtain⟨a,df,dr⟩:=gE_ p.args (j) (by omega)
     obtain⟨em,en,eo,dt,_,du,dw⟩:=dh.at df
     obtain rfl:=dw
     refine zoa 4000 0 O O du ?_
     refine znN 4000 tR27 ts3 O dt (by omega) (_) (rfl) O (Vs 10 O (znZ Tryz.call82 O (fun w hI=>zfz f s a p.var b gb _ _ _ _ D w (Tr1 hI.k0 hc) (Tr1 hI.k0 dy)) (znb O (fun w hI=>zmT O (by first | exact za | rfl)) (Vs 2 O (zlG O (fun c6=>?_) (fun c6=>?_))))))
     . refine Vs 15 O (zlW tr78 O (fun w hI=>⟨_,rfl,⟨_,rfl,dl p hY fun h=>c6 (h.args a dr)⟩,hI.k0⟩))
     have dx:=yd de df (zpt.1 c6)
     refine Va 7 O (by omega) (V.back (j+1) (Sub.of O) (Has.of O) (⟨by omega,dx⟩) (by first | omega | (dsimp only;omega)) 0 O O)
    obtain rfl:j=p.args.length:=by omega
    have h1:PhOne f g s n p:=⟨c3,by rw[c4,di],by omega,fun a ha=>by obtain⟨q,hq⟩:=zre.1 ha;exact xP de q a hq⟩
    have dx:=dE.next da dO h1
    refine Va 10 O (by omega) (V.back (i+1) (Sub.of O) (Has.of O) (⟨by omega,dx⟩) (by first | omega | (dsimp only;omega)) 0 O O)
   omega
  refine Vw [900,901,1000,2000,8] [] O (Vd [0,1,2] 0 (by kernel_rfl) O O O (VD.sp 27 O (fun c1=>?_) (fun c1=>?_)))
  . omega
  have dO:0<i->∃ q,l[i - 1]?=some q/\q.var<p.var:=fun h=>by omega
  refine Vd [3,4,5,6,7,8,9,10,11,12,13,14,15,16,17,18] 0 (by kernel_rfl) O O O (zo0 19 0 Tryz.call80 O (by kernel_rfl) O O (fun w hI=>zbO f g s p.ver p.var b gb _ _ _ _ D D' w (Tr1 hI.k0 hc) (Tr1 hI.k0 dy) (Tr1 hI.k0 hG)) (znc 20 0 O (by kernel_rfl) O O (fun w hI=>zmT O za) (Vd [21,22] 0 (by kernel_rfl) O O O (VD.sp 47 O (fun c3=>?_) (fun c3=>?_)))))
  . refine Vd [23,24,25,26,27,28,29,30,31,32,33,34] 0 (by kernel_rfl) O O O (VD.skip 35 0 O (by kernel_rfl) O O (Vd [36,37,38,39,40,41,42,43,44,45,46] 0 (by kernel_rfl) O O O (VD.done (by kernel_rfl) (Vs 14 O (zlW tr78 O (fun w hI=>⟨_,rfl,⟨_,rfl,dl p hY fun h=>c3 h.ver⟩,hI.k0⟩))))))
  have c3:=zpt.1 c3
  refine Vd [23,24,25,26,27,28] 0 (by kernel_rfl) O O O (znM 53 901 0 O O (Vd [29,30,31,32] 0 (by kernel_rfl) O O O (znO 33 2000 tR89 ts27 O (by kernel_rfl) O dm (by omega) (n) (by omega) O (Vd [34] 0 (by kernel_rfl) O O O (zo0 35 0 Tryz.call69 O (by kernel_rfl) O O (fun w hI=>zaT p.frm pr _ _ _ _ w (Tr1 hI.k0 dg) (Tr1 hI.k0 dc)) (znc 36 0 O (by kernel_rfl) O O (fun w hI=>zmT O za) (Vd [37,38] 0 (by kernel_rfl) O O O (VD.sp 63 O (fun c4=>?_) (fun c4=>?_)))))))))
  . refine Vd [39,40,41,42,43,44,45,46] 0 (by kernel_rfl) O O O (VD.done (by kernel_rfl) (Vs 14 O (zlW tr78 O (fun w hI=>⟨_,rfl,⟨_,rfl,dl p hY fun h=>c4 (by rw[di];exact h.frm)⟩,hI.k0⟩))))
  have c4:=zpt.1 c4
  refine Vd [39,40,41,42,43,44,45,46] 0 (by kernel_rfl) O O O (VD.done (by kernel_rfl) (Vs 1 O (zlG O (fun c5=>?_) (fun c5=>?_))))
  . refine Vs 12 O (zlW tr78 O (fun w hI=>⟨_,rfl,⟨_,rfl,dl p hY fun h=>c5 (by have:=h.len;omega)⟩,hI.k0⟩))
  refine Vs 11 O (zoe (σ:=Nat) [0,1,2,8,18,19,20,73,74] [8,900,901] [0,8] O (fun e j=>(75,.int .i64 j)::e) (fun e j=>e) (fun j=>j<=p.args.length/\∀ (q:Nat) a,q<j->p.args[q]?=some a->kn f s a p.var false) (fun j=>p.args.length - j) (0) (Sub.of O) (Has.of O) (fun _=>rfl) (fun _=>rfl) (fun _=>rfl) (⟨zpz _,fun q a h=>absurd h (zrZ _)⟩) ?_)
  rintro j ⟨hj,de⟩
  refine Vs 6 O (zlG O (fun lj=>?_) (fun lj=>?_))
  .
   refine Vs 6 O ?_
   obtain⟨a,df,dr⟩:=gE_ p.args (j) (by omega)
   obtain⟨em,en,eo,dt,_,du,dw⟩:=dh.at df
   obtain rfl:=dw
   refine zoa 5000 0 O O du ?_
   refine znN 5000 tR27 ts3 O dt (by omega) (_) (rfl) O (Vs 10 O (znZ Tryz.call82 O (fun w hI=>zfz f s a p.var b gb _ _ _ _ D w (Tr1 hI.k0 hc) (Tr1 hI.k0 dy)) (znb O (fun w hI=>zmT O (by first | exact za | rfl)) (Vs 2 O (zlG O (fun c6=>?_) (fun c6=>?_))))))
   . refine Vs 15 O (zlW tr78 O (fun w hI=>⟨_,rfl,⟨_,rfl,dl p hY fun h=>c6 (h.args a dr)⟩,hI.k0⟩))
   have dx:=yd de df (zpt.1 c6)
   refine Va 7 O (by omega) (V.back (j+1) (Sub.of O) (Has.of O) (⟨by omega,dx⟩) (by first | omega | (dsimp only;omega)) 0 O O)
  obtain rfl:j=p.args.length:=by omega
  have h1:PhOne f g s n p:=⟨c3,by rw[c4,di],by omega,fun a ha=>by obtain⟨q,hq⟩:=zre.1 ha;exact xP de q a hq⟩
  have dx:=dE.next da dO h1
  refine Va 10 O (by omega) (V.back (i+1) (Sub.of O) (Has.of O) (⟨by omega,dx⟩) (by first | omega | (dsimp only;omega)) 0 O O)
 obtain rfl:i=l.length:=by omega
 have dC:=dE.done h0
 refine Vs 11 O (zlW tr78 O (fun w hI=>⟨_,rfl,⟨_,rfl,⟨fun _=>dC,fun _=>rfl⟩⟩,hI.k0⟩))
theorem zga (f:Fl) (g:List Nd) (s:Sf) (hk:GOk f g) (dM:s.nodes.length=g.length) (b gb:Nat) (ofv nv bv dv:Value) (D D':Nat->Prop) (W:World) (hc:Cells W b 0 (chk gb ofv nv bv dv)) (hS:RSf D W s ofv nv) (hG:GrO D' W f g gb) :
  Calls Tryz.prog 39 #[.pointer (some ⟨b,0,none⟩)] W (Ret fun r w'=>(∃ q:Bool,r=.bool q/\(q=true ↔ ∀ (n:Nat) x,s.nodes[n]?=some x->NodF f g s (rdV f g) n x))/\Ext W w'):=by
 have dw:=hS.of_
 have dx:=hS.nodes
 have ea:=dx.max
 obtain⟨an,cn,rfl⟩:=dx.form
 have dg:∀ (n:Nat) x,s.nodes[n]?=some x->¬ NodF f g s (rdV f g) n x->((false:Bool)=true ↔ ∀ (n:Nat) x,s.nodes[n]?=some x->NodF f g s (rdV f g) n x):=fun n x hx hb=>⟨fun h=>(by cases h),fun h=>absurd (h n x hx) hb⟩
 refine znk Tryz.func39 O Tryz.ntmps39 O (znE (zob 900 0 O O (fun h=>h) hc (znL 0 900 0 O O (Vs 18 O (zoe (σ:=Nat) [0,13,14] [900] [0] O (fun e n=>(15,.int .i64 n)::e) (fun e n=>e) (fun n=>n<=s.nodes.length/\∀ (j:Nat) x,j<n->s.nodes[j]?=some x->NodF f g s (rdV f g) j x) (fun n=>s.nodes.length - n) (0) (Sub.of O) (Has.of O) (fun _=>rfl) (fun _=>rfl) (fun _=>rfl) (⟨zpz _,fun j x h=>absurd h (zrZ _)⟩) ?_)))))
 rintro n ⟨hn,dh⟩
 refine Vs 6 O (zlG O (fun lt=>?_) (fun lt=>?_))
 .
  refine Vs 7 O ?_
  obtain⟨x,hY,dN⟩:=gE_ s.nodes (n) (by omega)
  obtain⟨eb,ec,ed,dy,_,dz,dA⟩:=dx.at hY
  obtain⟨dO,dQ,rfl,di,de⟩:=dA
  obtain⟨dR,dS,rfl⟩:=di.form
  obtain⟨dT,dU,rfl⟩:=de.form
  refine zoa 1000 0 O O dz ?_
  refine znN 1000 tR28 ts59 O dy (by omega) (_) (rfl) O ?_
  have ee:=de.max
  have dB:n<g.length:=by omega
  refine Vs 1 O (V.alloc 4 tz59 O O (fun b4=>?_))
  refine Vs 11 O (zo1 Tryz.call78 O (fun w hI=>ziY f g s n dB x.phis b gb _ _ _ _ _ D D' D w (Tr1 hI.k0 hc) (Tr1 hI.k0 dw) (Tr1 hI.k0 hG) (Tr1 hI.k0 di)) ?_)
  rintro r1 w1 w2 ef dV ⟨q,rfl,hq⟩ dW
  refine znb O (fun w hI=>zmT O (by first | exact za | rfl)) (Vs 2 O (V.bool O (fun p1=>?_) (fun p1=>?_)))
  .
   have hb:¬ PhiF f g s n x.phis:=fun h=>by have:=hq.2 h;rw[this]at p1;cases p1
   refine Vs 12 O (zlW tr39 O (fun w hI=>⟨_,rfl,⟨_,rfl,dg n x hY fun h=>hb h.phi⟩,hI.k1⟩))
  have dC:=hq.1 (by simpa using p1)
  refine Vs 9 O (znZ Tryz.call79 O (fun w hI=>zbM f g hk n dB gb D' w (Tr1 hI.k1 hG)) (Vs 4 O (zof (σ:=Unit) [0,3,4,13,14,15] [4,900] [0,4] O (fun e u=>e) (fun e u=>e) (fun u=>(xX f g n<0->x.dfn=-1)/\(0<=xX f g n->kn f s x.dfn (xX f g n) true)) (fun _=>rfl) (fun _=>rfl) ?_ ?_)))
  .
   refine Vs 5 O (V.sp 34 O (fun d1=>?_) (fun d1=>?_))
   .
    refine Vs 5 O (V.sp 39 O (fun d2=>?_) (fun d2=>?_))
    . refine Vs 27 O (zlW tr39 O (fun w hI=>⟨_,rfl,⟨_,rfl,dg n x hY fun h=>d2 (h.no d1)⟩,hI.k1⟩))
    refine Vs 3 O (V.sp 42 O (fun d3=>?_) (fun d3=>?_))
    . omega
    refine Vs 12 O (zlT (()) (Sub.of O) (Has.of O) (⟨fun _=>zpt.1 d2,fun h=>by omega⟩) 0 O O)
   refine Vs 8 O (V.sp 42 O (fun d3=>?_) (fun d3=>?_))
   .
    refine Vs 4 O (znZ Tryz.call80 O (fun w hI=>zbO f g s x.dfn (xX f g n) b gb _ _ _ _ D D' w (Tr1 hI.k1 hc) (Tr1 hI.k1 dw) (Tr1 hI.k1 hG)) (znb O (fun w hI=>zmT O (by first | exact za | rfl)) (Vs 4 O (zlG O (fun d4=>?_) (fun d4=>?_)))))
    . refine Vs 13 O (zlW tr39 O (fun w hI=>⟨_,rfl,⟨_,rfl,dg n x hY fun h=>d4 (h.yes d3)⟩,hI.k1⟩))
    refine Vs 1 O (zlT (()) (Sub.of O) (Has.of O) (⟨fun h=>by omega,fun _=>zpt.1 d4⟩) 0 O O)
   omega
  rintro u ⟨dX,dY⟩
  refine Vs 8 O (zo1 Tryz.call81 O (fun w hI=>zhn f g hk n dB gb D' w (Tr1 hI.k1 hG)) ?_)
  rintro r2 w3 w4 eg dZ dD dk
  obtain⟨ar,cr,rfl⟩:=dD.form
  have eh:=dD.max
  refine Vs 14 O (zlG O (fun e0=>?_) (fun e0=>?_))
  . refine Vs 12 O (zlW tr39 O (fun w hI=>⟨_,rfl,⟨_,rfl,dg n x hY fun h=>e0 (by rw[<- h.use,zpE])⟩,hI.k2⟩))
  refine Vs 11 O (zoe (σ:=Nat) [0,6,13,14,15,64,65] [900] [0] O (fun e k=>(66,.int .i64 k)::e) (fun e k=>e) (fun k=>k<=x.uses.length/\∀ (q:Nat) u,q<k->x.uses[q]?=some u->(rdV f g n)[q]?=some u.1/\kn f s u.2 u.1 false) (fun k=>x.uses.length - k) (0) (Sub.of O) (Has.of O) (fun _=>rfl) (fun _=>rfl) (fun _=>rfl) (⟨zpz _,fun q u h=>absurd h (zrZ _)⟩) ?_)
  rintro k ⟨ei,db⟩
  refine Vs 6 O (zlG O (fun lk=>?_) (fun lk=>?_))
  .
   refine Vs 7 O ?_
   obtain⟨u,df,dE⟩:=gE_ x.uses (k) (by omega)
   obtain⟨ej,ek,em,dF,_,dG,dH⟩:=de.at df
   obtain rfl:=dH
   refine zoa 2000 2 O O dG ?_
   refine znN 2000 tR57 ts85 O dF (by omega) (_) (rfl) O ?_
   obtain⟨rk,da,dK⟩:=gE_ (rdV f g n) (k) (by omega)
   obtain⟨d5,d6,d7,dl,dm,dr,dt⟩:=dD.atD da
   obtain rfl:=dt
   refine zob 3000 0 O O (fun h_=>by have d8:=dk _ h_;have d9:=dm;first | omega | exact d8 d9) dr (Vs 1 O (V.alloc 8 tz85 O O (fun b8=>?_)))
   refine Vs 5 O (Vw [900,2000,3000,8] [] O (Vd [0,1,2,3] 0 (by kernel_rfl) O O O (znO 4 3000 tR27 ts3 O (by kernel_rfl) O dl (by omega) (k) (by omega) O (Vd [5,6,7] 0 (by kernel_rfl) O O O (VD.sp 78 O (fun e1=>?_) (fun e1=>?_))))))
   .
    have hb:¬ NodF f g s (rdV f g) n x:=fun h=>e1 (by
     have:=congrArg (fun l:List Int=>l[k]?) h.use
     rw[zpB,df,da]at this
     exact Option.some.inj this)
    refine Vd [8,9,10,11,12] 0 (by kernel_rfl) O O O (VD.skip 13 0 O (by kernel_rfl) O O (Vd [14,15] 0 (by kernel_rfl) O O O (VD.done (by kernel_rfl) (Vs 17 O (zlW tr39 O (fun w hI=>⟨_,rfl,⟨_,rfl,dg n x hY hb⟩,hI.k2⟩))))))
   have e1:=zpt.1 e1
   refine Vd [8,9,10,11,12] 0 (by kernel_rfl) O O O (zo0 13 0 Tryz.call82 O (by kernel_rfl) O O (fun w hI=>zfz f s u.2 u.1 b gb _ _ _ _ D w (Tr1 hI.k2 hc) (Tr1 hI.k2 dw)) (znc 14 0 O (by kernel_rfl) O O (fun w hI=>zmT O za) (Vd [15] 0 (by kernel_rfl) O O O (VD.done (by kernel_rfl) (Vs 1 O (zlG O (fun e2=>?_) (fun e2=>?_)))))))
   . refine Vs 15 O (zlW tr39 O (fun w hI=>⟨_,rfl,⟨_,rfl,dg n x hY fun h=>e2 (h.ver u dE)⟩,hI.k2⟩))
   have dI:=yd db df ⟨by rw[da,e1],zpt.1 e2⟩
   refine Va 7 O (by omega) (V.back (k+1) (Sub.of O) (Has.of O) (⟨by omega,dI⟩) (by first | omega | (dsimp only;omega)) 0 O O)
  obtain rfl:k=x.uses.length:=by omega
  have dc:=xP db
  have dJ:x.uses.map (·.1)=rdV f g n:=by
   apply zqK
   intro q
   rw[zpB]
   by_cases dL:q<x.uses.length
   . rw[(dc q _ (zpk dL)).1,zpk dL];rfl
   rw[zpI (by omega),zpI (by omega)];rfl
  have du:NodF f g s (rdV f g) n x:=⟨dC,dX,dY,dJ,fun u hu=>by obtain⟨q,hq⟩:=zre.1 hu;exact(dc q u hq).2⟩
  have dI:=yd dh hY du
  refine Va 10 O (by omega) (V.back (n+1) (Sub.of O) (Has.of O) (⟨by omega,dI⟩) (by first | omega | (dsimp only;omega)) 2 O O)
 obtain rfl:n=s.nodes.length:=by omega
 refine Vs 11 O (zlW tr39 O (fun w hI=>⟨_,rfl,⟨_,rfl,⟨fun _=>xP dh,fun _=>rfl⟩⟩,hI.k0⟩))
end Go.Proofs.YtckdhgbepmpgiaaGreat
namespace Go.GL
open Go.RowKit
section
variable {P:Program} {n:Nat} {Q:Exit->Act->World->Prop} {ks:List Fr} {env:Env} {A:Tgs} {H Hs:Hp} {Bs B0:zF} {ops:Array Oper} {L:List Nat} {fuel:Nat} {listed:Array Bool} {d d2:Nat} {ty ty2:TypeId} {ps ps2:String} {aft aft2:Array Edge} {g g2:Option (Nat × Bool)}
theorem zoY {n:Nat} {Q:Exit->Act->World->Prop} {pos:Pos} (k:Nat) {e:HE} {p:World->Prop} (hn:(hget H k,qH H k)=(some e,none)) (hl:(HE.dat e.S p).loc) (hp:∀ w,VI Bs H w->p w)
  (h:∀ w,p w->(∀ b,HS (yx H k (.dat e.S p)) b->¬ e.S b)->V P n Q ks pos env A (yx H k (.dat e.S p)) ((w,HS (yx H k (.dat e.S p)))::Bs)):V P n Q ks pos env A H Bs:=by
 simp only[Prod.mk.injEq]at hn
 intro hA w hI
 have he:(HE.dat e.S p).holds w:=⟨hp w hI,fun q hq=>hI.low _ (zr hn.1) q hq⟩
 have hF:=hI.freeze hn.1 he hl (fun q h=>h) (fun b hb=>hb)
 have hg:hget (yx H k (.dat e.S p)) k=some (.dat e.S p):=by rw[kC hn.1,zrO];rfl
 exact h w (hp w hI) (fun b hb hs=>hF.offF k hg b hs hb) (hA.res hn.1 hn.2) w hF.here
end
end Go.GL
namespace Go.Proofs.YtckdhgbepmpgiaaGreat
open Go.GL
def jP (L:List Int) (m:Nat):List Int:=(List.range m).map fun k:Nat=>((L.count (k:Int):Nat):Int)
theorem xV (L:List Int) (m:Nat):(jP L m).length=m:=by simp[jP]
theorem qu {L:List Int} {m k:Nat} (h:k<m):(jP L m)[k]?=some ((L.count (k:Int):Nat):Int):=by unfold jP;rw[zpB,List.getElem?_range h];rfl
theorem zfA (m:Nat):jP [] m=List.replicate m 0:=by
 rw[List.eq_replicate_iff]
 refine⟨xV _ _,fun x hx=>?_⟩
 obtain⟨k,_,rfl⟩:=zrf.1 hx
 rfl
theorem kY {L:List Int} {m k:Nat} (h:k<m):(jP L m).set k (((L.count (k:Int):Nat):Int)+1)=jP (L++[(k:Int)]) m:=by
 apply zqK
 intro j
 by_cases hj:j<m
 .
  rw[qu hj,zqB]
  by_cases e:j=k
  .
   subst e
   rw[List.getElem?_set_self (by rw[xV];exact hj),List.count_singleton_self];rfl
  rw[List.getElem?_set_ne (fun h=>e h.symm),qu hj,List.count_singleton]
  rw[zpu (by simp;omega)]
  simp
 rw[zpI (by rw[zr2,xV];omega),zpI (by rw[xV];omega)]
def dP (x:Sn):List Int:=if 0<=x.dfn then [x.dfn] else []
def LP (s:Sf) (n:Nat):List Int:=(List.range n).flatMap fun i=>dP (zj s i)++(zj s i).phis.map (·.ver)
theorem zd6 {s:Sf} {n:Nat} {x:Sn} (h:s.nodes[n]?=some x):LP s (n+1)=LP s n++dP x++x.phis.map (·.ver):=by
 unfold LP
 rw[zrs,zqO,zqR,yP h,zqy]
theorem zfB {f:Fl} {g:List Nd} {s:Sf} {rd:Nat->List Int} (hY:s.nodes.length=g.length) (hN:∀ (n:Nat) x,s.nodes[n]?=some x->NodF f g s rd n x) (a:Int):(LP s g.length).count a=(qy f g s).count a:=by
 have main:∀ n,n<=g.length->(LP s n).count a=((List.range n).flatMap (dfL f g s)).count a:=by
  intro n
  induction n with
  | zero=>exact fun _=>rfl
  | succ n ih =>
   intro hn
   have e:=zpk (show n<s.nodes.length by omega)
   have hx:=hN n _ e
   rw[zd6 e,zrs,zqO,zqR,zqB,zqB,zqB,ih (by omega)]
   unfold dfL dP
   rw[yP e,zqB]
   by_cases hd:0<=xX f g n
   .
    have:=(hx.yes hd).1
    rw[zpv hd,zpv this];omega
   have:=hx.no (by omega)
   rw[zpu hd,zpu (by omega)];omega
 exact main _ (zpJ _)
theorem qF {f:Fl} {s:Sf} {k v:Int} {b:Bool} (h:kn f s k v b):∃ n:Nat,k=(n:Int)/\n<s.of_.length:=⟨k.toNat,by have:=h.1;omega,(zpy.1 h.2.1).1⟩
theorem ziZ (f:Fl) (g:List Nd) (s:Sf) (rd:Nat->List Int) (de:s.nodes.length=g.length) (hN:∀ (n:Nat) x,s.nodes[n]?=some x->NodF f g s rd n x) (eg:f.vars.length<=s.of_.length) (dK:s.of_.length<=1000000/\(LP s g.length).length<=1000000) (b gb:Nat) (ofv nv bv dv:Value) (D D':Nat->Prop) (W:World) (hc:Cells W b 0 (chk gb ofv nv bv dv)) (hS:RSf D W s ofv nv) (hG:GrO D' W f g gb) :
  Calls Tryz.prog 40 #[.pointer (some ⟨b,0,none⟩)] W (Ret fun r w'=>(∃ q:Bool,r=.bool q/\(q=true ↔ ∀ k:Nat,f.vars.length<=k->k<s.of_.length->(qy f g s).count (k:Int)=1))/\Ext W w'):=by
 obtain⟨v1,v2,v3,gv,sv,pv,hD,df,hf,hg,hs,hp⟩:=hG
 have dL:=hf.vars
 obtain⟨a1,c1,rfl⟩:=dL.form
 have dM:=hS.of_
 have dk:=hS.nodes
 have eh:=dk.max
 obtain⟨ao,co,rfl⟩:=dM.form
 obtain⟨an,cn,rfl⟩:=dk.form
 generalize hm:s.of_.length=m at *
 have dI:∀ (L:List Int) (k:Int),L.count k<=L.length:=fun L k=>List.count_le_length
 refine znk Tryz.func40 O Tryz.ntmps40 O (znE (zob 900 0 O O (fun h=>h) hc (zob 901 0 O O (fun h=>h) df (znL 0 900 0 O O (Vs 13 O (zmz 16 tu27 Tryz.el3 O (by omega) (by omega) (zs:=List.replicate m (.int .i64 0)) (qa _ _ O) (by simp) (fun b16=>?_)))))))
 refine zod 16 O (e':=.row 3 1 (.slice (some ⟨b16,0,none⟩) m m) m ((jP (LP s 0) m).map zc)) (by rw[show LP s 0=[] from rfl,zfA,zr8]) (Vs 16 O (zoe (σ:=Nat) [0,3,21,22] [900,901] [0] O (fun e n=>(23,.int .i64 n)::e) (fun e n=>(16,.row 3 1 (.slice (some ⟨b16,0,none⟩) m m) m ((jP (LP s n) m).map zc))::e) (fun n=>n<=s.nodes.length) (fun n=>s.nodes.length - n) (0) (Sub.of O) (Has.of O) (fun _=>rfl) (fun _=>rfl) (fun _=>rfl) (zpz _) ?_))
 rintro n hn
 have dN:∀ j,j<=g.length->(LP s j).length<=(LP s g.length).length:=fun j hj=>by
  have:LP s g.length=LP s j++(List.range' j (g.length - j)).flatMap fun i=>dP (zj s i)++(zj s i).phis.map (·.ver):=by
   unfold LP
   rw[<- zqO,zrr,zrr]
   congr 1
   rw[show g.length=j+(g.length - j) by omega,<- List.range'_append_1]
   simp
  rw[this,zps]
  omega
 refine Vs 6 O (zlG O (fun lt=>?_) (fun lt=>?_))
 .
  refine Vs 6 O ?_
  obtain⟨x,hY,dO⟩:=gE_ s.nodes (n) (by omega)
  obtain⟨ei,ej,ek,dl,_,dm,dr⟩:=dk.at hY
  obtain⟨dQ,dR,rfl,da,dt⟩:=dr
  obtain⟨dS,dT,rfl⟩:=da.form
  obtain⟨dU,dV,rfl⟩:=dt.form
  refine zoa 1000 0 O O dm ?_
  refine znN 1000 tR28 ts59 O dl (by omega) (_) (rfl) O ?_
  have hx:=hN n x hY
  have em:=da.max
  have di:=zd6 hY
  have dW:=dN (n+1) (by omega)
  rw[di,zps,zps,zpE]at dW
  refine Vs 1 O (V.alloc 5 tz59 O O (fun b5=>?_))
  refine Vs 4 O (zof (σ:=Unit) [0,3,5,21,22,23] [5,900,901] [0,5] O (fun e u=>e) (fun e u=>(16,.row 3 1 (.slice (some ⟨b16,0,none⟩) m m) m ((jP (LP s n++dP x) m).map zc))::e) (fun u=>True) (fun _=>rfl) (fun _=>rfl) ?_ ?_)
  .
   refine Vs 7 O (zlG O (fun d0=>?_) (fun d0=>?_))
   .
    have du:dP x=[x.dfn]:=zpv d0
    have dX:0<=xX f g n:=by
     by_cases e:0<=xX f g n
     . exact e
     have:=hx.no (by omega);omega
    obtain⟨k,hk,db⟩:=qF (hx.yes dX)
    rw[hm]at db
    have dJ:=dI (LP s n) (k:Int)
    refine Va 5 O (by omega) (znW 16 (k) tg3 O (by omega) (show _=some (Value.int .i64 (((LP s n).count (k:Int):Nat):Int)) by rw[zpB,qu db];rfl) ?_)
    refine Va 2 O (by omega) (znX 16 (k) ts3 O (by omega) (by simp[xV];omega) (zod 16 O (e':=.row 3 1 (.slice (some ⟨b16,0,none⟩) m m) m ((jP (LP s n++dP x) m).map zc)) (by rw[du,hk,<- kY db,zr9]) (Vs 1 O (zlT (()) (Sub.of O) (Has.of O) (True.intro) 0 O O))))
   have du:dP x=[]:=zpu d0
   refine zod 16 O (e':=.row 3 1 (.slice (some ⟨b16,0,none⟩) m m) m ((jP (LP s n++dP x) m).map zc)) (by rw[du,zqz]) (Vs 1 O (zlT (()) (Sub.of O) (Has.of O) (True.intro) 0 O O))
  rintro u -
  refine Vs 9 O (zod 16 O (e':=.row 3 1 (.slice (some ⟨b16,0,none⟩) m m) m ((jP (LP s n++dP x++(x.phis.take 0).map (·.ver)) m).map zc)) (by rw[zrI,zr7,zqz]) (Vs 1 O (zoe (σ:=Nat) [0,3,21,22,23,38,39] [900,901] [0] O (fun e j=>(40,.int .i64 j)::e) (fun e j=>(16,.row 3 1 (.slice (some ⟨b16,0,none⟩) m m) m ((jP (LP s n++dP x++(x.phis.take j).map (·.ver)) m).map zc))::e) (fun j=>j<=x.phis.length) (fun j=>x.phis.length - j) (0) (Sub.of O) (Has.of O) (fun _=>rfl) (fun _=>rfl) (fun _=>rfl) (zpz _) ?_)))
  rintro j hj
  refine Vs 6 O (zlG O (fun lj=>?_) (fun lj=>?_))
  .
   refine Vs 6 O ?_
   obtain⟨p,dg,dw⟩:=gE_ x.phis (j) (by omega)
   obtain⟨en,eo,ep,dx,_,dy,dz⟩:=da.at dg
   obtain⟨dY,dZ,rfl,dA,dB⟩:=dz
   obtain⟨d5,d6,rfl⟩:=dA.form
   obtain⟨d7,d8,rfl⟩:=dB.form
   refine zoa 2000 0 O O dy ?_
   refine znN 2000 tR56 ts88 O dx (by omega) (_) (rfl) O ?_
   obtain⟨k,hk,db⟩:=qF (hx.phi.ver p dw)
   rw[hm]at db
   have dJ:=dI (LP s n++dP x++(x.phis.take j).map (·.ver)) (k:Int)
   rw[zps,zps,zpE,zpO]at dJ
   refine Vs 1 O (V.alloc 7 tz88 O O (fun b7=>?_))
   refine Va 8 O (by omega) (znW 16 (k) tg3 O (by omega) (show _=some (Value.int .i64 (((LP s n++dP x++(x.phis.take j).map (·.ver)).count (k:Int):Nat):Int)) by rw[zpB,qu db];rfl) ?_)
   refine Va 2 O (by omega) (znX 16 (k) ts3 O (by omega) (by simp[xV];omega) (zod 16 O (e':=.row 3 1 (.slice (some ⟨b16,0,none⟩) m m) m ((jP (LP s n++dP x++(x.phis.take (j+1)).map (·.ver)) m).map zc)) (by rw[ze dg,zr3,<- zqy,show [p].map (·.ver)=[(k:Int)] by rw[<- hk];rfl,<- kY db,zr9]) (Va 7 O (by omega) (V.back (j+1) (Sub.of O) (Has.of O) (by omega) (by first | omega | (dsimp only;omega)) 0 O O))))
  obtain rfl:j=x.phis.length:=by omega
  refine zod 16 O (e':=.row 3 1 (.slice (some ⟨b16,0,none⟩) m m) m ((jP (LP s (n+1)) m).map zc)) (by rw[zpp,di]) (Va 10 O (by omega) (V.back (n+1) (Sub.of O) (Has.of O) (by omega) (by first | omega | (dsimp only;omega)) 0 O O))
 obtain rfl:n=s.nodes.length:=by omega
 have dC:∀ a,(LP s s.nodes.length).count a=(qy f g s).count a:=fun a=>by rw[de];exact zfB de hN a
 refine Vs 7 O (zoY 16 O (p:=fun w=>SlR 1 zC (fun q=>(Value.slice (some ⟨b16,0,none⟩) m m).ownBlock=some q) w (.slice (some ⟨b16,0,none⟩) m m) (jP (LP s s.nodes.length) m)) (fun w w' T h hk hT=>h.keep zb hk fun b hb _=>hT b hb) (fun w hI=>zmM zc (fun _ _=>rfl) (show w.ownsRow 0 3 1 _ m _ from hI.at 16 O) (fun g hg=>hg)) (fun wp dD d9=>?_))
 have ea:=xV (LP s s.nodes.length) m
 have eb:=dD.drop f.vars.length (by omega)
 have er:((jP (LP s s.nodes.length) m).drop f.vars.length).length=m - f.vars.length:=by rw[zqX,ea]
 refine Vs 6 O (znL 57 901 0 O O (Vs 5 O (znb O (fun w hI=>zmk tR27 ts3 O O (by omega)) (Vs 5 O (zoe (σ:=Nat) [63,64] [16] [] O (fun e j=>(65,.int .i64 j)::e) (fun e j=>e) (fun j=>j<=m - f.vars.length/\∀ k:Nat,f.vars.length<=k->k<f.vars.length+j->(qy f g s).count (k:Int)=1) (fun j=>m - f.vars.length - j) (0) (Sub.of O) (Has.of O) (fun _=>rfl) (fun _=>rfl) (fun _=>rfl) (⟨zpz _,fun k h1 h2=>by omega⟩) ?_)))))
 rintro j ⟨hj,dh⟩
 refine Vs 6 O (zlG O (fun lj=>?_) (fun lj=>?_))
 .
  refine Vs 6 O ?_
  obtain⟨c,dc,ec⟩:=gE_ ((jP (LP s s.nodes.length) m).drop f.vars.length) (j) (by omega)
  obtain⟨eu,ew,ey,dE,dF,dG,dH⟩:=eb.atD dc
  obtain rfl:=dH
  refine zob 3000 0 O O (fun h_=>by have ed:=d9 _ h_;have ee:=dF;first | omega | exact ed ee) dG ?_
  refine znN 3000 tR27 ts3 O dE (by omega) (_) (rfl) O ?_
  have ef:c=(((qy f g s).count ((f.vars.length+j:Nat):Int):Nat):Int):=by
   rw[List.getElem?_drop,qu (by omega),dC]at dc
   exact(Option.some.inj dc).symm
  refine Vs 10 O (zlG O (fun e1=>?_) (fun e1=>?_))
  .
   have hb:¬ ∀ k:Nat,f.vars.length<=k->k<m->(qy f g s).count (k:Int)=1:=fun h=>e1 (by rw[ef,h _ (by omega) (by omega)];rfl)
   refine Vs 11 O (zlW Tryz.results40 O (fun w hI=>⟨_,rfl,⟨_,rfl,⟨fun h=>(by cases h),fun h=>absurd h hb⟩⟩,hI.k1⟩))
  have di:∀ k:Nat,f.vars.length<=k->k<f.vars.length+(j+1)->(qy f g s).count (k:Int)=1:=fun k h1 h2=>by
   by_cases e:k=f.vars.length+j
   . subst e;omega
   exact dh k h1 (by omega)
  refine Va 7 O (by omega) (V.back (j+1) (Sub.of O) (Has.of O) (⟨by omega,di⟩) (by first | omega | (dsimp only;omega)) 0 O O)
 refine Vs 11 O (zlW Tryz.results40 O (fun w hI=>⟨_,rfl,⟨_,rfl,⟨fun _ k h1 h2=>dh k h1 (by omega),fun _=>rfl⟩⟩,hI.k1⟩))
def bfV (rows:List (List Int)) (i:Nat) (v:Int):Int:=((rows[i]?.getD [])[v.toNat]?).getD (-1)
structure Shp (rows:List (List Int)) (N nv:Nat):Prop where
 len:rows.length=N
 row:∀ r ∈ rows,r.length=nv
def jQ (rows:List (List Int)) (i v:Nat) (x:Int):List (List Int):=rows.set i ((rows[i]?.getD []).set v x)
theorem zaG {rows:List (List Int)} {i:Nat} {r:List Int} {v:Nat} {x:Int} (hr:rows[i]?=some r) (hx:r[v]?=some x):bfV rows i (v:Int)=x:=by unfold bfV;rw[hr,zs6,zpG,hx];rfl
theorem Shp.at {rows:List (List Int)} {N nv:Nat} (h:Shp rows N nv) {i:Nat} (hi:i<N):∃ r,rows[i]?=some r/\r.length=nv:=by
 have hl:=h.len
 exact⟨_,zpk (show i<rows.length by omega),h.row _ (List.getElem_mem _)⟩
theorem Shp.set {rows:List (List Int)} {N nv:Nat} (h:Shp rows N nv) {i v:Nat} (hi:i<N) (x:Int):Shp (jQ rows i v x) N nv:=by
 obtain⟨r,hr,hl⟩:=h.at hi
 refine⟨by unfold jQ;rw[zr2];exact h.len,fun q hq=>?_⟩
 unfold jQ at hq
 rcases List.mem_or_eq_of_mem_set hq with hq | rfl
 . exact h.row q hq
 rw[hr,zs6,zr2];exact hl
theorem zfC {rows:List (List Int)} {N nv:Nat} (h:Shp rows N nv) {i v:Nat} (hi:i<N) (hv:v<nv) (x:Int) {j:Nat} {u:Int} (hu:0<=u):bfV (jQ rows i v x) j u=zc4 (bfV rows) i (v:Int) x j u:=by
 obtain⟨r,hr,hl⟩:=h.at hi
 unfold bfV jQ zc4
 rw[hr,zs6]
 by_cases e:j=i
 .
  subst e
  have hY:=(zpy.1 hr).1
  rw[List.getElem?_set_self hY,zs6]
  by_cases e2:u=(v:Int)
  . rw[zpv ⟨rfl,e2⟩,e2,zpG,List.getElem?_set_self (by omega)];rfl
  rw[zpu (fun h=>e2 h.2),List.getElem?_set_ne (by omega)]
  show _=((rows[j]?.getD [])[u.toNat]?).getD (-1)
  rw[hr];rfl
 rw[List.getElem?_set_ne (fun h=>e h.symm),zpu (fun h=>e h.1)]
section
variable {f:Fl} {g:List Nd} {s:Sf} {nv:Nat}
theorem zj0 {B C:Nat->Int->Int} {v:Int} (h:∀ y,y<g.length->B y v=C y v) {i:Nat}:eqV g s (yG f g s B) i v=eqV g s (yG f g s C) i v:=by
 unfold eqV
 split
 . rfl
 split
 . rfl
 congr 1
 refine zr4 fun y hy=>?_
 unfold yG
 rw[h y (xw hy)]
theorem RunV.congr {B C:Nat->Int->Int} (h:RunV f g s nv B) (he:∀ i,i<g.length->∀ v:Int,0<=v->v<(nv:Int)->B i v=C i v):RunV f g s nv C :=
 ⟨fun i hi v hv hn=>he i hi v hv hn ▸ h.snd i hi v hv hn,fun i hi v hv hn=>by
  rw[<- he i hi v hv hn,<- zj0 fun y hy=>he y hy v hv hn]
  exact h.le i hi v hv hn⟩
end
def rkR (r:List Int):Nat:=(r.map jq).sum
def rkT (rows:List (List Int)):Nat:=(rows.map rkR).sum
theorem zfD {l:List Nat} {i:Nat} {x y:Nat} (h:l[i]?=some x):(l.set i y).sum+x=l.sum+y:=by
 induction l generalizing i with
 | nil=>simp at h
 | cons z l ih =>
  cases i with
  | zero=>simp at h;subst h;simp;omega
  | succ i =>
   have:=ih (i:=i) (by simpa using h)
   simp only[List.set_cons_succ,zrB]
   omega
theorem zhu {rows:List (List Int)} {i v:Nat} {r:List Int} {old x:Int} (hr:rows[i]?=some r) (ho:r[v]?=some old):rkT (jQ rows i v x)+jq old=rkT rows+jq x:=by
 have h1:rkR (r.set v x)+jq old=rkR r+jq x:=by
  unfold rkR
  rw[zr9]
  exact zfD (by rw[zpB,ho];rfl)
 have h2:rkT (jQ rows i v x)+rkR r=rkT rows+rkR (r.set v x):=by
  unfold rkT jQ
  rw[hr,zs6,zr9]
  exact zfD (by rw[zpB,hr];rfl)
 omega
theorem zhv {l:List Nat} {b:Nat} (h:∀ x ∈ l,x<=b):l.sum<=l.length*b:=by
 induction l with
 | nil=>simp
 | cons x l ih =>
  have h1:=h x (zpo ..)
  have h2:=ih fun y hy=>h y (zpn _ hy)
  rw[zrB,zpN,zs1]
  omega
theorem zkh {rows:List (List Int)} {N nv:Nat} (h:Shp rows N nv):rkT rows<=N*(nv*2):=by
 unfold rkT
 have:=zhv (l:=rows.map rkR) (b:=nv*2) fun x hx=>by
  obtain⟨r,hr,rfl⟩:=zrf.1 hx
  have:=zhv (l:=r.map jq) (b:=2) fun y hy=>by
   obtain⟨z,_,rfl⟩:=zrf.1 hy
   exact zkd z
  rw[zpE,h.row r hr]at this
  exact this
 rw[zpE,h.len]at this
 exact this
structure PassV (f:Fl) (g:List Nd) (s:Sf) (nv:Nat) (rows0 rows:List (List Int)) (ch:Bool) (dn:Nat->Nat->Prop):Prop where
 shp:Shp rows g.length nv
 run:RunV f g s nv (bfV rows)
 no:ch=false->rows=rows0/\∀ i v,dn i v->bfV rows0 i (v:Int)=-2\/eqV g s (yG f g s (bfV rows0)) i v=bfV rows0 i v\/eqV g s (yG f g s (bfV rows0)) i v=-1
 yes:ch=true->rkT rows0<rkT rows
section
variable {f:Fl} {g:List Nd} {s:Sf} {nv:Nat} {rows0 rows:List (List Int)} {ch:Bool} {dn dn':Nat->Nat->Prop}
theorem PassV.imp (h:PassV f g s nv rows0 rows ch dn) (hd:∀ i v,dn' i v->dn i v):PassV f g s nv rows0 rows ch dn':=⟨h.shp,h.run,fun e=>⟨(h.no e).1,fun i v hv=>(h.no e).2 i v (hd i v hv)⟩,h.yes⟩
theorem PassV.start (h1:Shp rows g.length nv) (h2:RunV f g s nv (bfV rows)) (hd:∀ i v,¬ dn i v):PassV f g s nv rows rows false dn:=⟨h1,h2,fun _=>⟨rfl,fun i v h=>absurd h (hd i v)⟩,fun h=>by cases h⟩
theorem PassV.skip (h:PassV f g s nv rows0 rows ch dn) {i v:Nat} (hs:bfV rows i (v:Int)=-2\/eqV g s (yG f g s (bfV rows)) i v=bfV rows i v\/eqV g s (yG f g s (bfV rows)) i v=-1) (hd:∀ j u,dn' j u->dn j u\/(j=i/\u=v)):PassV f g s nv rows0 rows ch dn' :=
 ⟨h.shp,h.run,fun e=>by
  obtain⟨h1,h2⟩:=h.no e
  refine⟨h1,fun j u hY=>?_⟩
  rcases hd j u hY with h3 | ⟨rfl,rfl⟩
  . exact h2 j u h3
  .
   rw[<- h1];exact hs,h.yes⟩
theorem PassV.set (hs:NnS f g s) (h:PassV f g s nv rows0 rows ch dn) {i v:Nat} (hi:i<g.length) (hv:v<nv) (hn:eqV g s (yG f g s (bfV rows)) i v ≠ bfV rows i v):PassV f g s nv rows0 (jQ rows i v (eqV g s (yG f g s (bfV rows)) i v)) true dn':=by
 obtain⟨r,hr,hl⟩:=h.shp.at hi
 have ho:=zpk (show v<r.length by omega)
 have hb:=zaG hr ho
 have hY:=h.run.le i hi (v:Int) (by omega) (by omega)
 have da:=zd3 hY hn
 have h1:=zhu (x:=eqV g s (yG f g s (bfV rows)) i v) hr ho
 rw[<- hb]at h1
 refine⟨h.shp.set hi _,(h.run.next hs hi (v:=(v:Int)) (by omega) (by omega)).congr fun j _ u hu _=>(zfC h.shp hi hv _ hu).symm,fun e=>(by cases e),fun _=>?_⟩
 cases ch with
 | false=>rw[<- (h.no rfl).1];omega
 | true=>have:=h.yes rfl;omega
theorem PassV.done (h:PassV f g s nv rows0 rows false dn) (hd:∀ i v,1<=i->i<g.length->v<nv->dn i v) (h0:∀ v:Int,0<=v->v<(nv:Int)->bfV rows 0 v=v):SolV f g s nv (bfV rows):=by
 refine h.run.done fun i hi v hv hn=>?_
 obtain⟨h1,h2⟩:=h.no rfl
 by_cases e:i=0
 .
  subst e
  exact .inr (.inl (by rw[h0 v hv hn];unfold eqV;rw[zpv rfl]))
 have:=h2 i v.toNat (hd i v.toNat (by omega) hi (by omega))
 rw[Int.toNat_of_nonneg hv,<- h1]at this
 exact this
end
open Go.GL
theorem zea {g:List Nd} {s:Sf} {O O':Nat->Int->Int} {v:Int} (h:∀ y,y<g.length->O y v=O' y v) {i:Nat}:eqV g s O i v=eqV g s O' i v:=by
 unfold eqV
 split
 . rfl
 split
 . rfl
 congr 1
 exact zr4 fun y hy=>h y (xw hy)
structure FlwV (f:Fl) (g:List Nd) (s:Sf) (nv:Nat) (I O:Nat->Int->Int):Prop where
 snd:∀ i,i<g.length->∀ v:Int,0<=v->v<(nv:Int)->SndV (RV f g s v i) (I i v)
 out:∀ i,i<g.length->∀ v:Int,0<=v->v<(nv:Int)->O i v=-1\/O i v=yG f g s I i v
 le:∀ i,i<g.length->∀ v:Int,0<=v->v<(nv:Int)->LeV (I i v) (eqV g s O i v)
section
variable {f:Fl} {g:List Nd} {s:Sf} {nv:Nat} {I O:Nat->Int->Int}
theorem FlwV.start (h:∀ i v,I i v=-1) (h':∀ i v,O i v=-1):FlwV f g s nv I O :=
 ⟨fun i _ v _ _=>.inl (h i v),fun i _ v _ _=>.inl (h' i v),fun i _ v _ _=>by rw[h];exact .inl rfl⟩
theorem FlwV.stay (h:FlwV f g s nv I O) {i:Nat} (hi:i<g.length) {v:Int} (hv:0<=v) (hn:v<(nv:Int)):(if I i v=-2 then -2 else eqV g s O i v)=eqV g s O i v:=by
 split
 .
  rename_i e
  have:=h.le i hi v hv hn
  unfold LeV at this
  omega
 rfl
theorem FlwV.next (hs:NnS f g s) (h:FlwV f g s nv I O) {i:Nat} (hi:i<g.length) {v:Int} (hv:0<=v) (hn:v<(nv:Int)) :
  FlwV f g s nv (zc4 I i v (eqV g s O i v)) (zc4 O i v (if xX f g i=v then (zj s i).dfn else eqV g s O i v))/\LeV (O i v) (if xX f g i=v then (zj s i).dfn else eqV g s O i v):=by
 have db:=h.le i hi v hv hn
 have da:LeV (O i v) (if xX f g i=v then (zj s i).dfn else eqV g s O i v):=by
  rcases h.out i hi v hv hn with e | e
  . exact .inl e
  rw[e]
  unfold yG
  split
  . exact LeV.refl _
  exact db
 have hO:∀ j,j<g.length->∀ u:Int,0<=u->u<(nv:Int)->LeV (O j u) (zc4 O i v (if xX f g i=v then (zj s i).dfn else eqV g s O i v) j u):=fun j hj u hu hY=>by
  unfold zc4
  split
  . rename_i e;obtain⟨rfl,rfl⟩:=e;exact da
  exact LeV.refl _
 refine⟨⟨fun j hj u hu hY=>?_,fun j hj u hu hY=>?_,fun j hj u hu hY=>?_⟩,da⟩
 .
  by_cases e:j=i/\u=v
  .
   obtain⟨rfl,rfl⟩:=e
   rw[show zc4 I j u (eqV g s O j u) j u=eqV g s O j u from zpv ⟨rfl,rfl⟩]
   unfold eqV
   split
   . rename_i h0;subst h0;exact .inr (.inl ⟨hu,.ini⟩)
   rename_i h0
   split
   . rename_i k hk;exact .inr (.inl ⟨hs.phi _ _ _ hk,.phi h0 hk⟩)
   rename_i hk
   refine zft fun x hx=>?_
   obtain⟨y,hy,rfl⟩:=zrf.1 hx
   rcases h.out y (xw hy) u hu hY with e | e
   . exact .inl e
   rw[e]
   unfold yG
   split
   . rename_i hd;exact .inr (.inl ⟨hs.dfn _ (xw hy) (by omega),.dfn h0 hk hy hd⟩)
   rename_i hd;exact(h.snd y (xw hy) u hu hY).imp fun k dc=>.pass h0 hk hy hd dc
  rw[show zc4 I i v (eqV g s O i v) j u=I j u from zpu e]
  exact h.snd j hj u hu hY
 .
  by_cases e:j=i/\u=v
  .
   obtain⟨rfl,rfl⟩:=e
   right
   unfold yG zc4
   simp
  rw[show zc4 O i v (if xX f g i=v then (zj s i).dfn else eqV g s O i v) j u=O j u from zpu e]
  rcases h.out j hj u hu hY with e2 | e2
  . exact .inl e2
  right
  rw[e2]
  unfold yG
  rw[show zc4 I i v (eqV g s O i v) j u=I j u from zpu e]
 have hm:LeV (eqV g s O j u) (eqV g s (zc4 O i v (if xX f g i=v then (zj s i).dfn else eqV g s O i v)) j u):=zhh fun y hy=>hO y hy u hu hY
 by_cases e:j=i/\u=v
 .
  obtain⟨rfl,rfl⟩:=e
  rw[show zc4 I j u (eqV g s O j u) j u=eqV g s O j u from zpv ⟨rfl,rfl⟩]
  exact hm
 rw[show zc4 I i v (eqV g s O i v) j u=I j u from zpu e]
 exact(h.le j hj u hu hY).trans hm
theorem FlwV.congr {I' O':Nat->Int->Int} (h:FlwV f g s nv I O) (he:∀ i,i<g.length->∀ v:Int,0<=v->v<(nv:Int)->I i v=I' i v) (hY:∀ i,i<g.length->∀ v:Int,0<=v->v<(nv:Int)->O i v=O' i v):FlwV f g s nv I' O' :=
 ⟨fun i hi v hv hn=>he i hi v hv hn ▸ h.snd i hi v hv hn,fun i hi v hv hn=>by
  rw[<- hY i hi v hv hn]
  rcases h.out i hi v hv hn with e | e
  . exact .inl e
  . right;rw[e];unfold yG;rw[he i hi v hv hn],fun i hi v hv hn=>by
  rw[<- he i hi v hv hn,<- zea fun y hy=>hY y hy v hv hn]
  exact h.le i hi v hv hn⟩
theorem FlwV.done (h:FlwV f g s nv I O) (hd:∀ i,i<g.length->∀ v:Int,0<=v->v<(nv:Int)->I i v=eqV g s O i v/\O i v=yG f g s I i v):SolV f g s nv I :=
 ⟨h.snd,fun i hi v hv hn=>by
  rw[(hd i hi v hv hn).1]
  exact zea fun y hy=>(hd y hy v hv hn).2⟩
end
structure PasF (f:Fl) (g:List Nd) (s:Sf) (nv:Nat) (i0 o0 ins outs:List (List Int)) (ch:Bool) (dn:Nat->Nat->Prop):Prop where
 shi:Shp ins g.length nv
 sho:Shp outs g.length nv
 run:FlwV f g s nv (bfV ins) (bfV outs)
 no:ch=false->(ins=i0/\outs=o0)/\∀ i v,dn i v->bfV i0 i (v:Int)=eqV g s (bfV o0) i v/\bfV o0 i v=yG f g s (bfV i0) i v
 yes:ch=true->rkT i0+rkT o0<rkT ins+rkT outs
section
variable {f:Fl} {g:List Nd} {s:Sf} {nv:Nat} {i0 o0 ins outs:List (List Int)} {ch:Bool} {dn dn':Nat->Nat->Prop}
theorem PasF.start (h1:Shp ins g.length nv) (h2:Shp outs g.length nv) (h3:FlwV f g s nv (bfV ins) (bfV outs)) (hd:∀ i v,¬ dn i v):PasF f g s nv ins outs ins outs false dn:=⟨h1,h2,h3,fun _=>⟨⟨rfl,rfl⟩,fun i v h=>absurd h (hd i v)⟩,fun h=>by cases h⟩
theorem PasF.imp (h:PasF f g s nv i0 o0 ins outs ch dn) (hd:∀ i v,dn' i v->dn i v):PasF f g s nv i0 o0 ins outs ch dn':=⟨h.shi,h.sho,h.run,fun e=>⟨(h.no e).1,fun i v hv=>(h.no e).2 i v (hd i v hv)⟩,h.yes⟩
theorem PasF.skip (h:PasF f g s nv i0 o0 ins outs ch dn) {i v:Nat} (h1:bfV ins i (v:Int)=eqV g s (bfV outs) i v) (h2:bfV outs i v=if xX f g i=(v:Int) then (zj s i).dfn else eqV g s (bfV outs) i v) (hd:∀ j u,dn' j u->dn j u\/(j=i/\u=v)):PasF f g s nv i0 o0 ins outs ch dn' :=
 ⟨h.shi,h.sho,h.run,fun e=>by
  obtain⟨⟨e1,e2⟩,h4⟩:=h.no e
  refine⟨⟨e1,e2⟩,fun j u hY=>?_⟩
  rcases hd j u hY with h3 | ⟨rfl,rfl⟩
  . exact h4 j u h3
  .
   rw[<- e1,<- e2]
   refine⟨h1,h2.trans ?_⟩
   unfold yG
   rw[h1],h.yes⟩
theorem PasF.set (hs:NnS f g s) (h:PasF f g s nv i0 o0 ins outs ch dn) {i v:Nat} (hi:i<g.length) (hv:v<nv)
  (hn:¬ (bfV ins i (v:Int)=eqV g s (bfV outs) i v/\bfV outs i v=if xX f g i=(v:Int) then (zj s i).dfn else eqV g s (bfV outs) i v)):PasF f g s nv i0 o0 (jQ ins i v (eqV g s (bfV outs) i v)) (jQ outs i v (if xX f g i=(v:Int) then (zj s i).dfn else eqV g s (bfV outs) i v)) true dn':=by
 obtain⟨r,hr,hl⟩:=h.shi.at hi
 obtain⟨q,hq,dg⟩:=h.sho.at hi
 have ho:=zpk (show v<r.length by omega)
 have hY:=zpk (show v<q.length by omega)
 have hb:=zaG hr ho
 have dc:=zaG hq hY
 obtain⟨de,da⟩:=h.run.next hs hi (v:=(v:Int)) (by omega) (by omega)
 have db:=h.run.le i hi (v:Int) (by omega) (by omega)
 have h1:=zhu (x:=eqV g s (bfV outs) i v) hr ho
 have h2:=zhu (x:=if xX f g i=(v:Int) then (zj s i).dfn else eqV g s (bfV outs) i v) hq hY
 rw[<- hb]at h1
 rw[<- dc]at h2
 have mono:∀ {a b:Int},LeV a b->jq a<=jq b:=fun {a b} df=>by
  by_cases e:b=a
  . rw[e];exact zpJ _
  exact Nat.le_of_lt (zd3 df e)
 have dh:jq (bfV ins i v)+jq (bfV outs i v)<jq (eqV g s (bfV outs) i v)+jq (if xX f g i=(v:Int) then (zj s i).dfn else eqV g s (bfV outs) i v):=by
  have m1:=mono db
  have m2:=mono da
  by_cases e1:eqV g s (bfV outs) i v=bfV ins i v
  .
   by_cases e2:(if xX f g i=(v:Int) then (zj s i).dfn else eqV g s (bfV outs) i v)=bfV outs i v
   . exact absurd ⟨e1.symm,e2.symm⟩ hn
   have:=zd3 da e2;omega
  have:=zd3 db e1;omega
 refine⟨h.shi.set hi _,h.sho.set hi _,de.congr (fun j _ u hu _=>(zfC h.shi hi hv _ hu).symm) (fun j _ u hu _=>(zfC h.sho hi hv _ hu).symm),fun e=>(by cases e),fun _=>?_⟩
 cases ch with
 | false=>obtain⟨⟨e1,e2⟩,_⟩:=h.no rfl;rw[<- e1,<- e2];omega
 | true=>have:=h.yes rfl;omega
theorem PasF.done (h:PasF f g s nv i0 o0 ins outs false dn) (hd:∀ i v,i<g.length->v<nv->dn i v):SolV f g s nv (bfV ins)/\∀ i,i<g.length->∀ v:Int,0<=v->v<(nv:Int)->bfV outs i v=yG f g s (bfV ins) i v:=by
 obtain⟨⟨e1,e2⟩,h4⟩:=h.no rfl
 have h5:∀ i,i<g.length->∀ v:Int,0<=v->v<(nv:Int)->bfV ins i v=eqV g s (bfV outs) i v/\bfV outs i v=yG f g s (bfV ins) i v:=fun i hi v hv hn=>by
  have:=h4 i v.toNat (hd i v.toNat hi (by omega))
  rw[Int.toNat_of_nonneg hv,<- e1,<- e2]at this
  exact this
 exact⟨h.run.done h5,fun i hi v hv hn=>(h5 i hi v hv hn).2⟩
end
open Go.GL
theorem zcq (f:Fl) (g:List Nd) (s:Sf) (hk:GOk f g) (dz:s.nodes.length=g.length) (rows:List (List Int)) (nv:Nat) (dy:Shp rows g.length nv) (i v:Nat) (hi:i<g.length) (hv:v<nv) (b gb:Nat) (ofv nodv bv dv:Value) (D D' Db:Nat->Prop) (W:World) (hc:Cells W b 0 (chk gb ofv nodv bv dv)) (hS:RSf D W s ofv nodv) (hG:GrO D' W f g gb) (hr:SlR 1 (RSl 1 zC) Db W bv rows) :
  Calls Tryz.prog 84 #[.pointer (some ⟨b,0,none⟩),.int .i64 i,.int .i64 v] W (Ret fun r w'=>r=.int .i64 (yG f g s (bfV rows) i v)/\Ext W w'):=by
 have de:=hS.nodes
 have dL:=de.max
 have dM:=hr.max
 have dN:=dy.len
 obtain⟨an,cn,rfl⟩:=de.form
 obtain⟨ar,cr,rfl⟩:=hr.form
 refine znm Tryz.func84 O Tryz.ntmps84 O (znE (zob 900 0 O O (fun h=>h) hc (znL 0 900 0 O O (Vs 13 O (znZ Tryz.call79 O (fun w hI=>zbM f g hk i hi gb D' w (Tr1 hI.k0 hG)) (Vs 4 O (zlG O (fun d0=>?_) (fun d0=>?_))))))))
 .
  refine Vs 8 O ?_
  obtain⟨x,hY,dA⟩:=gE_ s.nodes (i) (by omega)
  obtain⟨dO,dQ,dR,df,_,dg,dh⟩:=de.at hY
  obtain⟨dB,dC,rfl,di,dk⟩:=dh
  obtain⟨dD,dE,rfl⟩:=di.form
  obtain⟨dF,dG,rfl⟩:=dk.form
  refine zoa 1000 0 O O dg ?_
  refine znN 1000 tR28 ts59 O df (by omega) (_) (rfl) O (Vs 7 O (zlW Tryz.results84 O (fun w hI=>⟨_,rfl,by unfold yG;rw[zpv d0,yP hY],hI.k0⟩)))
 refine Vs 9 O ?_
 obtain⟨r,da,dl⟩:=gE_ rows (i) (by omega)
 obtain⟨dS,dT,dU,dm,_,dr,dt⟩:=hr.at da
 obtain⟨dH,rfl,db⟩:=dt
 obtain⟨dI,dJ,rfl⟩:=db.form
 refine zoa 2000 0 O O dr ?_
 refine znN 2000 tR89 ts27 O dm (by omega) (_) (rfl) O ?_
 have dV:=dy.row r dl
 refine Vs 2 O ?_
 obtain⟨y,dc,dK⟩:=gE_ r (v) (by omega)
 obtain⟨dW,dX,dY,du,_,dw,dx⟩:=db.at dc
 obtain rfl:=dx
 refine zoa 3000 0 O O dw ?_
 refine znN 3000 tR27 ts3 O du (by omega) (_) (rfl) O (Vs 5 O (zlW Tryz.results84 O (fun w hI=>⟨_,rfl,by unfold yG;rw[zpu d0,zaG da dc],hI.k0⟩)))
theorem zki {l:List Phn} {v:Int} {k:Nat} {p:Phn} (h:∀ (j:Nat) q,j<k->l[j]?=some q->q.var ≠ v) (hp:l[k]?=some p) (hv:p.var=v):ze3 l v=some p.ver:=by
 unfold ze3
 induction l generalizing k with
 | nil=>simp at hp
 | cons q l ih =>
  cases k with
  | zero =>
   simp at hp
   subst hp
   rw[List.find?_cons_of_pos (by simpa using hv)];rfl
  | succ k =>
   have:=h 0 q (by omega) rfl
   rw[List.find?_cons_of_neg (by simpa using this)]
   exact ih (k:=k) (fun j q' hj hq=>h (j+1) q' (by omega) (by simpa using hq)) (by simpa using hp)
theorem zj1 {l:List Phn} {v:Int} (h:∀ (j:Nat) q,l[j]?=some q->q.var ≠ v):ze3 l v=none:=by
 unfold ze3
 rw[Option.map_eq_none_iff,List.find?_eq_none]
 intro p hp e
 obtain⟨j,hj⟩:=zre.1 hp
 exact h j p hj (by simpa using e)
theorem kZ {g:List Nd} {i j:Nat} {y:Int} (h:(qU g i)[j]?=some y):∃ n:Nat,y=(n:Int)/\(xj g i)[j]?=some n/\n<g.length:=by
 unfold qU at h
 rw[zpB]at h
 obtain⟨n,hn,rfl⟩:=zsa.1 h
 exact⟨n,rfl,hn,xw (zpl hn)⟩
theorem zj2 (f:Fl) (g:List Nd) (s:Sf) (hk:GOk f g) (dr:s.nodes.length=g.length) (rows:List (List Int)) (nv:Nat) (dQ:Shp rows g.length nv) (i v:Nat) (hi:i<g.length) (h0:i ≠ 0) (hv:v<nv) (b gb:Nat) (ofv nodv bv dv:Value) (D D' Db:Nat->Prop) (W:World) (hc:Cells W b 0 (chk gb ofv nodv bv dv)) (hS:RSf D W s ofv nodv) (hG:GrO D' W f g gb) (hr:SlR 1 (RSl 1 zC) Db W bv rows) :
  Calls Tryz.prog 83 #[.pointer (some ⟨b,0,none⟩),.int .i64 i,.int .i64 v] W (Ret fun r w'=>r=.int .i64 (eqV g s (yG f g s (bfV rows)) i v)/\Ext W w'):=by
 have dR:=hG
 obtain⟨v1,v2,v3,gv,sv,pv,hD,df,hf,hg,hs,dt⟩:=dR
 obtain⟨apr,cpr,rfl⟩:=dt.form
 have dS:(zeU g).length=g.length:=by simp[zeU]
 have dT:=dt.max
 have dU:=hS
 have du:=hS.nodes
 have en:=du.max
 obtain⟨an,cn,rfl⟩:=du.form
 refine znm Tryz.func83 O Tryz.ntmps83 O (znE (zob 900 0 O O (fun h=>h) hc (zob 901 0 O O (fun h=>h) df (znL 0 900 0 O O (Vs 14 O ?_)))))
 obtain⟨x,dg,dV⟩:=gE_ s.nodes (i) (by omega)
 obtain⟨eo,ep,er,dw,_,dx,dy⟩:=du.at dg
 obtain⟨dW,dX,rfl,db,dz⟩:=dy
 obtain⟨dY,dZ,rfl⟩:=db.form
 obtain⟨d5,d6,rfl⟩:=dz.form
 refine zoa 1000 0 O O dx ?_
 refine znN 1000 tR28 ts59 O dw (by omega) (_) (rfl) O ?_
 have eu:=db.max
 have dK:zj s i=x:=yP dg
 refine Vs 7 O (zoe (σ:=Nat) [0,1,2,21,22] [900,901] [0] O (fun e k=>(23,.int .i64 k)::e) (fun e k=>e) (fun k=>k<=x.phis.length/\∀ (j:Nat) q,j<k->x.phis[j]?=some q->q.var ≠ (v:Int)) (fun k=>x.phis.length - k) (0) (Sub.of O) (Has.of O) (fun _=>rfl) (fun _=>rfl) (fun _=>rfl) (⟨zpz _,fun j q h=>absurd h (zrZ _)⟩) ?_)
 rintro k ⟨ew,dc⟩
 refine Vs 6 O (zlG O (fun lt=>?_) (fun lt=>?_))
 .
  refine Vs 6 O ?_
  obtain⟨p,de,d7⟩:=gE_ x.phis (k) (by omega)
  obtain⟨ey,ez,eA,dA,_,dB,dC⟩:=db.at de
  obtain⟨d8,d9,rfl,dD,dE⟩:=dC
  obtain⟨ea,eb,rfl⟩:=dD.form
  obtain⟨ec,ed,rfl⟩:=dE.form
  refine zoa 2000 0 O O dB ?_
  refine znN 2000 tR56 ts88 O dA (by omega) (_) (rfl) O (Vs 1 O (V.alloc 8 tz88 O O (fun b8=>?_)))
  refine Vs 11 O (zlG O (fun e0=>?_) (fun e0=>?_))
  . refine Vs 13 O (zlW Tryz.results83 O (fun w hI=>⟨_,rfl,by unfold eqV zg6;rw[zpu h0,dK,zki dc de e0],hI.k0⟩))
  have dF:=yd dc de e0
  refine Va 7 O (by omega) (V.back (k+1) (Sub.of O) (Has.of O) (⟨by omega,dF⟩) (by first | omega | (dsimp only;omega)) 0 O O)
 obtain rfl:k=x.phis.length:=by omega
 have ee:zg6 s i v=none:=by unfold zg6;rw[dK];exact zj1 (xP dc)
 refine Vs 17 O (znL 37 901 0 O O (Vs 4 O ?_))
 obtain⟨pr,hY,dL⟩:=gE_ (zeU g) (i) (by omega)
 obtain⟨ef,eg,eh,dh,_,di,dk⟩:=dt.at hY
 obtain⟨dM,rfl,da⟩:=dk
 obtain⟨dN,dO,rfl⟩:=da.form
 refine zoa 3000 0 O O di ?_
 refine znN 3000 tR89 ts27 O dh (by omega) (_) (rfl) O ?_
 have dl:pr=qU g i:=by rw[zfv hi]at hY;exact(Option.some.inj hY).symm
 have dG:pr.length=(xj g i).length:=by rw[dl];simp[qU]
 have ei:=da.max
 refine Vs 6 O (zoe (σ:=Nat) [0,2,43,44] [900,901] [0] O (fun e j=>(45,.int .i64 j)::(9,.int .i64 (ja (((xj g i).take j).map fun y:Nat=>yG f g s (bfV rows) y v)))::e) (fun e j=>e) (fun j=>j<=pr.length) (fun j=>pr.length - j) (0) (Sub.of O) (Has.of O) (fun _=>rfl) (fun _=>rfl) (fun _=>rfl) (zpz _) ?_)
 rintro j hj
 refine Vs 6 O (zlG O (fun lj=>?_) (fun lj=>?_))
 .
  refine Vs 6 O ?_
  obtain⟨y,dm,ej⟩:=gE_ pr (j) (by omega)
  obtain⟨eC,eD,eE,dH,_,dI,dJ⟩:=da.at dm
  obtain rfl:=dJ
  refine zoa 4000 0 O O dI ?_
  refine znN 4000 tR27 ts3 O dH (by omega) (_) (rfl) O ?_
  obtain⟨n,rfl,ek,em⟩:=kZ (dl ▸ dm)
  have dF:ja (((xj g i).take (j+1)).map fun y:Nat=>yG f g s (bfV rows) y v)=xk (ja (((xj g i).take j).map fun y:Nat=>yG f g s (bfV rows) y v)) (yG f g s (bfV rows) n v):=by rw[ze ek,zr3,List.map_singleton,ze2]
  generalize ja (((xj g i).take j).map fun y:Nat=>yG f g s (bfV rows) y v)=ac at *
  refine Vs 9 O (znZ Tryz.call84 O (fun w hI=>zcq f g s hk dr rows nv dQ n v em hv b gb _ _ _ _ D D' Db w (Tr1 hI.k0 hc) (Tr1 hI.k0 dU) (Tr1 hI.k0 hG) (Tr1 hI.k0 hr)) ?_)
  generalize yG f g s (bfV rows) n v=bb at *
  refine Vs 3 O (zof (σ:=Unit) [0,2,43,44,45] [900,901] [0] O (fun e u=>(9,.int .i64 (xk ac bb))::e) (fun e u=>e) (fun u=>True) (fun _=>rfl) (fun _=>rfl) ?_ ?_)
  .
   refine Vs 6 O (V.sp 56 O (fun e1=>?_) (fun e1=>?_))
   . refine Vs 10 O (zlT (()) (Sub.cons (by unfold xk;rw[zpv (.inl e1)];rfl) (Sub.of O)) (Has.of O) (True.intro) 0 O O)
   refine Vs 7 O (zlG O (fun e2=>?_) (fun e2=>?_))
   . refine Vs 2 O (zlT (()) (Sub.cons (by unfold xk;rw[zpv (.inr e2)];rfl) (Sub.of O)) (Has.of O) (True.intro) 0 O O)
   refine Vs 7 O (zlG O (fun e3=>?_) (fun e3=>?_))
   . refine Vs 5 O (zlT (()) (Sub.cons (by unfold xk;rw[zpu (fun h=>h.elim e1 e2),zpv e3];rfl) (Sub.of O)) (Has.of O) (True.intro) 0 O O)
   refine Vs 4 O (zlT (()) (Sub.cons (by unfold xk;rw[zpu (fun h=>h.elim e1 e2),zpu e3];rfl) (Sub.of O)) (Has.of O) (True.intro) 0 O O)
  rintro u -
  refine Va 6 O (by omega) (V.back (j+1) (Sub.cons (rfl) (Sub.cons (by rw[dF];rfl) (Sub.of O))) (Has.of O) (by omega) (by omega) 0 O O)
 obtain rfl:j=pr.length:=by omega
 refine Vs 12 O (zlW Tryz.results83 O (fun w hI=>⟨_,rfl,by unfold eqV;rw[zpu h0,ee,dG,zpp],hI.k0⟩))
end Go.Proofs.YtckdhgbepmpgiaaGreat
namespace Go.GL
theorem RowsOk.add {α:Type} {enc:α->Value} {e:TypeId} {w:World} {rv:List Value} {rows:List (List α)} {u:Value} {r:List α} (h:RowsOk enc e w rv rows) (hu:w.ownsRow 0 e 1 u r.length (r.map enc)) (dc:∀ g,u.ownBlock=some g->∀ (i:Nat) v,rv[i]?=some v->v.ownBlock ≠ some g):RowsOk enc e w (rv++[u]) (rows++[r]):=by
 have hY:=h.len
 have da:∀ (i:Nat) (v:Value),(rv++[u])[i]?=some v->(i<rv.length/\rv[i]?=some v)\/(i=rv.length/\v=u):=fun i v hv=>by
  by_cases hi:i<rv.length
  . rw[zpK hi]at hv;exact .inl ⟨hi,hv⟩
  have hl:=(zpy.1 hv).1
  rw[zps,zpF]at hl
  obtain rfl:i=rv.length:=by omega
  rw[zpL (by omega),zs0]at hv
  exact .inr ⟨rfl,by simpa using hv.symm⟩
 refine⟨by rw[zps,zps,hY];rfl,fun i v r' hv hr=>?_,fun i j vi vj g de hi hj hg=>?_⟩
 .
  rcases da i v hv with⟨h1,h2⟩ | ⟨rfl,rfl⟩
  .
   rw[zpK (by omega)]at hr
   exact h.row i v r' h2 hr
  rw[hY,zpL (by omega),zs0]at hr
  obtain rfl:r=r':=by simpa using hr
  exact hu
 rcases da i vi hi with⟨h1,h2⟩ | ⟨rfl,rfl⟩
 .
  rcases da j vj hj with⟨h3,h4⟩ | ⟨rfl,rfl⟩
  . exact h.apart i j vi vj g de h2 h4 hg
  exact fun db=>dc g db i vi h2 hg
 rcases da j vj hj with⟨h3,h4⟩ | ⟨rfl,rfl⟩
 . exact fun db=>dc g hg j vj h4 db
 exact absurd O de
theorem RowsOk.nil {α:Type} {enc:α->Value} {e:TypeId} {w:World}:RowsOk enc e w [] ([]:List (List α)):=⟨rfl,fun i v r h=>by simp at h,fun i j vi vj g _ h=>by simp at h⟩
theorem zj3 {α:Type} {l:List α} {i:Nat} {x:α} (h:l[i]?=some x):l.set i x=l:=by
 apply zqK
 intro j
 rw[List.getElem?_set]
 by_cases e:i=j
 .
  subst e
  rw[zpv rfl,zpv (zpy.1 h).1,h]
 rw[zpu e]
section
variable {P:Program} {env:Env} {w:World} {dst:Option Tmp} {ty:TypeId} {pos:String} {aft:Array Edge} {g0:Option (Nat × Bool)}
variable {α:Type} {enc:α->Value} {e:TypeId} {rv:List Value} {rows:List (List α)} {p j g m c:Nat} {r:List α} {a:α}
theorem za0 (hR:RowsOk enc e w rv rows) {v:Value} (hv:rv[p]?=some v) (hr:rows[p]?=some r):∃ ao c,v=.slice ao r.length c/\(0<r.length->∃ g,ao=some ⟨g,0,none⟩):=by
 have h:=hR.row p v r hv hr
 rcases h.2 with⟨rfl,h0⟩ | ⟨g,cap,cur,rfl,_⟩
 . rw[h0];exact⟨_,_,rfl,fun h=>by omega⟩
 exact⟨_,_,rfl,fun _=>⟨_,rfl⟩⟩
theorem qj (hR:RowsOk enc e w rv rows) (hv:rv[p]?=some (.slice (some ⟨g,0,none⟩) m c)) (hr:rows[p]?=some r) (ha:r[j]?=some a):w.cell? ⟨g,0+(j:Int).toNat*1,none⟩=some (enc a):=by
 have h:=hR.row p _ r hv hr
 obtain⟨ao,c',he⟩:=xa h
 simp only[Value.slice.injEq]at he
 obtain⟨_,rfl,_⟩:=he
 have:=(jx h).2.2 j (enc a) (by rw[zpB,ha];rfl)
 simpa using this
theorem zoZ {tl:TypeId} {x y:Operand} (hs:∀ w,(sizeOf tl).run P w=.ok 1 w) (hR:RowsOk enc e w rv rows) (hv:rv[p]?=some (.slice (some ⟨g,0,none⟩) m c)) (hr:rows[p]?=some r) (hj:j<r.length) (h1:one (enc a)=true) (hx:ev env x=some (.pointer (some ⟨g,0+(j:Int).toNat*1,none⟩))) (hy:ev env y=some (enc a)) :
  xZ P ⟨dst,.store tl x y,ty,pos,aft,g0⟩ env w (fun w'=>RowsOk enc e w' rv (rows.set p (r.set j a))/\Keep (fun q=>∃ (i:Nat) (v:Value),rv[i]?=some v/\v.ownBlock=some q) w w'/\∀ q,(∃ (i:Nat) (v:Value),rv[i]?=some v/\v.ownBlock=some q)->((∃ (i:Nat) (v:Value),rv[i]?=some v/\v.ownBlock=some q)\/w.heap.size<=q)/\q<w'.heap.size):=by
 have ho:=hR.row p _ r hv hr
 obtain⟨ao,c',he⟩:=xa ho
 simp only[Value.slice.injEq]at he
 obtain⟨_,rfl,_⟩:=he
 obtain⟨sp,hB,hc,de,da⟩:=jf ho
 have df:0+(j:Int).toNat*1=j:=by simp
 rw[df]at hx
 obtain⟨h6,h7⟩:=xQ h1
 obtain⟨w',db,di,dg,hk⟩:=M.store (dst:=dst) (ty:=ty) (pos:=pos) (aft:=aft) (g:=g0) hs hx hy h6 h7 hB (by rw[zps,zpE];omega)
 have dc:w'.ownsRow 0 e 1 (.slice (some ⟨g,0,none⟩) r.length c) (r.set j a).length ((r.set j a).map enc):=by
  have:=ye (k:=1) (n:=r.length) (cap:=c) dg hc de (by rw[zr2];exact da)
  rw[zrv _ _ (by rw[zpE];exact hj),zrY,zrE (by rw[zr2,zpE];omega),zrF (by rw[zr2,zpE];omega)]at this
  rw[zr2,zr9]
  exact this
 have dh:∃ (i:Nat) (v:Value),rv[i]?=some v/\v.ownBlock=some g:=⟨p,_,hv,rfl⟩
 have hY:=hR.put hv dc (.inl rfl) (hk.mono fun q _ hq=>by have hq:q=g:=hq;subst hq;exact rfl)
 rw[zj3 hv]at hY
 refine⟨w',db,hY,hk.mono fun q _ hq=>by have hq:q=g:=hq;subst hq;exact dh,fun q hq=>⟨.inl hq,?_⟩⟩
 obtain⟨i,v,h8,h9⟩:=hq
 exact zrT (hR.blk h8 h9) hk.size
end
theorem zhw {rv:List Value} {u:Value} {q:Nat} (hq:∃ (i:Nat) (v:Value),(rv++[u])[i]?=some v/\v.ownBlock=some q):(∃ (i:Nat) (v:Value),rv[i]?=some v/\v.ownBlock=some q)\/u.ownBlock=some q:=by
 obtain⟨i,v,h1,h2⟩:=hq
 by_cases hi:i<rv.length
 . exact .inl ⟨i,v,by rwa [zpK hi]at h1,h2⟩
 have hl:=(zpy.1 h1).1
 rw[zps,zpF]at hl
 rw[zpL (by omega),show i - rv.length=0 by omega]at h1
 have h3:u=v:=Option.some.inj h1
 exact .inr (h3 ▸ h2)
end Go.GL
namespace Go.Proofs.YtckdhgbepmpgiaaGreat
open Go.GL
theorem zj4 {e:TypeId} {w:World} {rv:List Value} {rows:List (List Int)} {p:Nat} {v:Value} {r:List Int} (h:RowsOk zc e w rv rows) (hv:rv[p]?=some v) (hr:rows[p]?=some r):SlR 1 zC (fun _=>True) w v r:=zmM zc (fun _ _=>rfl) (h.row p v r hv hr) (fun _ _=>trivial)
theorem zbP {w:World} {v:Value} {rv:List Value} {rows:List (List Int)} {D:Nat->Prop} (h1:w.ownsRow 0 27 1 v rows.length rv) (h2:RowsOk zc 3 w rv rows) (hY:∀ g,v.ownBlock=some g->D g) (da:∀ (i:Nat) u g,rv[i]?=some u->u.ownBlock=some g->D g):SlR 1 (RSl 1 zC) D w v rows:=by
 have:OwnR 27 1 (RSl 1 zC) D w v rows:=⟨rv,h1,fun i x hx=>by
  have db:=h2.len
  have hl:=(zpy.1 hx).1
  obtain⟨u,hu⟩:∃ u,rv[i]?=some u:=⟨_,zpk (by omega)⟩
  have hd:(rv.drop (i*1)).take 1=[u]:=by rw[zrY,zfq hu];rfl
  rw[hd]
  exact⟨u,rfl,zmM zc (fun _ _=>rfl) (h2.row i u x hu hx) (fun g hg=>da i u g hu hg)⟩⟩
 exact this.sl (by decide) (qz zb) (fun q h=>h) hY
def jR (f:Fl) (g:List Nd) (s:Sf):Prop:=(∀ (n:Nat) x,s.nodes[n]?=some x->∀ u ∈ x.uses,inV f g s n u.1=u.2)/\∀ (n:Nat) x,s.nodes[n]?=some x->∀ p ∈ x.phis,∀ (i:Nat) y a,p.frm[i]?=some y->p.args[i]?=some a->zap f g s y.toNat p.var=a
def zeu (nv i:Nat):List Int:=(List.range nv).map fun v:Nat=>if i=0 then (v:Int) else -1
def rows0 (nv N:Nat):List (List Int):=(List.range N).map (zeu nv)
theorem zaU (nv i:Nat):(zeu nv i).length=nv:=by simp[zeu]
theorem zeb (nv N:Nat):Shp (rows0 nv N) N nv:=⟨by simp[rows0],fun r hr=>by obtain⟨i,_,rfl⟩:=zrf.1 hr;exact zaU nv i⟩
theorem zec {nv N i:Nat} (h:i<N):(rows0 nv N)[i]?=some (zeu nv i):=by unfold rows0;rw[zpB,List.getElem?_range h];rfl
theorem zfE {nv N i:Nat} {v:Int} (hi:i<N) (h0:0<=v) (hv:v<(nv:Int)):bfV (rows0 nv N) i v=if i=0 then v else -1:=by
 obtain⟨n,rfl⟩:=zqg h0
 refine zaG (zec hi) ?_
 unfold zeu
 rw[zpB,List.getElem?_range (by omega)]
 rfl
theorem zhx (f:Fl) (g:List Nd) (s:Sf) (nv:Nat):RunV f g s nv (bfV (rows0 nv g.length)):=by
 have h:RunV f g s nv (fun i v=>if i=0 then v else -1):=RunV.start fun i v=>rfl
 exact h.congr fun i hi v hv hn=>(zfE hi hv hn).symm
theorem zj5 {nv i k:Nat} (h:k<nv):((zeu nv i).take k++List.replicate (nv - k) 0).set k (if i=0 then (k:Int) else -1)=(zeu nv i).take (k+1)++List.replicate (nv - (k+1)) 0:=by
 have hg:(zeu nv i)[k]?=some (if i=0 then (k:Int) else -1):=by unfold zeu;rw[zpB,List.getElem?_range h];rfl
 rw[ze hg,zrw _ _ (by rw[zpO,zaU];omega),zpO,zaU,show k - min k nv=0 by omega,show nv - k=(nv - (k+1))+1 by omega,zrt]
 simp
theorem zkX {f:Fl} {s:Sf} (h:OfF f s) {k:Nat} {v:Int} (hv:s.of_[k]?=some v):0<=v/\v<(f.vars.length:Int):=by
 by_cases hk:k<f.vars.length
 . have:=h.ini k v hv hk;omega
 obtain⟨h1,x,hx,_⟩:=h.new k v hv (by omega)
 have:=(zpy.1 hx).1
 omega
theorem za1 {f:Fl} {s:Sf} (h:OfF f s) {k v:Int} {b:Bool} (hv:kn f s k v b):0<=v/\v<(f.vars.length:Int):=zkX h hv.2.1
def zkY (f:Fl) (g:List Nd) (s:Sf) (p:Phn):Prop:=∀ (m:Nat) y,p.frm[m]?=some y->∀ a,p.args[m]?=some a->zap f g s y.toNat p.var=a
structure NodU (f:Fl) (g:List Nd) (s:Sf) (n:Nat) (x:Sn):Prop where
 use:∀ u ∈ x.uses,inV f g s n u.1=u.2
 arg:∀ p ∈ x.phis,zkY f g s p
theorem zed {f:Fl} {g:List Nd} {s:Sf} (h:∀ (n:Nat) x,s.nodes[n]?=some x->NodU f g s n x):jR f g s :=
 ⟨fun n x hx u hu=>(h n x hx).use u hu,fun n x hx p hp i y a hy ha=>(h n x hx).arg p hp i y hy a ha⟩
theorem zhy {f:Fl} {g:List Nd} {s:Sf} {B:Nat->Int->Int} {q:Nat} {v:Int} (h:B q v=inV f g s q v):yG f g s B q v=zap f g s q v:=by
 unfold zap yG
 rw[h]
theorem zeW (f:Fl) (g:List Nd) (s:Sf) (hk:GOk f g) (hY:s.nodes.length=g.length) (rows:List (List Int)) (nv:Nat) (da:Shp rows g.length nv) (i:Nat) (v:Int) (hi:i<g.length) (h0:0<=v) (hv:v<(nv:Int)) (b gb:Nat) (ofv nodv bv dv:Value) (D D' Db:Nat->Prop) (W:World) (hc:Cells W b 0 (chk gb ofv nodv bv dv)) (hS:RSf D W s ofv nodv) (hG:GrO D' W f g gb) (hr:SlR 1 (RSl 1 zC) Db W bv rows) :
  Calls Tryz.prog 84 #[.pointer (some ⟨b,0,none⟩),.int .i64 i,.int .i64 v] W (Ret fun r w'=>r=.int .i64 (yG f g s (bfV rows) i v)/\Ext W w'):=by
 obtain⟨n,rfl⟩:=zqg h0
 exact zcq f g s hk hY rows nv da i n hi (by omega) b gb ofv nodv bv dv D D' Db W hc hS hG hr
theorem zhz (f:Fl) (g:List Nd) (s:Sf) (hk:GOk f g) (hF:FormF f g s (rdV f g)) (fE:1<=g.length) (eN:g.length<=100000) (fF:f.vars.length<=1000) (b gb:Nat) (ofv nodv dv:Value) (D:Nat->Prop) (W:World) (hB:(HE.own b (chk gb ofv nodv (.slice none 0 0) dv) 97).holds W) (eG:∀ q,D q->q<W.heap.size/\q ≠ b) (hS:RSf D W s ofv nodv) (hG:GrO D W f g gb) :
  Calls Tryz.prog 41 #[.pointer (some ⟨b,0,none⟩)] W (Ret fun r w'=>∃ x:Value × Bool,(r=.bool x.2/\(x.2=true ↔ jR f g s))/\(HE.own b (chk gb ofv nodv x.1 dv) 97).holds w'/\Keep (HE.own b (chk gb ofv nodv (.slice none 0 0) dv) 97).S W w'/\∀ q,(HE.own b (chk gb ofv nodv x.1 dv) 97).S q->((HE.own b (chk gb ofv nodv (.slice none 0 0) dv) 97).S q\/W.heap.size<=q)/\q<w'.heap.size):=by
 have eO:=hG
 obtain⟨v1,v2,v3,gv,sv,pv,hD,dE,hf,hg,hs,fG⟩:=eO
 obtain⟨av,cv,rfl⟩:=hf.vars.form
 obtain⟨ag,cg,rfl⟩:=hg.form
 have fH:=hS
 have dY:=hS.nodes
 have fI:=dY.max
 obtain⟨an,cn,rfl⟩:=dY.form
 have eP:=hF.len
 have dZ:=hF.nn
 have dh:∀ q,(HE.own b (chk gb ofv (.slice an s.nodes.length cn) (.slice none 0 0) dv) 97).S q->¬ D q:=fun q h hd=>(eG q hd).2 h
 have fJ:g.length*(f.vars.length*2)<=100000*(1000*2):=zrW eN (by omega)
 generalize fK:f.vars.length=nv at *
 generalize hN:g.length=N at *
 refine znk Tryz.func41 O Tryz.ntmps41 O (zop 900 (.own b [.pointer (some ⟨gb,0,none⟩),ofv,.slice an s.nodes.length cn,.slice none 0 0,dv] 97) (hB) trivial (fun _ h=>h) (fun q hq=>by have hq:q=b:=hq;subst hq;exact(show Blk W q _ _ from hB).lt) (zob 901 0 O O (fun h=>(eG _ hD).2 h) dE (znL 0 900 0 O O (Vs 11 O (znL 23 901 0 O O (Vs 15 O (znL 32 901 0 O O (Vs 7 O (znR 903 27 1 O (znR 902 3 1 O (zoq 902 (e':=RowsP zc 3 [] []) O (fun w hI=>RowsOk.nil) RowsP.loc (fun _ h=>h) (fun q hq=>by obtain⟨i,u,h,_⟩:=hq;simp at h) ?_)))))))))))
 refine Vs 1 O (zoe (σ:=Nat × Value × List Value) [0,3,36] [901] [0] O (fun e ⟨i,u,hv⟩=>(37,.int .i64 i)::e) (fun e ⟨i,u,hv⟩=>(900,.own b [.pointer (some ⟨gb,0,none⟩),ofv,.slice an s.nodes.length cn,u,dv] 97)::(903,.row 27 1 u i hv)::(902,RowsP zc 3 hv ((rows0 nv N).take i))::e) (fun⟨i,u,hv⟩=>i<=N/\hv.length=i) (fun⟨i,u,hv⟩=>N - i) ((0,.slice none 0 0,[])) (Sub.of O) (Has.of O) (fun _=>rfl) (fun _=>rfl) (fun _=>rfl) (⟨zpz _,rfl⟩) ?_)
 rintro⟨i,u,hv⟩ ⟨hi,eQ⟩
 show V _ _ _ _ _ ((37,.int .i64 i)::_) _ ((900,.own b [.pointer (some ⟨gb,0,none⟩),ofv,.slice an s.nodes.length cn,u,dv] 97)::(903,.row 27 1 u i hv)::(902,RowsP zc 3 hv ((rows0 nv N).take i))::_) _
 refine Vs 6 O (zlG O (fun lt=>?_) (fun lt=>?_))
 .
  refine Vs 13 O (zmz 41 tu27 Tryz.el3 O (by omega) (by omega) (zs:=List.replicate nv (.int .i64 0)) (qa _ _ O) (by simp) (fun b41=>?_))
  refine zod 41 O (e':=.row 3 1 (.slice (some ⟨b41,0,none⟩) nv nv) nv (((zeu nv i).take 0++List.replicate (nv - 0) 0).map zc)) (by simp) (Vs 12 O (zoe (σ:=Nat) [0,3,4,5,36,37,43] [900,901,902,903] [0] O (fun e k=>(44,.int .i64 k)::e) (fun e k=>(41,.row 3 1 (.slice (some ⟨b41,0,none⟩) nv nv) nv (((zeu nv i).take k++List.replicate (nv - k) 0).map zc))::e) (fun k=>k<=nv) (fun k=>nv - k) (0) (Sub.of O) (Has.of O) (fun _=>rfl) (fun _=>rfl) (fun _=>rfl) (zpz _) ?_))
  rintro k eR
  have d5:=zaU nv i
  refine Vs 6 O (zlG O (fun lk=>?_) (fun lk=>?_))
  .
   have dW:=zj5 (i:=i) (show k<nv by omega)
   have eH:((zeu nv i).take k++List.replicate (nv - k) (0:Int)).length=nv:=by rw[zps,zpO,zr1,d5];omega
   refine Va 15 O (by omega) (znX 41 (k) ts3 O (by omega) (by rw[zpE,eH];omega) (Vs 3 O (znF (p:=i=0) (fun z0=>?_) (fun z0=>?_))))
   .
    refine Vs 5 O (zlG O (fun z1=>?_) (fun z1=>?_))
    .
     refine Va 5 O (by omega) (znX 41 (k) ts3 O (by omega) (by rw[zr2,zpE,eH];omega) ?_)
     rw[zpv z0]at dW
     refine zod 41 O (e':=.row 3 1 (.slice (some ⟨b41,0,none⟩) nv nv) nv (((zeu nv i).take (k+1)++List.replicate (nv - (k+1)) 0).map zc)) (by rw[List.set_set,<- dW,zr9]) (Va 7 O (by omega) (V.back (k+1) (Sub.of O) (Has.of O) (by omega) (by first | omega | (dsimp only;omega)) 0 O O))
    omega
   refine Vs 5 O (zlG O (fun z1=>?_) (fun z1=>?_))
   . omega
   rw[zpu z0]at dW
   refine zod 41 O (e':=.row 3 1 (.slice (some ⟨b41,0,none⟩) nv nv) nv (((zeu nv i).take (k+1)++List.replicate (nv - (k+1)) 0).map zc)) (by rw[<- dW,zr9]) (Va 7 O (by omega) (V.back (k+1) (Sub.of O) (Has.of O) (by omega) (by first | omega | (dsimp only;omega)) 0 O O))
  obtain rfl:k=nv:=by omega
  refine zod 41 O (e':=.row 3 1 (.slice (some ⟨b41,0,none⟩) k k) (zeu k i).length ((zeu k i).map zc)) (by rw[zrF (by omega),zs0,zru,zqz,d5]) (Vs 12 O (V.bs 63 [(0,_)] tR89 ts27 tz27 (by decide) O O (by kernel_rfl) (fun b63=>?_)))
  refine znS 903 63 tu89 Tryz.el27 O (by decide) O O (by omega) (by omega) (fun u903=>(Vs 2 O (znU 903 O (by omega) ?_)))
  rintro ob oc rfl df
  refine Va 8 O (by omega) (zoP 902 41 (e':=RowsP zc 3 (hv++[Value.slice (some ⟨b41,0,none⟩) k k]) ((rows0 k N).take (i+1))) [(0,some (900,0)),(57,some (900,0)),(58,some (900,0)),(59,some (900,0)),(60,some (900,3)),(65,some (900,0)),(66,some (900,3))] O O O (fun w hI=>(by rw[ze (zec (nv:=k) (show i<N by omega))];exact(show RowsOk _ _ _ _ _ from hI.at 902 O).add (hI.at 41 O) (fun g hg i v hv eS=>hI.sep (k:=902) (k2:=41) O O (by decide) ⟨i,v,hv,eS⟩ hg))) (RowsP.loc) (fun _ h=>h) (fun q (hq:∃ (i:Nat) (v:Value),(hv++[Value.slice (some ⟨b41,0,none⟩) k k])[i]?=some v/\v.ownBlock=some q)=>zhw hq) ?_)
  refine V.back (⟨i+1,.slice (some ⟨ob,0,none⟩) (i+1) oc,hv++[.slice (some ⟨b41,0,none⟩) k k]⟩) (Sub.of O) (Has.of O) (⟨by omega,by rw[zps,eQ];rfl⟩) (by first | omega | (dsimp only;omega)) 0 O O
 obtain rfl:i=N:=by omega
 have eT:(rows0 nv i).length=i:=(zeb nv i).len
 have d6:Shp (rows0 nv i) g.length nv:=by rw[hN];exact zeb nv i
 have dF:RunV f g s nv (bfV (rows0 nv i)):=by have:=zhx f g s nv;rwa [hN]at this
 have d7:∀ v:Int,0<=v->v<(nv:Int)->bfV (rows0 nv i) 0 v=v:=fun v h0 h1=>by rw[zfE (by omega) h0 h1,zpv rfl]
 have fL:∀ q,(fun _:Nat=>True) q:=fun _=>trivial
 refine znU 903 O (by omega) ?_
 rintro og oc rfl df
 refine zod 902 O (e':=RowsP zc 3 hv (rows0 nv i)) (by rw[zrF (by omega)]) (Vs 12 O (zoe (σ:=Bool × List (List Int)) [0,3] [900,901,903] [0] O (fun e ⟨ch,rows⟩=>(7,.bool ch)::e) (fun e ⟨ch,rows⟩=>(902,RowsP zc 3 hv rows)::e) (fun⟨ch,rows⟩=>Shp rows g.length nv/\RunV f g s nv (bfV rows)/\(∀ v:Int,0<=v->v<(nv:Int)->bfV rows 0 v=v)/\(ch=false->SolV f g s nv (bfV rows))) (fun⟨ch,rows⟩=>(g.length*(nv*2) - rkT rows)*2+ch.toNat) ((true,rows0 nv i)) (Sub.of O) (Has.of O) (fun _=>rfl) (fun _=>rfl) (fun _=>rfl) (⟨d6,dF,d7,fun h=>by cases h⟩) ?_))
 rintro⟨ch,rows⟩ ⟨dX,d8,eU,eV⟩
 show V _ _ _ _ _ ((7,.bool ch)::_) _ ((902,RowsP zc 3 hv rows)::_) _
 refine Vs 6 O (V.bool O (fun c1=>?_) (fun c1=>?_))
 .
  subst c1
  refine Vs 14 O (zoe (σ:=Nat × Bool × List (List Int)) [0,3] [900,901,903] [0] O (fun e ⟨j,c2,Q1⟩=>(8,.int .i64 j)::(7,.bool c2)::e) (fun e ⟨j,c2,Q1⟩=>(902,RowsP zc 3 hv Q1)::e) (fun⟨j,c2,Q1⟩=>1<=j/\j<=i/\PassV f g s nv rows Q1 c2 (fun a u=>1<=a/\a<j/\u<nv)/\∀ v:Int,0<=v->v<(nv:Int)->bfV Q1 0 v=v) (fun⟨j,c2,Q1⟩=>i - j) ((1,false,rows)) (Sub.of O) (Has.of O) (fun _=>rfl) (fun _=>rfl) (fun _=>rfl) (⟨zpJ _,by omega,PassV.start dX d8 (fun a u h=>by omega),eU⟩) ?_)
  rintro⟨j,c2,Q1⟩ ⟨fM,hj,dl,hz⟩
  show V _ _ _ _ _ ((8,.int .i64 j)::(7,.bool c2)::_) _ ((902,RowsP zc 3 hv Q1)::_) _
  refine Vs 8 O (znL 73 901 0 O O (Vs 7 O (zlG O (fun lj=>?_) (fun lj=>?_))))
  .
   refine Vs 11 O (zoe (σ:=Nat × Bool × List (List Int)) [0,3,8,81] [900,901,903] [0] O (fun e ⟨v,c3,Q3⟩=>(82,.int .i64 v)::(7,.bool c3)::e) (fun e ⟨v,c3,Q3⟩=>(902,RowsP zc 3 hv Q3)::e) (fun⟨v,c3,Q3⟩=>v<=nv/\PassV f g s nv rows Q3 c3 (fun a u=>1<=a/\((a<j/\u<nv)\/(a=j/\u<v)))/\∀ v:Int,0<=v->v<(nv:Int)->bfV Q3 0 v=v) (fun⟨v,c3,Q3⟩=>nv - v) ((0,c2,Q1)) (Sub.of O) (Has.of O) (fun _=>rfl) (fun _=>rfl) (fun _=>rfl) (⟨zpz _,dl.imp (fun a u h=>by omega),hz⟩) ?_)
   rintro⟨v,c3,Q3⟩ ⟨fN,hY,dG⟩
   show V _ _ _ _ _ ((82,.int .i64 v)::(7,.bool c3)::_) _ ((902,RowsP zc 3 hv Q3)::_) _
   refine Vs 6 O (zlG O (fun lv=>?_) (fun lv=>?_))
   .
    obtain⟨r,dH,d5⟩:=hY.shp.at (show j<g.length by omega)
    obtain⟨old,eI⟩:∃ z,r[v]?=some z:=⟨_,zpk (by omega)⟩
    have d9:=zaG dH eI
    obtain⟨hu,dI⟩:∃ z,hv[j]?=some z:=⟨_,zpk (by omega)⟩
    refine znG (p:=∃ ao ch,hu=.slice ao r.length ch/\(0<r.length->∃ g,ao=some ⟨g,0,none⟩)) (fun w hI=>za0 (show RowsOk _ _ _ _ _ from hI.at 902 O) dI dH) (fun eW=>?_)
    obtain⟨ao,cu,rfl,eX⟩:=eW
    obtain⟨gu,rfl⟩:=eX (by omega)
    have ea:Q3.length=i:=by have:=hY.shp.len;omega
    refine Va 18 O (by omega) (znW 903 (j) tg27 O (by omega) (dI) (Vs 1 O (znb O (fun w hI=>zmh tR27 ts3 O O O (by omega)) (znb O (fun w hI=>R.load tg3 O (qj (hI.at 902 O) dI dH eI)) (Vs 9 O (zlG O (fun o1=>?_) (fun o1=>?_)))))))
    .
     refine Vs 5 O (znZ Tryz.call83 O (fun w hI=>zj2 f g s hk (by omega) Q3 nv hY.shp j v (by omega) (by omega) (by omega) b gb _ _ _ _ D D (fun _=>True) w (Blk.cells (hI.at 900 O)) (hS.keep hI.k0 fun q hd _ h=>dh q h hd) (hG.keep hI.k0 fun q hd _ h=>dh q h hd) (zbP (show w.ownsRow 0 _ 1 _ _ _ from ea ▸ hI.at 903 O) (hI.at 902 O) (fun _ _=>trivial) (fun _ _ _ _ _=>trivial))) (Vs 9 O (V.sp 104 O (fun n1=>?_) (fun n1=>?_))))
     .
      refine Vs 5 O (zlG O (fun n2=>?_) (fun n2=>?_))
      .
       have yx:PassV f g s nv rows (jQ Q3 j v (eqV g s (yG f g s (bfV Q3)) j v)) true (fun a u=>1<=a/\((a<j/\u<nv)\/(a=j/\u<v+1))):=hY.set dZ (i:=j) (v:=v) (by omega) (by omega) (by rw[d9];exact n1)
       have eY:∀ u:Int,0<=u->u<(nv:Int)->bfV (jQ Q3 j v (eqV g s (yG f g s (bfV Q3)) j v)) 0 u=u:=fun u h0 h1=>by
        rw[zfC hY.shp (by omega) (by omega) _ h0]
        unfold zc4
        rw[zpu (by omega)]
        exact dG u h0 h1
       generalize eqV g s (yG f g s (bfV Q3)) j v=now at *
       refine Va 8 O (by omega) (znW 903 (j) tg27 O (by omega) (dI) (Vs 2 O (znb O (fun w hI=>zmh tR27 ts3 O O O (by omega)) (zoK 902 (e':=RowsP zc 3 hv (Q3.set j (r.set v now))) O (RowsP.loc) (fun _ h=>h) (fun w hI=>zoZ ts3 (hI.at 902 O) dI dH (by omega) O O O) (zod 902 O (e':=RowsP zc 3 hv (jQ Q3 j v now)) (by unfold jQ;rw[dH];rfl) (Va 11 O (by omega) (V.back (⟨v+1,true,jQ Q3 j v now⟩) (Sub.of O) (Has.of O) (⟨by omega,yx,eY⟩) (by first | omega | (dsimp only;omega)) 0 O O)))))))
      have da:PassV f g s nv rows Q3 c3 (fun a u=>1<=a/\((a<j/\u<nv)\/(a=j/\u<v+1))):=hY.skip (i:=j) (v:=v) (.inr (.inr (by omega))) (fun a u h=>by omega)
      refine Va 7 O (by omega) (V.back (⟨v+1,c3,Q3⟩) (Sub.of O) (Has.of O) (⟨by omega,da,dG⟩) (by first | omega | (dsimp only;omega)) 0 O O)
     have da:PassV f g s nv rows Q3 c3 (fun a u=>1<=a/\((a<j/\u<nv)\/(a=j/\u<v+1))):=hY.skip (i:=j) (v:=v) (.inr (.inl (by rw[d9];omega))) (fun a u h=>by omega)
     refine Va 13 O (by omega) (V.back (⟨v+1,c3,Q3⟩) (Sub.of O) (Has.of O) (⟨by omega,da,dG⟩) (by first | omega | (dsimp only;omega)) 0 O O)
    have da:PassV f g s nv rows Q3 c3 (fun a u=>1<=a/\((a<j/\u<nv)\/(a=j/\u<v+1))):=hY.skip (i:=j) (v:=v) (.inl (by rw[d9];omega)) (fun a u h=>by omega)
    refine Va 7 O (by omega) (V.back (⟨v+1,c3,Q3⟩) (Sub.of O) (Has.of O) (⟨by omega,da,dG⟩) (by first | omega | (dsimp only;omega)) 0 O O)
   refine Va 11 O (by omega) (V.back (⟨j+1,c3,Q3⟩) (Sub.of O) (Has.of O) (⟨by omega,by omega,hY.imp (fun a u h=>by omega),dG⟩) (by first | omega | (dsimp only;omega)) 0 O O)
  have fO:(g.length*(nv*2) - rkT Q1)*2+c2.toNat<(g.length*(nv*2) - rkT rows)*2+true.toNat:=by
   have:=zkh dl.shp
   cases c2 with
   | true=>have:=dl.yes rfl;simp only[zqb];omega
   | false=>rw[(dl.no rfl).1];simp only[zqb,Bool.toNat_false];omega
  have dJ:c2=false->SolV f g s nv (bfV Q1):=fun e=>by
   subst e
   exact dl.done (fun a u h1 h2 h3=>by omega) hz
  refine Vs 5 O (V.back (⟨c2,Q1⟩) (Sub.of O) (Has.of O) (⟨dl.shp,dl.run,hz,dJ⟩) (by first | omega | (dsimp only;omega)) 0 O O)
 subst c1
 have dK:=eV rfl
 have dL:rows.length=i:=by have:=dX.len;omega
 have dM:=dX.row
 refine zoP 903 902 (e':=.res (fun q=>(Value.slice (some ⟨og,0,none⟩) i oc).ownBlock=some q\/∃ (k:Nat) (u:Value),hv[k]?=some u/\u.ownBlock=some q) (fun w=>SlR 1 (RSl 1 zC) (fun q=>(Value.slice (some ⟨og,0,none⟩) i oc).ownBlock=some q\/∃ (k:Nat) (u:Value),hv[k]?=some u/\u.ownBlock=some q) w (.slice (some ⟨og,0,none⟩) i oc) rows)) [(0,some (900,0))] O O O (fun w hI=>zbP (show w.ownsRow 0 _ 1 _ _ _ from dL ▸ hI.at 903 O) (hI.at 902 O) (fun _ h=>.inl h) (fun k u q h h2=>.inr ⟨k,u,h,h2⟩)) ((fun w w' T h hk hT=>h.keep (qz zb) hk fun b hb hl=>hT b hl hb)) (fun _ h=>h) (fun q hq=>hq) ?_
 refine zoY 903 O (p:=(fun w=>SlR 1 (RSl 1 zC) (fun q=>(Value.slice (some ⟨og,0,none⟩) i oc).ownBlock=some q\/∃ (k:Nat) (u:Value),hv[k]?=some u/\u.ownBlock=some q) w (.slice (some ⟨og,0,none⟩) i oc) rows)) (fun w w' T h hk hT=>h.keep (qz zb) hk fun b hb _=>hT b hb) (fun w hI=>hI.at 903 O) (fun wp dN dm=>(Vs 18 O (zoe (σ:=Nat) [0,123,124] [900,901,903] [0] O (fun e n=>(125,.int .i64 n)::e) (fun e n=>e) (fun n=>n<=s.nodes.length/\(∀ (m:Nat) x,m<n->s.nodes[m]?=some x->NodU f g s m x)) (fun n=>s.nodes.length - n) (0) (Sub.of O) (Has.of O) (fun _=>rfl) (fun _=>rfl) (fun _=>rfl) (⟨zpz _,fun m x h=>absurd h (zrZ _)⟩) ?_)))
 rintro n ⟨hn,dO⟩
 refine Vs 6 O (zlG O (fun ln=>?_) (fun ln=>?_))
 .
  refine Vs 7 O ?_
  obtain⟨x,dg,eZ⟩:=gE_ s.nodes (n) (by omega)
  obtain⟨fP,fQ,fR,eb,ec,ed,ee⟩:=dY.atD dg
  obtain⟨e8,e9,rfl,dr,dt⟩:=ee
  obtain⟨fa,fb,rfl⟩:=dr.form
  obtain⟨fc,fe,rfl⟩:=dt.form
  refine zob 1000 1 O O (fun h_=>by have dc:=dh _ h_;have de:=ec;first | omega | exact dc de) ed ?_
  refine znN 1000 tR28 ts59 O eb (by omega) (_) (rfl) O ?_
  have di:=hF.nod n x dg
  have fS:=dt.max
  have fT:=dr.max
  have fg:n<g.length:=by omega
  refine Vs 1 O (V.alloc 13 tz59 O O (fun b13=>?_))
  refine Vs 14 O (zoe (σ:=Nat) [0,12,13,123,124,125,131,132] [13,900,901,903] [0,13] O (fun e k=>(133,.int .i64 k)::e) (fun e k=>e) (fun k=>k<=x.uses.length/\(∀ (j:Nat) u,j<k->x.uses[j]?=some u->inV f g s n u.1=u.2)) (fun k=>x.uses.length - k) (0) (Sub.of O) (Has.of O) (fun _=>rfl) (fun _=>rfl) (fun _=>rfl) (⟨zpz _,fun j u h=>absurd h (zrZ _)⟩) ?_)
  rintro k ⟨eR,eJ⟩
  refine Vs 6 O (zlG O (fun lk=>?_) (fun lk=>?_))
  .
   refine Vs 6 O ?_
   obtain⟨u,dQ,dR⟩:=gE_ x.uses (k) (by omega)
   obtain⟨fU,fV,fW,ef,eg,eh,ei⟩:=dt.atD dQ
   obtain rfl:=ei
   refine zob 2000 1 O O (fun h_=>by have dc:=dh _ h_;have de:=eg;first | omega | exact dc de) eh ?_
   refine znN 2000 tR57 ts85 O ef (by omega) (_) (rfl) O ?_
   have fh:=za1 hF.of_ (di.ver u dR)
   obtain⟨u1,u2⟩:=u
   dsimp only at fh
   obtain⟨v,rfl⟩:∃ v:Nat,u1=(v:Int):=⟨u1.toNat,by omega⟩
   obtain⟨r,dS,ej⟩:=gE_ rows (n) (by omega)
   obtain⟨fX,fY,fZ,ek,em,en,eo⟩:=dN.atD dS
   obtain⟨fi,rfl,dT⟩:=eo
   obtain⟨fj,fk,rfl⟩:=dT.form
   refine zob 3000 0 O O (fun h_=>by have dc:=dm _ h_;have de:=em;first | omega | exact dc de) en ?_
   have f0:=dM r ej
   obtain⟨y,db,ep⟩:=gE_ r (v) (by omega)
   obtain⟨fm,fp,fq,du,dw,dx,dy⟩:=dT.atD db
   obtain rfl:=dy
   refine zob 4000 0 O O (fun h_=>by have dc:=dm _ h_;have de:=dw;first | omega | exact dc de) dx ?_
   have er:y=inV f g s n v:=by rw[<- zaG dS db];exact dK.is dZ (by omega) (by omega) fg
   refine Vs 1 O (V.alloc 15 tz85 O O (fun b15=>?_))
   refine Vs 4 O (Vq (by kernel_rfl) (Vs 5 O (znQ 3000 tR89 ts27 O ek (by omega) (n) (by omega) O (Vs 3 O (znQ 4000 tR27 ts3 O du (by omega) (v) (by omega) O (Vs 6 O (zlG O (fun e1=>?_) (fun e1=>?_))))))))
   .
    have dz:¬ jR f g s:=fun h=>e1 (by rw[er];exact h.1 n x dg _ dR)
    refine Vs 16 O (zlW Tryz.results41 O (fun w hI=>⟨_,rfl,⟨(.slice (some ⟨og,0,none⟩) i oc,false),⟨rfl,⟨fun h=>(by cases h),fun h=>absurd h dz⟩⟩,hI.at 900 rfl,hI.k1,fun q hq=>hI.inS 1 900 O O hq⟩⟩))
   have dA:=yd eJ dQ (show inV f g s n v=u2 by omega)
   refine Va 7 O (by omega) (V.back (k+1) (Sub.of O) (Has.of O) (⟨by omega,dA⟩) (by first | omega | (dsimp only;omega)) 0 O O)
  obtain rfl:k=x.uses.length:=by omega
  refine Vs 14 O (zoe (σ:=Nat) [0,123,124,125,153,154] [900,901,903] [0] O (fun e k=>(155,.int .i64 k)::e) (fun e k=>e) (fun k=>k<=x.phis.length/\(∀ (j:Nat) p,j<k->x.phis[j]?=some p->zkY f g s p)) (fun k=>x.phis.length - k) (0) (Sub.of O) (Has.of O) (fun _=>rfl) (fun _=>rfl) (fun _=>rfl) (⟨zpz _,fun j u h=>absurd h (zrZ _)⟩) ?_)
  rintro k ⟨f5,eK⟩
  refine Vs 6 O (zlG O (fun lp=>?_) (fun lp=>?_))
  .
   refine Vs 6 O ?_
   obtain⟨p,dU,dk⟩:=gE_ x.phis (k) (by omega)
   obtain⟨f6,f7,f8,eu,ew,ey,ez⟩:=dr.atD dU
   obtain⟨ft,fu,rfl,dB,dC⟩:=ez
   obtain⟨fv,fw,rfl⟩:=dB.form
   obtain⟨fy,fA,rfl⟩:=dC.form
   refine zob 5000 1 O O (fun h_=>by have dc:=dh _ h_;have de:=ew;first | omega | exact dc de) ey ?_
   refine znN 5000 tR56 ts88 O eu (by omega) (_) (rfl) O ?_
   have fB:=di.phi.frm p dk
   have f9:=di.phi.len p dk
   have ga:=za1 hF.of_ (di.phi.ver p dk)
   have gc:=dB.max
   have gf:=dC.max
   refine Vs 1 O (V.alloc 17 tz88 O O (fun b17=>?_))
   refine Vs 12 O (zoe (σ:=Nat) [0,17,123,124,125,153,154,155,160,161] [17,900,901,903] [0,17] O (fun e j=>(162,.int .i64 j)::e) (fun e j=>e) (fun j=>j<=p.frm.length/\(∀ (m:Nat) y,m<j->p.frm[m]?=some y->∀ a,p.args[m]?=some a->zap f g s y.toNat p.var=a)) (fun j=>p.frm.length - j) (0) (Sub.of O) (Has.of O) (fun _=>rfl) (fun _=>rfl) (fun _=>rfl) (⟨zpz _,fun m y h=>absurd h (zrZ _)⟩) ?_)
   rintro j ⟨hj,eL⟩
   refine Vs 6 O (zlG O (fun lj=>?_) (fun lj=>?_))
   .
    refine Vs 7 O ?_
    obtain⟨y,db,ep⟩:=gE_ p.frm (j) (by omega)
    obtain⟨fm,fp,fq,du,dw,dx,dy⟩:=dB.atD db
    obtain rfl:=dy
    refine zob 6000 1 O O (fun h_=>by have dc:=dh _ h_;have de:=dw;first | omega | exact dc de) dx ?_
    refine znN 6000 tR27 ts3 O du (by omega) (_) (rfl) O ?_
    obtain⟨q,rfl,gh,eM⟩:=kZ (fB ▸ db)
    obtain⟨a,dD,fC⟩:=gE_ p.args (j) (by omega)
    obtain⟨gi,gj,gk,eA,eC,eD,eE⟩:=dC.atD dD
    obtain rfl:=eE
    refine zob 7000 1 O O (fun h_=>by have dc:=dh _ h_;have de:=eC;first | omega | exact dc de) eD ?_
    have dV:yG f g s (bfV rows) q p.var=zap f g s q p.var:=zhy (dK.is dZ (by omega) (by omega) eM)
    refine Vs 6 O (Vw [17,900,901,6000,7000] [] O (Vd [0,1,2,3,5,6,7] 0 (by kernel_rfl) O O O (znO 8 7000 tR27 ts3 O (by kernel_rfl) O eA (by omega) (j) (by omega) O (Vd [9] 0 (by kernel_rfl) O O O (zo0 4 0 Tryz.call84 O (by kernel_rfl) O O (fun w hI=>zeW f g s hk (by omega) rows nv dX q p.var eM (by omega) (by omega) b gb _ _ _ _ D D _ w (Blk.cells (hI.at 900 O)) (hS.keep hI.k1 fun q hd _ h=>dh q h hd) (hG.keep hI.k1 fun q hd _ h=>dh q h hd) (dN.keep (qz zb) hI.k0 fun q hd _ hs=>dm q hs hd)) ?_)))))
    refine Vd [10] 0 (by kernel_rfl) O O O (VD.done (by kernel_rfl) (Vs 1 O (zlG O (fun e1=>?_) (fun e1=>?_))))
    .
     have dz:¬ jR f g s:=fun h=>e1 (by rw[dV];exact h.2 n x dg p dk j _ a db dD)
     refine Vs 19 O (zlW Tryz.results41 O (fun w hI=>⟨_,rfl,⟨(.slice (some ⟨og,0,none⟩) i oc,false),⟨rfl,⟨fun h=>(by cases h),fun h=>absurd h dz⟩⟩,hI.at 900 rfl,hI.k1,fun q hq=>hI.inS 1 900 O O hq⟩⟩))
    have dA:=yd eL db (show ∀ a',p.args[j]?=some a'->zap f g s (Int.toNat (q:Int)) p.var=a' from fun a' fD=>by
     obtain rfl:a'=a:=Option.some.inj (fD.symm.trans dD)
     have e2:=zpt.1 e1
     rw[dV]at e2;exact e2)
    refine Va 7 O (by omega) (V.back (j+1) (Sub.of O) (Has.of O) (⟨by omega,dA⟩) (by first | omega | (dsimp only;omega)) 0 O O)
   obtain rfl:j=p.frm.length:=by omega
   have dA:=yd eK dU (show zkY f g s p from fun m y hm a ha=>eL m y (zpy.1 hm).1 hm a ha)
   refine Va 10 O (by omega) (V.back (k+1) (Sub.of O) (Has.of O) (⟨by omega,dA⟩) (by first | omega | (dsimp only;omega)) 0 O O)
  obtain rfl:k=x.phis.length:=by omega
  have dA:∀ (m:Nat) x',m<n+1->s.nodes[m]?=some x'->NodU f g s m x':=fun m x' hm hx=>by
   by_cases e:m=n
   .
    subst e
    obtain rfl:x'=x:=Option.some.inj (hx.symm.trans dg)
    exact⟨fun u hu=>by obtain⟨q,hq⟩:=zre.1 hu;exact xP eJ q u hq,fun p hp=>by obtain⟨q,hq⟩:=zre.1 hp;exact xP eK q p hq⟩
   exact dO m x' (by omega) hx
  refine Va 10 O (by omega) (V.back (n+1) (Sub.of O) (Has.of O) (⟨by omega,dA⟩) (by first | omega | (dsimp only;omega)) 0 O O)
 obtain rfl:n=s.nodes.length:=by omega
 have eF:jR f g s:=zed (xP dO)
 refine Vs 11 O (zlW Tryz.results41 O (fun w hI=>⟨_,rfl,⟨(.slice (some ⟨og,0,none⟩) i oc,true),⟨rfl,⟨fun _=>eF,fun _=>rfl⟩⟩,hI.at 900 rfl,hI.k1,fun q hq=>hI.inS 1 900 O O hq⟩⟩))
def EqD (D:Nat->Prop) (w w':World):Prop:=∀ b,D b->b<w.heap.size/\w'.heap[b]?=w.heap[b]?
theorem EqD.refl {D:Nat->Prop} {w:World} (h:∀ b,D b->b<w.heap.size):EqD D w w:=fun b hb=>⟨h b hb,rfl⟩
theorem EqD.keep {D S:Nat->Prop} {w w' w2:World} (h:EqD D w w') (hk:Keep S w' w2) (hl:∀ b,D b->b<w'.heap.size) (hS:∀ b,D b->¬ S b):EqD D w w2:=fun b hb=>⟨(h b hb).1,(hk.block b (hl b hb) (hS b hb)).trans (h b hb).2⟩
theorem EqD.to {α:Type} {k:Nat} {R:Rel α} (hR:zR R) {D:Nat->Prop} {w w':World} (h:EqD D w w') {v:Value} {l:List α} (hs:SlR k R D w v l):SlR k R D w' v l:=hs.stable hR (fun _ h=>h) fun b hb _=>(h b hb).2
theorem EqD.back {α:Type} {k:Nat} {R:Rel α} (hR:zR R) {D:Nat->Prop} {w w':World} (h:EqD D w w') {v:Value} {l:List α} (hs:SlR k R D w' v l):SlR k R D w v l:=hs.stable hR (fun _ h=>h) fun b hb _=>(h b hb).2.symm
theorem EqD.lt {D:Nat->Prop} {w w':World} (h:EqD D w w') {b:Nat} (hb:D b):b<w'.heap.size:=by
 have h1:=(h b hb).2
 have h2:=(h b hb).1
 rw[Array.getElem?_eq_getElem h2]at h1
 exact(Array.getElem?_eq_some_iff.1 h1).1
def EncS (D:Nat->Prop) (w:World) (l:List St) (xs:List Value):Prop:=xs.length=l.length*10/\∀ (i:Nat) x,l[i]?=some x->RSt D w x ((xs.drop (i*10)).take 10)
theorem EncS.nil {D:Nat->Prop} {w:World}:EncS D w [] []:=⟨rfl,fun i x h=>by simp at h⟩
theorem EncS.add {D:Nat->Prop} {w:World} {l:List St} {xs cs:List Value} {x:St} (h:EncS D w l xs) (hx:RSt D w x cs) (hc:cs.length=10):EncS D w (l++[x]) (xs++cs):=by
 have h1:=h.1
 refine⟨by rw[zps,zps,h1,hc,zpF];omega,fun i y hy=>?_⟩
 by_cases hi:i<l.length
 .
  rw[zpK hi]at hy
  rw[zqC (by omega),zrE (by rw[zqX];omega)]
  exact h.2 i y hy
 have hl:=(zpy.1 hy).1
 rw[zps,zpF]at hl
 obtain rfl:i=l.length:=by omega
 rw[zpL (by omega),zs0]at hy
 obtain rfl:x=y:=by simpa using hy
 rw[<- h1,List.drop_left,zrF (by omega)]
 exact hx
theorem zj6 (l:List St):∀ (D:Nat->Prop) (W0 W:World) (v uo:Value) (acc:List St) (xs:List Value),SlR 10 RSt D W0 v l->EqD D W0 W->EncS D W0 acc xs->(HE.row 72 10 uo acc.length xs).holds W->(∀ q,D q->uo.ownBlock ≠ some q)->acc.length+ssize l<=1000000 ->
  Calls Tryz.prog 75 #[v,uo] W (Ret fun r w'=>∃ x:Value × List Value,(r=x.1/\EncS D W0 (acc++preL l) x.2)/\(HE.row 72 10 x.1 (acc++preL l).length x.2).holds w'/\Keep (HE.row 72 10 uo acc.length xs).S W w'/\∀ q,(HE.row 72 10 x.1 (acc++preL l).length x.2).S q->((HE.row 72 10 uo acc.length xs).S q\/W.heap.size<=q)/\q<w'.heap.size):=by
 induction l using znx with
 | h l ih =>
 intro D W0 W v uo acc xs dI hY dJ db dK dL
 have hl:=hY.to zd dI
 obtain⟨av,cv,rfl⟩:=hl.form
 have d6:=hl.max
 have dc:∀ q,(HE.row 72 10 uo acc.length xs).S q->¬ D q:=fun q h hd=>dK q hd h
 refine znl Tryz.func75 O Tryz.ntmps75 O (zop 900 (.row 72 10 uo acc.length xs) (db) trivial (fun _ h=>h) (fun q hq=>xB db hq) (Vs 13 O (zod 900 O (e':=.row 72 10 uo (acc++preL (l.take 0)).length xs) (by rw[show acc++preL (l.take 0)=acc from zqz _]) (Vs 1 O (zoe (σ:=Nat × Value × List Value) [7,8] [] [] O (fun e ⟨i,u,ys⟩=>(9,.int .i64 i)::(1,u)::e) (fun e ⟨i,u,ys⟩=>(900,.row 72 10 u (acc++preL (l.take i)).length ys)::e) (fun⟨i,u,ys⟩=>i<=l.length/\EncS D W0 (acc++preL (l.take i)) ys) (fun⟨i,u,ys⟩=>l.length - i) ((0,uo,xs)) (Sub.of O) (Has.of O) (fun _=>rfl) (fun _=>rfl) (fun _=>rfl) (⟨zpz _,by rw[show acc++preL (l.take 0)=acc from zqz _];exact dJ⟩) ?_)))))
 rintro⟨i,u,ys⟩ ⟨hi,dz⟩
 show V _ _ _ _ _ ((9,.int .i64 i)::(1,u)::_) _ ((900,.row 72 10 u (acc++preL (l.take i)).length ys)::_) _
 refine Vs 6 O (zlG O (fun lt=>?_) (fun lt=>?_))
 .
  refine Vs 6 O ?_
  obtain⟨x,da,de⟩:=gE_ l (i) (by omega)
  obtain⟨d7,d8,d9,dA,dB,dC,dD⟩:=hl.atD da
  obtain⟨dM,dN,dO,dQ,rfl,df,dg,dh,di⟩:=dD.get
  obtain⟨dk,dl,rfl⟩:=df.form
  obtain⟨dm,dr,rfl⟩:=dg.form
  obtain⟨dt,du,rfl⟩:=dh.form
  obtain⟨dw,dx,rfl⟩:=di.form
  refine zob 1000 0 O O (fun h_=>by have dR:=dc _ h_;have dS:=dB;first | omega | exact dR dS) dC ?_
  refine znN 1000 tR24 ts72 O dA (by omega) (_) (rfl) O ?_
  have ea:=xm da
  have eb:=x.size_eq
  have dT:=zgW da
  have dU:=yk (l.take i)
  have dV:=yk x.thn
  have dW:=yk x.els
  have dF:=hY.back zd dg
  have dG:=hY.back zd dh
  have dX:=hY.back zh df
  have dY:=hY.back zb di
  have dE:EncS D W0 (acc++preL (l.take i)++[x]) (ys++[.int .i64 x.act,.int .i64 x.cost,.int .i64 x.var,.int .i64 x.n,.int .i64 x.term.op,.int .i64 x.term.n,.slice dk x.term.kids.length dl,.slice dm x.thn.length dr,.slice dt x.els.length du,.slice dw x.bounds.length dx]):=dz.add (RSt.put dX dF dG dY) rfl
  have dy:acc++preL (l.take i)++[x]++preL x.thn++preL x.els=acc++preL (l.take (i+1)):=by rw[dT,x.pre_eq];simp
  have dZ:ssize (l.take i)+(1+ssize x.thn+ssize x.els)<=ssize l:=by omega
  have ec:(acc++preL (l.take i)).length=acc.length+ssize (l.take i):=by rw[zps,dU]
  refine Vs 1 O (V.alloc 6 tz72 O O (fun b6=>?_))
  refine Vs 7 O (V.bs 15 [(0,_)] tR24 ts72 tz72 (by decide) O O (by kernel_rfl) (fun b15=>?_))
  refine znS 900 15 tu24 Tryz.el72 O (by decide) O O (by omega) (by omega) (fun u900=>(Vs 3 O (zod 900 O (e':=.row 72 10 u900 (acc++preL (l.take i)++[x]).length (ys++[.int .i64 x.act,.int .i64 x.cost,.int .i64 x.var,.int .i64 x.n,.int .i64 x.term.op,.int .i64 x.term.n,.slice dk x.term.kids.length dl,.slice dm x.thn.length dr,.slice dt x.els.length du,.slice dw x.bounds.length dx])) (by rw[zps (bs:=[x])];rfl) (Vw [1000,6,15] [] O (Vd [0,1,2,3,4] 0 (by kernel_rfl) O O O (zo5 5 900 0 (E:=fun z:Value × List Value=>.row 72 10 z.1 (acc++preL (l.take i)++[x]++preL x.thn).length z.2) Tryz.call75 O (by kernel_rfl) O O (fun _=>⟨trivial,fun _ h=>h⟩) (fun w hI=>(ih x de).1 D W0 w _ _ (acc++preL (l.take i)++[x]) _ dF (hY.keep hI.k0 (fun b hb=>hY.lt hb) (fun b hb hs=>dc b hs hb)) dE (hI.at 900 O) (fun q hq=>by exact hI.offD 0 900 O O (hY.lt hq) (fun h=>dc q h hq)) (by simp only[zps,zpF]at *;omega)) ?_))))))
  rintro u2 ⟨_,y2⟩ ⟨rfl,d5⟩
  refine zo5 6 900 0 (E:=fun z:Value × List Value=>.row 72 10 z.1 (acc++preL (l.take i)++[x]++preL x.thn++preL x.els).length z.2) Tryz.call75 O (by kernel_rfl) O O (fun _=>⟨trivial,fun _ h=>h⟩) (fun w hI=>(ih x de).2 D W0 w _ _ (acc++preL (l.take i)++[x]++preL x.thn) _ dG (hY.keep hI.k0 (fun b hb=>hY.lt hb) (fun b hb hs=>dc b hs hb)) d5 (hI.at 900 O) (fun q hq=>by exact hI.offD 0 900 O O (hY.lt hq) (fun h=>dc q h hq)) (by simp only[zps,zpF]at *;omega)) ?_
  rintro u3 ⟨_,y3⟩ ⟨rfl,dH⟩
  refine Vd [7] 0 (by kernel_rfl) O O O (VD.done (by kernel_rfl) (Va 6 O (by omega) ?_))
  rw[dy]at dH
  refine zod 900 O (e':=.row 72 10 u3 (acc++preL (l.take (i+1))).length y3) (by rw[dy]) (V.back (⟨i+1,u3,y3⟩) (Sub.of O) (Has.of O) (⟨by omega,dH⟩) (by first | omega | (dsimp only;omega)) 0 O O)
 obtain rfl:i=l.length:=by omega
 rw[zpp]at dz
 refine zod 900 O (e':=.row 72 10 u (acc++preL l).length ys) (by rw[zpp]) (Vs 12 O (zlW Tryz.results75 O (fun w hI=>⟨_,rfl,⟨(u,ys),⟨rfl,dz⟩,hI.at 900 rfl,hI.k0,fun q hq=>hI.inS 0 900 O O hq⟩⟩)))
def jL (x:Nd) (q:Nat):List Int:=([x.next,x.other].take q).filter fun y=>decide (0<=y)
def zee (x:Nd):List Int:=jL x 2
theorem zef (x:Nd) (q:Nat):(jL x q).length<=2:=by
 unfold jL
 refine zpq (zqZ _ _) ?_
 rw[zpO]
 exact Nat.min_le_right _ _
def eds (x:Nd) (q:Nat):Int:=if q=0 then x.next else x.other
theorem zgb (x:Nd) {q:Nat} (hq:q<2):jL x (q+1)=jL x q++if 0<=eds x q then [eds x q] else []:=by
 have h:q=0\/q=1:=by omega
 rcases h with rfl | rfl
 . by_cases h:0<=x.next<;>simp[jL,eds,h]
 by_cases h:0<=x.next<;>by_cases h2:0<=x.other<;>simp[jL,eds,h,h2]
theorem zkj (x:Nd) {q:Nat} (hq:q<2):[Value.int .i64 x.next,Value.int .i64 x.other][((q:Int)).toNat]?=some (.int .i64 (eds x q)):=by
 have h:q=0\/q=1:=by omega
 rcases h with rfl | rfl<;>rfl
theorem mem_succ {x:Nd} {y:Int}:y ∈ zee x ↔ 0<=y/\(x.next=y\/x.other=y):=by
 unfold zee jL
 simp only[List.take,zrc,zpA,zrm,or_false,decide_eq_true_eq]
 constructor
 .
  rintro⟨h1 | h1,h2⟩
  . exact⟨h2,.inl h1.symm⟩
  exact⟨h2,.inr h1.symm⟩
 rintro⟨h2,h1 | h1⟩
 . exact⟨.inl h1.symm,h2⟩
 exact⟨.inr h1.symm,h2⟩
theorem zj7 (x:Nd) (W:World) :
  Calls Tryz.prog 76 #[.agg (qY x).toArray] W (Ret fun r w'=>SlR 1 zC (fun b=>W.heap.size<=b) w' r (zee x)/\Ext W w'):=by
 refine znk Tryz.func76 O Tryz.ntmps76 O (znE (Vs 2 O (V.box 1 O O (fun b1=>?_))))
 refine Vs 15 O (zol [Value.int IntKind.i64 0,Value.int IntKind.i64 0] [(0,1),(1,1)] [(0,_),(1,_)] O O (fun _=>by kernel_rfl) (Vs 3 O (znR 900 3 1 O (Vs 1 O (zoe (σ:=Nat × Value) [10] [] [] O (fun e ⟨q,u⟩=>(11,.int .i64 q)::(3,u)::e) (fun e ⟨q,u⟩=>(900,.row 3 1 u (jL x q).length ((jL x q).map zc))::e) (fun⟨q,u⟩=>q<=2) (fun⟨q,u⟩=>2 - q) ((0,.slice none 0 0)) (Sub.of O) (Has.of O) (fun _=>rfl) (fun _=>rfl) (fun _=>rfl) (zpz _) ?_)))))
 rintro⟨q,u⟩ hq
 show V _ _ _ _ _ ((11,.int .i64 q)::(3,u)::_) _ ((900,.row 3 1 u (jL x q).length ((jL x q).map zc))::_) _
 have hl:=zef x q
 refine Vs 6 O (zlG O (fun lt=>?_) (fun lt=>?_))
 .
  have da:q<2:=by omega
  have hY:=zgb x da
  refine Vs 6 O (znb O (fun w hI=>zoB Tryz.runUnderlying169 ts3 tg3 O O (by omega) (zkj x da)) (Vs 9 O (zlG O (fun c=>?_) (fun c=>?_))))
  .
   rw[zpv c]at hY
   refine Vs 3 O (V.bs 18 [(0,_)] tR27 ts3 tz3 (by decide) O O (by kernel_rfl) (fun b18=>?_))
   refine znS 900 18 tu27 Tryz.el3 O (by decide) O O (by omega) (by omega) (fun u900=>(Va 8 O (by omega) (zod 900 O (e':=.row 3 1 u900 (jL x (q+1)).length ((jL x (q+1)).map zc)) (by rw[hY,zps,zr3];rfl) (V.back (⟨q+1,u900⟩) (Sub.of O) (Has.of O) (by omega) (by first | omega | (dsimp only;omega)) 0 O O))))
  rw[zpu c,zqz]at hY
  refine zod 900 O (e':=.row 3 1 u (jL x (q+1)).length ((jL x (q+1)).map zc)) (by rw[hY]) (Va 7 O (by omega) (V.back (⟨q+1,u⟩) (Sub.of O) (Has.of O) (by omega) (by first | omega | (dsimp only;omega)) 0 O O))
 obtain rfl:q=2:=by omega
 refine Vs 12 O (zlW Tryz.results76 O (fun w hI=>⟨_,rfl,zmM zc (fun _ _=>rfl) (hI.at 900 O) (fun g hg=>hI.own 900 0 O O g hg),hI.k0⟩))
end Go.Proofs.YtckdhgbepmpgiaaGreat
namespace Go.GL
def zeX (_ n:Nat) (us:List Value):List Value:=(List.replicate n us).flatten
theorem zaV {k n:Nat} {us:List Value} (h:us.length=k):(zeX k n us).length=n*k:=by
 unfold zeX
 induction n with
 | zero=>simp
 | succ n ih=>rw[zrt,zqS,zps,ih,h,zs1];omega
theorem zfF {k n:Nat} {us:List Value} (h:us.length=k) {i:Nat} (hi:i<n):((zeX k n us).drop (i*k)).take k=us:=by
 unfold zeX
 induction n generalizing i with
 | zero=>omega
 | succ n ih =>
  rw[zrt,zqS]
  cases i with
  | zero=>rw[zs4,List.drop_zero,List.take_left' h]
  | succ i=>rw[zs1,zrK,<- zqD,List.drop_left' h];exact ih (by omega)
theorem zkk {k n:Nat} {us:List Value} (h:us.length=k) {j:Nat} (hj:j<n*k):(zeX k n us)[j]?=us[j % k]?:=by
 have hk:0<k:=by rcases zrR k with e | e;(· subst e;omega);exact e
 have h1:=zfF h (i:=j / k) (n:=n) ((zrP hk).2 hj)
 have h2:us[j % k]?=(((zeX k n us).drop (j / k*k)).take k)[j % k]?:=by rw[h1]
 rw[h2,List.getElem?_take_of_lt (zrV _ hk),List.getElem?_drop,Nat.mul_comm,Nat.div_add_mod]
theorem zkZ {z:Value} {k n:Nat} {us:List Value} (hz:z.cells=us.toArray) (h:us.length=k):madeCells z.cells (n*k)=(zeX k n us).toArray:=by
 rw[hz]
 apply Array.ext
 . simp[madeCells,zaV h]
 intro i h1 h2
 have hi:i<n*k:=by simpa[madeCells] using h1
 have:=zkk h (n:=n) hi
 rw[zpk (by rw[zaV h];exact hi)]at this
 have hk:0<k:=by rcases zrR k with e | e;(· subst e;omega);exact e
 rw[zpk (by rw[h];exact zrV _ hk)]at this
 simp only[madeCells,List.getElem_toArray,zry]
 have h3:=Option.some.inj this
 rw[h3]
 simp[h,zpk (show i % k<us.length by rw[h];exact zrV _ hk)]
section
variable {P:Program} {n:Nat} {Q:Exit->Act->World->Prop} {ks:List Fr} {env:Env} {A:Tgs} {H Hs:Hp} {Bs B0:zF} {ops:Array Oper} {L:List Nat} {fuel:Nat} {listed:Array Bool} {d:Nat} {v:Value} {ty:TypeId} {ps:String} {aft:Array Edge} {g:Option (Nat × Bool)}
theorem zp0 (is k j:Nat) {ts:TypeId} {kk:Nat} {x y:Operand} {b o:Nat} {cs us:List Value} {e:TypeId} (da:∀ w,(sizeOf ts).run P w=.ok kk w) (hi:ops[is]?=some ⟨none,.store ts x y,ty,ps,aft,g⟩) (hr:Region.ready .any ops listed=[is])
  (hn:(gd ops env g,hget H k,ev env x,ev env y,L.contains is)=(some true,some (.own b cs e),some (.pointer (some ⟨b,o,none⟩)),some v,true)) (hv:v.cells=us.toArray) (hk:us.length=kk) (h1:∀ u ∈ us,u.oneCell'=true) (hj:o=j) (hl:j+kk<=cs.length)
  (h:VDx P n Q ks ops (VI B0 Hs) L fuel (listed.setIfInBounds is true) env A (yx H k (.own b (cs.take j++us++cs.drop (j+kk)) e)) Bs):VD P n Q ks ops Hs B0 L (fuel+1) listed env A H Bs:=by
 simp only[Prod.mk.injEq]at hn
 subst hj
 obtain⟨h2,h3,h4,h5,h6⟩:=hn
 intro hH hA w hI
 have hB:Blk w b cs e:=hI.at k h3
 refine zos is hi hr h2 h6 (zmx da h4 h5 hv hk h1 hB hl) ?_
 rintro w2 ⟨_,hY,db⟩
 exact h (hA.set h3) w2 (hI.set h3 db hY trivial (fun _ h=>h) fun q hq=>⟨.inl hq,by have hq:q=b:=hq;rw[hq];exact hY.lt⟩)
end
end Go.GL
namespace Go.Proofs.YtckdhgbepmpgiaaGreat
open Go.GL
theorem zaW (l:List St):∀ (v:Value) (D:Nat->Prop) (w:World),SlR 10 RSt D w v l->ssize l<=1000000->Calls Tryz.prog 66 #[v] w (Ret fun r w'=>r=.int .i64 (widL l)/\Ext w w'):=by
 induction l using znx with
 | h l ih =>
 intro v D w hl dV
 have dB:=jz l
 obtain⟨ao,cap,rfl⟩:=hl.form
 refine znk Tryz.func66 O Tryz.ntmps66 O (Gs 19 O (G.loop (σ:=Nat) (fun i=>[(3,.int .i64 (widL (l.take i))),(6,.slice ao l.length cap),(7,.int .i64 l.length),(8,.int .i64 i)]) (fun i=>fun w'=>i<=l.length/\Ext w w') (fun i=>l.length - i) (0) (Sub.of O) (⟨zpz _,Keep.refl _ _⟩) ?_))
 rintro i w1 ⟨hi,di⟩
 replace hl:=Tr1 di hl
 refine Gs 6 O (zlF O (fun dW=>?_) (fun dX=>?_))
 .
  obtain⟨s,dg,dk⟩:=gE_ l (i) (by omega)
  obtain⟨dC,dY,dZ,dr,_,da,dl⟩:=hl.at dg
  have dt:=RSt.one dl
  obtain⟨dD,dE,dF,dG,rfl,de,db,dc,df⟩:=dl.get
  obtain⟨dH,dI,rfl⟩:=de.form
  obtain⟨dJ,dK,rfl⟩:=db.form
  obtain⟨dL,dM,rfl⟩:=dc.form
  obtain⟨dN,dO,rfl⟩:=df.form
  have dx:dC<_:=zpm _ _ (da 0 _ rfl)
  have d5:=xm dg
  have d6:=s.size_eq
  have dy:=s.wid_eq
  have dz:=zbn dg
  have d7:=xe l
  have dQ:=zab dg
  have d8:=xe s.thn
  have d9:=xe s.els
  have hE:=Keep.refl (fun _=>False) w1
  refine Gs 6 O (zna O O (zmh tR24 ts72 O O dr (by omega)) (zng O tg72 ts72 da O (zmr O O (M.alloc (cs:=_) tz72 O) ?_)))
  rintro _ wa1 ⟨b,rfl,du,dR,hY,dh⟩
  refine zmw O (zmx ts72 O O O O dt hY (by simp)) ?_
  rintro dS ⟨_,hY,dm⟩
  replace dh:=dh.trans dm (fun q hq h=>by have h:q=b:=h;omega)
  have dA:_<=b:=zpq hE.size (zrS du.symm)
  obtain⟨hl,di,da,de,db,dc,df⟩:=Tr7 dh hl di da de db dc df
  replace hE:=Tr1 dh hE
  refine Gs 3 O (Dw (fun q=>Ext dS q) [] (fun wd2 hD _=>?_))
  refine Ds [0,1] (by kernel_rfl) O (WD.take 2 O (by kernel_rfl) O O O hD (fun w1 dw=>R.load tg24 O ((dw.blk hY (fun h=>h)).cells 7 _ O)) (Ds [5] (by kernel_rfl) O (WD.take 6 O (by kernel_rfl) O O O hD (fun w1 dw=>R.load tg24 O ((dw.blk hY (fun h=>h)).cells 8 _ O)) (WD.call 3 O (by kernel_rfl) O O O (F.call (vs:=[_]) tc66 O) ((ih s dk).1 _ D _ (db.ext zd hD) (by omega)) ?_))))
  rintro _ wz3 ⟨rfl,dT⟩
  replace hD:=hD.ext dT
  refine⟨fun _=>hD,?_⟩
  refine Da [4] (by kernel_rfl) O (by omega) (WD.call 7 O (by kernel_rfl) O O O (F.call (vs:=[_]) tc66 O) ((ih s dk).2 _ D _ (dc.ext zd hD) (by omega)) ?_)
  rintro _ wz4 ⟨rfl,dU⟩
  replace hD:=hD.ext dU
  refine⟨fun _=>hD,?_⟩
  refine Da [8,9,10] (by kernel_rfl) O (by omega) (G.done (by kernel_rfl) ?_ _)
  obtain⟨hl,di,da,de,db,dc,df⟩:=Tr7 hD hl di da de db dc df
  obtain⟨hE,hY⟩:=Tr2 hD hE hY
  refine Gs 4 O (zne O tg66 (hY.cells 0 _ O) (Gs 3 O (zlF O (fun h4=>?_) (fun h4=>?_))))
  .
   rw[zpv h4]at dy
   refine Ga 11 O (by omega) (G.back (i+1) (Sub.cons (yC O (by rw[dz];omega)) (Sub.of O)) (⟨by omega,di⟩) (by first | omega | (dsimp only;omega)))
  rw[zpu h4]at dy
  refine Ga 7 O (by omega) (G.back (i+1) (Sub.cons (yC O (by rw[dz];omega)) (Sub.of O)) (⟨by omega,di⟩) (by first | omega | (dsimp only;omega)))
 have:i=l.length:=by omega
 subst this
 refine Gs 12 O (zlV Tryz.results66 O ⟨_,rfl,by rw[zpp],di⟩)
theorem zp1 {α:Type} {k:Nat} {R:Rel α} {D:Nat->Prop} {w:World} {ao:Option Addr} {n c i:Nat} {l:List α} {x:α} (h:SlR k R D w (.slice ao n c) l) (hx:l[i]?=some x):SlR k R D w (.slice (if c=(i:Int).toNat then ao else ao.map (·.add ((i:Int).toNat*k))) (((i:Int)+1).toNat - (i:Int).toNat) (c - (i:Int).toNat)) [x]:=by
 have hi:=(zpy.1 hx).1
 have h1:=(h.drop i (by omega)).take 1 (by rw[zqX];omega)
 rw[zbq hx]at h1
 rw[zpG,show ((i:Int)+1).toNat - i=1 by omega]
 exact h1
theorem js {w w1 w2:World} {vo vo':Value} {n:Nat} {xs:List Value} (hE:Ext w w1) (hf:∀ g,vo.ownBlock=some g->w.heap.size<=g) (hk:Keep (fun k=>vo.ownBlock=some k) w1 w2) (hY:vo'.ownBlock=vo.ownBlock\/∃ g,vo'.ownBlock=some g/\w1.heap.size<=g) (_:w1.ownsRow 0 65 4 vo n xs) :
  Ext w w2/\(∀ g,vo'.ownBlock=some g->w.heap.size<=g):=by
 refine⟨Keep.trans hE hk (fun k hk h=>by have:=hf k h;omega),fun g hg=>?_⟩
 rcases hY with h | ⟨g',h,h'⟩
 . exact hf g (by rw[<- h];exact hg)
 rw[h]at hg;cases hg
 have:=hE.size
 omega
theorem zas {w1 w2:World} {vo:Value} {n:Nat} {xs:List Value} {c:Nat} {cs:List Value} {e:TypeId} (ho:w1.ownsRow 0 65 4 vo n xs) (hk:Keep (fun k=>vo.ownBlock=some k) w1 w2) (hb:Blk w1 c cs e) (he:e ≠ 65):Blk w2 c cs e :=
 hk.blk hb (fun h=>by obtain⟨cs',hY⟩:=yM ho h;exact he (hb.ty hY).1)
theorem zhA (x:Nd):[x].flatMap qY=qY x:=by simp
theorem jt (l:List Nd):∀ u ∈ l.flatMap qY,u.oneCell'=true:=by
 intro u hu
 obtain⟨x,_,hx⟩:=zrd.1 hu
 exact jC x u hx
theorem jH (l:List St):∀ a n e,(layL l a n e).length<=widL l:=by
 induction l using znx with
 | h l ih =>
 have key:∀ r:List St,(∀ x ∈ r,x ∈ l)->∀ a n e,(layL r a n e).length<=widL r:=by
  intro r
  induction r with
  | nil=>intro _ a n e;simp[layL]
  | cons s r ihr =>
   intro hm a n e
   have h1:=(ih s (hm s (zpo ..))).1
   have h2:=(ih s (hm s (zpo ..))).2
   have h3:=ihr (fun y hy=>hm y (zpn _ hy)) (a+s.size) (n+s.wid) e
   have hw:=s.wid_eq
   have h4:∀ a n e,(s.lay a n e).length<=s.wid:=by
    intro a n e
    rw[s.lay_eq]
    split
    .
     rw[zpN,zps]
     have:=h1 (a+1) (n+1) e
     have:=h2 (a+1+ssize s.thn) (n+1+widL s.thn) e
     omega
    split
    .
     rename_i a4
     rw[zpv a4]at hw
     have:=h1 (a+1) (n+2) (n+1)
     simp only[zpN]
     omega
    simp;omega
   have:=h4 a n (if r.isEmpty=true then e else n+s.wid)
   rw[layL,zps,widL]
   omega
 exact key l (fun x h=>h)
theorem zbQ {α:Type} {l:List α} (h:(0:Int)<(l.length:Int)):l.isEmpty=false:=by cases l<;>simp_all
theorem zbR {α:Type} {l:List α} (h:¬ (0:Int)<(l.length:Int)):l.isEmpty=true:=by
 cases l
 . rfl
 simp at h
theorem zl0 (l:List St):∀ (v:Value) (D:Nat->Prop) (w:World) (at_ node after:Nat),SlR 10 RSt D w v l->ssize l<=10000->at_+ssize l<=100000->node+widL l<=100000->Calls Tryz.prog 67 #[v,.int .i64 at_,.int .i64 node,.int .i64 after] w (Ret fun r w'=>w'.ownsRow 0 65 4 r (layL l at_ node after).length ((layL l at_ node after).flatMap qY)/\(∀ g,r.ownBlock=some g->w.heap.size<=g)/\Ext w w'):=by
 induction l using znx with
 | h l ih =>
 intro v D0 w at_ node after dG ep er dY
 have dm:=dG.narrow (by decide) jd
 generalize d7:(fun b=>D0 b/\b<w.heap.size)=D at dm
 have dx:∀ q,D q->q<w.heap.size:=fun q h=>by rw[<- d7]at h;exact h.2
 have d8:=jz l
 have eu:=xe l
 obtain⟨av,cv,rfl⟩:=dm.form
 have ew:=dm.max
 have d9:=dm.len_cap.2
 refine znn Tryz.func67 O Tryz.ntmps67 O (Gs 19 O (G.loop (σ:=Nat × Value) (fun⟨i,vo⟩=>[(0,.slice av l.length cv),(1,.int .i64 (at_+ssize (l.take i):Nat)),(2,.int .i64 (node+widL (l.take i):Nat)),(3,.int .i64 after),(9,vo),(17,.slice av l.length cv),(18,.int .i64 l.length),(19,.int .i64 i)]) (fun⟨i,vo⟩=>fun w'=>i<=l.length/\(∃ pre:List Nd,w'.ownsRow 0 65 4 vo pre.length (pre.flatMap qY)/\pre.length<=widL (l.take i)/\pre++layL (l.drop i) (at_+ssize (l.take i)) (node+widL (l.take i)) after=layL l at_ node after)/\(∀ g,vo.ownBlock=some g->w.heap.size<=g)/\Ext w w') (fun⟨i,vo⟩=>l.length - i) ((0,.slice none 0 0)) (Sub.of O) (⟨zpz _,⟨[],jS _ _ _,by simp,by simp[ssize,widL]⟩,fun g hg=>by simp[Value.ownBlock]at hg,Keep.refl _ _⟩) ?_))
 rintro⟨i,vo⟩ w1 ⟨hi,⟨pre,ho,ey,de⟩,hf,hE⟩
 show G _ _ _ _ _ [(0,.slice av l.length cv),(1,.int .i64 (at_+ssize (l.take i):Nat)),(2,.int .i64 (node+widL (l.take i):Nat)),(3,.int .i64 after),(9,vo),(17,.slice av l.length cv),(18,.int .i64 l.length),(19,.int .i64 i)] _
 have hl:=dm.ext zd hE
 refine Gs 6 O (zlF O (fun ez=>?_) (fun eA=>?_))
 .
  obtain⟨s,he⟩:∃ x,l[i]?=some x:=⟨_,zpk (by omega)⟩
  have hm:=zpl he
  obtain⟨bq,oq,cq,ea,_,eb,dZ⟩:=hl.at he
  have dH:=dZ.one
  have eC:=zab he
  have eD:=zbn he
  have eE:=xm he
  have eF:=jy he
  have dI:=s.wid_eq
  have eG:=s.size_eq
  have ec:=xe s.thn
  have ed:=xe s.els
  obtain⟨v1,v2,v3,v4,rfl,q1,q2,q3,q4⟩:=dZ.get
  obtain⟨p2,n2,rfl⟩:=q2.form
  obtain⟨p3,n3,rfl⟩:=q3.form
  rw[zbq he,layL]at de
  generalize hA:at_+ssize (l.take i)=A at *
  generalize hN:node+widL (l.take i)=N at *
  refine Gs 7 O (zna O O (zmh tR24 ts72 O O ea (by omega)) (zng O tg72 ts72 eb O (zmr O O (M.alloc (cs:=_) tz72 O) ?_)))
  rintro _ w2 ⟨c,rfl,hc,eH,dJ,ee⟩
  refine Gs 1 O (zmw O (zmx ts72 O O O O dH dJ (by simp)) ?_)
  rintro w3 ⟨_,db,ef⟩
  have dr:Ext w1 w3:=ee.trans ef (fun q hq h=>by have h:q=c:=h;omega)
  replace hE:=hE.ext dr
  replace ho:=zm ho dr (fun _ _ h=>h)
  replace db:Blk w3 c [.int .i64 s.act,.int .i64 s.cost,.int .i64 s.var,.int .i64 s.n,.int .i64 s.term.op,.int .i64 s.term.n,v1,.slice p2 s.thn.length n2,.slice p3 s.els.length n3,v4] 72:=db
  refine Ga 9 O (by omega) (zna O O (zmm tR24 ts72 O O O (by omega) (by omega)) (G.call O tc66 (zaW [s] _ D _ (zp1 (hl.ext zd dr) he) (by simp only[ssize];omega)) ?_))
  rintro _ w4 ⟨rfl,dt⟩
  replace hE:=hE.ext dt
  replace ho:=zm ho dt (fun _ _ h=>h)
  replace db:=dt.blk db (fun h=>h)
  have dh:widL [s]=s.wid:=by simp[widL]
  rw[dh]
  refine Ga 20 O (by omega) (zlQ (σ:=Unit) (fun u=>[(0,.slice av l.length cv),(1,.int .i64 A),(2,.int .i64 N),(3,.int .i64 after),(9,vo),(10,.int .i64 i),(11,.pointer (some ⟨c,0,none⟩)),(12,.int .i64 ((N:Int)+s.wid)),(13,.int .i64 (if (l.drop (i+1)).isEmpty then after else N+s.wid:Nat)),(17,.slice av l.length cv),(18,.int .i64 l.length),(19,.int .i64 i)]) (fun u=>fun w'=>w'=w4) ?_ ?_)
  .
   refine zlF O (fun eg=>?_) (fun eg=>?_)
   .
    have e:(l.drop (i+1)).isEmpty=true:=by rw[zqW,List.drop_eq_nil_iff];omega
    refine Gs 4 O (zlS (()) (Sub.cons O (Sub.cons O (Sub.cons O (Sub.cons O (Sub.cons O (Sub.cons O (Sub.cons O (Sub.cons O (Sub.cons (yC O (by rw[zpv e])) (Sub.of O)))))))))) (rfl))
   have e:¬ (l.drop (i+1)).isEmpty=true:=by rw[zqW,List.drop_eq_nil_iff];omega
   refine Gs 1 O (zlS (()) (Sub.cons O (Sub.cons O (Sub.cons O (Sub.cons O (Sub.cons O (Sub.cons O (Sub.cons O (Sub.cons O (Sub.cons (yC O (by rw[zpu e];omega)) (Sub.of O)))))))))) (rfl))
  rintro u w4' eh
  subst eh
  generalize hX:(if (l.drop (i+1)).isEmpty then after else N+s.wid)=X at *
  refine Gs 5 O (zne O tg66 (db.cells 0 _ O) (Gs 9 O (zlQ (σ:=Value) (fun vo'=>[(0,.slice av l.length cv),(1,.int .i64 A),(2,.int .i64 N),(3,.int .i64 after),(9,vo'),(10,.int .i64 i),(11,.pointer (some ⟨c,0,none⟩)),(12,.int .i64 ((N:Int)+s.wid)),(17,.slice av l.length cv),(18,.int .i64 l.length),(19,.int .i64 i)]) (fun vo'=>fun w'=>w'.ownsRow 0 65 4 vo' (pre++s.lay A N X).length ((pre++s.lay A N X).flatMap qY)/\(pre++s.lay A N X).length<=widL (l.take (i+1))/\(∀ g,vo'.ownBlock=some g->w.heap.size<=g)/\Ext w w') ?_ ?_)))
  .
   refine zlF O (fun a3=>?_) (fun a3=>?_)
   .
    rw[zpu (show ¬ s.act=4 by omega)]at dI
    refine Gs 12 O (zne O tg24 (db.cells 7 _ O) (Gs 4 O (zlQ (σ:=Unit) (fun u=>[(0,.slice av l.length cv),(1,.int .i64 A),(2,.int .i64 N),(3,.int .i64 after),(9,vo),(10,.int .i64 i),(11,.pointer (some ⟨c,0,none⟩)),(12,.int .i64 ((N:Int)+s.wid)),(13,.int .i64 X),(17,.slice av l.length cv),(18,.int .i64 l.length),(19,.int .i64 i),(14,.int .i64 (if s.thn.isEmpty then X else N+1:Nat)),(15,.int .i64 X)]) (fun u=>fun w'=>w'=w4') ?_ ?_)))
    .
     refine zlF O (fun g1=>?_) (fun g1=>?_)
     . refine Ga 5 O (by omega) (zlS (()) (Sub.cons O (Sub.cons O (Sub.cons O (Sub.cons O (Sub.cons O (Sub.cons O (Sub.cons O (Sub.cons O (Sub.cons O (Sub.cons O (Sub.cons O (Sub.cons O (Sub.cons (yC O (by rw[zbQ g1];simp)) (Sub.of O)))))))))))))) (rfl))
     refine Gs 1 O (zlS (()) (Sub.cons O (Sub.cons O (Sub.cons O (Sub.cons O (Sub.cons O (Sub.cons O (Sub.cons O (Sub.cons O (Sub.cons O (Sub.cons O (Sub.cons O (Sub.cons O (Sub.cons (yC O (by rw[zbR g1];simp)) (Sub.of O)))))))))))))) (rfl))
    rintro u w5 dK
    subst dK
    refine Gs 5 O (zne O tg24 (db.cells 8 _ O) (Gs 4 O (zlQ (σ:=Unit) (fun u=>[(0,.slice av l.length cv),(1,.int .i64 A),(2,.int .i64 N),(3,.int .i64 after),(9,vo),(10,.int .i64 i),(11,.pointer (some ⟨c,0,none⟩)),(12,.int .i64 ((N:Int)+s.wid)),(13,.int .i64 X),(17,.slice av l.length cv),(18,.int .i64 l.length),(19,.int .i64 i),(14,.int .i64 (if s.thn.isEmpty then X else N+1:Nat)),(15,.int .i64 (if s.els.isEmpty then X else N+1+widL s.thn:Nat))]) (fun u=>fun w'=>Ext w5 w') ?_ ?_)))
    .
     refine zlF O (fun g1=>?_) (fun g1=>?_)
     .
      refine Ga 4 O (by omega) (zne O tg24 (db.cells 7 _ O) (G.call O tc66 (zaW s.thn _ D _ (q2.ext zd (dr.ext dt)) (by omega)) ?_))
      rintro _ w5 ⟨rfl,du⟩
      refine Ga 3 O (by omega) (zlS (()) (Sub.cons O (Sub.cons O (Sub.cons O (Sub.cons O (Sub.cons O (Sub.cons O (Sub.cons O (Sub.cons O (Sub.cons O (Sub.cons O (Sub.cons O (Sub.cons O (Sub.cons O (Sub.cons (yC O (by rw[zbQ g1];simp)) Sub.nil)))))))))))))) (du))
     refine Gs 1 O (zlS (()) (Sub.cons O (Sub.cons O (Sub.cons O (Sub.cons O (Sub.cons O (Sub.cons O (Sub.cons O (Sub.cons O (Sub.cons O (Sub.cons O (Sub.cons O (Sub.cons O (Sub.cons O (Sub.cons (yC O (by rw[zbR g1];simp)) Sub.nil)))))))))))))) (Keep.refl _ _))
    rintro u w6 du
    have dE:=hE.ext du
    have dL:=zm ho du (fun _ _ h=>h)
    have dM:=du.blk db (fun h=>h)
    refine Gs 7 O (zna O O (R.build (v:=.agg #[.int .i64 3,.int .i64 A,.int .i64 (if s.thn.isEmpty then X else N+1:Nat),.int .i64 (if s.els.isEmpty then X else N+1+widL s.thn:Nat)]) [(0,_),(1,_),(2,_),(3,_)] O (fun _=>by kernel_rfl)) (zmr O O (M.buildSlice (cs:=qY ⟨3,A,(if s.thn.isEmpty then X else N+1:Nat),(if s.els.isEmpty then X else N+1+widL s.thn:Nat)⟩) [(0,_)] tR34 ts65 tz65 (by decide) O (by kernel_rfl)) ?_))
    rintro _ w6 ⟨g6,rfl,d5,d6,dy,hY⟩
    have dz:=dE.ext hY
    have dc:=zm dL hY (fun _ _ h=>h)
    have di:=hY.blk dM (fun h=>h)
    refine zmr O O (M.append tu34 Tryz.el65 O (by decide) O O dc O (Cells.add dy.cells) (jC _) (by omega) (by omega)) ?_
    rintro vo7 w7 ⟨dA,dB,df,_⟩
    obtain⟨dC,da⟩:=js dz hf df dB dc
    have dg:=zas dc df di (by decide)
    have dF:Above w.heap.size w1 w7:=Above.then (zoD ((dr.ext dt).ext (du.ext hY))) (zoG df hf)
    refine Gs 7 O (zne O tg24 (dg.cells 7 _ O) (Ga 5 O (by omega) (G.call O Tryz.call67 ((ih s hm).1 _ D w7 (A+1) (N+1) X (dF.sl zd q2 dx) (by omega) (by omega) (by omega)) ?_)))
    rintro r8 w8 ⟨dN,dO,dk⟩
    have dQ:=dC.ext dk
    have dw:=zm dA dk (fun _ _ h=>h)
    have dR:=dk.blk dg (fun h=>h)
    have dS:=jH s.thn (A+1) (N+1) X
    refine zmr O O (znu tu34 Tryz.el65 O (by decide) O O dw dN (jt _) (by omega) (by omega)) ?_
    rintro vo9 w9 ⟨dT,dU,dD⟩
    obtain⟨dV,dl⟩:=js dQ da dD dU dw
    have dW:=zas dw dD dR (by decide)
    have ei:=Above.then (dF.ext' dk) (zoG dD da)
    refine Gs 3 O (Dw (fun q=>Blk q c [.int .i64 s.act,.int .i64 s.cost,.int .i64 s.var,.int .i64 s.n,.int .i64 s.term.op,.int .i64 s.term.n,v1,.slice p2 s.thn.length n2,.slice p3 s.els.length n3,v4] 72) [] (fun x0 xk0 _=>?_))
    have xE0:=dV.ext xk0
    have xA0:=ei.ext' xk0
    have xo0:=zm dT xk0 (fun _ _ h=>h)
    have xB0:=xk0.blk dW (fun h=>h)
    refine Ds [0,1] (by kernel_rfl) O (WD.take 2 O (by kernel_rfl) O O O xB0 (fun w1 dh=>R.load tg24 O (dh.cells 8 _ O)) (Da [3,4,5] (by kernel_rfl) O (by omega) (WD.take 6 O (by kernel_rfl) O O O xB0 (fun w1 dh=>R.load tg24 O (dh.cells 7 _ O)) (Da [9,10,11] (by kernel_rfl) O (by omega) (WD.take 12 O (by kernel_rfl) O O O xB0 (fun w1 dh=>R.load tg24 O (dh.cells 7 _ O)) (Ds [15] (by kernel_rfl) O (WD.call 7 O (by kernel_rfl) O O O (F.call (vs:=[_]) tc56 O) (jA s.thn _ D x0 (xA0.sl zd q2 dx) (by omega)) ?_)))))))
    rintro _ x1 ⟨rfl,xk1⟩
    have xE1:=xE0.ext xk1
    have xA1:=xA0.ext' xk1
    have xo1:=zm xo0 xk1 (fun _ _ h=>h)
    have xB1:=xk1.blk xB0 (fun h=>h)
    refine⟨fun _=>xB1,?_⟩
    refine Da [8] (by kernel_rfl) O (by omega) (WD.call 13 O (by kernel_rfl) O O O (F.call (vs:=[_]) tc66 O) (zaW s.thn _ D x1 (xA1.sl zd q2 dx) (by omega)) ?_)
    rintro _ x2 ⟨rfl,xk2⟩
    have xE2:=xE1.ext xk2
    have xA2:=xA1.ext' xk2
    have xo2:=zm xo1 xk2 (fun _ _ h=>h)
    have xB2:=xk2.blk xB1 (fun h=>h)
    refine⟨fun _=>xB2,?_⟩
    refine Da [14] (by kernel_rfl) O (by omega) (WD.call 16 O (by kernel_rfl) O O O (F.call (vs:=[_,_,_,_]) Tryz.call67 O) ((ih s hm).2 _ D x2 (A+1+ssize s.thn) (N+1+widL s.thn) X (xA2.sl zd q3 dx) (by omega) (by omega) (by omega)) ?_)
    rintro r3 x3 ⟨xr3,xrf3,xk3⟩
    have xE3:=xE2.ext xk3
    have xo3:=zm xo2 xk3 (fun _ _ h=>h)
    have xB3:=xk3.blk xB2 (fun h=>h)
    refine⟨fun _=>xB3,?_⟩
    have ej:=jH s.els (A+1+ssize s.thn) (N+1+widL s.thn) X
    refine zmq 17 O (by kernel_rfl) O O O (znu tu34 Tryz.el65 O (by decide) O O xo3 xr3 (jt _) (by omega) (by omega)) ?_
    rintro vo4 x4 ⟨xo4,xf4,xk4⟩
    obtain⟨xE4,xfr4⟩:=js xE3 dl xk4 xf4 xo3
    have xB4:=zas xo3 xk4 xB3 (by decide)
    refine⟨fun _=>xB4,?_⟩
    refine Ds [18] (by kernel_rfl) O (G.done (by kernel_rfl) ?_ _)
    have e5:pre++s.lay A N X=pre++[⟨3,A,(if s.thn.isEmpty then X else N+1:Nat),(if s.els.isEmpty then X else N+1+widL s.thn:Nat)⟩]++layL s.thn (A+1) (N+1) X++layL s.els (A+1+ssize s.thn) (N+1+widL s.thn) X:=by
     rw[s.lay_eq,zpv a3]
     simp only[zqy,zqA,zrk,apply_ite (Nat.cast (R:=Int))]
    have e6:(pre++s.lay A N X).length=pre.length+1+(layL s.thn (A+1) (N+1) X).length+(layL s.els (A+1+ssize s.thn) (N+1+widL s.thn) X).length:=by rw[e5];simp only[zps,zpF]
    refine zlS (vo4) (Sub.of O) (⟨?_,by rw[e6];omega,xfr4,xE4⟩)
    rw[e6,e5,zqO,zqO,zqO,zhA]
    exact xo4
   refine Gs 6 O (zlF O (fun a4=>?_) (fun a4=>?_))
   .
    rw[zpv a4]at dI
    refine Ga 11 O (by omega) (zne O tg24 (db.cells 7 _ O) (Gs 4 O (zlQ (σ:=Unit) (fun u=>[(0,.slice av l.length cv),(1,.int .i64 A),(2,.int .i64 N),(3,.int .i64 after),(9,vo),(10,.int .i64 i),(11,.pointer (some ⟨c,0,none⟩)),(12,.int .i64 ((N:Int)+s.wid)),(13,.int .i64 X),(17,.slice av l.length cv),(18,.int .i64 l.length),(19,.int .i64 i),(16,.int .i64 (if s.thn.isEmpty then N+1 else N+2:Nat))]) (fun u=>fun w'=>w'=w4') ?_ ?_)))
    .
     refine zlF O (fun g1=>?_) (fun g1=>?_)
     . refine Ga 5 O (by omega) (zlS (()) (Sub.cons O (Sub.cons O (Sub.cons O (Sub.cons O (Sub.cons O (Sub.cons O (Sub.cons O (Sub.cons O (Sub.cons O (Sub.cons O (Sub.cons O (Sub.cons O (Sub.cons (yC O (by rw[zbQ g1];simp)) Sub.nil))))))))))))) (rfl))
     refine Gs 1 O (zlS (()) (Sub.cons O (Sub.cons O (Sub.cons O (Sub.cons O (Sub.cons O (Sub.cons O (Sub.cons O (Sub.cons O (Sub.cons O (Sub.cons O (Sub.cons O (Sub.cons O (Sub.cons (yC O (by rw[zbR g1];simp)) Sub.nil))))))))))))) (rfl))
    rintro u w5 dK
    subst dK
    refine Ga 7 O (by omega) (zna O O (R.build (v:=.agg #[.int .i64 4,.int .i64 A,.int .i64 ((N:Int)+1),.int .i64 (-1)]) [(0,_),(1,_),(2,_),(3,_)] O (fun _=>by kernel_rfl)) (Gs 3 O (zna O O (R.build (v:=.agg #[.int .i64 5,.int .i64 A,.int .i64 (if s.thn.isEmpty then N+1 else N+2:Nat),.int .i64 X]) [(0,_),(1,_),(2,_),(3,_)] O (fun _=>by kernel_rfl)) (zmr O O (M.buildSlice (cs:=[(⟨4,A,(N+1:Nat),-1⟩:Nd),⟨5,A,(if s.thn.isEmpty then N+1 else N+2:Nat),X⟩].flatMap qY) [(0,_),(1,_)] tR34 ts65 tz65 (by decide) O (by kernel_rfl)) ?_))))
    rintro _ w6 ⟨g6,rfl,d5,d6,dy,hY⟩
    have dz:=hE.ext hY
    have dc:=zm ho hY (fun _ _ h=>h)
    have di:=hY.blk db (fun h=>h)
    refine zmr O O (M.append tu34 Tryz.el65 O (by decide) O O dc O (Cells.add dy.cells) (jt _) (by omega) (by omega)) ?_
    rintro vo7 w7 ⟨dA,dB,df,_⟩
    obtain⟨dC,da⟩:=js dz hf df dB dc
    have dg:=zas dc df di (by decide)
    have dF:Above w.heap.size w1 w7:=Above.then (zoD ((dr.ext dt).ext hY)) (zoG df hf)
    refine Gs 6 O (zne O tg24 (dg.cells 7 _ O) (Ga 6 O (by omega) (G.call O Tryz.call67 ((ih s hm).1 _ D w7 (A+1) (N+2) (N+1) (dF.sl zd q2 dx) (by omega) (by omega) (by omega)) ?_)))
    rintro r8 w8 ⟨dN,dO,dk⟩
    have dQ:=dC.ext dk
    have dw:=zm dA dk (fun _ _ h=>h)
    have dS:=jH s.thn (A+1) (N+2) (N+1)
    refine zmr O O (znu tu34 Tryz.el65 O (by decide) O O dw dN (jt _) (by omega) (by omega)) ?_
    rintro vo9 w9 ⟨dT,dU,dD⟩
    obtain⟨dV,dl⟩:=js dQ da dD dU dw
    refine Gs 2 O ?_
    have e5:pre++s.lay A N X=pre++[⟨4,A,(N+1:Nat),-1⟩,⟨5,A,(if s.thn.isEmpty then N+1 else N+2:Nat),X⟩]++layL s.thn (A+1) (N+2) (N+1):=by
     rw[s.lay_eq,zpu a3,zpv a4]
     simp only[zqy,zqA,zrk,apply_ite (Nat.cast (R:=Int))]
    have e6:(pre++s.lay A N X).length=pre.length+2+(layL s.thn (A+1) (N+2) (N+1)).length:=by rw[e5];simp only[zps,zpN,List.length_nil]
    refine zlS (vo9) (Sub.of O) (⟨?_,by rw[e6];omega,dl,dV⟩)
    rw[e6,e5,zqO,zqO]
    exact dT
   rw[zpu a4]at dI
   refine Gs 4 O (zna O O (R.build (v:=.agg #[.int .i64 2,.int .i64 A,.int .i64 X,.int .i64 (-1)]) [(0,_),(1,_),(2,_),(3,_)] O (fun _=>by kernel_rfl)) (zmr O O (M.buildSlice (cs:=qY ⟨2,A,X,-1⟩) [(0,_)] tR34 ts65 tz65 (by decide) O (by kernel_rfl)) ?_))
   rintro _ w6 ⟨g6,rfl,d5,d6,dy,hY⟩
   have dz:=hE.ext hY
   have dc:=zm ho hY (fun _ _ h=>h)
   refine zmr O O (M.append tu34 Tryz.el65 O (by decide) O O dc O (Cells.add dy.cells) (jC _) (by omega) (by omega)) ?_
   rintro vo7 w7 ⟨dA,dB,df,_⟩
   obtain⟨dC,da⟩:=js dz hf df dB dc
   refine Gs 2 O ?_
   have e5:pre++s.lay A N X=pre++[⟨2,A,X,-1⟩]:=by rw[s.lay_eq,zpu a3,zpu a4]
   have e6:(pre++s.lay A N X).length=pre.length+1:=by rw[e5];simp
   refine zlS (vo7) (Sub.of O) (⟨?_,by rw[e6];omega,da,dC⟩)
   rw[e6,e5,zqO,zhA]
   exact dA
  rintro vo' w5 ⟨dL,dX,ek,dE⟩
  show G _ _ _ _ _ [(0,.slice av l.length cv),(1,.int .i64 A),(2,.int .i64 N),(3,.int .i64 after),(9,vo'),(10,.int .i64 i),(11,.pointer (some ⟨c,0,none⟩)),(12,.int .i64 ((N:Int)+s.wid)),(17,.slice av l.length cv),(18,.int .i64 l.length),(19,.int .i64 i)] _
  have em:=dm.ext zd dE
  refine Ga 9 O (by omega) (zna O O (zmm tR24 ts72 O O O (by omega) (by omega)) (G.call O tc56 (jA [s] _ D _ (zp1 em he) (by simp only[ssize];omega)) ?_))
  rintro _ w6 ⟨rfl,hY⟩
  have en:ssize [s]=s.size:=by simp[ssize]
  rw[en]
  refine Ga 14 O (by omega) (G.back ((i+1,vo')) (Sub.cons O (Sub.cons (yC O (by omega)) (Sub.cons (yC O (by omega)) (Sub.of O)))) (⟨by omega,⟨pre++s.lay A N X,zm dL hY (fun _ _ h=>h),dX,?_⟩,ek,dE.ext hY⟩) (by first | omega | (dsimp only;omega)))
  rw[<- de,zqy,show at_+ssize (l.take (i+1))=A+s.size by omega,show node+widL (l.take (i+1))=N+s.wid by omega]
 have eo:i=l.length:=by omega
 subst eo
 rw[zqF,layL,zqz]at de
 refine Gs 12 O (zlV Tryz.results67 O ⟨_,rfl,by rw[<- de];exact ho,hf,hE⟩)
end Go.Proofs.YtckdhgbepmpgiaaGreat
