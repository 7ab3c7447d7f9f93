/-
  Contracts and the mathematics that the proof needs. Nothing here is a claim.
-/
import Derived.Test.YtckdhgbepmpgiaaGreatKB4
theorem iH {p:Prop}(h:p:=by decide +kernel):p:=h
theorem iN {p:Prop}(h:p:=by exact hG.keep hI.k0 (fun q hq _ hs=>by have h1:=hC q hs;have h2:=db.hsE 0 O hs;rcases hq with hq | hq;(· have:=hD q hq;omega);omega)):p:=h
theorem iT {p:Prop}(h:p:=by exact zoV tr48 O (fun w hI=>⟨_,rfl,(vl,ro,ov),⟨rfl,rfl,hC (dm tO),rfl,da⟩,hI.back 0 O O O rfl⟩)):p:=h
theorem im {p:Prop}(h:p:=by exact zoV tr34 O (fun w hI=>⟨_,rfl,⟨_,rfl,hC hb⟩,hI.k0⟩)):p:=h
theorem iq {p:Prop}(h:p:=by exact fun q hq=>zvP (hD q hq) (Keep.size hI.k0)):p:=h
theorem ir {p:Prop}(h:p:=by exact zsU _ (zsU _ (zsU _ (zsU _ (zsV ..))))):p:=h
theorem iv {p:Prop}(h:p:=by exact VD.skip 29 0 O tK O O (VD.skip 30 0 O tK O O (Vd [31,32,33,34,35,36,37,38,39,40,41] 0 tK O O O (VD.done tK (Vs 20 O (zoV tr34 O (fun w hI=>⟨_,rfl,⟨_,rfl,hC (hb)⟩,hI.k0⟩))))))):p:=h
theorem iw {p:Prop}(h:p:=by exact fun b_ d_ h_=>by have dm:=dw _ h_;first | omega | exact dm d_):p:=h
theorem iy {p:Prop}(h:p:=by exact zoV tr34 O (fun w hI=>⟨_,rfl,⟨_,rfl,hC (hb)⟩,hI.k1⟩)):p:=h
theorem JI {p:Prop}(h:p:=by exact zr9 1 tr16 O O (by rw[zht c0 hb])):p:=h
theorem JL {p:Prop}(h:p:=by exact zoV tr48 O (fun w hI=>⟨_,rfl,(vl,ro.set n (rd x2.at_+1),ov),⟨rfl,rfl,hC (dm tO),zuS,dG⟩,hI.back 0 O O O rfl⟩)):p:=h
theorem JM {p:Prop}(h:p:=by exact zoV tr34 O (fun w hI=>⟨_,rfl,⟨_,rfl,hC hb⟩,hI.k1⟩)):p:=h
theorem Jj {p:Prop}(h:p:=by exact fun w hI=>zbb p.frm (zg g n) _ _ _ _ w (Tr1 hI.k1 dm) (ei.keep zc hI.k0 (fun b hb _ hs=>tD))):p:=h
theorem Jm {p:Prop}(h:p:=by exact zpa tr93 (fun w hI=>⟨_,rfl,rfl,dc ▸ ⟨(vl,ov),⟨rfl,hC⟩,hI.back 0 O O O rfl⟩⟩)):p:=h
theorem Jp {p:Prop}(h:p:=by exact Tr1 hI.k0 hf):p:=h
theorem J8 {p:Prop}(h:p:=by exact fun c hc=>by simp only[zt7,zvf,or_false]at hc;rcases hc with rfl | rfl<;>rfl):p:=h
theorem UM {p:Prop}(h:p:=by exact zoY tr44 O O (fun w hI=>⟨_,rfl,⟨_,by rw[h1],fun h=>tO⟩,hI.k0⟩)):p:=h
theorem Um {p:Prop}(h:p:=by exact VD.done tK (zrk 902 O (e':=RowsP zb 3 hi (ko ti n v ex)) (by unfold ko;rw[hY];rfl) (zrk 904 O (e':=RowsP zb 3 ho (ko to n v yv)) (by unfold ko;rw[da];rfl) (zoS (true,ko ti n v ex,ko to n v yv) j2 j3 (hset) 0 O O)))):p:=h
theorem U5 {p:Prop}(h:p:=by exact Sub.cons (xQ O (by rw[zc7 g1];simp)) j2):p:=h
theorem U7 {p:Prop}(h:p:=by exact fun w hI=>qp f s p.ver p.var true _ _ _ _ _ D D w Jn (Tr1 hI.k0 dE.of_)):p:=h
theorem YE {p:Prop}(h:p:=by exact ⟨zbd,fun _=>rfl,fun h=>absurd h iH,by decide +kernel,fun u h=>tD⟩):p:=h
open Go.Proofs.Tryz
variable {α:Type} {k c i e1 e2 f1 f2 K b j m N nv root q by':Nat} {D:Nat->Prop} {w w1 w2 W w0:Go.World} {vo v:Go.Value} {xs zs:List Go.Value} {e t et:Go.TypeId} {B g:List Go.GL.Nd} {x:Go.GL.Nd} {f:Go.GL.Fl} {r:Go.GL.Ins} {s:Go.Proofs.YtckdhgbepmpgiaaGreat.Sf} {vals l vl wl:List Int} {u:Int × Int} {P:Go.Program} {env:Go.GL.Env} {dst:Option Go.Tmp} {aft:Array Go.Edge} {A:Go.GL.Tgs} {H E E':Go.GL.Hp} {Bs:Go.GL.zn} {p:Go.Proofs.YtckdhgbepmpgiaaGreat.Phn} {F:Go.Proofs.YtckdhgbepmpgiaaGreat.Phn->Int} {R:List (List Int)} {seen nl:List Bool} {z:Int × List Int} {a:Int} {args:Array Go.Value} {y:Go.Operand} {l':List (Int × Go.Value)}
namespace Go.Proofs.YtckdhgbepmpgiaaGreat
open Go.GL
theorem zbc (l:List St):∀ (v:Value) (D:Nat->Prop) (w:World),SlR 10 RSt D w v l->ssize l<=1000000->Calls prog 66 #[v] w (Ret fun r w'=>r=.int .i64 (widL l)/\Ext w w'):=by
 induction l using zqD with
 | h l ih =>
 intro v D w hl dH;have dr:=jO l;obtain⟨ao,cap,rfl⟩:=hl.form;refine zqq func66 O ntmps66 O (V.inn (Vs 19 O (zrl (σ:=Nat) [6,7] [] [] O (fun e i=>(3,.int .i64 (widL (l.take i)))::(8,.int .i64 i)::e) (fun e i=>e) (fun i=>i<=l.length) (fun i=>l.length - i) 0 j2 j3 j1 j1 j1 (zt6 _) ?_)));rintro i hi;refine Vs 6 O (zoE O (fun dI=>?_) (fun dJ=>?_))
 .
  refine Vs 6 O (zri 1000 0 i tO hl O O O (fun s dK dL dM hC hY dc dg=>?_));obtain⟨dt,du,dw,dx,rfl,dh,da,db,dl⟩:=dg.get;obtain⟨dy,dz,rfl⟩:=dh.form;obtain⟨dA,dB,rfl⟩:=da.form;obtain⟨dC,dD,rfl⟩:=db.form;obtain⟨dE,dF,rfl⟩:=dl.form;refine zqQ 1000 tR24 ts72 O dc tO _ rfl O ?_;have dN:=xC hC;have dO:=s.size_eq;have dm:=s.wid_eq;have dQ:=zbA hC;have dR:=xj l;have dG:=zaq hC;have dS:=xj s.thn;have dT:=xj s.els;refine Vs 1 O (V.alloc 5 tz72 O O (fun b5=>?_));refine Vs 4 O (Vw [1000,5] [] O (Vd [0,1,2,5,6] 0 tK O O O (zr3 3 0 tc66 O tK O O (fun w hI=>(ih s hY).1 _ D w iR tO) (Vb [4] 0 tK O O O tO (zr3 7 0 tc66 O tK O O (fun w hI=>(ih s hY).2 _ D w y7 tO) (Vb [8,9,10] 0 tK O O O tO (VD.done tK (Vs 8 O (zoE O (fun h4=>?_) (fun h4=>?_))))))))))
  .
   rw[zt2 h4]at dm;refine Va 11 O tO (V.back (i+1) Ui j3 tO tO 0 O O)
  rw[zt1 h4]at dm;refine Va 7 O tO (V.back (i+1) Ui j3 tO tO 0 O O)
 obtain rfl:i=l.length:=tO;refine Vs 12 O (zr9 0 results66 O O tD)
theorem zsc {R:Rel α} {ao:Option Addr} {n:Nat} {l:List α} {x:α} (h:SlR k R D w (.slice ao n c) l) (hx:l[i]?=some x):SlR k R D w (.slice (if c=(i:Int).toNat then ao else ao.map (·.add ((i:Int).toNat*k))) (((i:Int)+1).toNat - (i:Int).toNat) (c - (i:Int).toNat)) [x]:=by
 have hi:=(zt5.1 hx).1;have h1:=(h.drop i tO).take 1 tD;rw[zbE hx]at h1;rw[ztd,show ((i:Int)+1).toNat - i=1 by omega];exact h1
theorem zj2 {vo':Value} {n:Nat} (hE:Ext w w1) (hf:∀ g,vo.ownBlock=some g->w.heap.size<=g) (hk:Keep (fun k=>vo.ownBlock=some k) w1 w2) (hC:vo'.ownBlock=vo.ownBlock\/∃ g,vo'.ownBlock=some g/\w1.heap.size<=g) (_:w1.ownsRow 0 65 4 vo n xs) :
  Ext w w2/\(∀ g,vo'.ownBlock=some g->w.heap.size<=g):=by
 refine⟨Keep.trans hE hk (fun k hk h=>tD),fun g hg=>?_⟩;rcases hC with h | ⟨g',h,h'⟩
 . grind
 rw[h]at hg;cases hg;have:=hE.size;omega
theorem zj3 {n:Nat} {cs:List Value} (ho:w1.ownsRow 0 65 4 vo n xs) (hk:Keep (fun k=>vo.ownBlock=some k) w1 w2) (hb:Blk w1 c cs e) (he:e ≠ 65):Blk w2 c cs e :=
 hk.blk hb (fun h=>by obtain⟨cs',hC⟩:=xe ho h;exact he (hb.ty hC).1)
theorem znG (x:Nd):[x].flatMap xM=xM x:=tR
theorem zj4 (l:List Nd):∀ u ∈ l.flatMap xM,u.oneCell'=true:=by
 intro u hu;obtain⟨x,_,hx⟩:=zv3.1 hu;exact je x u hx
theorem jV (l:List St):∀ a n e,(layL l a n e).length<=widL l:=by
 induction l using zqD with
 | h l ih =>
 have key:∀ r:List St,(∀ x ∈ r,x ∈ l)->∀ a n e,(layL r a n e).length<=widL r:=by
  intro r;induction r with
  | nil=>intro _ a n e;simp[layL]
  | cons s r ihr =>
   intro hm a n e;have h1:=(ih s (hm s (zsV ..))).1;have h2:=(ih s (hm s (zsV ..))).2;have h3:=ihr (fun y hy=>hm y iu) (a+s.size) (n+s.wid) e;have hw:=s.wid_eq
   have h4:∀ a n e,(s.lay a n e).length<=s.wid:=by
    intro a n e;rw[s.lay_eq];split
    .
     rw[ztk,zsZ];have:=h1 (a+1) (n+1) e;have:=h2 (a+1+ssize s.thn) (n+1+widL s.thn) e;omega
    split
    .
     rename_i a4;rw[zt2 a4]at hw;have:=h1 (a+1) (n+2) (n+1);simp only[ztk];omega
    simp;omega
   have:=h4 a n (if r.isEmpty=true then e else n+s.wid);rw[layL,zsZ,widL];omega
 exact key l (fun x h=>h)
theorem znH {l:List α} (h:(0:Int)<(l.length:Int)):l.isEmpty=false:=tD
theorem zc7 {l:List α} (h:¬ (0:Int)<(l.length:Int)):l.isEmpty=true:=by
 cases l
 . rfl
 grind
theorem znI (l:List St):∀ (v:Value) (D:Nat->Prop) (w:World) (at_ node after:Nat),SlR 10 RSt D w v l->ssize l<=10000->at_+ssize l<=100000->node+widL l<=100000->Calls prog 67 #[v,.int .i64 at_,.int .i64 node,.int .i64 after] w (Ret fun r w'=>w'.ownsRow 0 65 4 r (layL l at_ node after).length ((layL l at_ node after).flatMap xM)/\(∀ g,r.ownBlock=some g->w.heap.size<=g)/\Ext w w'):=by
 induction l using zqD with
 | h l ih =>
 intro v D w at_ node after hl dR dS dw;have dx:=jO l;have dT:=xj l;obtain⟨av,cv,rfl⟩:=hl.form;have dy:=hl.len_cap.2;refine zqt func67 O ntmps67 O (V.inn (Vs 6 O (zqU 9 65 4 O (Vs 13 O (zrl (σ:=Nat × Value × List Nd) [0,3,17,18] [] [] O (fun e ⟨i,vo,pre⟩=>(1,.int .i64 (at_+ssize (l.take i):Nat))::(2,.int .i64 (node+widL (l.take i):Nat))::(9,vo)::(19,.int .i64 i)::e) (fun e ⟨i,vo,pre⟩=>(9,.row 65 4 vo pre.length (pre.flatMap xM))::e) (fun⟨i,vo,pre⟩=>i<=l.length/\pre.length<=widL (l.take i)/\pre++layL (l.drop i) (at_+ssize (l.take i)) (node+widL (l.take i)) after=layL l at_ node after) (fun⟨i,vo,pre⟩=>l.length - i) (0,_,[]) j2 j3 j1 j1 j1 ⟨zt6 _,tR,by simp[ssize,widL]⟩ ?_)))));rintro⟨i,vo,pre⟩ ⟨hi,dU,da⟩;change V _ _ _ _ _ ((1,.int .i64 (at_+ssize (l.take i):Nat))::(2,.int .i64 (node+widL (l.take i):Nat))::(9,vo)::(19,.int .i64 i)::_) _ ((9,.row 65 4 vo pre.length (pre.flatMap xM))::_) _;refine Vs 6 O (zoE O (fun dV=>?_) (fun dW=>?_))
 .
  refine Vs 7 O (zri 1000 0 i tO hl O O O (fun s dX dY dZ hC db dg dh=>?_));obtain⟨dz,dA,dB,dC,rfl,dl,hY,dc,dm⟩:=dh.get;obtain⟨dD,dE,rfl⟩:=dl.form;obtain⟨dF,dG,rfl⟩:=hY.form;obtain⟨dH,dI,rfl⟩:=dc.form;obtain⟨dJ,dK,rfl⟩:=dm.form;refine zqQ 1000 tR24 ts72 O dg tO _ rfl O ?_;have d5:=zaq hC;have d6:=zbA hC;have d7:=xC hC;have d8:=jN hC;have dr:=s.wid_eq;have d9:=s.size_eq;have dL:=xj s.thn;have dM:=xj s.els;rw[zbE hC,layL]at da;generalize hA:at_+ssize (l.take i)=A at *;generalize hN:node+widL (l.take i)=N at *;have dN:widL [s]=s.wid:=by simp[widL]
  have dO:ssize [s]=s.size:=by simp[ssize]
  refine Vs 1 O (V.alloc 11 tz72 O O (fun b11=>?_));refine Va 11 O tO (zqh O (fun w hI=>zpm tR24 ts72 O O O tO tO) (zr2 tc66 O (fun w hI=>zbc [s] _ D w (zsc (Tr1 hI.k0 hl) hC) tO) ?_));rw[dN];refine Va 20 O tO (zrm (σ:=Unit) [0,1,2,3,9,10,11,12,17,18,19] [9,11] [11] O (fun e u=>(13,.int .i64 (if (l.drop (i+1)).isEmpty then after else N+s.wid:Nat))::e) (fun e u=>e) (fun u=>True) j1 j1 ?_ ?_)
  .
   refine zoE O (fun dQ=>?_) (fun dQ=>?_)
   . refine Vs 4 O (zoS () (Sub.cons (xQ O (by rw[zt2 (by rw[zuM,List.drop_eq_nil_iff];omega)])) j2) j3 trivial 0 O O)
   refine Vs 1 O (zoS () (Sub.cons (xQ O (by rw[zt1 (by rw[zuM,List.drop_eq_nil_iff];omega)];omega)) j2) j3 trivial 0 O O)
  rintro u _;generalize hX:(if (l.drop (i+1)).isEmpty then after else N+s.wid)=X at *;refine Vs 9 O (zrm (σ:=Value) [0,1,3,10,12,17,18,19] [] [] O (fun e vo2=>(9,vo2)::e) (fun e vo2=>(9,.row 65 4 vo2 (pre++s.lay A N X).length ((pre++s.lay A N X).flatMap xM))::e) (fun vo2=>(pre++s.lay A N X).length<=widL (l.take (i+1))) j1 j1 ?_ ?_)
  .
   refine Vs 6 O (zoE O (fun a3=>?_) (fun a3=>?_))
   .
    rw[zt1 i5]at dr;refine Vs 17 O (zrm (σ:=Unit) [0,1,2,3,9,10,11,12,13,15,17,18,19] [9,11] [11] O (fun e u=>(14,.int .i64 (if s.thn.isEmpty then X else N+1:Nat))::e) (fun e u=>e) (fun u=>True) j1 j1 ?_ ?_)
    .
     refine zoE O (fun g1=>?_) (fun g1=>?_)
     . refine Va 5 O tO (zoS () (Sub.cons (xQ O tD) j2) j3 trivial 0 O O)
     refine Vs 1 O (zoS () U5 j3 trivial 0 O O)
    rintro u _;refine Vs 10 O (zrm (σ:=Unit) [0,1,2,3,9,10,11,12,13,14,17,18,19] [9,11] [11] O (fun e u=>(15,.int .i64 (if s.els.isEmpty then X else N+1+widL s.thn:Nat))::e) (fun e u=>e) (fun u=>True) j1 j1 ?_ ?_)
    .
     refine zoE O (fun g1=>?_) (fun g1=>?_)
     . refine Va 5 O tO (zr2 tc66 O (fun w hI=>zbc s.thn _ D w iV tO) (Va 3 O tO (zoS () (Sub.cons (xQ O tD) j2) j3 trivial 0 O O)))
     refine Vs 1 O (zoS () U5 j3 trivial 0 O O)
    rintro u _
    have e5:s.lay A N X=⟨3,A,(if s.thn.isEmpty then X else N+1:Nat),(if s.els.isEmpty then X else N+1+widL s.thn:Nat)⟩::(layL s.thn (A+1) (N+1) X++layL s.els (A+1+ssize s.thn) (N+1+widL s.thn) X):=by
     rw[s.lay_eq,zt2 a3];simp[apply_ite (Nat.cast (R:=Int))]
    generalize (if s.thn.isEmpty then X else N+1)=Y at *;generalize (if s.els.isEmpty then X else N+1+widL s.thn)=Z at *;have h8:=jV s.thn (A+1) (N+1) X;have h9:=jV s.els (A+1+ssize s.thn) (N+1+widL s.thn) X;refine Vs 7 O (zru [Value.int IntKind.i64 0,Value.int IntKind.i64 0,Value.int IntKind.i64 0,Value.int IntKind.i64 0] [(0,1),(1,1),(2,1),(3,1)] [(0,_),(1,_),(2,_),(3,_)] O O (fun _=>tK) (zro 72 [(0,_)] tR34 ts65 tz65 tS O O tK (fun b72=>?_)));refine zqV 9 72 tu34 Tryz.el65 O tS O O tO tO (fun u9=>(Vs 4 O (zrk 9 O (e':=.row 65 4 u9 (pre++[(⟨3,A,Y,Z⟩:Nd)]).length ((pre++[(⟨3,A,Y,Z⟩:Nd)]).flatMap xM)) (by simp[xM]) ?_)));have dt:(pre++[(⟨3,A,Y,Z⟩:Nd)]).length=pre.length+1:=tR;refine Va 9 O tO (zrM [] (Hn:=fun x:Value=>[(901,.row 65 4 x (layL s.thn (A+1) (N+1) X).length ((layL s.thn (A+1) (N+1) X).flatMap xM))]) [(11,some (11,0)),(75,some (11,7))] call67 O iA j1 (fun w hI=>zgA 901 ((ih s db).1 _ D w (A+1) (N+1) X iV tO tO tO)) ?_);rintro _ r901 rfl;refine zrr 9 xM zL je (fun _ _ _ _ h=>h) tu34 Tryz.el65 O tS O (fun w hI=>⟨_,zpL (R:=RNd) (D:=fun _=>True) tO xM zL (fun x _=>rfl) (hI.at 901 O) (fun _ _=>trivial)⟩) tO tO (fun u9=>(Vs 3 O (Vw [11,72] [] O (Vb [0,1,2,3,4,5,6,9,10,11,12,15] 0 tK O O O tO (zr3 7 0 tc56 O tK O O (fun w hI=>jQ s.thn _ D w iV tO) (Vb [8] 0 tK O O O tO (zr3 13 0 tc66 O tK O O (fun w hI=>zbc s.thn _ D w iV tO) ?_)))))));refine Vb [14] 0 tK O O O tO (zrN 16 0 [] (Hn:=fun x:Value=>[(902,.row 65 4 x (layL s.els (A+1+ssize s.thn) (N+1+widL s.thn) X).length ((layL s.els (A+1+ssize s.thn) (N+1+widL s.thn) X).flatMap xM))]) [(11,some (11,0)),(75,some (11,7)),(85,some (11,8)),(89,some (11,7)),(95,some (11,7))] call67 O tK O O j1 iA j1 (fun w hI=>zgA 902 ((ih s db).2 _ D w (A+1+ssize s.thn) (N+1+widL s.thn) X ip tO tO tO)) ?_);rintro _ r902 rfl;refine zrs 17 9 0 xM zL je (fun _ _ _ _ h=>h) tu34 Tryz.el65 O tS O tK O O (fun w hI=>⟨_,zpL (R:=RNd) (D:=fun _=>True) tO xM zL (fun x _=>rfl) (hI.at 902 O) (fun _ _=>trivial)⟩) tO tO (fun u9=>(Vd [18] 0 tK O O O (VD.done tK (zrk 9 O (e':=.row 65 4 u9 (pre++s.lay A N X).length ((pre++s.lay A N X).flatMap xM)) tD ?_))));refine zoS _ j2 j3 tD 0 O O
   refine Vs 6 O (zoE O (fun a4=>?_) (fun a4=>?_))
   .
    rw[zt2 a4]at dr;refine Va 16 O tO (zrm (σ:=Unit) [0,1,2,3,9,10,11,12,13,17,18,19] [9,11] [11] O (fun e u=>(16,.int .i64 (if s.thn.isEmpty then N+1 else N+2:Nat))::e) (fun e u=>e) (fun u=>True) j1 j1 ?_ ?_)
    .
     refine zoE O (fun g1=>?_) (fun g1=>?_)
     . refine Va 5 O tO (zoS () (Sub.cons (xQ O tD) j2) j3 trivial 0 O O)
     refine Vs 1 O (zoS () U5 j3 trivial 0 O O)
    rintro u _
    have e5:s.lay A N X=⟨4,A,(N+1:Nat),-1⟩::⟨5,A,(if s.thn.isEmpty then N+1 else N+2:Nat),X⟩::layL s.thn (A+1) (N+2) (N+1):=by
     rw[s.lay_eq,zt1 a3,zt2 a4];simp[apply_ite (Nat.cast (R:=Int))]
    generalize (if s.thn.isEmpty then N+1 else N+2)=Y at *;have h8:=jV s.thn (A+1) (N+2) (N+1);refine Va 7 O tO (zru [Value.int IntKind.i64 0,Value.int IntKind.i64 0,Value.int IntKind.i64 0,Value.int IntKind.i64 0] [(0,1),(1,1),(2,1),(3,1)] [(0,_),(1,_),(2,_),(3,_)] O O (fun _=>tK) (Vs 3 O (zru [Value.int IntKind.i64 0,Value.int IntKind.i64 0,Value.int IntKind.i64 0,Value.int IntKind.i64 0] [(0,1),(1,1),(2,1),(3,1)] [(0,_),(1,_),(2,_),(3,_)] O O (fun _=>tK) (zro 121 [(0,_),(1,_)] tR34 ts65 tz65 tS O O tK (fun b121=>?_)))));refine zqV 9 121 tu34 Tryz.el65 O tS O O tO tO (fun u9=>(Vs 3 O (zrk 9 O (e':=.row 65 4 u9 (pre++[(⟨4,A,(N+1:Nat),-1⟩:Nd),⟨5,A,Y,X⟩]).length ((pre++[(⟨4,A,(N+1:Nat),-1⟩:Nd),⟨5,A,Y,X⟩]).flatMap xM)) (by simp[xM]) ?_)));have dt:(pre++[(⟨4,A,(N+1:Nat),-1⟩:Nd),⟨5,A,Y,X⟩]).length=pre.length+2:=tR;refine Va 10 O tO (zrM [] (Hn:=fun x:Value=>[(901,.row 65 4 x (layL s.thn (A+1) (N+2) (N+1)).length ((layL s.thn (A+1) (N+2) (N+1)).flatMap xM))]) [(11,some (11,0)),(124,some (11,7))] call67 O iA j1 (fun w hI=>zgA 901 ((ih s db).1 _ D w (A+1) (N+2) (N+1) iV tO tO tO)) ?_);rintro _ r901 rfl;refine zrr 9 xM zL je (fun _ _ _ _ h=>h) tu34 Tryz.el65 O tS O (fun w hI=>⟨_,zpL (R:=RNd) (D:=fun _=>True) tO xM zL (fun x _=>rfl) (hI.at 901 O) (fun _ _=>trivial)⟩) tO tO (fun u9=>(Vs 2 O (zrk 9 O (e':=.row 65 4 u9 (pre++s.lay A N X).length ((pre++s.lay A N X).flatMap xM)) (by rw[e5];simp[xM]<;>omega) ?_)));refine zoS _ j2 j3 (by rw[e5];simp;omega) 0 O O
   rw[zt1 a4]at dr;have e5:s.lay A N X=[⟨2,A,X,-1⟩]:=by rw[s.lay_eq,zt1 a3,zt1 a4]
   refine Vs 4 O (zru [Value.int IntKind.i64 0,Value.int IntKind.i64 0,Value.int IntKind.i64 0,Value.int IntKind.i64 0] [(0,1),(1,1),(2,1),(3,1)] [(0,_),(1,_),(2,_),(3,_)] O O (fun _=>tK) (zro 45 [(0,_)] tR34 ts65 tz65 tS O O tK (fun b45=>?_)));refine zqV 9 45 tu34 Tryz.el65 O tS O O tO tO (fun u9=>(Vs 2 O (zrk 9 O (e':=.row 65 4 u9 (pre++s.lay A N X).length ((pre++s.lay A N X).flatMap xM)) (by rw[e5];simp[xM]<;>omega) ?_)));refine zoS _ j2 j3 (by rw[e5];simp;omega) 0 O O
  rintro vo2 du;refine Va 9 O tO (zqh O (fun w hI=>zpm tR24 ts72 O O O tO tO) (zr2 tc56 O (fun w hI=>jQ [s] _ D w (zsc (Tr1 hI.k0 hl) hC) (by simp only[ssize];omega)) ?_));rw[dO];refine Va 14 O tO (V.back ⟨i+1,vo2,pre++s.lay A N X⟩ (Sub.cons (xQ O tO) (Sub.cons (xQ O tO) (Sub.cons rfl YO))) j3 ⟨tO,du,by rw[<- da,zu0,show at_+ssize (l.take (i+1))=A+s.size by omega,show node+widL (l.take (i+1))=N+s.wid by omega]⟩ tZ 0 O O)
 obtain rfl:i=l.length:=tO;rw[zud,layL,zu1]at da;refine Vs 12 O (zoV results67 O (fun w hI=>⟨_,rfl,by rw[<- da];exact hI.at 9 rfl,fun g hg=>(hI.inS 0 9 O O hg).1.elim False.elim id,hI.k0⟩))
theorem zfG (f:Fl) (v1 v2 v3:Value) (D:Nat->Prop) (w:World) (hf:RFl D w f v1 v2 v3) (dD:ssize f.body<=10000) :
  Calls prog 33 #[.agg #[v1,v2,v3]] w (Ret fun r w'=>(∃ nv,r=.agg #[nv]/\SlR 4 RNd (fun b=>w.heap.size<=b) w' nv (zd f))/\Ext w w'):=by
 have dV:=xj f.body;have dW:=jV f.body 0 1 (1+widL f.body);refine zqq func33 O ntmps33 O (Gs 2 O (G.mem O O (M.box O O) ?_));rintro _ w1 ⟨c,rfl,hc,dX,hY,dE⟩;refine G.mem O O (M.alloc (cs:=[.slice none 0 0]) tz36 O) ?_;rintro _ w2 ⟨r,rfl,hr,dY,hC,dw⟩;replace hY:=dw.blk hY (fun h=>h);have dx:=dE.ext dw;refine Gs 5 O (zqk O tg24 (hY.cells 2 _ O) (G.call O tc66 (zbc f.body _ D w2 (hf.body.ext zf dx) tO) ?_));rintro _ w3 ⟨rfl,db⟩;replace hY:=db.blk hY (fun h=>h);replace hC:=db.blk hC (fun h=>h);have dy:=dx.ext db;refine Ga 6 O tO (zqg O O (R.build (v:=.agg #[.int .i64 0,.int .i64 (-1),.int .i64 1,.int .i64 (-1)]) [(0,_),(1,_),(2,_),(3,_)] O (fun _=>tK)) (G.mem O O (M.buildSlice (cs:=xM ⟨0,-1,1,-1⟩) [(0,_)] tR34 ts65 tz65 tS O tK) ?_));rintro _ w4 ⟨g4,rfl,dZ,d5,dF,dc⟩;replace hY:=dc.blk hY (fun h=>h);replace hC:=dc.blk hC (fun h=>h);have dz:=dy.ext dc;have dG:w4.ownsRow 0 65 4 (.slice (some ⟨g4,0,none⟩) 1 1) 1 (xM ⟨0,-1,1,-1⟩):=zN (k:=4) (n:=1) (cap:=1) dF (ztg _) tS rfl
 have dH:∀ g,Value.ownBlock (.slice (some ⟨g4,0,none⟩) 1 1)=some g->w.heap.size<=g:=fun g hg=>by
  obtain rfl:g4=g:=Option.some.inj hg;have:=dy.size;omega
 refine Gs 7 O (zqk O tg24 (hY.cells 2 _ O) (Gs 1 O (G.call O call67 (znI f.body _ D w4 0 1 (1+widL f.body) (hf.body.ext zf dz) dD tO tO) ?_)));rintro r5 w5 ⟨dI,dJ,dg⟩;replace hC:=dg.blk hC (fun h=>h);have dK:=dz.ext dg;have dh:=zj dG dg (fun _ _ h=>h);refine G.mem O O (zqA tu34 Tryz.el65 O tS O O dh dI (zj4 _) tO tO) ?_;rintro v6 w6 ⟨dL,dM,dA⟩;obtain⟨dN,dl⟩:=zj2 dK dH dA dM dh;replace hC:=zj3 dh dA hC tS;refine Gs 6 O (zqg O O (R.build (v:=.agg #[.int .i64 1,.int .i64 (-1),.int .i64 (-1),.int .i64 (-1)]) [(0,_),(1,_),(2,_),(3,_)] O (fun _=>tK)) (G.mem O O (M.buildSlice (cs:=xM ⟨1,-1,-1,-1⟩) [(0,_)] tR34 ts65 tz65 tS O tK) ?_));rintro _ w7 ⟨g7,rfl,d6,d7,dO,dm⟩;replace hC:=dm.blk hC (fun h=>h);have dQ:=dN.ext dm;have dr:=zj dL dm (fun _ _ h=>h);refine G.mem O O (M.append tu34 Tryz.el65 O tS O O dr O (Cells.add dO.cells) (je _) tO tO) ?_;rintro v8 w8 ⟨dt,dR,dB,_⟩;obtain⟨dS,du⟩:=zj2 dQ dl dB dR dr;replace hC:=zj3 dr dB hC tS;obtain⟨av,cv,rfl⟩:=yb dt;refine zqg O O (R.build (v:=.agg #[.slice av (1+(layL f.body 0 1 (1+widL f.body)).length+1) cv]) [(0,_)] O (fun _=>tK)) (zpt O (zpu ts36 O O O O tX hC tR) ?_);rintro wf ⟨_,dT,dC⟩
 have da:=zj dt dC (fun g hg h=>by
  obtain⟨cs',dU⟩:=xe dt hg
  exact dU.ne hC tS h)
 refine Gs 3 O (zp3 results33 O (kM tg36 ts36 O dT.cells) ?_);refine⟨_,rfl,⟨_,rfl,?_⟩,dS.trans dC (fun q hq h=>tO)⟩;refine zpL tS xM zL iA (n:=1+(layL f.body 0 1 (1+widL f.body)).length+1) (e:=65) ?_ du;unfold zd;rw[zur,zuq,znG,<- zu0];exact da
def InE (ns:List Nd) (n e1 e2:Nat):Prop:=∀ x ∈ ns,∀ to,to=x.next\/to=x.other->to=-1\/to=(e1:Int)\/to=(e2:Int)\/((n:Int)<=to/\to<(n+ns.length:Nat))
structure LoopAt (ns:List Nd) (n j:Nat) (y:Nd) (E:Nat):Prop where
 pos:0<j
 lt:n+j<E
 le:E<=n+ns.length
 out:y.other<((n+j:Nat):Int)\/(E:Int)<=y.other
 only:∀ (i:Nat) x,ns[i]?=some x->∀ to,to=x.next\/to=x.other->((n+j:Nat):Int)<=to->to<(E:Int)->(j<=i/\n+i<E)\/(i+1=j/\x.kind=4/\to=((n+j:Nat):Int))
def Loops (ns:List Nd) (n:Nat):Prop:=∀ (j:Nat) y,ns[j]?=some y->y.kind=5->∃ E,LoopAt ns n j y E
theorem InE.append {A:List Nd} {n g1 g2:Nat} (hA:InE A n e1 e2) (hB:InE B (n+A.length) f1 f2) (he:∀ e,e=e1\/e=e2->e=g1\/e=g2\/n+A.length<=e/\e<n+A.length+B.length) (hf:∀ e,e=f1\/e=f2->e=g1\/e=g2\/n<=e/\e<n+A.length):InE (A++B) n g1 g2:=by
 intro x hx to h;rw[zsZ];have p1:=he e1 (.inl rfl);have p2:=he e2 (.inr rfl);have q1:=hf f1 (.inl rfl);have q2:=hf f2 (.inr rfl);rcases zta.1 hx with hx | hx
 .
  have:=hA x hx to h;omega
 have:=hB x hx to h;omega
theorem Loops.append {A:List Nd} {n:Nat} (lA:Loops A n) (lB:Loops B (n+A.length)) (hA:InE A n e1 e2) (hB:InE B (n+A.length) f1 f2) (h1:∀ e,e=e1\/e=e2->e<=n+A.length\/n+A.length+B.length<=e) (h2:∀ e,e=f1\/e=f2->e<n\/n+A.length+B.length<=e):Loops (A++B) n:=by
 have p1:=h1 e1 (.inl rfl);have p2:=h1 e2 (.inr rfl);have q1:=h2 f1 (.inl rfl);have q2:=h2 f2 (.inr rfl);intro j y hy hk;by_cases hj:j<A.length
 .
  rw[zth hj]at hy;obtain⟨E,p1,p2,p3,p4,p5⟩:=lA j y hy hk;refine⟨E,p1,p2,tD,p4,fun i x hx to h hl hu=>?_⟩;by_cases hi:i<A.length
  .
   rw[zth hi]at hx;exact p5 i x hx to h hl hu
  rw[zti tO]at hx;have:=hB x (zsS hx) to h;omega
 rw[zti tO]at hy;obtain⟨E,p1,p2,p3,p4,p5⟩:=lB _ y hy hk;refine⟨E,tO,tO,tD,tO,fun i x hx to h hl hu=>?_⟩;by_cases hi:i<A.length
 .
  rw[zth hi]at hx;have:=hA x (zsS hx) to h;omega
 rw[zti tO]at hx;rcases p5 _ x hx to h tO hu with h | h
 . omega
 omega
theorem zsd {n:Nat} (h:x.kind ≠ 5):Loops [x] n:=by
 intro j y hy hk
 grind
theorem qa {l:List St} (h:l.isEmpty=false):1<=widL l:=by
 cases l with
 | nil=>simp at h
 | cons s t=>have:=s.wid_eq;simp only[widL];omega
theorem zj5 (l:List St):plainL l=true->∀ a n e:Nat,(e<n\/n+widL l<=e)->InE (layL l a n e) n e e/\Loops (layL l a n e) n:=by
 induction l using zqD with
 | h l ih =>
 intro hp
 have key:∀ r:List St,(∀ x ∈ r,x ∈ l)->∀ a n e:Nat,(e<n\/n+widL r<=e)->InE (layL r a n e) n e e/\Loops (layL r a n e) n:=by
  intro r;induction r with
  | nil=>intro _ a n e _;exact⟨fun x hx=>by simp[layL]at hx,fun j y hy=>by simp[layL]at hy⟩
  | cons s r ihr =>
   intro hm a n e da;have hs:=yU hp s (hm s (zsV ..));have hr:plainL r=true:=zbC fun y hy=>yU hp y (hm y iu);have db:=hs;rw[s.plainB_eq,ztA,ztA]at hs;have h1:=(ih s (hm s (zsV ..))).1 hs.1.2;have h2:=(ih s (hm s (zsV ..))).2 hs.2;have hw:=s.wid_eq;simp only[widL]at da;have dm:=zB r hr (a+s.size) (n+s.wid) e
   have hC:(s.lay a n (if r.isEmpty then e else n+s.wid)).length=s.wid:=by
    have h1:=zB [s] (by rw[plainL,db];rfl) a n (if r.isEmpty then e else n+s.wid);simpa[layL,widL] using h1
   obtain⟨r1,r2⟩:=ihr (fun y hy=>hm y iu) (a+s.size) (n+s.wid) e tO;rw[layL]
   have dc:(if r.isEmpty then e else n+s.wid)=e\/(if r.isEmpty then e else n+s.wid)=n+s.wid/\1<=widL r:=by
    cases hre:r.isEmpty
    . exact .inr ⟨tR,qa hre⟩
    grind
   generalize (if r.isEmpty then e else n+s.wid)=e' at hC dc;have dg:e'<n\/n+s.wid<=e':=tO
   have hS:InE (s.lay a n e') n e' e'/\Loops (s.lay a n e') n:=by
    rw[s.lay_eq]at hC ⊢;split
    .
     rename_i a3;rw[zt2 a3]at hC;rw[zt1 i5]at hw;obtain⟨t1,t2⟩:=h1 (a+1) (n+1) e' tO;obtain⟨u1,u2⟩:=h2 (a+1+ssize s.thn) (n+1+widL s.thn) e' tO;have hY:=zB s.thn hs.1.2 (a+1) (n+1) e';have dh:=zB s.els hs.2 (a+1+ssize s.thn) (n+1+widL s.thn) e';generalize hb:layL s.thn (a+1) (n+1) e'=B at t1 t2 hY ⊢;generalize hc:layL s.els (a+1+ssize s.thn) (n+1+widL s.thn) e'=C at u1 u2 dh ⊢
     have hT:∀ m1 m2:Nat,m1=(if s.thn.isEmpty then e' else n+1)->m2=(if s.els.isEmpty then e' else n+1+widL s.thn)->InE [(⟨3,a,if s.thn.isEmpty then (e':Int) else (n+1:Nat),if s.els.isEmpty then (e':Int) else (n+1+widL s.thn:Nat)⟩:Nd)] n m1 m2/\(m1=e'\/m1=n+1/\1<=widL s.thn)/\(m2=e'\/m2=n+1+widL s.thn/\1<=widL s.els):=by
      rintro m1 m2 rfl rfl;refine⟨fun x hx to h=>?_,?_,?_⟩
      . grind
      .
       cases ht:s.thn.isEmpty
       . exact .inr ⟨tR,qa ht⟩
       grind
      cases ht:s.els.isEmpty
      . exact .inr ⟨tR,qa ht⟩
      grind
     obtain⟨k1,k2,k3⟩:=hT _ _ rfl rfl;generalize (if s.thn.isEmpty then e' else n+1)=m1 at k1 k2;generalize (if s.els.isEmpty then e' else n+1+widL s.thn)=m2 at k1 k3;generalize dr:(⟨3,a,if s.thn.isEmpty then (e':Int) else (n+1:Nat),if s.els.isEmpty then (e':Int) else (n+1+widL s.thn:Nat)⟩:Nd)=x0 at k1 ⊢;have k0:x0.kind ≠ 5:=tD;have s1:InE ([x0]++B) n e' m2:=InE.append k1 t1 tD tO;have s2:Loops ([x0]++B) n:=Loops.append (zsd k0) t2 k1 t1 tD tD;have dt:([x0]++B).length=1+widL s.thn:=tD;have u1':InE C (n+([x0]++B).length) e' e':=tD;have u2':Loops C (n+([x0]++B).length):=tD;exact⟨InE.append s1 u1' tO tO,Loops.append s2 u2' s1 u1' tO tO⟩
    rename_i a3;split
    .
     rename_i a4;rw[zt1 a3,zt2 a4]at hC;rw[zt2 a4]at hw;obtain⟨t1,t2⟩:=h1 (a+1) (n+2) (n+1) tO;have hY:=zB s.thn hs.1.2 (a+1) (n+2) (n+1)
     have dl:(if s.thn.isEmpty then ((n+1:Nat):Int) else (n+2:Nat))=(n+1:Nat)\/(if s.thn.isEmpty then ((n+1:Nat):Int) else (n+2:Nat))=(n+2:Nat)/\1<=widL s.thn:=by
      cases ht:s.thn.isEmpty
      . exact .inr ⟨tR,qa ht⟩
      grind
     generalize layL s.thn (a+1) (n+2) (n+1)=B at t1 t2 hY hC ⊢;generalize (if s.thn.isEmpty then ((n+1:Nat):Int) else (n+2:Nat))=m at dl ⊢;refine⟨fun x hx to h=>?_,fun j y hy hk=>?_⟩
     .
      rw[ztk,ztk,hY];rcases zt7.1 hx with rfl | hx
      . grind
      rcases zt7.1 hx with rfl | hx
      . grind
      have:=t1 x hx to h;rw[hY]at this;omega
     match j with
     | 0=>simp at hy;subst hy;cases hk
     | 1 =>
      simp at hy;subst hy;refine⟨n+2+widL s.thn,tO,tO,tD,tD,fun i x hx to h hl hu=>?_⟩
      match i with
      | 0=>simp at hx;subst hx;dsimp only at h;exact .inr ⟨rfl,rfl,tO⟩
      | i+1 =>
       have:=(zt5.1 hx).1;rw[ztk,ztk,hY]at this;exact .inl tO
     | j+2 =>
      rw[zux,zux]at hy;obtain⟨E,p1,p2,p3,p4,p5⟩:=t2 j y hy hk;rw[hY]at p3;refine⟨E,tO,tO,tD,tO,fun i x hx to h hl hu=>?_⟩
      match i with
      | 0=>simp at hx;subst hx;dsimp only at h;omega
      | 1=>simp at hx;subst hx;dsimp only at h;omega
      | i+2 =>
       rw[zux,zux]at hx;rcases p5 i x hx to h tO hu with h | h
       . omega
       omega
    rename_i a4;refine⟨fun x hx to h=>?_,zsd (fun h=>tD)⟩;rw[zt9]at hx;subst hx;dsimp only at h;omega
   exact⟨InE.append hS.1 (by rw[hC];exact r1) tO tO,Loops.append hS.2 tD hS.1 (by rw[hC];exact r1) tO tO⟩
 exact key l (fun x h=>h)
theorem zmA (f:Fl) (hs:List Int) (x:Nd) (s:St) (σ:Sg) (rd:Int->Int):(xp f hs x s σ rd).1=x.next\/(xp f hs x s σ rd).1=x.other:=by
 unfold xp;split
 . exact .inl O
 split
 . exact .inl O
 split
 . exact .inl O
 split
 . exact .inr O
 dsimp only;split
 . exact .inl O
 exact .inr O
structure OnWalk (f:Fl) (r:Ins) (K i:Nat) (n:Nat) (x:Nd):Prop where
 at_:(xi f r i).at_=(n:Int)
 nd:(zd f)[n]?=some x
 go:i<K->xi f r (i+1)=⟨(xp f (ym f r) x (ya f x.at_) (xi f r i).σ (xi f r i).rd).1,(xp f (ym f r) x (ya f x.at_) (xi f r i).σ (xi f r i).rd).2.1,(xp f (ym f r) x (ya f x.at_) (xi f r i).σ (xi f r i).rd).2.2⟩/\(x.kind=0\/x.kind=2\/x.kind=3\/x.kind=4\/x.kind=5)
 fin:i=K->n+1=(zd f).length/\x.kind=1
theorem zj6 (vd:Valid f) (hg:GoesAll f r K) (hi:i<=K):∃ n x,OnWalk f r K i n x:=by
 have hC:=yA f vd.plain;rcases zvQ i K with h | h
 .
  have h3:0<=(xi f r i).at_/\(xi f r i).at_<((zd f).length:Int) - 1:=by
   obtain⟨_,_,h2⟩:=hg
   grind
  obtain⟨h4,h5⟩:=vd.node h3.1 h3.2;refine⟨(xi f r i).at_.toNat,_,tO,h4,fun _=>⟨?_,h5.kind⟩,fun h'=>tO⟩;rw[show xi f r (i+1)=jY f (ym f r) (zd f) (xi f r i) from zcJ _ _ _ _ _];rfl
 obtain rfl:i=K:=tO;obtain⟨_,h1,_⟩:=hg;have hY:xi f r i=_:=h1;refine⟨(zd f).length - 1,⟨1,-1,-1,-1⟩,tD,?_,fun h'=>tO,fun _=>⟨tO,rfl⟩⟩;obtain⟨x,hx⟩:∃ x,(zd f)[(zd f).length - 1]?=some x:=j9;rw[hx,(zmw vd hx).1 tO]
theorem zmB (vd:Valid f) (hg:GoesAll f r K):1<=K/\K<=8193:=by
 obtain⟨K',rd',hK,hC⟩:=vd.walk (ym f r) (zkK f r);obtain rfl:=hg.unique ⟨rd',hC⟩;refine⟨?_,hK⟩;cases K with
 | zero =>
  obtain⟨_,h1,_⟩:=hg;have hY:xi f r 0=_:=h1;have h2:(xi f r 0).at_=((zd f).length:Int) - 1:=tD;have h3:(xi f r 0).at_=0:=rfl;have:=yA f vd.plain;omega
 | succ K=>omega
theorem Valid.away (V:Valid f) (hx:(zd f)[i]?=some x):(∀ to,to=x.next\/to=x.other->to=-1\/1<=to)/\(x.kind=0->i=0):=by
 obtain⟨k1,_⟩:=zj5 f.body V.plain 0 1 (1+widL f.body) (.inr (ztg _));unfold zd at hx;cases i with
 | zero=>simp at hx;subst hx;exact⟨fun to h=>tD,fun _=>rfl⟩
 | succ i =>
  rw[zux]at hx;rcases zta.1 (zsS hx) with hm | hm
  .
   refine⟨fun to h=>by have:=k1 x hm to h;omega,fun h=>?_⟩;have:=zaa _ _ _ _ x hm;omega
  grind
def edk (x:Nd) (k:Nat):Int:=if k=0 then x.next else x.other
theorem zmC (h:Blk w b [.int .i64 x.next,.int .i64 x.other] e) (hk:k<2):w.cell? ⟨b,0+(k:Int).toNat*1,none⟩=some (.int .i64 (edk x k)):=by
 have h0:=Blk.cells h 0 _ rfl;have h1:=Blk.cells h 1 _ rfl;rcases (show k=0\/k=1 by omega) with rfl | rfl
 . exact h0
 exact h1
end Go.Proofs.YtckdhgbepmpgiaaGreat
namespace Go.GL
theorem zgB {n:Nat} (h:w.ownsRow 0 e k (.slice (some ⟨b,0,none⟩) n n) n xs):Blk w b xs e:=by
 obtain⟨h1,h2⟩:=h;rcases h2 with⟨h2,_⟩ | ⟨b',cap,cur,hv,_,hg,hc,hY,da,hC⟩
 . cases h2
 cases hv;have:cur.toList=xs:=tD;unfold Blk;rw[<- this];omega
end Go.GL
namespace Go.Proofs.YtckdhgbepmpgiaaGreat
open Go.GL
theorem zeP {l:List α} {x y:α} (hx:l[k]?=some x):y ∈ l.take (k+1) ↔ y ∈ l.take k\/y=x:=by
 rw[zvy,hx];simp
theorem zj7 (l:List Int) (x:Int) (v:Value) (D:Nat->Prop) (W:World) (hv:SlR 1 zG D W v l):Calls prog 91 #[v,.int .i64 x] W (Ret fun r w'=>(∃ i:Int,r=.int .i64 i/\(0<=i ↔ x ∈ l))/\Ext W w'):=by
 obtain⟨av,cv,rfl⟩:=hv.form;have dc:=hv.max;refine zqr func91 O ntmps91 O (V.inn (Vs 14 O (zrl (σ:=Nat) [0,1,7] [] [] O (fun e k=>(8,.int .i64 k)::e) (fun e k=>e) (fun k=>k<=l.length/\x ∉ l.take k) (fun k=>l.length - k) 0 j2 j3 j1 j1 j1 ⟨zt6 _,tR⟩ ?_)));rintro k ⟨hk,hn⟩;refine Vs 6 O (zoE O (fun da=>?_) (fun da=>?_))
 .
  refine Vs 15 O (zrj 1000 0 k tO hv O O (fun y dg dh hC db hY=>?_));refine zqQ 1000 tR27 ts3 O hY tO _ rfl O (Vs 4 O (zoE O (fun he=>?_) (fun he=>?_)))
  . refine Vs 12 O (zoV results91 O (fun w hI=>⟨_,rfl,⟨_,rfl,tD⟩,hI.k0⟩))
  refine Va 7 O tO (V.back (k+1) j2 j3 ⟨tO,fun h=>((zeP hC).1 h).elim hn he⟩ tO 0 O O)
 have:k=l.length:=tO;subst this;rw[zsW]at hn;refine Vs 11 O (zoV results91 O (fun w hI=>⟨_,rfl,⟨_,rfl,⟨fun h=>tO,fun h=>absurd h hn⟩⟩,hI.k0⟩))
theorem zeQ (l:List Int) (x:Int) (v:Value) (D:Nat->Prop) (W:World) (hv:SlR 1 zG D W v l):Calls prog 77 #[v,.int .i64 x] W (Ret fun r w'=>r=.bool (decide (x ∈ l))/\Ext W w'):=by
 refine zqr func77 O ntmps77 O (V.inn (Vs 9 O (zr4 call91 O (fun w hI=>zj7 l x v D w (Tr1 hI.k0 hv)) ?_)));rintro r w1 w2 da hC ⟨i,rfl,hi⟩ hY;refine Vs 5 O (zr9 1 results77 O O tD)
structure PrOk (f:Fl) (g:List Nd):Prop where
 at_:∀ x ∈ g,x.at_<((preL f.body).length:Int)
 to:∀ x ∈ g,∀ y ∈ jI x,y<(g.length:Int)
def ze1 (g:List Nd) (i:Nat) (S:List Int) (n:Nat):List Int:=List.map (fun y:Nat=>(y:Int)) (((List.range i).filter fun y:Nat=>decide ((yP g y).next=(n:Int)\/(yP g y).other=(n:Int)))++(if (n:Int) ∈ S then [i] else []))
def zaV (g:List Nd) (i:Nat) (S:List Int):List (List Int):=(List.range g.length).map (ze1 g i S)
theorem zdF (g:List Nd) (i:Nat) (S:List Int):(zaV g i S).length=g.length:=by simp[zaV]
theorem zdG {n:Nat} {S:List Int} (h:n<g.length):(zaV g i S)[n]?=some (ze1 g i S n):=by unfold zaV;rw[zt8,zuC h];rfl
theorem zl0 (g:List Nd) (i:Nat) (S:List Int) (n:Nat):(ze1 g i S n).length<=i+1:=by
 unfold ze1;rw[ztb,zsZ];refine Nat.add_le_add (zsX (zuP _ _) tD) ?_;split<;>simp
theorem zgC (g:List Nd) (i n:Nat):ze1 g i [] n=List.map (fun y:Nat=>(y:Int)) ((List.range i).filter fun y:Nat=>decide ((yP g y).next=(n:Int)\/(yP g y).other=(n:Int))):=by
 unfold ze1
 grind
theorem zl1 {n:Nat} {S:List Int}:(i:Int) ∈ ze1 g i S n ↔ (n:Int) ∈ S:=by
 unfold ze1;rw[zv6];constructor
 .
  rintro⟨y,hy,e⟩;obtain rfl:y=i:=tO;rcases zta.1 hy with hy | hy
  . have:=zva.1 (zv2.1 hy).1;omega
  split at hy
  . assumption
  cases hy
 intro h;exact⟨i,zta.2 (.inr (by rw[zt2 h];exact zt9.2 O)),rfl⟩
theorem zl2 {n:Nat} {S:List Int} (h:(n:Int) ∉ S):ze1 g i (S++[(n:Int)]) n=ze1 g i S n++[(i:Int)]:=by
 unfold ze1
 grind
theorem zeR {n:Nat} {S:List Int} {t:Int} (h:t ≠ (n:Int)\/t ∈ S):ze1 g i (S++[t]) n=ze1 g i S n:=by
 have:(n:Int) ∈ S++[t] ↔ (n:Int) ∈ S:=by
  grind
 unfold ze1;by_cases h2:(n:Int) ∈ S
 . rw[zt2 h2,zt2 (this.2 h2)]
 rw[zt1 h2,zt1 (fun e=>h2 (this.1 e))]
theorem zj8 {S:List Int} {t:Int} (h:t ∈ S):zaV g i (S++[t])=zaV g i S:=by
 unfold zaV;exact zuU fun n _=>zeR (.inr h)
theorem zl3 {n:Nat} {S:List Int} (hn:n<g.length) (h:(n:Int) ∉ S):(zaV g i S).set n (ze1 g i S n++[(i:Int)])=zaV g i (S++[(n:Int)]):=by
 apply zuj;intro j;rw[zuF];by_cases hj:j<g.length
 .
  rw[zdG (S:=S++[(n:Int)]) hj];by_cases e:n=j
  .
   subst e;rw[zt2 rfl,zt2 (by rw[zdF];exact hn),zl2 h]
  rw[zt1 e,zdG hj,zeR (.inl tO)]
 rw[ztf (by rw[zdF];omega),ztf (by rw[zdF];omega)];split
 . omega
 rfl
theorem zj9 (h:g[i]?=some x):zaV g i (jI x)=zaV g (i+1) []:=by
 unfold zaV;refine zuU fun n _=>?_;rw[zgC,zvn,zuk];unfold ze1;refine congrArg (List.map _) (congrArg (List.append _) ?_);have hx:=jl h;have hm:(n:Int) ∈ jI x ↔ (x.next=(n:Int)\/x.other=(n:Int)):=by rw[mem_succ];exact⟨fun h=>h.2,fun h=>⟨tO,h⟩⟩
 by_cases hs:(n:Int) ∈ jI x
 . grind
 grind
theorem zja (g:List Nd):zaV g 0 []=List.replicate g.length []:=by
 unfold zaV;apply zuj;intro j;by_cases hj:j<g.length
 . rw[zt8,zuC hj,zuD,zt2 hj];simp[ze1]
 rw[ztf tD,ztf tD]
theorem zl4 (g:List Nd):zaV g g.length []=zeG g:=by
 unfold zaV zeG;refine zuU fun n _=>?_;rw[zgC];rfl
def zfH (f:Fl) (g:List Nd) (i:Nat):List St:=(g.take i).map (stN f)++List.replicate (g.length - i) znn
def st0:List Value:=[.int .i64 0,.int .i64 0,.int .i64 0,.int .i64 0,.int .i64 0,.int .i64 0,.slice none 0 0,.slice none 0 0,.slice none 0 0,.slice none 0 0]
theorem zgD (h:i<=g.length):(zfH f g i).length=g.length:=by unfold zfH;rw[zsZ,ztb,ztl,zuR];omega
theorem zl5 (h:g[i]?=some x):(zfH f g i).set i (stN f x)=zfH f g (i+1):=by
 have hl:=(zt5.1 h).1;unfold zfH;rw[ze h,zvt _ _ tD,ztb,ztl,show i - min i g.length=0 by omega,show g.length - i=(g.length - (i+1))+1 by omega,zvo];simp
theorem zjb (h:g[i]?=some x) (hn:x.at_<0):zfH f g i=zfH f g (i+1):=by
 have hl:=(zt5.1 h).1;unfold zfH;rw[ze h,show g.length - i=(g.length - (i+1))+1 by omega,zvo];have:stN f x=znn:=by unfold stN;rw[zt1 tO]
 simp[this]
theorem EncS.set {l:List St} {us:List Value} {x:St} (h:EncS D w l xs) (hx:RSt D w x us) (hu:us.length=10) (hi:i<l.length):EncS D w (l.set i x) (xs.take (i*10)++us++xs.drop (i*10+10)):=by
 have h1:=h.1;refine⟨tD,fun j y hy=>?_⟩;rw[zuF]at hy;have hC:(xs.take (i*10)).length=i*10:=tD;by_cases e:i=j
 . grind
 rw[zt1 e]at hy;have hY:=h.2 j y hy;have da:=(zt5.1 hy).1
 have key:((xs.take (i*10)++us++xs.drop (i*10+10)).drop (j*10)).take 10=(xs.drop (j*10)).take 10:=by
  apply zuj;intro q;rw[ztn,ztn];split
  .
   rename_i hq;rw[zuz,zuz];by_cases db:j<i
   . rw[zu0,zth tO,zuI tO]
   rw[zti tD,zsZ,hC,hu,zuz];congr 1;omega
  rfl
 rw[key];exact hY
theorem EncS.zero (n:Nat):EncS D w (List.replicate n znn) (zfF 10 n st0):=by
 refine⟨by rw[zdE (k:=10) rfl,zuR],fun i x hx=>?_⟩;rw[zuD]at hx;split at hx
 .
  rename_i hi;obtain rfl:=Option.some.inj hx;rw[zgz (k:=10) rfl hi];exact RSt.put (s:=znn) SlR.nil SlR.nil SlR.nil SlR.nil
 cases hx
def zov (D0:Nat->Prop) (W0:World):Rel St:=fun _ _ x cs=>RSt D0 W0 x cs
theorem zhq (D0:Nat->Prop) (W0:World):yq (zov D0 W0):=fun _ _ _ _ _ _ _ _ h=>h
theorem zjc (l:List St) (D:Nat->Prop) (W0 W:World) (v:Value) (hl:SlR 10 RSt D W0 v l) (he:EqD D W0 W) (hs:ssize l<=1000000) :
  Calls prog 75 #[v,.slice none 0 0] W (Ret fun r w'=>SlR 10 (zov D W0) (fun q=>W.heap.size<=q) w' r (preL l)/\Ext W w'):=by
 refine Calls.mono (zkY l D W0 W v (.slice none 0 0) [] [] hl he EncS.nil (qF _ _ _) (fun q _ h=>by cases h) tD) ?_;rintro e w' ⟨r,rfl,⟨u,xs⟩,⟨rfl,hx⟩,ho,hk,hC⟩;simp only[zvb]at hx ho hC;refine⟨_,rfl,OwnR.sl (e:=72) (D:=fun _=>False) ⟨xs,ho,hx.2⟩ tS (zhq _ _) (fun q h=>h.elim) (fun g hg=>?_),hk.mono fun q _ h=>by cases h⟩;exact((hC g hg).1).elim (fun h=>by cases h) id
theorem zl6 (n:Nat):RowsOk zb e w (List.replicate n (.slice none 0 0)) (List.replicate n []):=by
 refine⟨tR,fun i v r hv hr=>?_,fun i j vi vj g _ hi hj h=>?_⟩
 .
  rw[zuD]at hv hr;split at hv
  .
   rename_i h;rw[zt2 h]at hr;obtain rfl:=Option.some.inj hv;obtain rfl:=Option.some.inj hr;exact qF _ _ _
  cases hv
 rw[zuD]at hi;split at hi
 .
  obtain rfl:=Option.some.inj hi;cases h
 cases hi
@[simp] theorem zoe (n:Nat):(zfF 10 n st0).length=n*10:=zdE rfl
theorem grS {ys:List Value} (_:∀ q,D q->q<W.heap.size) (hy:EncS D W (g.map (stN f)) ys) (hE:Ext W w) (hB:Blk w b ys 72) (hb:W.heap.size<=b) (hN:g.length<=100000):SlR 10 RSt (fun q=>D q\/(W.heap.size<=q/\q<w.heap.size)) w (.slice (some ⟨b,0,none⟩) g.length g.length) (g.map (stN f)):=by
 have hl:=hy.1;have ho:=zN (k:=10) (n:=g.length) (cap:=g.length) hB (ztg _) tO tD;rw[zvB tD]at ho;have hO:OwnR 72 10 RSt D w (.slice (some ⟨b,0,none⟩) g.length g.length) (g.map (stN f)):=⟨ys,tD,fun i x hx=>zf D D W w (fun _ h=>h) (fun q hq hl=>hE.block q hl (fun h=>h)) x _ (hy.2 i x hx)⟩;exact hO.sl tS zf (fun q h=>.inl h) fun q h=>by cases h;exact .inr ⟨hb,hB.lt⟩
theorem grP {rv:List Value} (hC:rv.length=g.length) (hR:RowsOk zb 3 w rv (zeG g)) (hB:Blk w b rv 27) (hb:W.heap.size<=b) (hN:g.length<=100000) (hq:∀ q,(∃ (i:Nat) (v:Value),rv[i]?=some v/\v.ownBlock=some q)->W.heap.size<=q):SlR 1 (RSl 1 zG) (fun q=>D q\/(W.heap.size<=q/\q<w.heap.size)) w (.slice (some ⟨b,0,none⟩) g.length g.length) (zeG g):=by
 have hl:(zeG g).length=g.length:=by simp[zeG]
 have ho:=zN (k:=1) (n:=g.length) (cap:=g.length) hB (ztg _) tO tO;rw[zvB tO]at ho;exact kH tD hR (fun q h=>by cases h;exact .inr ⟨hb,hB.lt⟩) fun i u q h1 h2=>.inr ⟨hq q ⟨i,u,h1,h2⟩,hR.blk h1 h2⟩
theorem yE (f:Fl) (g:List Nd) (hp:PrOk f g) (hN:g.length<=100000) (ew:ssize f.body<=100000) (v1 v2 v3 gv:Value) (D:Nat->Prop) (W:World) (hf:RFl D W f v1 v2 v3) (hg:SlR 4 RNd D W gv g) (hD:∀ q,D q->q<W.heap.size) :
  Calls prog 37 #[.agg #[v1,v2,v3],.agg #[gv]] W (Ret fun r w'=>(∃ b,r=.pointer (some ⟨b,0,none⟩)/\GrO (fun q=>D q\/(W.heap.size<=q/\q<w'.heap.size)) w' f g b)/\Ext W w'):=by
 have dZ:=hg;have dB:=hf;obtain⟨ag,cg,rfl⟩:=hg.form;have ez:=hg.max;obtain⟨a1,c1,rfl⟩:=hf.vars.form;obtain⟨a2,c2,rfl⟩:=hf.hatches.form;obtain⟨a3,c3,rfl⟩:=hf.body.form;have eA:=yp f.body;refine zqr func37 O ntmps37 O (V.inn (Vs 2 O (V.box 2 O O (fun b2=>?_))));refine V.box 3 O O (fun b3=>(Vs 4 O (zrm (σ:=Nat × Nat × Nat) [2,3] [2,3] [2,3] O (fun e ⟨b17,b21,b23⟩=>(5,.pointer (some ⟨b23,0,none⟩))::e) (fun e ⟨b17,b21,b23⟩=>(17,.row 72 10 (.slice (some ⟨b17,0,none⟩) g.length g.length) g.length (zfF 10 g.length st0))::(21,.row 27 1 (.slice (some ⟨b21,0,none⟩) g.length g.length) g.length (List.replicate g.length (.slice none 0 0)))::(23,.own b23 [.slice a1 f.vars.length c1,.slice a2 f.hatches.length c2,.slice a3 f.body.length c3,.slice ag g.length cg,.slice (some ⟨b17,0,none⟩) g.length g.length,.slice (some ⟨b21,0,none⟩) g.length g.length] 113)::e) (fun⟨b17,b21,b23⟩=>True) j1 j1 ?_ ?_)))
 .
  refine Vw [2,3] [] O (Vd [0,1,2,3,4,5,7,8,9] 0 tK O O O (zrG 6 10 17 21 0 tu24 Tryz.el72 tu89 Tryz.el27 O tK O O O O ⟨tO,tO,tO,tO⟩ (by exact znF (us:=st0) O O:madeCells _ _=(zfF 10 g.length st0).toArray) (by exact yL _ _ O:madeCells _ _=(List.replicate g.length (Value.slice none 0 0)).toArray) tR (fun b17=>?_) (fun b21=>?_)))
  .
   refine zpx 10 21 0 tu89 Tryz.el27 O tK O O tO tO (by exact yL _ _ O:madeCells _ _=(List.replicate g.length (Value.slice none 0 0)).toArray) tR (fun b21=>(zrv 11 [Value.slice none 0 0,Value.slice none 0 0,Value.slice none 0 0,Value.slice none 0 0,Value.slice none 0 0,Value.slice none 0 0] [(0,3),(3,1),(4,1),(5,1)] [(0,_),(1,_),(2,_),(3,_)] O tK O O (fun _=>tK) (zqM 12 23 0 O tK O O (fun _ _=>M.box O O) (fun b23=>?_))));refine Vd [13] 0 tK O O O (VD.done tK (zoS ⟨b17,b21,b23⟩ j2 j3 trivial 0 O O))
  refine zpx 6 17 0 tu24 Tryz.el72 O tK O O tO tO (by exact znF (us:=st0) O O:madeCells _ _=(zfF 10 g.length st0).toArray) tR (fun b17=>(zrv 11 [Value.slice none 0 0,Value.slice none 0 0,Value.slice none 0 0,Value.slice none 0 0,Value.slice none 0 0,Value.slice none 0 0] [(0,3),(3,1),(4,1),(5,1)] [(0,_),(1,_),(2,_),(3,_)] O tK O O (fun _=>tK) (zqM 12 23 0 O tK O O (fun _ _=>M.box O O) (fun b23=>?_))));refine Vd [13] 0 tK O O O (VD.done tK (zoS ⟨b17,b21,b23⟩ j2 j3 trivial 0 O O))
 rintro⟨b17,b21,b23⟩ _;refine zqO 5 23 0 O O (zrB 17 (e':=.own b17 (zfF 10 g.length st0) 72) O (fun w hI=>zgB (hI.at 17 O)) trivial (fun _ h=>h) (fun q (hq:q=b17)=>by subst hq;rfl) (zrB 21 (e':=.own b21 (List.replicate g.length (.slice none 0 0)) 27) O (fun w hI=>zgB (hI.at 21 O)) trivial (fun _ h=>h) (fun q (hq:q=b21)=>by subst hq;rfl) (zqU 902 3 1 O (zrB 902 (e':=RowsP zb 3 (List.replicate g.length (.slice none 0 0)) (zaV g 0 [])) O (fun w hI=>by rw[zja];exact zl6 _) RowsP.loc (fun _ h=>h) (fun q hq=>by obtain⟨i,u,h,h2⟩:=hq;rw[zuD]at h;split at h<;>cases h;cases h2) ?_))));generalize hL:preL f.body=L at *;refine Vs 5 O (zr4 call75 O (fun w hI=>(hL ▸ zjc f.body D W w _ dB.body (EqD.keep (EqD.refl hD) hI.k0 hD (fun _ _ h=>h)) tO)) ?_);rintro rr w1 w2 eC d5 dD dE;obtain⟨ast,cst,rfl⟩:=dD.form;have d6:=dD.max;refine Vs 13 O (zrl (σ:=Nat × List Value × List Value) [5,6,28,29] [23] [5] O (fun e ⟨i,ys,rv⟩=>(30,.int .i64 i)::e) (fun e ⟨i,ys,rv⟩=>(17,.own b17 ys 72)::(21,.own b21 rv 27)::(902,RowsP zb 3 rv (zaV g i []))::e) (fun⟨i,ys,rv⟩=>i<=g.length/\EncS D W (zfH f g i) ys/\rv.length=g.length) (fun⟨i,ys,rv⟩=>g.length - i) (0,zfF 10 g.length st0,List.replicate g.length (.slice none 0 0)) j2 j3 j1 j1 j1 ⟨zt6 _,by simp only[zfH,zvE,zuX,zvb,Nat.sub_zero];exact EncS.zero _,tR⟩ ?_);rintro⟨i,ys,rv⟩ ⟨hi,dw,du⟩;refine Vs 6 O (zoE O (fun lt=>?_) (fun lt=>?_))
 .
  refine Vs 7 O (zri 1000 1 i tO hg O O O (fun x eD eE eF hC dx dF dG=>?_));obtain rfl:=dG;refine zqQ 1000 tR34 ts65 O dF tO _ rfl O ?_;have d7:=hp.at_ x dx;rw[hL]at d7;have dH:=dw.1;rw[zgD hi]at dH;refine Vs 1 O (V.alloc 8 tz65 O O (fun b8=>?_));refine Vs 5 O (zrm (σ:=List Value) [5,6,7,8,28,29,30] [8,23,902] [5,8] O (fun e ys=>e) (fun e ys=>(17,.own b17 ys 72)::(21,.own b21 rv 27)::e) (fun ys=>EncS D W (zfH f g (i+1)) ys) j1 j1 ?_ ?_)
  .
   refine Vs 7 O (zoE O (fun c0=>?_) (fun c0=>?_))
   .
    have dW:0<=x.at_:=c0;obtain⟨k,hk⟩:∃ k:Nat,x.at_=(k:Int):=⟨x.at_.toNat,tO⟩;refine zrh 2000 0 k tO dD O O O (fun b_ d_ h_=>by have dI:=dE _ h_;first | omega | exact dI d_) (fun s eG eH eI dJ d8 dK d9 hY=>?_);obtain⟨eb,ec,ed,ee,rfl,dL,dM,dN,dO⟩:=hY.get;obtain⟨da,db,rfl⟩:=dL.form;obtain⟨dc,dg,rfl⟩:=dM.form;obtain⟨dh,dl,rfl⟩:=dN.form;obtain⟨dm,dr,rfl⟩:=dO.form;refine Vw [23,17,21,1000,8,2000] [11] O (Vd [0,1,2,3,4,5,6,7] 0 tK O O O (zqR 8 2000 tR24 ts72 O tK O dK tO (k) tO O (Vd [9] 0 tK O O O (zrx 10 O tK O (fun w=>zph tR24 ts72 O O O tO) (zsb 11 17 (i*10) (us:=[.int .i64 s.act,.int .i64 s.cost,.int .i64 s.var,.int .i64 s.n,.int .i64 s.term.op,.int .i64 s.term.n,.slice da s.term.kids.length db,.slice dc s.thn.length dg,.slice dh s.els.length dl,.slice dm s.bounds.length dr]) ts72 O tK O rfl O (RSt.one hY) tO tO ?_)))));have ef:stN f x=s:=by unfold stN;rw[zt2 dW,hk];exact zix (hL ▸ dJ)
    have dQ:EncS D W (zfH f g (i+1)) (ys.take (i*10)++[.int .i64 s.act,.int .i64 s.cost,.int .i64 s.var,.int .i64 s.n,.int .i64 s.term.op,.int .i64 s.term.n,.slice da s.term.kids.length db,.slice dc s.thn.length dg,.slice dh s.els.length dl,.slice dm s.bounds.length dr]++ys.drop (i*10+10)):=by
     rw[<- zl5 hC,ef];exact dw.set hY O (by rw[zgD hi];omega)
    refine VDx.done tK (zoS (ys.take (i*10)++[.int .i64 s.act,.int .i64 s.cost,.int .i64 s.var,.int .i64 s.n,.int .i64 s.term.op,.int .i64 s.term.n,.slice da s.term.kids.length db,.slice dc s.thn.length dg,.slice dh s.els.length dl,.slice dm s.bounds.length dr]++ys.drop (i*10+10)) j2 j3 (dQ) 0 O O)
   have dW:¬ 0<=x.at_:=c0;have dQ:EncS D W (zfH f g (i+1)) ys:=by rw[<- zjb hC tO];exact dw
   refine Vs 1 O (zoS (ys) j2 j3 (dQ) 0 O O)
  rintro ys dR;generalize hS:jI x=S;have eJ:S.length<=2:=by rw[<- hS];exact zeO x 2
  have eh:∀ y ∈ S,0<=y/\y<(g.length:Int):=fun y hy=>by
   rw[<- hS]at hy;exact⟨(mem_succ.1 hy).1,hp.to x dx y hy⟩
  refine Vs 4 O (zr4 call76 O (fun w hI=>zgy x w) ?_);rintro rs w3 w4 eK ei dC dy;rw[hS]at dC;obtain⟨asu,csu,rfl⟩:=dC.form;have ej:=dC.max;refine Vs 4 O (zrk 902 O (e':=RowsP zb 3 rv (zaV g i (S.take 0))) (by rw[zvE]) (Vs 1 O (zrl (σ:=Nat × List Value) [5,6,7,28,29,30,50,51] [23] [5] O (fun e ⟨q,rv⟩=>(52,.int .i64 q)::e) (fun e ⟨q,rv⟩=>(17,.own b17 ys 72)::(21,.own b21 rv 27)::(902,RowsP zb 3 rv (zaV g i (S.take q)))::e) (fun⟨q,rv⟩=>q<=S.length/\rv.length=g.length) (fun⟨q,rv⟩=>S.length - q) (0,rv) j2 j3 j1 j1 j1 ⟨zt6 _,du⟩ ?_)));rintro⟨q,rv⟩ ⟨hq,du⟩;refine Vs 6 O (zoE O (fun lq=>?_) (fun lq=>?_))
  .
   refine Vs 6 O (zrh 3000 0 q tO dC O O O (fun b_ d_ h_=>by have dI:=dy _ h_;first | omega | exact dI d_) (fun y eL eM eN dS dT dU ek dV=>?_));obtain rfl:=dV;refine zqQ 3000 tR27 ts3 O dU tO _ rfl O ?_;obtain⟨em,eO⟩:=eh y dT;obtain⟨n,rfl⟩:=ztN em;have dX:n<g.length:=tO;have dY:=ze dS;obtain⟨u,hu⟩:∃ u,rv[n]?=some u:=j9;have dz:=zdG (i:=i) (S:=S.take q) dX;have er:=zl0 g i (S.take q) n;have dA:=zl1 (g:=g) (i:=i) (n:=n) (S:=S.take q);refine Vs 11 O (zqh O (fun w hI=>zph tR89 ts27 O O O tO) (zqh O (fun w hI=>R.load tg27 O (zqS (hI.at 21 O) hu)) (Vs 1 O (zr2 call77 O (fun w hI=>zeQ (ze1 g i (S.take q) n) i _ (fun _=>True) w (zkW (hI.at 902 O) hu dz)) (zqh O (fun w hI=>zpS O j6) (Vs 2 O (zoE O (fun m=>?_) (fun m=>?_))))))))
   .
    refine Vw [23,17,21,3000] [16] O (Vd [0,1,2,3,4,5,6,7,8,9,12] 0 tK O O O (zrx 10 O tK O (fun w=>zph tR89 ts27 O O O tO) (zrC 11 O tK O 0 O O (fun w hI=>R.load tg27 O (zqS (hI.at 21 O) hu)) (zrp 13 79 0 [(0,_)] tR27 ts3 tz3 tS O tK O O tK (fun b79=>?_)))));refine zrE 14 902 79 0 (n) tu27 Tryz.el3 O O tK O O (hu) (dz) tO (fun u902 dt=>(zrx 15 O tK O (fun w=>zph tR89 ts27 O O O tO) (zrF 16 21 (n) ts27 O tK O (dt) tO tO (VDx.done tK (Vs 2 O (zrk 902 O (e':=RowsP zb 3 (rv.set n u902) (zaV g i (S.take (q+1)))) (by rw[dY,<- zl3 dX (fun h=>m (dA.2 h))]) (Va 4 O tO (V.back ⟨q+1,rv.set n u902⟩ j2 j3 ⟨tO,by rw[zuS];exact du⟩ tZ 0 O O))))))))
   have m:=zt0.1 m;refine zrk 902 O (e':=RowsP zb 3 rv (zaV g i (S.take (q+1)))) (by rw[dY,zj8 (dA.1 m)]) (Va 7 O tO (V.back ⟨q+1,rv⟩ j2 j3 ⟨tO,du⟩ tZ 0 O O))
  obtain rfl:q=S.length:=tO;refine zrk 902 O (e':=RowsP zb 3 rv (zaV g (i+1) [])) (by rw[zsW,<- hS,zj9 hC]) (Va 10 O tO (V.back ⟨i+1,ys,rv⟩ j2 j3 ⟨tO,dR,du⟩ tZ 1 O O))
 obtain rfl:i=g.length:=tO;rw[show zfH f g g.length=g.map (stN f) by simp[zfH]]at dw;refine Vs 12 O (zoV results37 O (fun w hI=>⟨_,rfl,⟨b23,rfl,_,_,_,_,_,_,.inr ⟨hI.own 23 1 O O b23 rfl,(show Blk _ _ _ _ from hI.at 23 O).lt⟩,Blk.cells (hI.at 23 O),⟨(dB.vars.keep yG hI.k1 (fun _ _ _ h=>h)).wide yG (fun _ h=>.inl h),(dB.hatches.keep yN hI.k1 (fun _ _ _ h=>h)).wide yN (fun _ h=>.inl h),(dB.body.keep zf hI.k1 (fun _ _ _ h=>h)).wide zf (fun _ h=>.inl h)⟩,(dZ.keep zC hI.k1 (fun _ _ _ h=>h)).wide zC (fun _ h=>.inl h),grS hD dw hI.k1 (hI.at 17 O) (hI.own 17 1 O O b17 O) hN,grP du (zl4 g ▸ hI.at 902 O) (hI.at 21 O) (hI.own 21 1 O O b21 O) hN (fun q hq=>hI.own 902 1 O O q hq)⟩,hI.k1⟩))
theorem Valid.ends (V:Valid f) (hx:(zd f)[i]?=some x):(x.at_<0->x.kind=0\/x.kind=1)/\(0<=x.at_->x.at_<((preL f.body).length:Int)):=by
 have hC:=yA f V.plain;have hi:=(zt5.1 hx).1;by_cases hl:i<(zd f).length - 1
 .
  obtain⟨h1,h2⟩:=V.node (k:=(i:Int)) tO tO;rw[ztd,hx]at h1;have e:=Option.some.inj h1;rw[<- e]at h2;by_cases k0:x.kind=0
  .
   obtain rfl:=(V.away hx).2 k0;unfold zd at hx;rw[zuy]at hx;obtain rfl:=Option.some.inj hx;exact⟨fun _=>.inl rfl,fun h=>tD⟩
  obtain⟨h3,h4,_⟩:=h2.step k0;have:=(zt5.1 h4).1;exact⟨fun h=>tO,fun _=>tO⟩
 obtain rfl:i=(zd f).length - 1:=tO;have hY:=zB f.body V.plain 0 1 (1+widL f.body);unfold zd at hx;rw[ztk,zsZ,ztc,zvI,zux,zti (ztg _),zvW]at hx;obtain rfl:(⟨1,-1,-1,-1⟩:Nd)=x:=tD;exact⟨fun _=>.inr rfl,fun h=>tD⟩
theorem Valid.prOk (V:Valid f):PrOk f (zd f):=by
 refine⟨fun x hx=>?_,fun x hx y hy=>?_⟩
 .
  obtain⟨i,hi⟩:=zv5.1 hx;have:=(V.ends hi).2;by_cases h:0<=x.at_
  . omega
  omega
 obtain⟨i,hi⟩:=zv5.1 hx;obtain⟨h0,h1⟩:=mem_succ.1 hy;exact((V.edge hi).1 y (h1.elim (fun e=>.inl e.symm) (fun e=>.inr e.symm))).2
theorem zhr {l:List Tm} (h:∀ k ∈ l,(yD k).length<=k.nodes):(mentL l).length<=tnodes l:=by
 induction l with
 | nil=>simp[mentL]
 | cons k r ih =>
  have h1:=h k (zsV ..);have h2:=ih fun x hx=>h x (zsU _ hx);rw[mentL,zsZ,tnodes];omega
theorem zhs (t:Tm):(yD t).length<=t.nodes:=by
 induction t using zqB with
 | h t ih =>
  rw[zad,zsZ,t.nodes_eq];have:=zhr ih;have h2:(if t.op=24 then [t.n] else []).length<=1:=tD;omega
theorem Valid.gOk (V:Valid f):GOk f (zd f):=fun i x hx=>by
 obtain⟨h1,h2⟩:=V.ends hx;refine⟨h1,fun h=>⟨h2 h,?_⟩⟩;have hg:=qh h (h2 h);have hn:=zeC f.body _ (zsS hg);have hs:=V.size;have ht:=zhs (ya f x.at_).term;rw[St.nodes_eq]at hn;omega
noncomputable def yK (f:Fl) (g:List Nd) (s:Sf):Int:=by
 classical
 exact if yt f g ≠ 0 then yt f g else if RightF f g s (rdV f g) then 0 else 13
section
theorem sc_g (h:yt f g ≠ 0):yK f g s=yt f g:=by unfold yK;rw[zt2 h]
theorem zht (h:¬ yt f g ≠ 0) (hr:¬ RightF f g s (rdV f g)):yK f g s=13:=by unfold yK;rw[zt1 h,zt1 hr]
theorem zma (h:¬ yt f g ≠ 0) (hr:RightF f g s (rdV f g)):yK f g s=0:=by unfold yK;rw[zt1 h,zt2 hr]
theorem zjd (h:yK f g s=0):yt f g=0/\RightF f g s (rdV f g):=by
 unfold yK at h;split at h
 . contradiction
 rename_i h0;split at h
 . rename_i h1;exact⟨zt0.1 h0,h1⟩
 cases h
theorem jq (h:¬ yt f g ≠ 0):yO f=0/\g=zd f:=by
 unfold yt at h;split at h
 . contradiction
 rename_i h0;split at h
 . rename_i h1;exact⟨zt0.1 h0,h1.symm⟩
 exact absurd tS h
theorem zje (hY:OfF f s) (hC:s.nodes.length=g.length) (hn:∀ (n:Nat) x,s.nodes[n]?=some x->NodF f g s (rdV f g) n x) (h1:∀ k:Nat,f.vars.length<=k->k<s.of_.length->(xU f g s).count (k:Int)=1) (hu:kq f g s):RightF f g s (rdV f g):=⟨⟨hY,hC,hn,h1⟩,hu.1,hu.2⟩
end
theorem zo2 {P:Prop} {q:Bool} (h:q=true ↔ P):q=@decide P (Classical.propDecidable P):=by
 grind
theorem zai {p:Program} {n:FuncId} {a:Array Value} {P:Prop} (h:Calls p n a W (Ret fun r w'=>(∃ q:Bool,r=.bool q/\(q=true ↔ P))/\Ext W w')):Calls p n a W (Ret fun r w'=>r=.bool (@decide P (Classical.propDecidable P))/\Ext W w'):=by
 refine Calls.mono h ?_;rintro e w' ⟨r,rfl,⟨q,rfl,hq⟩,hE⟩;exact⟨_,rfl,tD,hE⟩
open Go.GL
attribute [local instance 1] Classical.propDecidable
theorem zaj (f:Fl) (g:List Nd) (s:Sf) (dt:snodes f.body+zx f.hatches<=1024) (du:sbulk f.body<=1000000) (dh:s.of_.length<=1000000/\(LP s g.length).length<=1000000) (v1 v2 v3 gv ofv nodv:Value) (D:Nat->Prop) (W:World) (hf:RFl D W f v1 v2 v3) (hg:SlR 4 RNd D W gv g) (hS:RSf D W s ofv nodv) (hD:∀ q,D q->q<W.heap.size) :
  Calls prog 16 #[.agg #[v1,v2,v3],.agg #[gv],.agg #[ofv,nodv]] W (Ret fun r w'=>r=.int .i64 (yK f g s)/\Ext W w'):=by
 have dw:=hf;have dx:=hg;have dg:=hS;obtain⟨ag,cg,rfl⟩:=hg.form;obtain⟨an,cn,rfl⟩:=hS.nodes.form;obtain⟨ao,co,rfl⟩:=hS.of_.form;have dD:=hS.nodes.max;have dE:=hg.max;refine zqs func16 O ntmps16 O (V.inn (Vs 2 O (V.box 3 O O (fun b3=>?_))));refine V.box 4 O O (fun b4=>(V.box 5 O O (fun b5=>?_)));refine Vs 8 O (zr2 call36 O (fun w hI=>zbY f g _ _ _ _ D D w (Tr1 hI.k0 dw) Jn dt du) (Vs 9 O (zoE O (fun c0=>?_) (fun c0=>?_))))
 . refine Vs 8 O (zr9 0 tr16 O O (by rw[sc_g c0]))
 obtain⟨dB,dy⟩:=jq c0;have vd:Valid f:=⟨dB,dt,du⟩;have hk:GOk f g:=by rw[dy];exact vd.gOk
 have hp:PrOk f g:=by rw[dy];exact vd.prOk
 have dz:=vd.lens;have dF:=vd.ssize
 have dl:1<=g.length/\g.length<=8000:=by
  have h1:=yA f vd.plain;have h2:=xj f.body
  grind
 refine Vs 3 O (Vw [3,4,5] [] O (Vd [0,1,3] 0 tK O O O (zr5 2 0 tc37 O tK O O (fun w hI=>yE f g hp tO tO _ _ _ _ D w (Tr1 hI.k0 dw) Jn iq) ?_)));rintro gp w1 w2 db dm ⟨gb,rfl,hG⟩ hC
 have dA:∀ q,(D q\/(w1.heap.size<=q/\q<w2.heap.size))->q<w2.heap.size:=fun q hq=>by
  have h1:w1.heap.size<=w2.heap.size:=dm.size;have h2:W.heap.size<=w1.heap.size:=db.k0.size;rcases hq with hq | hq
  . have:=hD q hq;omega
  omega
 refine zrv 4 [Value.pointer none,Value.slice none 0 0,Value.slice none 0 0,Value.slice none 0 0,Value.slice none 0 0] [(0,1),(1,2),(3,1),(4,1)] [(0,_),(1,_)] O tK O O (fun _=>tK) (zqM 5 20 1 O tK O O (fun _ _=>M.box O O) (fun b20=>?_));refine Vd [6] 1 tK O O O (VD.done tK (Vs 5 O (zr2 call38 O (fun w hI=>zai (zeJ f g s b20 gb _ _ _ _ D (fun q=>D q\/(w1.heap.size<=q/\q<w2.heap.size)) w (Blk.cells (hI.at 20 O)) (Tr1 hI.k1 dg.of_) iN)) (zqh O (fun w hI=>zpS O j6) (Vs 1 O (V.sp 24 O (fun n1=>?_) (fun n1=>?_)))))))
 .
  have hb:¬ RightF f g s (rdV f g):=fun h=>n1 h.of_;refine Vs 33 O JI
 have dr:OfF f s:=Classical.not_not.1 n1;refine Vs 9 O (V.sp 33 O (fun n2=>?_) (fun n2=>?_))
 .
  have hb:¬ RightF f g s (rdV f g):=fun h=>by have:=h.len;omega
  refine Vs 24 O JI
 have hY:s.nodes.length=g.length:=tO;refine Vs 1 O (zr2 call39 O (fun w hI=>zai (zho f g s hk hY b20 gb _ _ _ _ D (fun q=>D q\/(w1.heap.size<=q/\q<w2.heap.size)) w (Blk.cells (hI.at 20 O)) (Tr1 hI.k1 dg) iN)) (zqh O (fun w hI=>zpS O j6) (Vs 2 O (V.sp 38 O (fun n3=>?_) (fun n3=>?_)))))
 .
  have hb:¬ RightF f g s (rdV f g):=fun h=>n3 h.nod;refine Vs 19 O JI
 have da:=Classical.not_not.1 n3;refine Vs 1 O (zr2 call40 O (fun w hI=>zai (zkS f g s (rdV f g) hY da dr.len dh b20 gb _ _ _ _ D (fun q=>D q\/(w1.heap.size<=q/\q<w2.heap.size)) w (Blk.cells (hI.at 20 O)) (Tr1 hI.k1 dg) iN)) (zqh O (fun w hI=>zpS O j6) (Vs 2 O (V.sp 43 O (fun n4=>?_) (fun n4=>?_)))))
 .
  have hb:¬ RightF f g s (rdV f g):=fun h=>n4 h.one;refine Vs 14 O JI
 have dc:=Classical.not_not.1 n4;have dC:FormF f g s (rdV f g):=⟨dr,hY,da,dc⟩;refine Vs 1 O (zrM [20] (Hn:=fun x:Value × Bool=>[(20,.own b20 (chk gb (.slice ao s.of_.length co) (.slice an s.nodes.length cn) x.1 (.slice none 0 0)) 97)]) [(3,some (3,0)),(4,some (4,0)),(5,some (5,0)),(8,some (20,0)),(20,some (20,0)),(21,some (20,0)),(25,some (5,1)),(28,some (4,0)),(34,some (20,0)),(39,some (20,0)),(44,some (20,0))] call41 O iA j1 (fun w hI=>zbt (k:=20) O iF (zj1 f g s hk dC dl.1 tO tO b20 gb _ _ _ (fun q=>D q\/(w1.heap.size<=q/\q<w2.heap.size)) w (hI.at 20 O) (fun q hq=>⟨zvP (dA q hq) (Keep.size hI.k0),by exact hI.offD 0 20 O O (dA q hq) (fun hs=>by have h1:=hC q hs;have h2:=db.hsE 0 O hs;rcases hq with hq | hq;(· have:=hD q hq;omega);omega)⟩) ((Tr1 hI.k1 dg).wide (fun q h=>.inl h)) iN)) ?_);rintro _ ⟨u,q⟩ ⟨rfl,hq⟩;refine zqh O (fun w hI=>zpS O j6) (Vs 3 O (V.bool O (fun n5=>?_) (fun n5=>?_)))
 .
  have hb:¬ RightF f g s (rdV f g):=fun h=>by
   have:q=true:=hq.2 ⟨h.use,h.arg⟩
   grind
  refine Vs 7 O JI
 have hr:RightF f g s (rdV f g):=zje dr hY da dc (hq.1 tD);refine Vs 8 O (zr9 1 tr16 O O (by rw[zma c0 hr]))
theorem zeS (a b c:Int) (w:World) (hC:b<=c):Calls prog 46 #[.int .i64 a,.int .i64 b,.int .i64 c] w (Ret fun r w'=>r=.int .i64 (xt a b c)/\Ext w w'):=by
 refine zqs func46 O ntmps46 O (Gs 16 O (zoU results46 O ⟨_,rfl,?_,Keep.refl _ _⟩));congr 1;unfold xt;split
 . omega
 omega
def rnr (gb:Nat) (ofv nodv vv hv rv ov tv:Value):List Value:=[.pointer (some ⟨gb,0,none⟩),ofv,nodv,vv,hv,rv,ov,tv]
structure TlOk (f:Fl) (vals:List Int) (l:List (Int × Int)) (tl:List Int):Prop where
 inv:InV f.vars tl
 eq:∀ u ∈ l,lki tl u.1.toNat=lki vals u.1.toNat
def zhu (f:Fl):List Int:=f.vars.map fun v=>v.low
theorem zdH (f:Fl):(zhu f).length=f.vars.length:=ztb _
theorem TlOk.start (hg:∀ v ∈ f.vars,xz (v.low,v.high)):TlOk f vals [] (zhu f):=by
 refine⟨⟨zdH f,fun i v hv=>?_⟩,fun u hu=>tD⟩;have:lki (zhu f) i=v.low:=zis (by unfold zhu;rw[zt8,hv];rfl);have h2:=(hg v (zsS hv));unfold xz at h2;rw[this];simp at h2;omega
theorem zjf {x:Int} (h:i<l.length):lki (l.set i x) j=if j=i then x else lki l j:=by
 unfold lki;by_cases e:j=i
 . subst e;rw[zt2 rfl,zuH h];rfl
 rw[zt1 e,zuG (fun h=>e h.symm)]
theorem TlOk.next {tl:List Int} {l:List (Int × Int)} (h:TlOk f vals l tl) (hV:InV f.vars vals) {v:Nat} (hu:u.1=(v:Int)) (hv:v<f.vars.length):TlOk f vals (l++[u]) (tl.set v (lki vals v)):=by
 have hl:=h.inv.len;refine⟨⟨tD,fun i x hx=>?_⟩,fun w hw=>?_⟩
 .
  rw[zjf tO];split
  . rename_i e;subst e;exact hV.at_ i x hx
  exact h.inv.at_ i x hx
 rw[zjf tO];split
 . grind
 rename_i e;rcases zta.1 hw with hw | hw
 . exact h.eq w hw
 grind
theorem zgE (f:Fl) (g:List Nd) (s:Sf) (da:∀ v ∈ f.vars,xz (v.low,v.high)) (hR:RightF f g s (rdV f g)) (n:Nat) (hn:n<g.length) (dH:StepOk f (stN f (yP g n))) (eA:0<=(yP g n).at_) (eC:rdB f (yP g n)=true) (eR:f.vars.length<=1000) (_:g.length<=100000) (vl vals:List Int) (hV:InV f.vars vals) (dI:InvV f g s n vl vals) (b gb:Nat) (ofv nodv vv hv rv ov tv:Value) (D Dg Dv:Nat->Prop) (W:World) (hc:Cells W b 0 (rnr gb ofv nodv vv hv rv ov tv)) (hS:RSf D W s ofv nodv) (hG:GrO Dg W f g gb) (dJ:SlR 1 zG Dv W vv vl) :
  Calls prog 92 #[.pointer (some ⟨b,0,none⟩),.int .i64 n] W (Ret fun r w'=>r=.int .i64 (qO vals (stN f (yP g n)).term)/\Ext W w'):=by
 have eD:=hG;obtain⟨v1,v2,v3,gv,sv,pv,hD,dm,hf,hg,hs,eT⟩:=eD;have dK:=hf.vars;obtain⟨a1,c1,rfl⟩:=dK.form;obtain⟨as1,cs1,rfl⟩:=hs.form;have dL:=hS.nodes;obtain⟨an,cn,rfl⟩:=dL.form;obtain⟨av,cv,rfl⟩:=dJ.form;have eU:=dL.max;have eV:=dJ.max;have eW:(g.map (stN f)).length=g.length:=ztb _;have eE:=hR.len;obtain⟨x,dr⟩:∃ x,s.nodes[n]?=some x:=j9;have dh:=hR.nod n x dr
 have dM:(g.map (stN f))[n]?=some (stN f (yP g n)):=by
  have e:=zsR hn;rw[zt8,e,zM e];rfl
 generalize eX:g.map (stN f)=gm at *;refine zqr func92 O ntmps92 O (V.inn (zrg 900 0 O O (fun h=>h) hc (zrg 901 0 O O (fun h=>h) dm (zqO 0 900 0 O O (Vs 11 O (zqO 15 901 0 O O (Vs 5 O (zpw 21 tu27 Tryz.el3 O tO tO (zs:=List.replicate f.vars.length (.int .i64 0)) JU tR (fun b21=>?_)))))))));refine zrk 21 O (e':=.row 3 1 (.slice (some ⟨b21,0,none⟩) f.vars.length f.vars.length) f.vars.length (((zhu f).take 0++List.replicate (f.vars.length - 0) 0).map zb)) (by simp[zb]) (Vs 10 O (zqO 25 901 0 O O (Vs 9 O (zrl (σ:=Nat) [0,1,5,29,30] [900,901] [0] O (fun e i=>(31,.int .i64 i)::e) (fun e i=>(21,.row 3 1 (.slice (some ⟨b21,0,none⟩) f.vars.length f.vars.length) f.vars.length (((zhu f).take i++List.replicate (f.vars.length - i) 0).map zb))::e) (fun i=>i<=f.vars.length) (fun i=>f.vars.length - i) 0 j2 j3 j1 j1 j1 (zt6 _) ?_))));rintro i hi;refine Vs 6 O (zoE O (fun lt=>?_) (fun lt=>?_))
 .
  refine Vs 7 O (zri 1000 0 i tO dK O O O (fun vr eF eG eH dt dX du dw=>?_));obtain rfl:=dw;refine zqQ 1000 tR22 ts142 O du tO _ rfl O ?_;have eI:(zhu f)[i]?=some vr.low:=by unfold zhu;rw[zt8,dt];rfl
  have dN:((zhu f).take i++List.replicate (f.vars.length - i) 0).set i vr.low=(zhu f).take (i+1)++List.replicate (f.vars.length - (i+1)) 0:=by
   rw[ze eI,zvt _ _ tD,ztl,zdH,show i - min i f.vars.length=0 by omega,show f.vars.length - i=(f.vars.length - (i+1))+1 by omega,zvo];simp
  refine Vs 1 O (V.alloc 7 tz142 O O (fun b7=>?_));refine Va 10 O tO (zr0 21 (i) ts3 O tO tD (zrk 21 O (e':=.row 3 1 (.slice (some ⟨b21,0,none⟩) f.vars.length f.vars.length) f.vars.length (((zhu f).take (i+1)++List.replicate (f.vars.length - (i+1)) 0).map zb)) (by rw[<- dN,zuZ]) (Va 7 O tO (V.back (i+1) j2 j3 tO tO 0 O O))))
 obtain rfl:i=f.vars.length:=tO;refine zrk 21 O (e':=.row 3 1 (.slice (some ⟨b21,0,none⟩) f.vars.length f.vars.length) f.vars.length ((zhu f).map zb)) (by rw[zvB (by rw[zdH];omega),zvW,zvq,zu1]) (Vs 14 O (zri 2000 0 n tO dL O O O (fun x2 eJ eK eL db dY dx dy=>?_)));obtain⟨dZ,d5,rfl,dz,hC⟩:=dy;obtain⟨d6,d7,rfl⟩:=dz.form;obtain⟨d8,d9,rfl⟩:=hC.form;refine zqQ 2000 tR28 ts59 O dx tO _ rfl O ?_;obtain rfl:x2=x:=Option.some.inj (db.symm.trans dr);have eY:=hC.max;refine Vs 7 O (zrl (σ:=Nat × List Int) [0,1,5,50,51] [900,901] [0] O (fun e ⟨k,tl⟩=>(52,.int .i64 k)::e) (fun e ⟨k,tl⟩=>(21,.row 3 1 (.slice (some ⟨b21,0,none⟩) f.vars.length f.vars.length) f.vars.length (tl.map zb))::e) (fun⟨k,tl⟩=>k<=x2.uses.length/\TlOk f vals (x2.uses.take k) tl) (fun⟨k,tl⟩=>x2.uses.length - k) (0,zhu f) j2 j3 j1 j1 j1 ⟨zt6 _,TlOk.start da⟩ ?_);rintro⟨k,tl⟩ ⟨hk,dA⟩;have dO:=dA.inv.len;refine Vs 6 O (zoE O (fun lk=>?_) (fun lk=>?_))
 .
  refine Vs 6 O (zri 3000 0 k tO hC O O O (fun u eZ fb fe dQ dl dR dS=>?_));obtain rfl:=dS;refine zqQ 3000 tR57 ts85 O dR tO _ rfl O ?_;have fg:=zah hR.of_ (dh.ver u dl);have fm:=(dh.ver u dl).1;have dT:=hR.use n x2 db u dl;obtain⟨v,hv⟩:∃ v:Nat,u.1=(v:Int):=⟨u.1.toNat,tO⟩;obtain⟨q,hq⟩:∃ q:Nat,u.2=(q:Int):=⟨u.2.toNat,tO⟩;have dU:v<f.vars.length:=tO;have hY:=(dI v dU).2 tD;rw[<- hv,dT,hq,ztd]at hY;have dc:=zgj (l:=vals) (i:=v) (by rw[hV.len];exact dU);have fp:q<vl.length:=(zt5.1 (hY.trans dc)).1;have eM:=dA.next hV hv dU;refine zrj 4000 0 q tO dJ O O (fun z fq ft dV eN dW=>?_);have hz:z=lki vals v:=Option.some.inj (dV.symm.trans (hY.trans dc));refine Vs 1 O (V.alloc 9 tz85 O O (fun b9=>?_));refine Vs 3 O (Vw [900,901,3000,4000,9] [] O (Vd [0,1,2,3,4,5,6,7,8] 0 tK O O O (zqR 9 4000 tR27 ts3 O tK O dW tO (q) tO O (Vb [10,11] 0 tK O O O tO (zr1 12 21 0 (v) ts3 O tK O O tO tD (VD.done tK (Vs 2 O (zrk 21 O (e':=.row 3 1 (.slice (some ⟨b21,0,none⟩) f.vars.length f.vars.length) f.vars.length ((tl.set v (lki vals v)).map zb)) (by rw[hz,zuZ]) (Va 4 O tO (V.back ⟨k+1,tl.set v (lki vals v)⟩ j2 j3 ⟨tO,by rw[ze dQ];exact eM⟩ tD 0 O O))))))))))
 obtain rfl:k=x2.uses.length:=tO;rw[zsW]at dA;refine zri 5000 0 n tO hs O O O (fun st eO eP eQ dB eb dC dD=>?_);obtain⟨ec,ed,ee,ef,rfl,dg,dE,dF,dG⟩:=dD.get;obtain⟨eh,ei,rfl⟩:=dg.form;obtain⟨ej,ek,rfl⟩:=dE.form;obtain⟨em,er,rfl⟩:=dF.form;obtain⟨ew,ez,rfl⟩:=dG.form;obtain rfl:st=stN f (yP g n):=Option.some.inj (dB.symm.trans dM)
 have hY:qO tl (stN f (yP g n)).term=qO vals (stN f (yP g n)).term:=zkI _ fun v hv=>by
  have dN:stN f (yP g n)=ya f (yP g n).at_:=by unfold stN;rw[zt2 eA]
  rw[dN]at hv;have hm:=(znB eC).2 hv;rw[show rdN f (yP g n)=x2.uses.map (·.1) from dh.use.symm]at hm;obtain⟨u,hu,rfl⟩:=zv6.1 hm;exact dA.eq u hu
 refine Vs 6 O (Vw [900,901,5000] [] O (Vd [0,1,2,3] 0 tK O O O (zqP 73 901 0 O O (Vd [4,5,6,7,8,9,10,11,12] 0 tK O O O (zqP 82 901 0 O O (Vd [13,14,15,16] 0 tK O O O (zqR 17 5000 tR24 ts72 O tK O dC tO (n) tO O (Vd [18,19] 0 tK O O O (zr3 20 0 call45 O tK O O (fun w hI=>zc0 da dA.inv (stN f (yP g n)).term dH.formed dH.ranged dH.small _ _ _ (fun _=>True) w _ _ (Tr1 hI.k0 dK) (zpK zb iA (show w.ownsRow 0 3 1 _ tl.length _ from dO ▸ hI.at 21 O) (fun _ _=>trivial)) (RTm.put i6)) ?_)))))))));refine Vd [21,22,23,24,25] 0 tK O O O (VD.done tK (Vs 8 O (zoV results92 O iS)))
theorem zhv {L L':List Int} (h:∀ a,L.count a=L'.count a):kG L m=kG L' m:=by
 unfold kG
 grind
theorem zmD (hj:j<=N):(LP s j).length<=(LP s N).length:=by
 have:LP s N=LP s j++(List.range' j (N - j)).flatMap fun i=>dP (zh s i)++(zh s i).phis.map (·.ver):=by
  unfold LP;rw[<- zuq,zvm,zvm];congr 1;rw[show N=j+(N - j) by omega,<- List.range'_append_1];simp
 grind
theorem zhw (f:Fl) (g:List Nd) (s:Sf) (hk:GOk f g) (hz:ssize f.body<=10000) (eH:g.length<=1000000) (eT:s.of_.length<=1000000/\(LP s s.nodes.length).length<=1000000) (v1 v2 v3 gv ofv nodv:Value) (D:Nat->Prop) (W:World) (hf:RFl D W f v1 v2 v3) (hg:SlR 4 RNd D W gv g) (hS:RSf D W s ofv nodv) :
  Calls prog 34 #[.agg #[v1,v2,v3],.agg #[gv],.agg #[ofv,nodv]] W (Ret fun r w'=>(∃ q:Bool,r=.bool q/\(q=true ↔ FormF f g s (rdV f g)))/\Ext W w'):=by
 have dx:=hf;have dV:=hg;have dE:=hS;have eI:=hf.vars;have dW:=hS.of_;have dX:=hS.nodes;obtain⟨ag,cg,rfl⟩:=hg.form;obtain⟨an,cn,rfl⟩:=dX.form;obtain⟨ao,co,rfl⟩:=dW.form;obtain⟨a1,c1,rfl⟩:=eI.form;have fT:=dX.max;have fU:=hg.max;have fV:=dW.max;have eJ:∀ (L:List Int) (k:Int),L.count k<=L.length:=fun L k=>List.count_le_length;have hC:¬ FormF f g s (rdV f g)->((false:Bool)=true ↔ FormF f g s (rdV f g)):=fun hb=>⟨fun h=>tD,fun h=>absurd h hb⟩;refine zqs func34 O ntmps34 O (V.inn (Vs 2 O (V.box 3 O O (fun b3=>?_))));refine V.box 4 O O (fun b4=>(V.box 5 O O (fun b5=>?_)));refine Vs 4 O (zrm (σ:=Unit) [3,4,5] [3,4,5] [3,4,5] O (fun e u=>e) (fun e u=>e) (fun u=>f.vars.length<=s.of_.length/\s.nodes.length=g.length) j1 j1 ?_ ?_)
 .
  refine Vs 10 O (V.sp 28 O (fun l0=>?_) (fun l0=>?_))
  . refine Vs 19 O (zoV tr34 O (fun w hI=>⟨_,rfl,⟨_,rfl,hC fun h=>by have:=h.of_.len;omega⟩,hI.k0⟩))
  refine Vs 10 O (zoE O (fun l1=>?_) (fun l1=>?_))
  . refine Vs 8 O (zoV tr34 O (fun w hI=>⟨_,rfl,⟨_,rfl,hC fun h=>by have:=h.len;omega⟩,hI.k0⟩))
  refine Vs 1 O (zoS () j2 j3 ⟨tO,tO⟩ 0 O O)
 rintro u ⟨eU,dy⟩;have dg:∀ (j:Nat) v,s.of_[j]?=some v->¬ VOk f j v->¬ FormF f g s (rdV f g):=fun j v hv hn h=>hn ((ofF_iff.1 h.of_).2 j v hv);refine Vs 11 O (zrl (σ:=Nat) [3,4,5,38,39] [3,4,5] [3,4,5] O (fun e i=>(40,.int .i64 i)::e) (fun e i=>e) (fun i=>i<=s.of_.length/\∀ (j:Nat) v,j<i->s.of_[j]?=some v->VOk f j v) (fun i=>s.of_.length - i) 0 j2 j3 j1 j1 j1 ⟨zt6 _,fun j v h=>absurd h (zvV _)⟩ ?_);rintro i ⟨hi,dF⟩;refine Vs 6 O (zoE O (fun lt=>?_) (fun lt=>?_))
 .
  refine Vs 7 O (zrj 1000 0 i tO dW O O (fun v fW fX db eV dY=>?_));refine zqQ 1000 tR27 ts3 O dY tO _ rfl O (Vs 5 O (zrm (σ:=Unit) [3,4,5,38,39,40] [3,4,5] [3,4,5] O (fun e u=>e) (fun e u=>e) (fun u=>VOk f i v) j1 j1 ?_ ?_))
  .
   refine Vs 8 O (V.sp 50 O (fun a1=>?_) (fun a1=>?_))
   .
    refine Vs 5 O (V.sp 55 O (fun a2=>?_) (fun a2=>?_))
    . refine Vs 41 O (zoV tr34 O (fun w hI=>⟨_,rfl,⟨_,rfl,hC (dg i v db fun h=>a2 (h.1 tO))⟩,hI.k0⟩))
    refine Vs 6 O (V.sp 61 O (fun b1=>?_) (fun b1=>?_))
    . omega
    refine Vs 24 O (zoS () j2 j3 ⟨fun _=>zt0.1 a2,fun h=>tO⟩ 0 O O)
   refine Vs 11 O (V.sp 61 O (fun b1=>?_) (fun b1=>?_))
   .
    refine Vs 3 O (V.sp 64 O (fun b2=>?_) (fun b2=>?_))
    . refine Vs 32 O (zoV tr34 O (fun w hI=>⟨_,rfl,⟨_,rfl,hC (dg i v db fun h=>by have:=(h.2 tO).1;omega)⟩,hI.k0⟩))
    obtain⟨m,rfl⟩:=ztN (show 0<=v by omega);refine Vs 7 O (V.sp 71 O (fun b3=>?_) (fun b3=>?_))
    .
     refine Vs 25 O ?_
     have hb:¬ VOk f i (m:Int):=fun h=>by
      obtain⟨_,x,hx,_⟩:=h.2 tO;have:=(zt5.1 hx).1;omega
     refine zoV tr34 O (fun w hI=>⟨_,rfl,⟨_,rfl,hC (dg i m db hb)⟩,hI.k0⟩)
    refine Vs 3 O (zri 2000 0 m tO eI O O O (fun vr eW eX eY dG eK dH dI=>?_));obtain rfl:=dI;refine zqQ 2000 tR22 ts142 O dH tO _ rfl O (Vs 8 O (zoE O (fun b4=>?_) (fun b4=>?_)))
    .
     have hb:¬ VOk f i (m:Int):=fun h=>by
      obtain⟨_,x,hx,h0⟩:=h.2 tO
      grind
     refine Vs 12 O (zoV tr34 O (fun w hI=>⟨_,rfl,⟨_,rfl,hC (dg i m db hb)⟩,hI.k0⟩))
    refine Vs 1 O (zoS () j2 j3 ⟨fun h=>tO,fun _=>⟨tO,vr,dG,zt0.1 b4⟩⟩ 0 O O)
   omega
  rintro u eZ;have dc:=yi dF db eZ;refine Va 6 O tO (V.back (i+1) j2 j3 ⟨tO,dc⟩ tO 0 O O)
 obtain rfl:i=s.of_.length:=tO;have fb:OfF f s:=ofF_iff.2 ⟨eU,qd dF⟩;generalize hm:s.of_.length=m at *;refine Vs 10 O (zpw 86 tu27 Tryz.el3 O tO tO (zs:=List.replicate m (.int .i64 0)) JU tR (fun b86=>?_));refine zrk 86 O (e':=.row 3 1 (.slice (some ⟨b86,0,none⟩) m m) m ((kG (LP s 0) m).map zb)) (by rw[show LP s 0=[] from rfl,zgu,zuY]) (Vs 13 O (zrl (σ:=Nat) [3,4,5,9,88,89] [3,4,5] [3,4,5] O (fun e n=>(90,.int .i64 n)::e) (fun e n=>(86,.row 3 1 (.slice (some ⟨b86,0,none⟩) m m) m ((kG (LP s n) m).map zb))::e) (fun n=>n<=s.nodes.length/\∀ (j:Nat) x,j<n->s.nodes[j]?=some x->NodF f g s (rdV f g) j x) (fun n=>s.nodes.length - n) 0 j2 j3 j1 j1 j1 UD ?_));rintro n ⟨hn,dJ⟩;refine Vs 6 O (zoE O (fun lt=>?_) (fun lt=>?_))
 .
  refine Vs 7 O (zri 3000 0 n tO dX O O O (fun x fY fZ f0 dz fe dZ d5=>?_));obtain⟨fg,fm,rfl,dh,dA⟩:=d5;obtain⟨fp,fq,rfl⟩:=dh.form;obtain⟨ft,fu,rfl⟩:=dA.form;refine zqQ 3000 tR28 ts59 O dZ tO _ rfl O ?_;have hY:¬ NodF f g s (rdV f g) n x->¬ FormF f g s (rdV f g):=fun hb h=>hb (h.nod n x dz);have eL:n<g.length:=tO;have f4:=dA.max;have f5:=dh.max;have dK:=zfD dz;have d6:=zmD (s:=s) (j:=n+1) (N:=s.nodes.length) tO;rw[dK,zsZ,zsZ,ztb]at d6;refine Vs 1 O (V.alloc 11 tz59 O O (fun b11=>?_));refine Vs 5 O (zrm (σ:=Unit) [3,4,5,9,10,11,88,89,90] [3,4,5,11,86] [3,4,5,11] O (fun e u=>e) (fun e u=>e) (fun u=>n=0->x.phis=[]) j1 j1 ?_ ?_)
  .
   refine Vs 5 O (V.sp 97 O (fun z1=>?_) (fun z1=>?_))
   .
    refine Vs 7 O (zoE O (fun z2=>?_) (fun z2=>?_))
    .
     have hb:=hY fun h=>absurd (h.phi.zero tO) (fun e=>tD);refine Vs 13 O im
    refine Vs 1 O (zoS () j2 j3 (fun _=>zuO.1 tO) 0 O O)
   refine Vs 9 O (zoS () j2 j3 (fun e=>absurd tO z1) 0 O O)
  rintro u h0;refine Vs 10 O (zrk 86 O (e':=.row 3 1 (.slice (some ⟨b86,0,none⟩) m m) m ((kG (LP s n++(x.phis.take 0).map (·.ver)) m).map zb)) tD (Vs 1 O (zrl (σ:=Nat) [3,4,5,9,10,11,88,89,90,104,105] [3,4,5,11] [3,4,5,11] O (fun e i=>(106,.int .i64 i)::e) (fun e i=>(86,.row 3 1 (.slice (some ⟨b86,0,none⟩) m m) m ((kG (LP s n++(x.phis.take i).map (·.ver)) m).map zb))::e) (fun i=>i<=x.phis.length/\PhTo f g s n x.phis i) (fun i=>x.phis.length - i) 0 j2 j3 j1 j1 j1 ⟨zt6 _,PhTo.start⟩ ?_)));rintro i ⟨hi,eM⟩;refine Vs 6 O (zoE O (fun lp=>?_) (fun lp=>?_))
  .
   refine Vs 7 O (zri 4000 0 i tO dh O O O (fun p f7 f8 f9 dl d7 d8 d9=>?_));obtain⟨fw,fx,rfl,dm,dB⟩:=d9;obtain⟨fy,fA,rfl⟩:=dm.form;obtain⟨fB,fC,rfl⟩:=dB.form;refine zqQ 4000 tR56 ts88 O d8 tO _ rfl O ?_;have fD:=dB.max;have fE:=dm.max;have da:¬ PhOne f g s n p->¬ FormF f g s (rdV f g):=fun hb=>hY fun h=>hb (h.phi.bad d7);refine Vs 1 O (V.alloc 13 tz88 O O (fun b13=>?_));refine Vs 5 O (zrm (σ:=Unit) [3,4,5,9,10,11,13,88,89,90,104,105,106] [3,4,5,11,13,86] [3,4,5,11,13] O (fun e u=>e) (fun e u=>e) (fun u=>(0<i->∃ q,x.phis[i - 1]?=some q/\q.var<p.var)/\jZ f s p.ver p.var true/\p.frm=zg g n/\p.args.length=p.frm.length) j1 j1 ?_ ?_)
   .
    refine zqd (p:=0<i) (fun ci=>?_) (fun ci=>?_)
    .
     refine zri 5000 0 (i-1) tO dh O O O (fun q gc gf gh dC fF eb ec=>?_);obtain⟨fG,fH,rfl,ed,ee⟩:=ec;obtain⟨fI,fJ,rfl⟩:=ed.form;obtain⟨fK,fL,rfl⟩:=ee.form;refine Vs 1 O (Vw [3,4,5,11,4000,13,5000] [] O (Vd [0,1,2] 0 tK O O O (VD.sp 113 O (fun c1=>?_) (fun c1=>?_))))
     .
      refine Vb [3,4,5,6,10,11] 0 tK O O O tO (zqR 7 5000 tR56 ts88 O tK O eb tO (i - 1) tO O (Vd [8,9,12,13,14] 0 tK O O O (VD.sp 125 O (fun c2=>?_) (fun c2=>?_))))
      .
       have ef:=hY fun h=>by
        have:=zvi.1 h.phi.asc (i - 1) i (zt5.1 dC).1 (zt5.1 dl).1 tO;rw[(zt5.1 dC).2,(zt5.1 dl).2]at this;omega
       refine Vd [15,16,17,18,19,20] 0 tK O O O (VD.skip 21 0 O tK O O (Vd [22,23,24,25,26,27,28] 0 tK O O O (VD.skip 29 0 O tK O O (VD.skip 30 0 O tK O O (Vd [31,32,33,34,35,36,37,38,39,40,41] 0 tK O O O (VD.done tK (Vs 20 O (zoV tr34 O (fun w hI=>⟨_,rfl,⟨_,rfl,hC (ef)⟩,hI.k0⟩)))))))))
      have dL:0<i->∃ q,x.phis[i - 1]?=some q/\q.var<p.var:=fun _=>⟨q,dC,tO⟩;refine Vd [15,16,17,18,19,20] 0 tK O O O (zr3 21 0 tc68 O tK O O U7 (zqi 22 0 O tK O O (fun w hI=>zpS O za) (Vd [23,24] 0 tK O O O (VD.sp 135 O (fun c3=>?_) (fun c3=>?_)))))
      .
       have hb:=da fun h=>c3 h.ver;refine Vd [25,26,27,28] 0 tK O O O iv
      have c3:=zt0.1 c3;refine Vd [25,26,27,28] 0 tK O O O (zr5 29 0 call70 O tK O O (fun w hI=>zax g eH n _ D w (Tr1 hI.k0 dV)) ?_);rintro pr w1 w2 fM eh ei ej;refine zr3 30 1 call69 O tK O O Jj (zqi 31 1 O tK O O (fun w hI=>zpS O za) (Vd [32,33] 1 tK O O O (VD.sp 144 O (fun c4=>?_) (fun c4=>?_))))
      .
       have hb:=da fun h=>c4 h.frm;refine Vd [34,35,36,37,38,39,40,41] 1 tK O O O (VD.done tK (Vs 20 O iy))
      have c4:=zt0.1 c4;refine Vd [34,35,36,37,38,39,40,41] 1 tK O O O (VD.done tK (Vs 1 O (zoE O (fun c5=>?_) (fun c5=>?_))))
      .
       have hb:=da fun h=>c5 (by have:=h.len;omega);refine Vs 18 O iy
      refine Vs 1 O (zoS () j2 j3 ⟨dL,c3,c4,tO⟩ 1 O O)
     omega
    refine Vs 1 O (Vw [3,4,5,11,4000,13] [] O (Vd [0,1,2] 0 tK O O O (VD.sp 113 O (fun c1=>?_) (fun c1=>?_))))
    . omega
    have dL:0<i->∃ q,x.phis[i - 1]?=some q/\q.var<p.var:=fun h=>tO;refine Vd [3,4,5,6,7,8,9,10,11,12,13,14,15,16,17,18,19,20] 0 tK O O O (zr3 21 0 tc68 O tK O O U7 (zqi 22 0 O tK O O (fun w hI=>zpS O za) (Vd [23,24] 0 tK O O O (VD.sp 135 O (fun c3=>?_) (fun c3=>?_)))))
    .
     have hb:=da fun h=>c3 h.ver;refine Vd [25,26,27,28] 0 tK O O O iv
    have c3:=zt0.1 c3;refine Vd [25,26,27,28] 0 tK O O O (zr5 29 0 call70 O tK O O (fun w hI=>zax g eH n _ D w (Tr1 hI.k0 dV)) ?_);rintro pr w1 w2 fM eh ei ej;refine zr3 30 1 call69 O tK O O Jj (zqi 31 1 O tK O O (fun w hI=>zpS O za) (Vd [32,33] 1 tK O O O (VD.sp 144 O (fun c4=>?_) (fun c4=>?_))))
    .
     have hb:=da fun h=>c4 h.frm;refine Vd [34,35,36,37,38,39,40,41] 1 tK O O O (VD.done tK (Vs 20 O iy))
    have c4:=zt0.1 c4;refine Vd [34,35,36,37,38,39,40,41] 1 tK O O O (VD.done tK (Vs 1 O (zoE O (fun c5=>?_) (fun c5=>?_))))
    .
     have hb:=da fun h=>c5 (by have:=h.len;omega);refine Vs 18 O iy
    refine Vs 1 O (zoS () j2 j3 ⟨dL,c3,c4,tO⟩ 1 O O)
   rintro u ⟨dL,c3,c4,c5⟩;obtain⟨k,eN,dD⟩:=qQ c3;rw[hm]at dD;have ek:=eJ (LP s n++(x.phis.take i).map (·.ver)) (k:Int);simp only[zsZ,ztb,ztl]at ek;refine Va 7 O tO (zqZ 86 (k) tg3 O tO (show _=some (Value.int .i64 (((LP s n++(x.phis.take i).map (·.ver)).count (k:Int):Nat):Int)) by rw[zt8,qD dD];rfl) ?_);refine Va 2 O tO (zr0 86 (k) ts3 O tO (by simp[qj];omega) (zrk 86 O (e':=.row 3 1 (.slice (some ⟨b86,0,none⟩) m m) m ((kG (LP s n++(x.phis.take (i+1)).map (·.ver)) m).map zb)) (by rw[ze dl,zuT,<- zu0,show [p].map (·.ver)=[(k:Int)] by grind,<- zaf dD,zuZ]) (Vs 11 O (zrl (σ:=Nat) [3,4,5,9,10,11,13,88,89,90,104,105,106,161,162] [3,4,5,11,13,86] [3,4,5,11,13] O (fun e j=>(163,.int .i64 j)::e) (fun e j=>e) (fun j=>j<=p.args.length/\∀ (q:Nat) a,q<j->p.args[q]?=some a->jZ f s a p.var false) (fun j=>p.args.length - j) 0 j2 j3 j1 j1 j1 UE ?_))));rintro j ⟨hj,dr⟩;refine Vs 6 O (zoE O (fun lj=>?_) (fun lj=>?_))
   .
    refine Vs 6 O (zrj 6000 0 j tO dB O O (fun a gl gq em er ew=>?_));refine zqQ 6000 tR27 ts3 O ew tO _ rfl O (Vs 11 O (zr2 tc68 O (fun w hI=>qp f s a p.var false _ _ _ _ _ D D w Jn (Tr1 hI.k0 dE.of_)) (zqh O (fun w hI=>zpS O j6) (Vs 2 O (zoE O (fun c6=>?_) (fun c6=>?_))))))
    .
     have hb:=da fun h=>c6 (h.args a er);refine Vs 20 O im
    have dc:=yi dr em (zt0.1 c6);refine Va 7 O tO (V.back (j+1) j2 j3 ⟨tO,dc⟩ tO 0 O O)
   obtain rfl:j=p.args.length:=tO;have h1:PhOne f g s n p:=⟨c3,c4,tO,fun a ha=>by obtain⟨q,hq⟩:=zv5.1 ha;exact qd dr q a hq⟩;have dc:=eM.next dl dL h1;refine Va 10 O tO (V.back (i+1) j2 j3 ⟨tO,dc⟩ tZ 0 O O)
  obtain rfl:i=x.phis.length:=tO;have ez:=eM.done h0;refine zrk 86 O (e':=.row 3 1 (.slice (some ⟨b86,0,none⟩) m m) m ((kG (LP s n++x.phis.map (·.ver)) m).map zb)) (by rw[zsW]) (Vs 10 O (zr2 call23 O (fun w hI=>zc5 f g hk hz n eL _ _ _ _ D D w Jn (Tr1 hI.k0 dV)) (Vs 4 O (zrm (σ:=Unit) [3,4,5,9,10,11,16,88,89,90] [3,4,5,11,86] [3,4,5,11] O (fun e u=>e) (fun e u=>e) (fun u=>(zO f g n<0->x.dfn=-1)/\(0<=zO f g n->jZ f s x.dfn (zO f g n) true)) j1 j1 ?_ ?_))))
  .
   refine Vs 5 O (V.sp 182 O (fun d1=>?_) (fun d1=>?_))
   .
    refine Vs 5 O (V.sp 187 O (fun d2=>?_) (fun d2=>?_))
    .
     have hb:=hY fun h=>d2 (h.no d1);refine Vs 28 O im
    refine Vs 3 O (V.sp 190 O (fun d3=>?_) (fun d3=>?_))
    . omega
    refine Vs 13 O (zoS () j2 j3 ⟨fun _=>zt0.1 d2,fun h=>tO⟩ 0 O O)
   refine Vs 8 O (V.sp 190 O (fun d3=>?_) (fun d3=>?_))
   .
    refine Vs 5 O (zr2 tc68 O (fun w hI=>qp f s x.dfn (zO f g n) true _ _ _ _ _ D D w Jn (Tr1 hI.k0 dE.of_)) (zqh O (fun w hI=>zpS O j6) (Vs 4 O (zoE O (fun d4=>?_) (fun d4=>?_)))))
    .
     have hb:=hY fun h=>d4 (h.yes d3);refine Vs 13 O im
    refine Vs 1 O (zoS () j2 j3 ⟨fun h=>tO,fun _=>zt0.1 d4⟩ 0 O O)
   omega
  rintro u ⟨eO,eP⟩;refine Vs 2 O (zrm (σ:=Unit) [3,4,5,9,10,11,88,89,90] [3,4,5,11] [3,4,5,11] O (fun e u=>e) (fun e u=>(86,.row 3 1 (.slice (some ⟨b86,0,none⟩) m m) m ((kG (LP s (n+1)) m).map zb))::e) (fun u=>True) j1 j1 ?_ ?_)
  .
   refine Vs 6 O (zoE O (fun d0=>?_) (fun d0=>?_))
   .
    obtain⟨k,eN,dD⟩:=qQ (eP d0);rw[hm]at dD;have eA:dP x=[(k:Int)]:=by unfold dP;rw[zt2 tO,eN]
    rw[eA]at d6 dK;simp only[ztc]at d6;have ek:=eJ (LP s n++x.phis.map (·.ver)) (k:Int);simp only[zsZ,ztb]at ek;refine Va 5 O tO (zqZ 86 (k) tg3 O tO (show _=some (Value.int .i64 (((LP s n++x.phis.map (·.ver)).count (k:Int):Nat):Int)) by rw[zt8,qD dD];rfl) ?_);refine Va 2 O tO (zr0 86 (k) ts3 O tO (by simp[qj];omega) (zrk 86 O (e':=.row 3 1 (.slice (some ⟨b86,0,none⟩) m m) m ((kG (LP s (n+1)) m).map zb)) (by rw[dK,zhv (L:=LP s n++[(k:Int)]++x.phis.map (·.ver)) (L':=LP s n++x.phis.map (·.ver)++[(k:Int)]) (fun a=>by simp only[zu4];omega),<- zaf dD,zuZ]) (Vs 1 O (zoS () j2 j3 True.intro 0 O O))))
   have eA:dP x=[]:=by have:=eO tO;unfold dP;rw[zt1 tO]
   rw[eA,zu1]at dK;refine zrk 86 O (e':=.row 3 1 (.slice (some ⟨b86,0,none⟩) m m) m ((kG (LP s (n+1)) m).map zb)) (by rw[dK]) (Vs 1 O (zoS () j2 j3 True.intro 0 O O))
  rintro u -;refine Vs 6 O (zr4 call71 O (fun w hI=>ziV f g hk hz n eL _ _ _ _ D D w Jn (Tr1 hI.k0 dV)) ?_);rintro r2 w3 w4 gr fN eC dM;obtain⟨ar,cr,rfl⟩:=eC.form;have gs:=eC.max;refine Vs 14 O (zoE O (fun e0=>?_) (fun e0=>?_))
  .
   have hb:=hY fun h=>e0 (by rw[<- h.use,ztb]);refine Vs 12 O JM
  refine Vs 11 O (zrl (σ:=Nat) [3,4,5,9,17,88,89,90,220,221] [3,4,5,86] [3,4,5] O (fun e k=>(222,.int .i64 k)::e) (fun e k=>e) (fun k=>k<=x.uses.length/\∀ (q:Nat) u,q<k->x.uses[q]?=some u->(rdV f g n)[q]?=some u.1/\jZ f s u.2 u.1 false) (fun k=>x.uses.length - k) 0 j2 j3 j1 j1 j1 ⟨zt6 _,fun q u h=>absurd h (zvV _)⟩ ?_);rintro k ⟨gt,dt⟩;refine Vs 6 O (zoE O (fun lk=>?_) (fun lk=>?_))
  .
   refine Vs 7 O (zri 7000 1 k tO dA O O O (fun u gw gx gy dN eD eE eF=>?_));obtain rfl:=eF;refine zqQ 7000 tR57 ts85 O eE tO _ rfl O (zrh 8000 0 k tO eC O O O (fun b_ d_ h_=>by have fO:=dM _ h_;first | omega | exact fO d_) (fun rk fP fQ fR du eQ dO eR dQ=>?_));obtain rfl:=dQ;refine Vs 1 O (V.alloc 19 tz85 O O (fun b19=>?_));refine Vs 5 O (Vw [3,4,5,7000,8000,19] [] O (Vd [0,1,2,3] 0 tK O O O (zqR 4 8000 tR27 ts3 O tK O dO tO (k) tO O (Vd [5,6,7] 0 tK O O O (VD.sp 234 O (fun e1=>?_) (fun e1=>?_))))))
   .
    have hb:=hY fun h=>e1 (by
     have:=congrArg (fun l:List Int=>l[k]?) h.use;rw[zt8,dN,du]at this
     exact Option.some.inj this)
    refine Vd [8,9,10,11,12,13] 0 tK O O O (VD.skip 14 0 O tK O O (Vd [15,16] 0 tK O O O (VD.done tK (Vs 17 O JM))))
   have e1:=zt0.1 e1;refine Vd [8,9,10,11,12,13] 0 tK O O O (zr3 14 0 tc68 O tK O O (fun w hI=>qp f s u.2 u.1 false _ _ _ _ _ D D w (Tr1 hI.k1 dx) (Tr1 hI.k1 dE.of_)) (zqi 15 0 O tK O O (fun w hI=>zpS O za) (Vd [16] 0 tK O O O (VD.done tK (Vs 1 O (zoE O (fun e2=>?_) (fun e2=>?_)))))))
   .
    have hb:=hY fun h=>e2 (h.ver u eD);refine Vs 15 O JM
   have dc:=yi dt dN ⟨by rw[du,e1],zt0.1 e2⟩;refine Va 7 O tO (V.back (k+1) j2 j3 ⟨tO,dc⟩ tZ 0 O O)
  obtain rfl:k=x.uses.length:=tO;have dw:=qd dt
  have eG:x.uses.map (·.1)=rdV f g n:=by
   apply zuj;intro q;rw[zt8];by_cases eS:q<x.uses.length
   . rw[(dw q _ (zsR eS)).1,zsR eS];rfl
   rw[ztf tO,ztf tO];rfl
  have dR:NodF f g s (rdV f g) n x:=⟨ez,eO,eP,eG,fun u hu=>by obtain⟨q,hq⟩:=zv5.1 hu;exact(dw q u hq).2⟩;have dc:=yi dJ dz dR;refine Va 10 O tO (V.back (n+1) j2 j3 ⟨tO,dc⟩ tZ 1 O O)
 obtain rfl:n=s.nodes.length:=tO;have dS:=qd dJ;have dT:∀ a,(LP s s.nodes.length).count a=(xU f g s).count a:=fun a=>by rw[dy];exact zdC dy dS a
 refine Vs 15 O (zrl (σ:=Nat) [9] [] [] O (fun e k=>(20,.int .i64 k)::e) (fun e k=>(86,.row 3 1 (.slice (some ⟨b86,0,none⟩) m m) m ((kG (LP s s.nodes.length) m).map zb))::e) (fun k=>f.vars.length<=k/\∀ j:Nat,f.vars.length<=j->j<k->(xU f g s).count (j:Int)=1) (fun k=>m - k) (f.vars.length) j2 j3 j1 j1 j1 ⟨ztg _,fun j h1 h2=>tO⟩ ?_);rintro k ⟨fS,dU⟩;refine Vs 9 O (zoE O (fun lk=>?_) (fun lk=>?_))
 .
  refine Va 9 O tO (zqZ 86 (k) tg3 O tO (show _=some (Value.int .i64 (((LP s s.nodes.length).count (k:Int):Nat):Int)) by rw[zt8,qD tO];rfl) ?_);refine Vs 3 O (zoE O (fun e1=>?_) (fun e1=>?_))
  .
   have hb:¬ FormF f g s (rdV f g):=fun h=>e1 (by rw[dT,h.one k fS tO];rfl);refine Vs 11 O im
  have dc:∀ j:Nat,f.vars.length<=j->j<k+1->(xU f g s).count (j:Int)=1:=fun j h1 h2=>by
   by_cases e:j=k
   . subst e;rw[<- dT];omega
   exact dU j h1 tO
  refine Va 8 O tO (V.back (k+1) j2 j3 ⟨tO,dc⟩ tZ 0 O O)
 have hF:FormF f g s (rdV f g):=⟨fb,dy,dS,fun j h1 h2=>dU j h1 tO⟩;refine Vs 11 O (zoV tr34 O (fun w hI=>⟨_,rfl,⟨_,rfl,⟨fun _=>hF,fun _=>rfl⟩⟩,hI.k0⟩))
end Go.Proofs.YtckdhgbepmpgiaaGreat
namespace Go.GL
open Go.RowKit Go.ChangeMaps
section
variable {κ:Type} [DecidableEq κ]
variable {ke:κ->Value}
omit [DecidableEq κ] in
section
variable {ty:TypeId} {pos:String} {g:Option (Nat × Bool)} {kt:TypeId} {l:List (κ × Value)}
omit [DecidableEq κ] in
end
end
open Go.RowKit Go.ChangeMaps
section
variable {κ:Type} [DecidableEq κ] {ke:κ->Value}
section
variable {ty:TypeId} {pos:String} {g:Option (Nat × Bool)} {kt:TypeId} {l:List (κ × Value)}
omit [DecidableEq κ] in
end
end
section
variable {n:Fm} {Q:Exit->Act->World->Prop} {ks:List Fr} {Hs:Hp} {B0:zn} {ops:Array Oper} {L:List Nat} {fuel:Nat} {listed:Array Bool}
variable {d d2:Nat} {op op2:Op} {ty ty2:TypeId} {ps ps2:String} {aft2:Array Edge} {g:Option (Nat × Bool)}
theorem zse (i k j:Nat) {β:Type} {e:HE} {E':β->HE} {r:β->Value} (hi:ops[i]?=some ⟨some d,op,ty,ps,aft,g⟩) (hr:Region.ready .any ops listed=[i]) (hn:(Nat.blt d n,gd ops env g,hget H k,qK H k,xX (Hs.map (·.1)),qm k (Hs.map (·.1)))=(true,some true,some e,none,true,true)) (hB:Bs.drop j=B0)
  (hE:∀ x,(E' x).loc/\∀ b,¬ (E' x).fz b) (hm:∀ w,VI Bs H w->xd P ⟨some d,op,ty,ps,aft,g⟩ env w (fun u w'=>∃ x,u=r x/\(E' x).holds w'/\Keep e.S w w'/\∀ q,(E' x).S q->(e.S q\/w.heap.size<=q)/\q<w'.heap.size))
  (h:∀ x,VD P n Q ks ops Hs B0 L fuel (listed.setIfInBounds i true) ((d,r x)::env) ((d,none)::A) (hset H k (E' x)) Bs):VD P n Q ks ops Hs B0 L (fuel+1) listed env A H Bs:=by
 simp only[Prod.mk.injEq]at hn;subst hB;obtain⟨h1,h2,h3,h4,h5,h6⟩:=hn;refine fun hH hA w hI=>zra i hi hr h1 h2 (.inl (hm w hI)) ?_;rintro _ w' ⟨x,rfl,hh,hk,hS⟩;have hC:=hI.set h3 hk hh (hE x).1 (hE x).2 hS;have hY:Has Hs (hset H k (E' x)):=hH.set h3 h6;exact⟨(hC.drop j).pick hY h5,h x hY (TgOk.none (hA.res h3 h4)) w' hC⟩
theorem zs4 (i k j:Nat) {e e':HE} (hi:ops[i]?=some ⟨none,op,ty,ps,aft,g⟩) (hr:Region.ready .any ops listed=[i]) (hn:(gd ops env g,hget H k,qK H k,xX (Hs.map (·.1)),qm k (Hs.map (·.1)))=(some true,some e,none,true,true)) (hB:Bs.drop j=B0) (hl:e'.loc) (hz:∀ b,¬ e'.fz b)
  (hm:∀ w,VI Bs H w->xO P ⟨none,op,ty,ps,aft,g⟩ env w (fun w'=>e'.holds w'/\Keep e.S w w'/\∀ q,e'.S q->(e.S q\/w.heap.size<=q)/\q<w'.heap.size))
  (h:VD P n Q ks ops Hs B0 L fuel (listed.setIfInBounds i true) env A (hset H k e') Bs):VD P n Q ks ops Hs B0 L (fuel+1) listed env A H Bs:=by
 simp only[Prod.mk.injEq]at hn;subst hB;obtain⟨h1,h3,h4,h5,h6⟩:=hn;refine fun hH hA w hI=>zrd i hi hr h1 (hm w hI) ?_;rintro w' ⟨hh,hk,hS⟩;have hC:=hI.set h3 hk hh hl hz hS;have hY:Has Hs (hset H k e'):=hH.set h3 h6;exact⟨(hC.drop j).pick hY h5,h hY (hA.res h3 h4) w' hC⟩
end
end Go.GL
namespace Go.Proofs.YtckdhgbepmpgiaaGreat
open Go.GL
theorem zmE (h:k<nv):(List.replicate k (-1:Int)++List.replicate (nv - k) 0).set k (-1)=List.replicate (k+1) (-1)++List.replicate (nv - (k+1)) 0:=by
 rw[zvt _ _ tD,zuR,zvW,show nv - k=(nv - (k+1))+1 by omega,zvo,List.set_cons_zero,zvp,zu0];rfl
def kI (nv i:Nat):List (List Int):=List.replicate i (List.replicate nv (-1))
theorem zcQ (nv i:Nat):kI nv (i+1)=kI nv i++[List.replicate nv (-1)]:=zvp
theorem zjg (nv N:Nat):Shp (kI nv N) N nv:=⟨by simp[kI],fun r hr=>by rw[(List.mem_replicate.1 hr).2];simp⟩
theorem zgF {v:Int}:bfV (kI nv N) i v=-1:=by
 unfold bfV kI;rw[zuD];split
 .
  rw[zw0,zuD];split<;>rfl
 rfl
theorem jW {n:Nat} (h:w.ownsRow 0 e 1 (.slice (some ⟨b,0,none⟩) n c) n xs) (hv:xs[i]?=some v):w.cell? ⟨b,0+(i:Int).toNat*1,none⟩=some v:=by
 have:=(jL h).2.2 i v hv
 grind
def xPh (l:List Phn) (b v:Int):Int:=(kL l v).getD b
theorem zeT {l:List Phn} {v:Int} (h:p.var ≠ v):kL (l++[p]) v=kL l v:=by
 unfold kL;rw[List.find?_append,zun tD,List.find?_nil,Option.or_none]
theorem znJ {x:Sn} {b v:Int} (hp:x.phis[k]?=some p) (h:p.var ≠ v):xPh (x.phis.take (k+1)) b v=xPh (x.phis.take k) b v:=by
 unfold xPh;rw[ze hp,zeT h]
theorem zmF {x:Sn} (ha:x.phis.Pairwise fun p q=>p.var<q.var) {b v:Int} (hp:x.phis[k]?=some p) (h:p.var=v):xPh (x.phis.take (k+1)) b v=p.ver:=by
 have hm:p ∈ x.phis.take (k+1):=by rw[ze hp];simp
 have ht:(x.phis.take (k+1)).Pairwise fun p q=>p.var<q.var:=ha.sublist (List.take_sublist _ _);unfold xPh;rw[<- h,zkF ht hm];rfl
theorem zmG {O:Nat->Int->Int} {n:Nat} {x:Sn} {v:Int} (hx:zh s n=x) (h0:n=0->x.phis=[]):xPh x.phis (if n=0 then v else jm ((zw g n).map fun y:Nat=>O y v)) v=eqV g s O n v:=by
 unfold xPh eqV zb9;rw[hx];by_cases e:n=0
 . rw[zt2 e,zt2 e,h0 e];rfl
 grind
theorem zl7 (f:Fl) (g:List Nd) (s:Sf) (hk:GOk f g) (hF:FormF f g s (rdV f g)) (hz:ssize f.body<=10000) (fU:1<=g.length) (eS:g.length<=100000) (fV:f.vars.length<=1000) (v1 v2 v3 gv ofv nodv:Value) (D:Nat->Prop) (W:World) (hf:RFl D W f v1 v2 v3) (hg:SlR 4 RNd D W gv g) (hS:RSf D W s ofv nodv) :
  Calls prog 35 #[.agg #[v1,v2,v3],.agg #[gv],.agg #[ofv,nodv]] W (Ret fun r w'=>(∃ u1 u2 ins outs,r=.tuple #[u1,u2]/\Shp ins g.length f.vars.length/\Shp outs g.length f.vars.length/\SolV f g s f.vars.length (bfV ins)/\(∀ i,i<g.length->∀ v:Int,0<=v->v<(f.vars.length:Int)->bfV outs i v=yw f g s (bfV ins) i v)/\SlR 1 (RSl 1 zG) (fun q=>W.heap.size<=q) w' u1 ins/\SlR 1 (RSl 1 zG) (fun q=>W.heap.size<=q) w' u2 outs)/\Ext W w'):=by
 have eT:=hf;have ew:=hg;have fW:=hS;have eU:=hf.vars;have dR:=hS.nodes;obtain⟨ag,cg,rfl⟩:=hg.form;obtain⟨an,cn,rfl⟩:=dR.form;obtain⟨a1,c1,rfl⟩:=eU.form;have fX:=dR.max;have fY:=hg.max;have eV:=hF.len;have ez:=hF.nn;have fZ:g.length*(f.vars.length*2)<=100000*(1000*2):=zvS eS tO;generalize hnv:f.vars.length=nv at *;generalize hN:g.length=N at *;refine zqs func35 O ntmps35 O (V.inn (Vs 2 O (V.box 3 O O (fun b3=>?_))));refine V.box 4 O O (fun b4=>(V.box 5 O O (fun b5=>?_)));refine Vs 6 O (zqU 903 27 1 O (zqU 905 27 1 O (zqU 902 3 1 O (zrB 902 (e':=RowsP zb 3 [] []) O (fun w hI=>RowsOk.nil) RowsP.loc (fun _ h=>h) (fun q hq=>by obtain⟨i,u,h,_⟩:=hq;simp at h) (zqU 904 3 1 O (zrB 904 (e':=RowsP zb 3 [] []) O (fun w hI=>RowsOk.nil) RowsP.loc (fun _ h=>h) (fun q hq=>by obtain⟨i,u,h,_⟩:=hq;simp at h) (Vs 8 O (zrl (σ:=Nat × Value × Value × List Value × List Value) [3,4,5,22] [3,4,5] [3,4,5] O (fun e ⟨i,ui,uo,hi,ho⟩=>(23,.int .i64 i)::(6,ui)::(7,uo)::e) (fun e ⟨i,ui,uo,hi,ho⟩=>(903,.row 27 1 ui i hi)::(902,RowsP zb 3 hi (kI nv i))::(905,.row 27 1 uo i ho)::(904,RowsP zb 3 ho (kI nv i))::e) (fun⟨i,ui,uo,hi,ho⟩=>i<=N/\hi.length=i/\ho.length=i) (fun⟨i,ui,uo,hi,ho⟩=>N - i) (0,.slice none 0 0,.slice none 0 0,[],[]) j2 j3 j1 j1 j1 ⟨zt6 _,rfl,rfl⟩ ?_))))))));rintro⟨i,ui,uo,hi,ho⟩ ⟨f0,eW,eX⟩;refine Vs 6 O (zoE O (fun lt=>?_) (fun lt=>?_))
 .
  refine Vs 5 O (zrm (σ:=Nat × Nat) [3,4,5,6,7,22,23] [3,4,5,902,903,904,905] [3,4,5] O (fun e ⟨b28,b32⟩=>(8,.slice (some ⟨b28,0,none⟩) nv nv)::(9,.slice (some ⟨b32,0,none⟩) nv nv)::e) (fun e ⟨b28,b32⟩=>(28,.row 3 1 (.slice (some ⟨b28,0,none⟩) nv nv) nv (List.replicate nv (Value.int .i64 0)))::(32,.row 3 1 (.slice (some ⟨b32,0,none⟩) nv nv) nv (List.replicate nv (Value.int .i64 0)))::e) (fun⟨b28,b32⟩=>True) j1 j1 ?_ ?_)
  .
   refine Vw [3,4,5] [] O (Vd [0,1,2,4,5,6] 0 tK O O O (zrG 3 7 28 32 0 tu27 Tryz.el3 tu27 Tryz.el3 O tK O O O O ⟨tO,tO,tO,tO⟩ (by exact yL _ _ O:madeCells _ _=(List.replicate nv (Value.int .i64 0)).toArray) (by exact yL _ _ O:madeCells _ _=(List.replicate nv (Value.int .i64 0)).toArray) tR (fun b28=>?_) (fun b32=>?_)))
   .
    refine Vd [8] 0 tK O O O (zpx 7 32 0 tu27 Tryz.el3 O tK O O tO tO (by exact yL _ _ O:madeCells _ _=(List.replicate nv (Value.int .i64 0)).toArray) tR (fun b32=>?_));refine Vd [9] 0 tK O O O (VD.done tK (zoS ⟨b28,b32⟩ j2 j3 trivial 0 O O))
   refine zpx 3 28 0 tu27 Tryz.el3 O tK O O tO tO (by exact yL _ _ O:madeCells _ _=(List.replicate nv (Value.int .i64 0)).toArray) tR (fun b28=>(Vd [8,9] 0 tK O O O (VD.done tK (zoS ⟨b28,b32⟩ j2 j3 trivial 0 O O))))
  rintro⟨b28,b32⟩ _;refine Vs 9 O (zrk 28 O (e':=.row 3 1 (.slice (some ⟨b28,0,none⟩) nv nv) nv ((List.replicate 0 (-1)++List.replicate (nv - 0) 0).map zb)) (by simp[zb]) (zrk 32 O (e':=.row 3 1 (.slice (some ⟨b32,0,none⟩) nv nv) nv ((List.replicate 0 (-1)++List.replicate (nv - 0) 0).map zb)) (by simp[zb]) (Vs 1 O (zrl (σ:=Nat) [3,4,5,6,7,8,9,22,23,34] [3,4,5,902,903,904,905] [3,4,5] O (fun e k=>(35,.int .i64 k)::e) (fun e k=>(28,.row 3 1 (.slice (some ⟨b28,0,none⟩) nv nv) nv ((List.replicate k (-1)++List.replicate (nv - k) 0).map zb))::(32,.row 3 1 (.slice (some ⟨b32,0,none⟩) nv nv) nv ((List.replicate k (-1)++List.replicate (nv - k) 0).map zb))::e) (fun k=>k<=nv) (fun k=>nv - k) 0 j2 j3 j1 j1 j1 (zt6 _) ?_))));rintro k eY;refine Vs 6 O (zoE O (fun lk=>?_) (fun lk=>?_))
  .
   have dS:=zmE (show k<nv by omega);refine Va 16 O tO (zr0 28 (k) ts3 O tO tY (Va 1 O tO (zr0 32 (k) ts3 O tO tY (zrk 28 O (e':=.row 3 1 (.slice (some ⟨b28,0,none⟩) nv nv) nv ((List.replicate (k+1) (-1)++List.replicate (nv - (k+1)) 0).map zb)) (by rw[<- dS,zuZ]) (zrk 32 O (e':=.row 3 1 (.slice (some ⟨b32,0,none⟩) nv nv) nv ((List.replicate (k+1) (-1)++List.replicate (nv - (k+1)) 0).map zb)) (by rw[<- dS,zuZ]) (Va 7 O tO (V.back (k+1) j2 j3 tO tZ 0 O O)))))))
  obtain rfl:k=nv:=tO;refine zrk 28 O (e':=.row 3 1 (.slice (some ⟨b28,0,none⟩) k k) (List.replicate k (-1:Int)).length ((List.replicate k (-1:Int)).map zb)) (by rw[zvW,zvq,zu1,zuR]) (zrk 32 O (e':=.row 3 1 (.slice (some ⟨b32,0,none⟩) k k) (List.replicate k (-1:Int)).length ((List.replicate k (-1:Int)).map zb)) (by rw[zvW,zvq,zu1,zuR]) (Vs 8 O (zro 47 [(0,_)] tR89 ts27 tz27 tS O O tK (fun b47=>?_))));refine zqV 903 47 tu89 Tryz.el27 O tS O O tO tO (fun u903=>(Vs 2 O (zro 51 [(0,_)] tR89 ts27 tz27 tS O O tK (fun b51=>?_))));refine zqV 905 51 tu89 Tryz.el27 O tS O O tO tO (fun u905=>(Va 9 O tO (zs6 902 28 (e':=RowsP zb 3 (hi++[Value.slice (some ⟨b28,0,none⟩) k k]) (kI k (i+1))) [(3,some (3,0)),(4,some (4,0)),(5,some (5,0))] O O O (fun w hI=>(by rw[zcQ];exact(show RowsOk _ _ _ _ _ from hI.at 902 O).add (hI.at 28 O) (fun g hg i v hv dX=>hI.sep (k:=902) (k2:=28) O O tS ⟨i,v,hv,dX⟩ hg))) RowsP.loc (fun _ h=>h) (fun q (hq:∃ (i:Nat) (v:Value),(hi++[Value.slice (some ⟨b28,0,none⟩) k k])[i]?=some v/\v.ownBlock=some q)=>ziY hq) ?_)));refine zs6 904 32 (e':=RowsP zb 3 (ho++[Value.slice (some ⟨b32,0,none⟩) k k]) (kI k (i+1))) [(3,some (3,0)),(4,some (4,0)),(5,some (5,0))] O O O (fun w hI=>(by rw[zcQ];exact(show RowsOk _ _ _ _ _ from hI.at 904 O).add (hI.at 32 O) (fun g hg i v hv dX=>hI.sep (k:=904) (k2:=32) O O tS ⟨i,v,hv,dX⟩ hg))) RowsP.loc (fun _ h=>h) (fun q (hq:∃ (i:Nat) (v:Value),(ho++[Value.slice (some ⟨b32,0,none⟩) k k])[i]?=some v/\v.ownBlock=some q)=>ziY hq) (V.back ⟨i+1,u903,u905,hi++[.slice (some ⟨b28,0,none⟩) k k],ho++[.slice (some ⟨b32,0,none⟩) k k]⟩ j2 j3 ⟨tO,by rw[zsZ,eW];rfl,by rw[zsZ,eX];rfl⟩ tZ 0 O O)
 obtain rfl:i=N:=tO;have eA:Shp (kI nv i) g.length nv:=by rw[hN];exact zjg nv i
 refine zqX 903 O tO ?_;rintro oi ci rfl dA;refine zqX 905 O tO ?_;rintro oo cu rfl dB;refine Vs 12 O (zrl (σ:=Bool × List (List Int) × List (List Int)) [3,4,5,6,7] [3,4,5,903,905] [3,4,5] O (fun e ⟨ch,ri,ro⟩=>(11,.bool ch)::e) (fun e ⟨ch,ri,ro⟩=>(902,RowsP zb 3 hi ri)::(904,RowsP zb 3 ho ro)::e) (fun⟨ch,ri,ro⟩=>Shp ri g.length nv/\Shp ro g.length nv/\FlwV f g s nv (bfV ri) (bfV ro)/\(ch=false->SolV f g s nv (bfV ri)/\∀ j,j<g.length->∀ v:Int,0<=v->v<(nv:Int)->bfV ro j v=yw f g s (bfV ri) j v)) (fun⟨ch,ri,ro⟩=>(2*(g.length*(nv*2)) - (rkT ri+rkT ro))*2+ch.toNat) (true,kI nv i,kI nv i) j2 j3 j1 j1 j1 ⟨eA,eA,FlwV.start (fun _ _=>zgF) (fun _ _=>zgF),fun h=>by cases h⟩ ?_);rintro⟨ch,ri,ro⟩ ⟨dT,dU,dY,dZ⟩;refine Vs 6 O (V.bool O (fun c1=>?_) (fun c1=>?_))
 .
  subst c1;refine Vs 17 O (zrl (σ:=Nat × Bool × List (List Int) × List (List Int)) [3,4,5,6,7,57] [3,4,5,903,905] [3,4,5] O (fun e ⟨n,c2,qi,qo⟩=>(58,.int .i64 n)::(11,.bool c2)::e) (fun e ⟨n,c2,qi,qo⟩=>(902,RowsP zb 3 hi qi)::(904,RowsP zb 3 ho qo)::e) (fun⟨n,c2,qi,qo⟩=>n<=i/\PasF f g s nv ri ro qi qo c2 (fun a u=>a<n/\u<nv)) (fun⟨n,c2,qi,qo⟩=>i - n) (0,false,ri,ro) j2 j3 j1 j1 j1 ⟨zt6 _,PasF.start dT dU dY (fun a u h=>tO)⟩ ?_);rintro⟨n,c2,qi,qo⟩ ⟨hn,dh⟩;refine Vs 6 O (zoE O (fun ln=>?_) (fun ln=>?_))
  .
   have dy:n<g.length:=tO;obtain⟨x,dm⟩:∃ x,s.nodes[n]?=some x:=j9;have dC:=hF.nod n x dm;have dz:zh s n=x:=yC dm;refine Vs 19 O (zrl (σ:=Nat × Bool × List (List Int) × List (List Int)) [3,4,5,6,7,12,57,58,63] [3,4,5,903,905] [3,4,5] O (fun e ⟨v,c3,ti,to⟩=>(64,.int .i64 v)::(11,.bool c3)::e) (fun e ⟨v,c3,ti,to⟩=>(902,RowsP zb 3 hi ti)::(904,RowsP zb 3 ho to)::e) (fun⟨v,c3,ti,to⟩=>v<=nv/\PasF f g s nv ri ro ti to c3 (fun a u=>(a<n/\u<nv)\/(a=n/\u<v))) (fun⟨v,c3,ti,to⟩=>nv - v) (0,c2,qi,qo) j2 j3 j1 j1 j1 ⟨zt6 _,dh.imp (fun a u h=>tO)⟩ ?_);rintro⟨v,c3,ti,to⟩ ⟨f4,dg⟩;refine Vs 6 O (zoE O (fun lv=>?_) (fun lv=>?_))
   .
    have f5:to.length=i:=by have:=dg.sho.len;omega
    have f7:ti.length=i:=by have:=dg.shi.len;omega
    refine Vs 20 O (zr4 call70 O (fun w hI=>zax g tO n _ D w (Tr1 hI.k0 ew)) ?_);rintro pr w1 w2 f8 eZ d5 d6;obtain⟨apr,cpr,rfl⟩:=d5.form;have fb:=d5.max;have fe:(zg g n).length=(zw g n).length:=by simp[zg]
    generalize fg:zg g n=pI at *;refine Vs 5 O (zrl (σ:=Nat) [3,4,5,6,7,11,12,13,57,58,63,64,69,70] [3,4,5,902,903,904,905] [3,4,5] O (fun e j=>(71,.int .i64 j)::(14,.int .i64 (jm (((zw g n).take j).map fun y:Nat=>bfV to y v)))::e) (fun e j=>e) (fun j=>j<=pI.length) (fun j=>pI.length - j) 0 j2 j3 j1 j1 j1 (zt6 _) ?_);rintro j hj;refine Vs 6 O (zoE O (fun lj=>?_) (fun lj=>?_))
    .
     refine Vs 6 O (zrh 1000 0 j tO d5 O O O (fun b_ d_ h_=>by have fm:=d6 _ h_;first | omega | exact fm d_) (fun y f9 gc gf d7 fp d8 fq d9=>?_));obtain rfl:=d9;refine zqQ 1000 tR27 ts3 O d8 tO _ rfl O ?_;obtain⟨m,rfl,ft,fu⟩:=zag (show (zg g n)[j]?=some y by rw[fg];exact d7);have eC:jm (((zw g n).take (j+1)).map fun y:Nat=>bfV to y v)=xb (jm (((zw g n).take j).map fun y:Nat=>bfV to y v)) (bfV to m v):=by rw[ze ft,zuT,List.map_singleton,zeE]
     obtain⟨r,dD,gh⟩:=dg.sho.at fu;obtain⟨o,dV⟩:∃ z,r[v]?=some z:=j9;rw[zaU dD dV]at eC;obtain⟨hu,dr⟩:∃ z,ho[m]?=some z:=j9;refine zqI (p:=∃ ao ch,hu=.slice ao r.length ch/\(0<r.length->∃ g,ao=some ⟨g,0,none⟩)) (fun w hI=>qq (show RowsOk _ _ _ _ _ from hI.at 904 O) dr dD) (fun fw=>?_);obtain⟨ao,cu2,rfl,eb⟩:=fw;obtain⟨gu,rfl⟩:=eb tO;generalize jm (((zw g n).take j).map fun y:Nat=>bfV to y v)=ac at *;refine Vs 4 O (zrm (σ:=Unit) [3,4,5,6,7,11,12,13,57,58,63,64,69,70,71] [3,4,5,902,903,904,905] [3,4,5] O (fun e u=>(14,.int .i64 (xb ac o))::e) (fun e u=>e) (fun u=>True) j1 j1 ?_ ?_)
     .
      refine Va 6 O tO (zqZ 905 (m) tg27 O tO (dr) (Vs 1 O (zqh O (fun w hI=>zph tR27 ts3 O O O tO) (zqh O (fun w hI=>R.load tg3 O (qr (hI.at 904 O) dr dD dV)) (Vs 2 O (V.sp 84 O (fun e1=>?_) (fun e1=>?_)))))))
      . refine Vs 16 O (zoS () (Sub.cons (by unfold xb;rw[zt2 (.inl e1)];rfl) j2) j3 True.intro 0 O O)
      refine Va 3 O tO (zqZ 905 (m) tg27 O tO (dr) (Vs 1 O (zqh O (fun w hI=>zph tR27 ts3 O O O tO) (zqh O (fun w hI=>R.load tg3 O (qr (hI.at 904 O) dr dD dV)) (Vs 6 O (zoE O (fun e2=>?_) (fun e2=>?_)))))))
      . refine Vs 2 O (zoS () (Sub.cons (by unfold xb;rw[zt2 (.inr e2)];rfl) j2) j3 True.intro 0 O O)
      refine Vs 7 O (zoE O (fun e3=>?_) (fun e3=>?_))
      . refine Va 4 O tO (zqZ 905 (m) tg27 O tO (dr) (Vs 1 O (zqh O (fun w hI=>zph tR27 ts3 O O O tO) (zqh O (fun w hI=>R.load tg3 O (qr (hI.at 904 O) dr dD dV)) (Vs 3 O (zoS () YC j3 True.intro 0 O O))))))
      refine Vs 4 O (zoS () YB j3 True.intro 0 O O)
     rintro u -;refine Va 6 O tO (V.back (j+1) (Sub.cons rfl (Sub.cons (by rw[eC];rfl) j2)) j3 tO tO 0 O O)
    obtain rfl:j=pI.length:=tO;have fx:((zw g n).take pI.length)=zw g n:=zvB tO;have dt:=zmG (g:=g) (O:=bfV to) (v:=(v:Int)) dz (fun e=>dC.phi.zero e);generalize eD:(if n=0 then (v:Int) else jm ((zw g n).map fun y:Nat=>bfV to y v))=bs at dt;refine Vs 6 O (zrm (σ:=Unit) [3,4,5,6,7,11,12,13,57,58,63,64] [3,4,5,902,903,904,905] [3,4,5] O (fun e u=>(14,.int .i64 bs)::e) (fun e u=>e) (fun u=>True) j1 j1 ?_ ?_)
    .
     refine Vs 6 O (zoE O (fun z0=>?_) (fun z0=>?_))
     . refine Vs 4 O (zoS () (Sub.cons (by rw[<- eD,zt2 tO];rfl) j2) j3 True.intro 0 O O)
     refine Vs 1 O (zoS () (Sub.cons (by rw[<- eD,zt1 tO,fx];rfl) j2) j3 True.intro 0 O O)
    rintro u -;refine Vs 7 O (zri 2000 1 n tO dR O O O (fun x2 fy fA fB dl eE dE dF=>?_));obtain⟨eF,eG,rfl,dc,dG⟩:=dF;obtain⟨eH,eI,rfl⟩:=dc.form;obtain⟨eJ,eK,rfl⟩:=dG.form;refine zqQ 2000 tR28 ts59 O dE tO _ rfl O ?_;obtain rfl:x2=x:=Option.some.inj (dl.symm.trans dm);have gl:=dc.max;refine Vs 7 O (zrl (σ:=Nat) [3,4,5,6,7,11,12,13,57,58,63,64,114,115] [3,4,5,902,903,904,905] [3,4,5] O (fun e k=>(116,.int .i64 k)::(14,.int .i64 (xPh (x2.phis.take k) bs v))::e) (fun e k=>e) (fun k=>k<=x2.phis.length) (fun k=>x2.phis.length - k) 0 j2 j3 j1 j1 j1 (zt6 _) ?_);rintro k eY;refine Vs 6 O (zoE O (fun lk=>?_) (fun lk=>?_))
    .
     refine Vs 6 O (zri 3000 1 k tO dc O O O (fun p gq gr gs dH fC ec ed=>?_));obtain⟨fD,fE,rfl,ee,ef⟩:=ed;obtain⟨fF,fG,rfl⟩:=ee.form;obtain⟨fH,fI,rfl⟩:=ef.form;refine zqQ 3000 tR56 ts88 O ec tO _ rfl O (Vs 1 O (V.alloc 18 tz88 O O (fun b18=>?_)));refine Vs 11 O (zoE O (fun e1=>?_) (fun e1=>?_))
     . refine Va 11 O tO (V.back (k+1) (Sub.cons rfl (Sub.cons (by rw[zmF dC.phi.asc dH e1];rfl) j2)) j3 tO tO 0 O O)
     refine Va 7 O tO (V.back (k+1) (Sub.cons rfl (Sub.cons (by rw[znJ dH e1];rfl) j2)) j3 tO tO 0 O O)
    obtain rfl:k=x2.phis.length:=tO;generalize du:eqV g s (bfV to) n v=ex at dt;refine V.eq 14 (v:=.int .i64 ex) O (by rw[zsW,dt]) ?_;obtain⟨r1,hY,fJ⟩:=dg.shi.at dy;obtain⟨o1,dw⟩:∃ z,r1[v]?=some z:=j9;obtain⟨r2,da,fK⟩:=dg.sho.at dy;obtain⟨o2,dI⟩:∃ z,r2[v]?=some z:=j9;have dW:=zaU hY dw;have eh:=zaU da dI;obtain⟨fL,hC⟩:∃ z,hi[n]?=some z:=j9;refine zqI (p:=∃ ao ch,fL=.slice ao r1.length ch/\(0<r1.length->∃ g,ao=some ⟨g,0,none⟩)) (fun w hI=>qq (show RowsOk _ _ _ _ _ from hI.at 902 O) hC hY) (fun fM=>?_);obtain⟨ao1,cu1,rfl,ei⟩:=fM;obtain⟨gu1,rfl⟩:=ei tO;obtain⟨fN,db⟩:∃ z,ho[n]?=some z:=j9;refine zqI (p:=∃ ao ch,fN=.slice ao r2.length ch/\(0<r2.length->∃ g,ao=some ⟨g,0,none⟩)) (fun w hI=>qq (show RowsOk _ _ _ _ _ from hI.at 904 O) db da) (fun fO=>?_);obtain⟨ao2,cu2,rfl,ej⟩:=fO;obtain⟨gu2,rfl⟩:=ej tO
    have dS:o1=-2 -> -2=ex:=fun e=>by
     have:=dg.run.stay dy (v:=(v:Int)) tO tO;rw[dW,zt2 e,du]at this;exact this
    refine Vs 6 O (zrm (σ:=Unit) [3,4,5,6,7,11,12,13,57,58,63,64] [3,4,5,902,903,904,905] [3,4,5] O (fun e u=>(14,.int .i64 ex)::e) (fun e u=>e) (fun u=>True) j1 j1 ?_ ?_)
    .
     refine Va 5 O tO (zqZ 903 (n) tg27 O tO (hC) (Vs 1 O (zqh O (fun w hI=>zph tR27 ts3 O O O tO) (zqh O (fun w hI=>R.load tg3 O (qr (hI.at 902 O) hC hY dw)) (Vs 3 O (zoE O (fun e1=>?_) (fun e1=>?_)))))))
     . refine Vs 3 O (zoS () (Sub.cons (by rw[<- dS e1];rfl) j2) j3 True.intro 0 O O)
     refine Vs 1 O (zoS () j2 j3 True.intro 0 O O)
    rintro u -;generalize dx:(if zO f g n=(v:Int) then x2.dfn else ex)=yv;refine Vs 8 O (zrm (σ:=Unit) [3,4,5,6,7,11,12,13,14,57,58,63,64] [3,4,5,902,903,904,905] [3,4,5] O (fun e u=>(19,.int .i64 yv)::e) (fun e u=>e) (fun u=>True) j1 j1 ?_ ?_)
    .
     refine Vs 5 O (zr2 call23 O (fun w hI=>zc5 f g hk hz n dy _ _ _ _ D D w (Tr1 hI.k1 eT) (Tr1 hI.k1 ew)) (Vs 4 O (zoE O (fun d=>?_) (fun d=>?_))))
     .
      refine Vs 4 O (zri 4000 1 n tO dR O O O (fun x3 fP fQ fR dJ eL dK dL=>?_));obtain⟨eM,eN,rfl,dM,dN⟩:=dL;obtain⟨eO,eP,rfl⟩:=dM.form;obtain⟨eQ,eR,rfl⟩:=dN.form;refine zqQ 4000 tR28 ts59 O dK tO _ rfl O ?_;obtain rfl:x3=x2:=Option.some.inj (dJ.symm.trans dl);refine Vs 4 O (zoS () (Sub.cons (by rw[<- dx,zt2 d];rfl) j2) j3 True.intro 0 O O)
     refine Vs 1 O (zoS () (Sub.cons (by rw[<- dx,zt1 d];rfl) j2) j3 True.intro 0 O O)
    rintro u -;refine Vs 1 O (zrm (σ:=Bool × List (List Int) × List (List Int)) [3,4,5,6,7,12,57,58,63,64] [3,4,5,903,905] [3,4,5] O (fun e ⟨c3,ti,to⟩=>(11,.bool c3)::e) (fun e ⟨c3,ti,to⟩=>(902,RowsP zb 3 hi ti)::(904,RowsP zb 3 ho to)::e) (fun⟨c3,ti,to⟩=>PasF f g s nv ri ro ti to c3 (fun a u=>(a<n/\u<nv)\/(a=n/\u<v+1))) j1 j1 ?_ ?_)
    .
     refine Va 5 O tO (zqZ 903 (n) tg27 O tO (hC) (Vs 1 O (zqh O (fun w hI=>zph tR27 ts3 O O O tO) (zqh O (fun w hI=>R.load tg3 O (qr (hI.at 902 O) hC hY dw)) (Vs 3 O (V.sp 157 O (fun m1=>?_) (fun m1=>?_)))))))
     .
      have hset:PasF f g s nv ri ro (ko ti n v ex) (ko to n v yv) true (fun a u=>(a<n/\u<nv)\/(a=n/\u<v+1)):=by
       have:=dg.set (dn':=fun a u=>(a<n/\u<nv)\/(a=n/\u<v+1)) ez dy (v:=v) tO (by rw[dW,eh,du,dz,dx];exact fun h=>m1 h.1);rw[du,dz,dx]at this;exact this
      refine Vs 13 O (Vw [3,4,5,903,905] [13,15] O (Vb [0,1,2,4,5,6,7,9,10,11] 0 tK O O O tO (zrC 3 O tK O 0 O O (fun w hI=>R.load tg27 O (jW (hI.at 903 O) hC)) (zrC 8 O tK O 0 O O (fun w hI=>R.load tg27 O (jW (hI.at 905 O) db)) (zrx 12 O tK O (fun w=>zph tR27 ts3 O O O tO) (zs4 13 902 0 (e':=RowsP zb 3 hi (ti.set n (r1.set v ex))) O tK O O RowsP.loc (fun _ h=>h) (fun w hI=>zsa ts3 (hI.at 902 O) hC hY tO O O O) ?_))))));refine zrx 14 O tK O (fun w=>zph tR27 ts3 O O O tO) (zs4 15 904 0 (e':=RowsP zb 3 ho (to.set n (r2.set v yv))) O tK O O RowsP.loc (fun _ h=>h) (fun w hI=>zsa ts3 (hI.at 904 O) db da tO O O O) (Vd [16] 0 tK O O O Um))
     refine Va 3 O tO (zqZ 905 (n) tg27 O tO (db) (Vs 1 O (zqh O (fun w hI=>zph tR27 ts3 O O O tO) (zqh O (fun w hI=>R.load tg3 O (qr (hI.at 904 O) db da dI)) (Vs 5 O (zoE O (fun m2=>?_) (fun m2=>?_)))))))
     .
      have hset:PasF f g s nv ri ro (ko ti n v ex) (ko to n v yv) true (fun a u=>(a<n/\u<nv)\/(a=n/\u<v+1)):=by
       have:=dg.set (dn':=fun a u=>(a<n/\u<nv)\/(a=n/\u<v+1)) ez dy (v:=v) tO (by rw[dW,eh,du,dz,dx];exact fun h=>m2 h.2);rw[du,dz,dx]at this;exact this
      refine Vw [3,4,5,903,905] [13,15] O (Vb [0,1,2,4,5,6,7,9,10,11] 0 tK O O O tO (zrC 3 O tK O 0 O O (fun w hI=>R.load tg27 O (jW (hI.at 903 O) hC)) (zrC 8 O tK O 0 O O (fun w hI=>R.load tg27 O (jW (hI.at 905 O) db)) (zrx 12 O tK O (fun w=>zph tR27 ts3 O O O tO) (zs4 13 902 0 (e':=RowsP zb 3 hi (ti.set n (r1.set v ex))) O tK O O RowsP.loc (fun _ h=>h) (fun w hI=>zsa ts3 (hI.at 902 O) hC hY tO O O O) ?_)))));refine zrx 14 O tK O (fun w=>zph tR27 ts3 O O O tO) (zs4 15 904 0 (e':=RowsP zb 3 ho (to.set n (r2.set v yv))) O tK O O RowsP.loc (fun _ h=>h) (fun w hI=>zsa ts3 (hI.at 904 O) db da tO O O O) (Vd [16] 0 tK O O O Um))
     have fS:PasF f g s nv ri ro ti to c3 (fun a u=>(a<n/\u<nv)\/(a=n/\u<v+1)):=dg.skip (i:=n) (v:=v) (by rw[dW,du];omega) (by rw[eh,du,dz,dx];omega) (fun a u h=>tO);refine Vs 1 O (zoS (c3,ti,to) j2 j3 (fS) 0 O O)
    rintro⟨c3,ti,to⟩ fT;refine Va 6 O tO (V.back ⟨v+1,c3,ti,to⟩ j2 j3 ⟨tO,fT⟩ tZ 1 O O)
   refine Va 10 O tO (V.back ⟨n+1,c3,ti,to⟩ j2 j3 ⟨tO,dg.imp (fun a u h=>tO)⟩ tZ 0 O O)
  have gt:(2*(g.length*(nv*2)) - (rkT qi+rkT qo))*2+c2.toNat<(2*(g.length*(nv*2)) - (rkT ri+rkT ro))*2+true.toNat:=by
   have h1:=rk_le dh.shi;have h2:=rk_le dh.sho;cases c2 with
   | true=>have:=dh.yes rfl;simp only[ztJ];omega
   | false=>obtain⟨⟨e1,e2⟩,_⟩:=dh.no rfl;rw[e1,e2];simp only[ztJ,Bool.toNat_false];omega
  have dO:c2=false->SolV f g s nv (bfV qi)/\∀ j,j<g.length->∀ v:Int,0<=v->v<(nv:Int)->bfV qo j v=yw f g s (bfV qi) j v:=fun e=>by
   subst e;exact dh.done (fun a u h1 h2=>tO)
  refine Vs 5 O (V.back ⟨c2,qi,qo⟩ j2 j3 ⟨dh.shi,dh.sho,dh.run,dO⟩ tZ 0 O O)
 subst c1;obtain⟨ek,dQ⟩:=dZ rfl;have em:ri.length=i:=by have:=dT.len;omega
 have er:ro.length=i:=by have:=dU.len;omega
 rw[hN]at dT dU dQ;refine Vs 14 O (zoY results35 O O (fun w hI=>⟨_,rfl,⟨_,_,ri,ro,rfl,dT,dU,ek,dQ,kH (show w.ownsRow 0 _ 1 _ _ _ from em ▸ hI.at 903 O) (hI.at 902 O) (fun g hg=>hI.own 903 0 O O g hg) (fun k u g h1 h2=>hI.own 902 0 O O g ⟨k,u,h1,h2⟩),kH (show w.ownsRow 0 _ 1 _ _ _ from er ▸ hI.at 905 O) (hI.at 904 O) (fun g hg=>hI.own 905 0 O O g hg) (fun k u g h1 h2=>hI.own 904 0 O O g ⟨k,u,h1,h2⟩)⟩,hI.k0⟩))
theorem zjh {x:Int} (h:l[k]?=some x) (hn:x ∉ l.take k):l.idxOf x=k:=by
 induction l generalizing k with
 | nil=>simp at h
 | cons y l ih =>
  cases k with
  | zero=>simp at h;subst h;simp
  | succ k =>
   rw[List.take_succ_cons,zt7]at hn;have hC:(y == x)=false:=tD;rw[List.idxOf_cons,hC,cond_false,ih tD (fun e=>hn (.inr e))]
theorem zcR (l:List Int) (x:Int) (v:Value) (D:Nat->Prop) (W:World) (hv:SlR 1 zG D W v l) (hx:x ∈ l):Calls prog 91 #[v,.int .i64 x] W (Ret fun r w'=>r=.int .i64 ((l.idxOf x:Nat):Int)/\Ext W w'):=by
 obtain⟨av,cv,rfl⟩:=hv.form;have dc:=hv.max;refine zqr func91 O ntmps91 O (V.inn (Vs 14 O (zrl (σ:=Nat) [0,1,7] [] [] O (fun e k=>(8,.int .i64 k)::e) (fun e k=>e) (fun k=>k<=l.length/\x ∉ l.take k) (fun k=>l.length - k) 0 j2 j3 j1 j1 j1 ⟨zt6 _,tR⟩ ?_)));rintro k ⟨hk,hn⟩;refine Vs 6 O (zoE O (fun da=>?_) (fun da=>?_))
 .
  refine Vs 15 O (zrj 1000 0 k tO hv O O (fun y dg dh hC db hY=>?_));refine zqQ 1000 tR27 ts3 O hY tO _ rfl O (Vs 4 O (zoE O (fun he=>?_) (fun he=>?_)))
  . refine Vs 12 O (zr9 0 results91 O O (by rw[zjh (he ▸ hC) hn]))
  refine Va 7 O tO (V.back (k+1) j2 j3 ⟨tO,fun h=>((zeP hC).1 h).elim hn he⟩ tO 0 O O)
 grind
noncomputable def phV (f:Fl) (g:List Nd) (s:Sf) (y:Nat) (vl:List Int) (p:Phn):Int:=lki vl (zab f g s y p.var).toNat
noncomputable def jr (f:Fl) (g:List Nd) (s:Sf) (y:Nat) (vl:List Int) (l:List Phn):List Int:=l.foldl (fun t p=>t.set p.ver.toNat (phV f g s y vl p)) vl
theorem zhx {y:Nat} {l:List Phn} (h:l[i]?=some p):jr f g s y vl (l.take (i+1))=(jr f g s y vl (l.take i)).set p.ver.toNat (phV f g s y vl p):=by
 unfold jr;rw[ze h,zuv];rfl
theorem zc8 {y:Nat} (l:List Phn):(jr f g s y vl l).length=vl.length:=by
 unfold jr;suffices ∀ t:List Int,(l.foldl (fun t p=>t.set p.ver.toNat (phV f g s y vl p)) t).length=t.length from this vl;induction l with
 | nil=>intro t;rfl
 | cons p l ih=>intro t;rw[zuw,ih,zuS]
theorem zl8 (f:Fl) (g:List Nd) (s:Sf) (hR:RightF f g s (rdV f g)) (n:Nat) (hn:n<g.length) (y:Nat) (hy:(zh s n).phis ≠ []->y ∈ zw g n) (_:g.length<=100000) (d5:(zh s n).phis.length<=1000000) (vl:List Int) (d6:vl.length=s.of_.length) (_:vl.length<=1000000) (b gb bv cv:Nat) (ofv nodv hv rv ov tv:Value) (D:Nat->Prop) (W:World) (hc:Cells W b 0 (rnr gb ofv nodv (.slice (some ⟨bv,0,none⟩) vl.length cv) hv rv ov tv)) (hS:RSf D W s ofv nodv) (du:(qc (.slice (some ⟨bv,0,none⟩) vl.length cv) vl).holds W) (d7:∀ q,D q->bv ≠ q) (dA:bv ≠ b) :
  Calls prog 47 #[.pointer (some ⟨b,0,none⟩),.int .i64 y,.int .i64 n] W (Ret fun r w'=>∃ _x:Unit,r=.tuple #[]/\(qc (.slice (some ⟨bv,0,none⟩) vl.length cv) (jr f g s y vl (zh s n).phis)).holds w'/\Keep (qc (.slice (some ⟨bv,0,none⟩) vl.length cv) vl).S W w'/\∀ q,(qc (.slice (some ⟨bv,0,none⟩) vl.length cv) (jr f g s y vl (zh s n).phis)).S q->((qc (.slice (some ⟨bv,0,none⟩) vl.length cv) vl).S q\/W.heap.size<=q)/\q<w'.heap.size):=by
 have dB:=hS.nodes;obtain⟨an,cn,rfl⟩:=dB.form;have eD:=dB.max;have d8:=hR.len;obtain⟨x,dl⟩:∃ x,s.nodes[n]?=some x:=j9;have da:=hR.nod n x dl;have d9:zh s n=x:=yC dl;rw[d9]at d5 hy ⊢;have dw:∀ q,(qc (.slice (some ⟨bv,0,none⟩) vl.length cv) vl).S q->¬ D q:=fun q h hd=>d7 q hd (by cases h;rfl)
 have dC:∀ p ∈ x.phis,∃ q:Nat,p.ver=(q:Int)/\q<vl.length:=fun p hp=>by
  obtain⟨q,h1,h2⟩:=qQ (da.phi.ver p hp)
  grind
 refine zqs func47 O ntmps47 O (zrA 900 (.row 3 1 (.slice (some ⟨bv,0,none⟩) vl.length cv) vl.length (vl.map zb)) (du) trivial (fun _ h=>h) (fun q hq=>xB du hq) (zrg 901 0 O O (fun h=>dA (by cases h;rfl)) hc (zqO 0 901 0 O O (Vs 8 O (zrh 1000 0 n tO dB O O O iw (fun x2 eb ec ed dh dR dx dS dy=>?_))))));obtain⟨dT,dU,rfl,hC,dz⟩:=dy;obtain⟨dV,dW,rfl⟩:=hC.form;obtain⟨dX,dY,rfl⟩:=dz.form;refine zqQ 1000 tR28 ts59 O dx tO _ rfl O ?_;obtain rfl:x2=x:=Option.some.inj (dh.symm.trans dl);refine Vs 9 O (zpw 23 tu27 Tryz.el3 O tO tO (zs:=List.replicate x2.phis.length (.int .i64 0)) JU tR (fun b23=>?_));generalize hm:x2.phis.length=m at *;have ee:=hC.max;refine Vs 11 O (zrk 23 O (e':=.row 3 1 (.slice (some ⟨b23,0,none⟩) m m) m (((x2.phis.take 0).map (phV f g s y vl)++List.replicate (m - 0) 0).map zb)) (by simp[zb]) (Vs 1 O (zrl (σ:=Nat) [0,1,6,7,24,25] [901] [0] O (fun e i=>(26,.int .i64 i)::e) (fun e i=>(23,.row 3 1 (.slice (some ⟨b23,0,none⟩) m m) m (((x2.phis.take i).map (phV f g s y vl)++List.replicate (m - i) 0).map zb))::(900,.row 3 1 (.slice (some ⟨bv,0,none⟩) vl.length cv) vl.length (vl.map zb))::e) (fun i=>i<=m) (fun i=>m - i) 0 j2 j3 j1 j1 j1 (zt6 _) ?_)));rintro i hi;refine Vs 6 O (zoE O (fun li=>?_) (fun li=>?_))
 .
  refine Vs 7 O (zrh 2000 0 i tO hC O O O iw (fun p ef eh ei db hY dr dD dt=>?_));obtain⟨dE,dF,rfl,dc,dg⟩:=dt;obtain⟨dG,dH,rfl⟩:=dc.form;obtain⟨dI,dJ,rfl⟩:=dg.form;refine zqQ 2000 tR56 ts88 O dr tO _ rfl O ?_;have ej:=da.phi.frm p hY;have eE:=da.phi.len p hY;have dK:(y:Int) ∈ p.frm:=by rw[ej];exact zv6.2 ⟨y,hy (fun e=>tD),rfl⟩
  generalize hj:p.frm.idxOf (y:Int)=j;have dL:j<p.frm.length:=tD;refine zrh 3000 0 j tO dg O O O iw (fun a eF eG eH dM dN dO ek dQ=>?_);obtain rfl:=dQ;have em:p.frm[j]?=some (y:Int):=by rw[zsR dL];congr 1;subst hj;exact zuJ dL
  have dZ:=hR.arg n x2 dh p hY j _ a em dM;rw[ztd]at dZ;obtain⟨q,hq,er⟩:=qQ (da.phi.args p hY a dN);subst hq;have ew:phV f g s y vl p=lki vl q:=by unfold phV;rw[dZ,ztd]
  refine Vs 1 O (V.alloc 9 tz88 O O (fun b9=>?_));refine Vs 4 O (Vw [901,900,2000,3000,9] [17] O (Vd [0,1,2,3,4,5,6,7,8,9,10] 0 tK O O O (zr3 11 0 call91 O tK O O (fun w hI=>zcR p.frm y _ _ w (dc.keep zc hI.k0 fun q hd _ h=>dw q h hd) dK) (zqR 12 3000 tR27 ts3 O tK O dO tO (j) tO O (Vd [13] 0 tK O O O (zrx 14 O tK O (fun w=>zph tR27 ts3 O O O tO) (zrC 15 O tK O 0 O O (fun w hI=>R.load tg3 O (jW (show w.ownsRow 0 3 1 (.slice (some ⟨bv,0,none⟩) vl.length cv) vl.length (vl.map zb) from hI.at 900 O) (show (vl.map zb)[q]?=some (zb (lki vl q)) by rw[zt8,zgj tO];rfl))) ?_)))))))
  have ez:(((x2.phis.take i).map (phV f g s y vl))++List.replicate (m - i) 0).set i (phV f g s y vl p)=((x2.phis.take (i+1)).map (phV f g s y vl))++List.replicate (m - (i+1)) 0:=by
   rw[ze db,zuT,zvt _ _ tD,ztb,ztl,show i - min i x2.phis.length=0 by omega,show m - i=(m - (i+1))+1 by omega,zvo];simp
  refine Vb [16] 0 tK O O O tO (zr1 17 23 0 (i) ts3 O tK O O tO tD (VD.done tK (Vs 2 O (zrk 23 O (e':=.row 3 1 (.slice (some ⟨b23,0,none⟩) m m) m (((x2.phis.take (i+1)).map (phV f g s y vl)++List.replicate (m - (i+1)) 0).map zb)) (by rw[<- ez,zuZ,ew]) (Va 4 O tO (V.back (i+1) j2 j3 tO tO 0 O O))))))
 obtain rfl:i=m:=tO;refine zrk 23 O (e':=.row 3 1 (.slice (some ⟨b23,0,none⟩) i i) i ((x2.phis.map (phV f g s y vl)).map zb)) tD (Vs 12 O (zrk 900 O (e':=.row 3 1 (.slice (some ⟨bv,0,none⟩) vl.length cv) vl.length ((jr f g s y vl (x2.phis.take 0)).map zb)) (by rfl) (Vs 1 O (zrl (σ:=Nat) [0,7,49,50] [23,901] [0] O (fun e k=>(51,.int .i64 k)::e) (fun e k=>(900,.row 3 1 (.slice (some ⟨bv,0,none⟩) vl.length cv) vl.length ((jr f g s y vl (x2.phis.take k)).map zb))::e) (fun k=>k<=i) (fun k=>i - k) 0 j2 j3 j1 j1 j1 (zt6 _) ?_))));rintro k hk;refine Vs 6 O (zoE O (fun lk=>?_) (fun lk=>?_))
 .
  refine Vs 7 O (zrh 4000 0 k tO hC O O O iw (fun p ef eh ei db hY dr dD dt=>?_));obtain⟨dE,dF,rfl,dc,dg⟩:=dt;obtain⟨dG,dH,rfl⟩:=dc.form;obtain⟨dI,dJ,rfl⟩:=dg.form;refine zqQ 4000 tR56 ts88 O dr tO _ rfl O ?_;obtain⟨q,hq,er⟩:=dC p hY;have dL:=zc8 (f:=f) (g:=g) (s:=s) (y:=y) (vl:=vl) (x2.phis.take k);refine Vs 1 O (V.alloc 11 tz88 O O (fun b11=>?_));refine Vs 4 O (Vw [23,901,4000,11] [11] O (Vb [0,1,2,3,4,5,6,7,8] 0 tK O O O tO (zrC 9 O tK O 0 O O (fun w hI=>R.load tg3 O (jW (show w.ownsRow 0 3 1 (.slice (some ⟨b23,0,none⟩) i i) i _ from hI.at 23 O) (show ((x2.phis.map (phV f g s y vl)).map zb)[k]?=some (zb (phV f g s y vl p)) by rw[zt8,zt8,db];rfl))) ?_)));refine zrx 10 O tK O (fun w=>zph tR27 ts3 O O O tO) (zrH 11 900 (q) ts3 O tK O tO tD (VDx.done tK (Vs 2 O (zrk 900 O (e':=.row 3 1 (.slice (some ⟨bv,0,none⟩) vl.length cv) vl.length ((jr f g s y vl (x2.phis.take (k+1))).map zb)) (by rw[zhx db,hq,ztd,zuZ]) (Va 4 O tO (V.back (k+1) j2 j3 tO tO 0 O O))))))
 obtain rfl:k=i:=tO;refine zrk 900 O (e':=qc (.slice (some ⟨bv,0,none⟩) vl.length cv) (jr f g s y vl x2.phis)) (by rw[zvB tO];unfold qc;rw[zc8]) (Vs 4 O (zpa results47 (fun w hI=>⟨_,rfl,(),rfl,hI.at 900 rfl,hI.k0,fun q hq=>hI.inS 0 900 O O hq⟩)))
theorem zji {l:List Phn} (h:∀ p ∈ l,p.ver.toNat ≠ k):∀ t:List Int,(l.foldl (fun t p=>t.set p.ver.toNat (F p)) t)[k]?=t[k]?:=by
 induction l with
 | nil=>exact fun _=>rfl
 | cons q l ih =>
  intro t;rw[zuw,ih fun p hp=>h p (zsU _ hp),zuG (h q (zsV ..))]
theorem zl9 {l:List Phn} (hC:(l.map fun p=>p.ver.toNat).Nodup) (hp:p ∈ l):∀ t:List Int,p.ver.toNat<t.length->(l.foldl (fun t p=>t.set p.ver.toNat (F p)) t)[p.ver.toNat]?=some (F p):=by
 induction l with
 | nil=>cases hp
 | cons q l ih =>
  intro t ht;rw[zuV,zvd]at hC;rw[zuw];rcases zt7.1 hp with rfl | hp
  . rw[zji fun r hr e=>hC.1 (zv6.2 ⟨r,hr,e⟩),zuH ht]
  grind
theorem zhy {rd:Nat->List Int} (h:FormF f g s rd) {n:Nat} (hn:n<g.length):((zh s n).phis.map fun p=>p.ver.toNat).Nodup:=by
 have hY:=(h.at hn).phi
 have h1:((zh s n).phis.map (·.ver)).Nodup:=by
  rw[List.nodup_iff_count];intro a;have da:((zh s n).phis.map (·.ver)).count a<=(dfL f g s n).count a:=by unfold dfL;rw[zu4];omega
  have db:(dfL f g s n).count a<=(xU f g s).count a:=by
   unfold xU;rw[List.flatMap_def];exact(zvw (zv6.2 ⟨n,zva.2 hn,rfl⟩)).count_le a
  by_cases ha:a ∈ (zh s n).phis.map (·.ver)
  .
   obtain⟨h2,h3⟩:=zeF h hn (show a ∈ dfL f g s n by grind);obtain⟨k,rfl⟩:=ztN (show 0<=a by omega);have:=h.one k tO tO;omega
  grind
 rw[show ((zh s n).phis.map fun p=>p.ver.toNat)=((zh s n).phis.map (·.ver)).map Int.toNat by rw[zuW];rfl];refine List.Pairwise.map _ (fun a b hC=>hC) (List.Pairwise.imp_of_mem (fun {a b} ha hb hC e=>?_) h1);obtain⟨p,hp,rfl⟩:=zv6.1 ha;obtain⟨q,hq,rfl⟩:=zv6.1 hb;have h2:=(hY.ver p hp).1;have h3:=(hY.ver q hq).1;exact hC tO
theorem zjj {rd:Nat->List Int} (h:RightF f g s rd) {n y:Nat} (h0:n ≠ 0) (hn:n<g.length) (hy:y ∈ zw g n) (dc:vl.length=s.of_.length) (hp:ziJ f g s y vl vals):InvV f g s n (jr f g s y vl (zh s n).phis) vals:=by
 have hf:=h.toFormF;have hY:=(hf.at hn).phi;have dg:=zhy hf hn;have hl:=hf.len;have e:=zsR (show n<s.nodes.length by omega);have dh:=yC e
 have da:∀ p ∈ (zh s n).phis,∃ q:Nat,zab f g s y p.var=(q:Int)/\q<s.of_.length:=fun p hC=>by
  have db:(y:Int) ∈ p.frm:=by rw[hY.frm p hC];exact zv6.2 ⟨y,hy,rfl⟩
  obtain⟨i,hi⟩:=zv5.1 db;have dl:=(zt5.1 hi).1;have ha:=zsR (show i<p.args.length by have:=hY.len p hC;omega);have:=h.arg n _ e p tD i _ _ hi ha;rw[ztd]at this;rw[this];exact qQ (hY.args p hC _ (zsS ha))
 refine InvV.join h h0 hn hy hp (fun p hC=>?_) (fun k hk=>?_) fun p hC=>?_
 .
  obtain⟨q,hq,dm⟩:=da p hC;obtain⟨m,hm,dr⟩:=qQ (hY.ver p hC);unfold jr;rw[zl9 (F:=phV f g s y vl) dg hC vl tO];unfold phV;rw[hq,ztd,zgj tO]
 .
  unfold jr;exact zji (F:=phV f g s y vl) (fun p hC e2=>hk p hC (by have:=(hY.ver p hC).1;omega)) vl
 grind
def zof:Tm:=.mk 24 0 []
def zog:Tm:=.mk 24 1 []
def zoh:Tm:=.mk 0 1 []
def zla:St:=.mk 0 0 1 0 zoh [] [] []
def znK:St:=.mk 3 0 0 0 zof [zla] [] []
def znL:St:=.mk 1 0 0 0 zog [] [] []
def exF22:Fl:=⟨[⟨⟨#[120]⟩,1,0,1,0⟩,⟨⟨#[121]⟩,0,0,1,0⟩],[],[znK,znL]⟩
def exG22:List Nd:=[⟨0,-1,1,-1⟩,⟨3,0,2,3⟩,⟨2,1,3,-1⟩,⟨2,2,4,-1⟩,⟨1,-1,-1,-1⟩]
def exS22:Sf:=⟨[0,1,1,1],[⟨[],[],-1⟩,⟨[],[(0,0)],-1⟩,⟨[],[],2⟩,⟨[⟨1,3,[1,2],[1,2]⟩],[(1,3)],-1⟩,⟨[],[],-1⟩]⟩
theorem zhz:yO exF22=0:=by decide +kernel
theorem zcS:zd exF22=exG22:=by rfl
theorem zjk:snodes exF22.body+zx exF22.hatches<=1024:=by decide +kernel
theorem zjl:sbulk exF22.body<=1000000:=by decide +kernel
theorem zmH:OfF exF22 exS22:=by
 refine⟨tS,fun k v hk hl=>?_,fun k v hk hl=>?_⟩
 .
  match k with
  | 0=>simp[exS22]at hk;omega
  | 1=>simp[exS22]at hk;omega
  | k+2=>exact absurd hl (by show ¬ k+2<2;omega)
 match k with
 | 0=>simp[exF22]at hl
 | 1=>simp[exF22]at hl
 | 2=>simp[exS22]at hk;subst hk;exact⟨tS,_,rfl,rfl⟩
 | 3=>simp[exS22]at hk;subst hk;exact⟨tS,_,rfl,rfl⟩
 | k+4=>simp[exS22]at hk
theorem zbd {n:Nat}:PhiF f g s n []:=⟨fun _=>rfl,List.Pairwise.nil,fun p h=>tD,fun p h=>tD,fun p h=>tD,fun p h=>tD⟩
theorem ex22_form:FormF exF22 exG22 exS22 (rdV exF22 exG22):=by
 refine⟨zmH,rfl,fun n x hx=>?_,fun k h1 h2=>?_⟩
 .
  match n with
  | 0=>simp[exS22]at hx;subst hx;exact YE
  | 1=>simp[exS22]at hx;subst hx;exact⟨zbd,fun _=>rfl,fun h=>absurd h iH,by decide +kernel,fun u h=>by simp at h;subst h;decide +kernel⟩
  | 2=>simp[exS22]at hx;subst hx;exact⟨zbd,fun h=>absurd h iH,fun _=>by decide +kernel,by decide +kernel,fun u h=>tD⟩
  | 3 =>
   simp[exS22]at hx;subst hx;refine⟨⟨fun h=>tO,zvk _ _,fun p h=>?_,fun p h=>?_,fun p h=>?_,fun p h a ha=>?_⟩,fun _=>rfl,fun h=>absurd h iH,by decide +kernel,fun u h=>?_⟩
   . rw[zt9]at h;subst h;decide +kernel
   . rw[zt9]at h;subst h;decide +kernel
   . grind
   . rw[zt9]at h;subst h;simp at ha;rcases ha with rfl | rfl<;>decide +kernel
   rw[zt9]at h;subst h;decide +kernel
  | 4=>simp[exS22]at hx;subst hx;exact YE
  | n+5=>simp[exS22]at hx
 match k with
 | 0=>exact absurd h1 tS
 | 1=>exact absurd h1 tS
 | 2=>decide +kernel
 | 3=>decide +kernel
 | k+4=>exact absurd h2 (by show ¬ k+4<4;omega)
def zcs:List (List Int):=[[0,1],[0,1],[0,1],[0,3],[0,3]]
theorem zmI:∀ i:Nat,i<5->RV exF22 exG22 exS22 0 i 0:=by
 have h0:RV exF22 exG22 exS22 0 0 0:=.ini;have h1:RV exF22 exG22 exS22 0 1 0:=.pass (y:=0) tS iH iH iH h0;have h2:RV exF22 exG22 exS22 0 2 0:=.pass (y:=1) tS iH iH iH h1;have h3:RV exF22 exG22 exS22 0 3 0:=.pass (y:=1) tS iH iH iH h1;have h4:RV exF22 exG22 exS22 0 4 0:=.pass (y:=3) tS iH iH iH h3
 grind
theorem zmJ:∀ i:Nat,i<5->RV exF22 exG22 exS22 1 i (bfV zcs i 1):=by
 have h0:RV exF22 exG22 exS22 1 0 1:=.ini;have h1:RV exF22 exG22 exS22 1 1 1:=.pass (y:=0) tS iH iH iH h0;have h2:RV exF22 exG22 exS22 1 2 1:=.pass (y:=1) tS iH iH iH h1;have h3:RV exF22 exG22 exS22 1 3 3:=.phi tS iH;have h4:RV exF22 exG22 exS22 1 4 3:=.pass (y:=3) tS iH iH iH h3;intro i hi
 match i with
 | 0=>exact h0
 | 1=>exact h1
 | 2=>exact h2
 | 3=>exact h3
 | 4=>exact h4
 | i+5=>omega
theorem ex22_sol:SolV exF22 exG22 exS22 2 (bfV zcs):=by
 have key:∀ i:Nat,i<5->0<=bfV zcs i 0/\bfV zcs i 0=0/\0<=bfV zcs i 1/\bfV zcs i 0=eqV exG22 exS22 (yw exF22 exG22 exS22 (bfV zcs)) i 0/\bfV zcs i 1=eqV exG22 exS22 (yw exF22 exG22 exS22 (bfV zcs)) i 1:=by decide +kernel
 refine⟨fun i hi v h0 h1=>?_,fun i hi v h0 h1=>?_⟩
 .
  obtain⟨k1,k2,k3,_⟩:=key i hi;have hv:v=0\/v=1:=tO;rcases hv with rfl | rfl
  . exact .inr (.inl ⟨k1,by rw[k2];exact zmI i hi⟩)
  exact .inr (.inl ⟨k3,zmJ i hi⟩)
 obtain⟨_,_,_,k4,k5⟩:=key i hi;have hv:v=0\/v=1:=tO;rcases hv with rfl | rfl
 . exact k4
 exact k5
theorem zhA:RightF exF22 exG22 exS22 (rdV exF22 exG22):=by
 have hs:=ex22_form.nn;have hC:∀ i:Nat,i<5->∀ v:Int,0<=v->v<2->inV exF22 exG22 exS22 i v=bfV zcs i v:=fun i hi v h0 h1=>(ex22_sol.is hs h0 h1 hi).symm;refine⟨ex22_form,fun n x hx u hu=>?_,fun n x hx p hp i y a hy ha=>?_⟩
 .
  match n with
  | 0=>simp[exS22]at hx;subst hx;cases hu
  | 1=>simp[exS22]at hx;subst hx;rw[zt9]at hu;subst hu;rw[hC 1 tS 0 tS tS];decide +kernel
  | 2=>simp[exS22]at hx;subst hx;cases hu
  | 3=>simp[exS22]at hx;subst hx;rw[zt9]at hu;subst hu;rw[hC 3 tS 1 tS tS];decide +kernel
  | 4=>simp[exS22]at hx;subst hx;cases hu
  | n+5=>simp[exS22]at hx
 match n with
 | 0=>simp[exS22]at hx;subst hx;cases hp
 | 1=>simp[exS22]at hx;subst hx;cases hp
 | 2=>simp[exS22]at hx;subst hx;cases hp
 | 3 =>
  simp[exS22]at hx;subst hx;rw[zt9]at hp;subst hp
  match i with
  | 0=>simp at hy ha;subst hy;subst ha;show yw exF22 exG22 exS22 (inV exF22 exG22 exS22) 1 1=1;unfold yw;rw[hC 1 tS 1 tS tS];decide +kernel
  | 1=>simp at hy ha;subst hy;subst ha;show yw exF22 exG22 exS22 (inV exF22 exG22 exS22) 2 1=2;unfold yw;rw[hC 2 tS 1 tS tS];decide +kernel
  | i+2=>simp at hy
 | 4=>simp[exS22]at hx;subst hx;cases hp
 | n+5=>simp[exS22]at hx
def exT22:Sf:=⟨[0,1,1,1],[⟨[],[],-1⟩,⟨[],[(0,0)],-1⟩,⟨[],[],2⟩,⟨[],[(1,2)],-1⟩,⟨[],[],-1⟩]⟩
theorem zhB:¬ RightF exF22 exG22 exT22 (rdV exF22 exG22):=fun h=>absurd (h.one 3 tS tS) iH
theorem zc9:¬ yt exF22 exG22 ≠ 0:=fun h=>h (by unfold yt;rw[zt1 (by rw[zhz];exact fun h=>h rfl),zt2 zcS])
theorem zca:yK exF22 exG22 exS22=0:=zma zc9 zhA
theorem zhC:yK exF22 exG22 exT22=13:=zht zc9 zhB
end Go.Proofs.YtckdhgbepmpgiaaGreat
namespace Go.GL.Dfs
structure Rows (R:List (List Int)):Prop where
 ok:∀ (a:Nat) r,R[a]?=some r->∀ y ∈ r,∃ b:Nat,y=(b:Int)/\b<R.length
def Edge (R:List (List Int)) (a b:Nat):Prop:=∃ r,R[a]?=some r/\(b:Int) ∈ r
inductive Reach (R:List (List Int)) (root:Nat):Nat->Prop
 | refl:Reach R root root
 | step {a b:Nat}:Reach R root a->Edge R a b->Reach R root b
theorem Reach.lt (hR:Rows R) {x:Nat} (hr:root<R.length) (h:Reach R root x):x<R.length:=by
 cases h with
 | refl=>exact hr
 | step _ h =>
  obtain⟨r,h1,h2⟩:=h;obtain⟨b,h3,h4⟩:=hR.ok _ r h1 _ h2;have:=Int.ofNat.inj h3;omega
structure Inv (R:List (List Int)) (root:Nat) (seen:List Bool) (st:List (Nat × Nat)) (out:List Nat):Prop where
 len:seen.length=R.length
 mark:∀ x:Nat,seen[x]?=some true ↔ x ∈ st.map Prod.fst\/x ∈ out
 nodup:(st.map Prod.fst++out).Nodup
 done:∀ x ∈ out,∀ y:Nat,Edge R x y->seen[y]?=some true
 part:∀ x e,(x,e) ∈ st->∃ r,R[x]?=some r/\e<=r.length/\∀ (i b:Nat),i<e->r[i]?=some (b:Int)->seen[b]?=some true
 reach:∀ x:Nat,seen[x]?=some true->Reach R root x
 par:∀ l c e m,st=l++(c,e)::m->c=root\/∃ p e',(p,e') ∈ l/\Edge R p c
 opar:∀ l c m,out=l++c::m->c=root\/∃ p,Edge R p c/\(p ∈ st.map Prod.fst\/p ∈ m)
 top:(st=[]/\∃ l,out=l++[root])\/∃ e m,st=(root,e)::m
section
variable {st:List (Nat × Nat)} {out:List Nat}
theorem Inv.start (hr:root<R.length):Inv R root ((List.replicate R.length false).set root true) [(root,0)] []:=by
 have hs:∀ x,((List.replicate R.length false).set root true)[x]?=some true ↔ x=root:=by
  intro x;by_cases h:root=x
  . grind
  rw[zuG h];constructor
  . grind
  omega
 refine⟨tR,?_,tR,tR,?_,?_,?_,?_,.inr ⟨0,[],rfl⟩⟩
 . grind
 .
  intro x e h;simp at h;obtain⟨rfl,rfl⟩:=h;exact⟨_,zsR hr,zt6 _,fun i b h=>tO⟩
 .
  intro x h;rw[hs]at h;subst h;exact .refl
 .
  intro l c e m h;cases l with
  | nil=>simp at h;exact .inl h.1.1.symm
  | cons a l=>simp at h
 intro l c m h;simp at h
theorem Inv.pop {x e:Nat} {r:List Int} (h:Inv R root seen (st++[(x,e)]) out) (hr:R[x]?=some r) (he:e=r.length):Inv R root seen st (out++[x]):=by
 refine⟨h.len,?_,?_,?_,?_,h.reach,?_,?_,?_⟩
 .
  intro y;rw[h.mark];simp only[zuT,zuV,zuX,zta,zt9];constructor
  .
   rintro ((h1 | h1) | h1)
   . exact .inl h1
   . exact .inr (.inr h1)
   exact .inr (.inl h1)
  rintro (h1 | h1 | h1)
  . exact .inl (.inl h1)
  . exact .inr h1
  exact .inl (.inr h1)
 .
  have h1:=h.nodup;simp only[zuT,zuV,zuX]at h1;refine(List.Perm.nodup_iff ?_).1 h1;rw[zu0];exact List.Perm.append_left _ (List.perm_append_comm)
 .
  intro y hy z hz;rw[zta,zt9]at hy;rcases hy with hy | rfl
  . exact h.done y hy z hz
  obtain⟨r',h1,h2,h3⟩:=h.part y e tR;rw[hr]at h1;cases h1;obtain⟨r',h4,h5⟩:=hz;rw[hr]at h4;cases h4;obtain⟨i,hi,hC⟩:=zv4.1 h5;exact h3 i z tO (by rw[zsR hi,hC])
 .
  intro y e' hy;exact h.part y e' tD
 .
  intro l c e' m hl;rcases h.par l c e' (m++[(x,e)]) tD with h1 | ⟨p,e'',h1,h2⟩
  . omega
  grind
 .
  intro l c m hl;rcases zuh m with rfl | ⟨m',z,rfl⟩
  .
   have h1:out=l/\x=c:=by
    have h2:=hl;rw[<- zu2,<- zu2]at h2;have h3:=congrArg List.getLast? hl;have h4:=congrArg List.dropLast hl
    grind
   obtain⟨rfl,rfl⟩:=h1;rcases h.par st x e [] rfl with h1 | ⟨p,e',h1,h2⟩
   . omega
   grind
  have h1:out=l++c::m'/\x=z:=by
   have h3:=congrArg List.getLast? hl;have h4:=congrArg List.dropLast hl;rw[show l++c::m'.concat z=(l++c::m')++[z] from tR]at h3 h4;rw[zu9,zu9]at h4;simp only[List.getLast?_append,List.getLast?_singleton,Option.some_or,Option.some.injEq]at h3;exact⟨h4,h3⟩
  obtain⟨h1,rfl⟩:=h1;rcases h.opar l c m' h1 with h2 | ⟨p,h2,h3⟩
  . omega
  refine .inr ⟨p,h2,?_⟩;simp only[zuT,zuV,zuX,zta,zt9,zu2]at h3 ⊢;rcases h3 with (h3 | h3) | h3
  . grind
  . omega
  grind
 rcases h.top with⟨h1,_⟩ | ⟨e',m,h1⟩
 . simp at h1
 cases st with
 | nil =>
  simp at h1;exact .inl ⟨rfl,out,tD⟩
 | cons a s =>
  simp at h1;exact .inr ⟨e',s,tD⟩
theorem Inv.skip {x e:Nat} {r:List Int} (h:Inv R root seen (st++[(x,e)]) out) (hr:R[x]?=some r) (hb:r[e]?=some (b:Int)) (hs:seen[b]?=some true):Inv R root seen (st++[(x,e+1)]) out:=by
 have hm:(st++[(x,e+1)]).map Prod.fst=(st++[(x,e)]).map Prod.fst:=tR;have hC:e<r.length:=(zt5.1 hb).1;refine⟨h.len,by rw[hm];exact h.mark,by rw[hm];exact h.nodup,h.done,?_,h.reach,?_,by rw[hm];exact h.opar,?_⟩
 .
  intro y e' hy;rw[zta,zt9]at hy;rcases hy with hy | hy
  . exact h.part y e' tD
  cases hy;obtain⟨r',h1,h2,h3⟩:=h.part x e tR;rw[hr]at h1;cases h1;refine⟨r,hr,tO,fun i c hi hc=>?_⟩;by_cases hY:i<e
  . grind
  grind
 .
  intro l c e' m hl;rcases zuh m with rfl | ⟨m',z,rfl⟩
  .
   have h3:=congrArg List.getLast? hl;have h4:=congrArg List.dropLast hl;simp at h3 h4;obtain⟨rfl,rfl⟩:=h3;subst h4;exact h.par st x e [] O
  have h3:=congrArg List.getLast? hl;have h4:=congrArg List.dropLast hl;rw[show l++(c,e')::m'.concat z=(l++(c,e')::m')++[z] from tR]at h3 h4;rw[zu9,zu9]at h4;exact h.par l c e' (m'++[(x,e)]) tD
 rcases h.top with⟨h1,_⟩ | ⟨e',m,h1⟩
 . simp at h1
 cases st with
 | nil =>
  simp at h1;exact .inr ⟨e+1,[],tD⟩
 | cons a s =>
  simp at h1;exact .inr ⟨e',s++[(x,e+1)],tD⟩
theorem Inv.push {x e:Nat} {r:List Int} (h:Inv R root seen (st++[(x,e)]) out) (hr:R[x]?=some r) (hb:r[e]?=some (b:Int)) (hs:seen[b]?=some false):Inv R root (seen.set b true) (st++[(x,e+1)]++[(b,0)]) out:=by
 have da:b<seen.length:=(zt5.1 hs).1
 have hY:∀ y,(seen.set b true)[y]?=some true ↔ seen[y]?=some true\/y=b:=by
  intro y;by_cases hy:b=y
  . grind
  rw[zuG hy];constructor
  . exact .inl
  grind
 have hm:(st++[(x,e+1)]++[(b,0)]).map Prod.fst=(st++[(x,e)]).map Prod.fst++[b]:=tR;have dc:e<r.length:=(zt5.1 hb).1;have hC:Edge R x b:=⟨r,hr,zsS hb⟩;have db:seen[x]?=some true:=(h.mark x).2 (.inl tR)
 have dg:¬ (b ∈ (st++[(x,e)]).map Prod.fst\/b ∈ out):=by
  intro h1;have:=(h.mark b).2 h1
  grind
 refine⟨by simp[h.len],?_,?_,?_,?_,?_,?_,?_,?_⟩
 .
  intro y;rw[hY,h.mark,hm];simp only[zta,zt9];constructor
  .
   rintro ((h1 | h1) | h1)
   . exact .inl (.inl h1)
   . exact .inr h1
   exact .inl (.inr h1)
  rintro ((h1 | h1) | h1)
  . exact .inl (.inl h1)
  . exact .inr h1
  exact .inl (.inr h1)
 .
  rw[hm,zu0]
  have h1:((st++[(x,e)]).map Prod.fst++([b]++out)).Perm (b::((st++[(x,e)]).map Prod.fst++out)):=by
   exact List.perm_middle
  rw[h1.nodup_iff,zvd];exact⟨tD,h.nodup⟩
 .
  intro y hy z hz;rw[hY];exact .inl (h.done y hy z hz)
 .
  intro y e' hy;simp only[zta,zt9]at hy;rcases hy with (hy | hy) | hy
  .
   obtain⟨r',h1,h2,h3⟩:=h.part y e' tD
   grind
  .
   cases hy;obtain⟨r',h1,h2,h3⟩:=h.part x e tR;rw[hr]at h1;cases h1;refine⟨r,hr,tO,fun i c hi hc=>?_⟩;rw[hY];by_cases dh:i<e
   . grind
   grind
  cases hy;exact⟨_,zsR (by rw[<- h.len];exact da),zt6 _,fun i c hi=>tO⟩
 .
  intro y hy;rw[hY]at hy;rcases hy with hy | rfl
  . exact h.reach y hy
  exact .step (h.reach x db) hC
 .
  intro l c e' m hl;rcases zuh m with rfl | ⟨m',z,rfl⟩
  .
   have h3:=congrArg List.getLast? hl;have h4:=congrArg List.dropLast hl
   grind
  have h4:=congrArg List.dropLast hl;rw[show l++(c,e')::m'.concat z=(l++(c,e')::m')++[z] from tR]at h4;rw[zu9,zu9]at h4;rcases zuh m' with rfl | ⟨m'',z',rfl⟩
  .
   have h5:=congrArg List.getLast? h4;have h6:=congrArg List.dropLast h4;simp at h5;rw[zu9,zu9]at h6;obtain⟨rfl,rfl⟩:=h5;subst h6;exact h.par st x e [] O
  have h6:=congrArg List.dropLast h4;rw[show l++(c,e')::m''.concat z'=(l++(c,e')::m'')++[z'] from tR]at h6;rw[zu9,zu9]at h6;exact h.par l c e' (m''++[(x,e)]) (by rw[h6];simp)
 .
  intro l c m hl;rcases h.opar l c m hl with h1 | ⟨p,h1,h2⟩
  . exact .inl h1
  refine .inr ⟨p,h1,?_⟩;rw[hm,zta];rcases h2 with h2 | h2
  . exact .inl (.inl h2)
  exact .inr h2
 rcases h.top with⟨h1,_⟩ | ⟨e',m,h1⟩
 . simp at h1
 cases st with
 | nil =>
  simp at h1;exact .inr ⟨e+1,[(b,0)],by simp[h1.1.1]⟩
 | cons a s =>
  simp at h1;exact .inr ⟨e',s++[(x,e+1)]++[(b,0)],by rw[h1.1];simp⟩
structure Order (R:List (List Int)) (root:Nat) (order:List Nat):Prop where
 head:order[0]?=some root
 nodup:order.Nodup
 mem:∀ x,x ∈ order ↔ Reach R root x
 par:∀ (i c:Nat),order[i]?=some c->c ≠ root->∃ j p:Nat,j<i/\order[j]?=some p/\Edge R p c
theorem Inv.finish (h:Inv R root seen [] out):Order R root out.reverse:=by
 obtain⟨l,hl⟩:∃ l,out=l++[root]:=by
  rcases h.top with⟨_,h1⟩ | ⟨e,m,h1⟩
  . exact h1
  cases h1
 refine⟨tD,?_,?_,?_⟩
 .
  have:=h.nodup
  grind
 .
  intro x;rw[List.mem_reverse];have hs:∀ y,seen[y]?=some true ↔ y ∈ out:=fun y=>by rw[h.mark];simp
  constructor
  . intro hx;exact h.reach x ((hs x).2 hx)
  intro hx;induction hx with
  | refl=>rw[hl];simp
  | step _ he ih=>exact(hs _).1 (h.done _ ih _ he)
 intro i c hc db
 have hi:i<out.length:=by
  have:=(zt5.1 hc).1;simpa using this
 rw[zuE hi]at hc;obtain⟨hk,da⟩:=zt5.1 hc
 have hC:out=out.take (out.length - 1 - i)++c::out.drop (out.length - 1 - i+1):=by
  rw[<- da,<- zuc hk,zvz]
 rcases h.opar _ c _ hC with h1 | ⟨p,h1,h2⟩
 . omega
 simp at h2;obtain⟨j,hj,hY⟩:=zv4.1 h2;rw[zuN]at hj;refine⟨i - 1 - j,p,tO,?_,h1⟩;rw[zuE tO];rw[List.getElem_drop]at hY;rw[<- hY];rw[show out.length - 1 - (i - 1 - j)=out.length - 1 - i+1+j from tO];exact zsR _
end
def deg (R:List (List Int)) (x:Nat):Nat:=(R[x]?.getD []).length
def zoi (R:List (List Int)) (seen:List Bool):Nat:=((List.range R.length).map fun x=>if seen[x]?=some false then deg R x+2 else 0).sum
def zo3 (R:List (List Int)) (st:List (Nat × Nat)):Nat:=(st.map fun f=>deg R f.1 - f.2+1).sum
theorem sum_one (f g:Nat->Nat) (b c:Nat):∀ n,b<n->(∀ i,i ≠ b->f i=g i)->f b=g b+c->((List.range n).map f).sum=((List.range n).map g).sum+c
 | 0,h,_,_=>tO
 | n+1,h,h1,h2=>by
  rw[zvn];simp only[zuT,zuV,zuX,List.sum_append,zvx,List.sum_nil];by_cases e:b=n
  .
   subst e;have:(List.range b).map f=(List.range b).map g:=zuU (fun i hi=>h1 i tD)
   grind
  have:=sum_one f g b c n tO h1 h2
  grind
theorem zlb (hl:seen.length=R.length) (hb:seen[b]?=some false):zoi R seen=zoi R (seen.set b true)+(deg R b+2):=by
 have hC:b<seen.length:=(zt5.1 hb).1;refine sum_one _ _ b _ _ tO ?_ ?_
 .
  intro i hi;rw[zuG (fun h=>hi h.symm)]
 rw[zt2 hb,zuH hC,zt1 tR];omega
theorem qR (R:List (List Int)) (st:List (Nat × Nat)) (x e:Nat):zo3 R (st++[(x,e)])=zo3 R st+(deg R x - e+1):=by simp[zo3]
theorem zmb {x:Nat} {r:List Int} (h:R[x]?=some r):deg R x=r.length:=by simp[deg,h]
theorem nodup_le:∀ (n:Nat) (l:List Nat),l.Nodup->(∀ x ∈ l,x<n)->l.length<=n
 | 0,[],_,_=>ztg _
 | 0,x::_,_,h=>absurd (h x (zsV ..)) tO
 | n+1,l,hn,h=>by
  have h1:=nodup_le n (l.erase n) (hn.erase n) (fun x hx=>by
   grind)
  grind
structure Place (n:Nat) (order:List Nat) (pl:List Int):Prop where
 len:pl.length=n
 inn:∀ (i x:Nat),order[i]?=some x->pl[x]?=some (i:Int)
 out:∀ x:Nat,x<n->x ∉ order->pl[x]?=some (-1)
theorem Place.start (n:Nat):Place n [] (List.replicate n (-1)):=⟨tR,fun i x h=>tD,fun x hx _=>tD⟩
theorem Place.step {n:Nat} {order:List Nat} {pl:List Int} {x:Nat} (h:Place n (order.take k) pl) (hn:order.Nodup) (hx:order[k]?=some x) (da:x<n):Place n (order.take (k+1)) (pl.set x (k:Int)):=by
 obtain⟨hk,rfl⟩:=zt5.1 hx
 have db:order[k] ∉ order.take k:=by
  intro hm;obtain⟨j,hj,hC⟩:=zv4.1 hm;rw[ztl]at hj;rw[List.getElem_take]at hC;have:=(List.getElem_inj hn).1 hC;omega
 refine⟨by simp[h.len],?_,?_⟩
 .
  intro i y hy;rw[ztn]at hy;split at hy
  .
   rename_i dg;by_cases hi:i=k
   .
    subst hi;rw[hx]at hy;cases hy;rw[zuH (by rw[h.len];exact da)]
   have hY:(order.take k)[i]?=some y:=by rw[ztn,zt2 tO];exact hy
   have dc:order[k] ≠ y:=fun e=>db (e ▸ zsS hY);rw[zuG dc];exact h.inn i y hY
  cases hy
 intro y hy hm;rw[zvD hk,zta,zt9]at hm;rw[zuG (fun e=>hm (.inr e.symm))];exact h.out y hy (fun h'=>hm (.inl h'))
end Go.GL.Dfs
namespace Go.Proofs.YtckdhgbepmpgiaaGreat
open Go.GL
noncomputable def zaW (f:Fl) (g:List Nd) (s:Sf):List Bool:=(List.range s.of_.length).map fun k:Nat=>@decide (NeedV f g s (k:Int)) (Classical.propDecidable _)
theorem zlc {l:List Bool} (hl:l.length=s.of_.length) (h:∀ k:Nat,k<s.of_.length->(l[k]?=some true ↔ NeedV f g s (k:Int))):l=zaW f g s:=by
 apply zuj;intro k;unfold zaW;rw[zt8];by_cases hk:k<s.of_.length
 .
  rw[zuC hk];have e:=zsR (show k<l.length by omega);have:=h k hk;rw[e]at this ⊢;simp only[zw4,Option.some.injEq]at this ⊢;cases hb:l[k] with
  | true=>rw[hb]at this;exact(@zt3 _ (Classical.propDecidable _) (this.1 rfl)).symm
  | false=>rw[hb]at this;exact(@zt4 _ (Classical.propDecidable _) (fun hn=>tD)).symm
 rw[ztf tO,ztf tD];rfl
theorem zjm (f:Fl) (g:List Nd) (s:Sf):(zaW f g s).length=s.of_.length:=by simp[zaW]
def zcb (x:Sn):List (Int × List Int):=x.phis.map (fun p=>(p.ver,p.args))++if 0<=x.dfn then [(x.dfn,x.uses.map (·.2))] else []
def zkb (t:List (List Int)) (l:List (Int × List Int)):List (List Int):=l.foldl (fun t z=>t.set z.1.toNat z.2) t
theorem zld (l:List (Int × List Int)):∀ t:List (List Int),(zkb t l).length=t.length:=by
 induction l with
 | nil=>exact fun _=>rfl
 | cons z l ih=>intro t;exact(ih _).trans zuS
theorem zbe (t:List (List Int)) (a b:List (Int × List Int)):zkb t (a++b)=zkb (zkb t a) b:=by unfold zkb;rw[zuv]
theorem zmK {l:List (Int × List Int)} (h:∀ z ∈ l,z.1.toNat ≠ k):∀ t,(zkb t l)[k]?=t[k]?:=by
 induction l with
 | nil=>exact fun _=>rfl
 | cons z l ih =>
  intro t;exact(ih (fun y hy=>h y iu) _).trans (zuG (h z (zsV ..)))
theorem zle {l:List (Int × List Int)} (hn:(l.map fun z=>z.1.toNat).Nodup) (hz:z ∈ l):∀ t,z.1.toNat<t.length->(zkb t l)[z.1.toNat]?=some z.2:=by
 induction l with
 | nil=>cases hz
 | cons y l ih =>
  intro t ht;rw[zuV,zvd]at hn;rcases zt7.1 hz with rfl | hz
  . exact(zmK (fun r hr e=>hn.1 (zv6.2 ⟨r,hr,e⟩)) _).trans (zuH ht)
  exact ih hn.2 hz _ tD
theorem zlf {l:List (Int × List Int)} {v:List Int}:∀ {t},(zkb t l)[k]?=some v->t[k]?=some v\/∃ z ∈ l,z.1.toNat=k/\z.2=v:=by
 induction l with
 | nil=>exact fun h=>.inl h
 | cons z l ih =>
  intro t h;rcases ih (t:=t.set z.1.toNat z.2) h with h1 | ⟨y,hy,h1⟩
  .
   rw[zuF]at h1;split at h1
   . grind
   grind
  grind
def zcc (s:Sf) (i:Nat):List (Int × List Int):=(s.nodes.take i).flatMap zcb
def xI (s:Sf) (i:Nat):List (List Int):=zkb (List.replicate s.of_.length []) (zcc s i)
theorem zcT {x:Sn} (h:s.nodes[i]?=some x):zcc s (i+1)=zcc s i++zcb x:=by unfold zcc;rw[ze h,zuq,zut]
theorem zeU (s:Sf) (i:Nat):(xI s i).length=s.of_.length:=by unfold xI;rw[zld,zuR]
def zct (s:Sf) (i:Nat) (x:Sn) (j:Nat):List (List Int):=zkb (xI s i) ((x.phis.take j).map fun p=>(p.ver,p.args))
theorem zhD {x:Sn} (h:x.phis[j]?=some p):zct s i x (j+1)=(zct s i x j).set p.ver.toNat p.args:=by
 unfold zct;rw[ze h,zuT,zbe];rfl
theorem zjn {x:Sn} (h:s.nodes[i]?=some x) (hd:0<=x.dfn):xI s (i+1)=(zct s i x x.phis.length).set x.dfn.toNat (x.uses.map (·.2)):=by
 unfold zct xI;rw[zcT h,zbe,zsW];unfold zcb;rw[zt2 hd,zbe];rfl
theorem zdI {x:Sn} (h:s.nodes[i]?=some x) (hd:¬ 0<=x.dfn):xI s (i+1)=zct s i x x.phis.length:=by
 unfold zct xI;rw[zcT h,zbe,zsW];unfold zcb
 grind
theorem zlg (hl:s.nodes.length=g.length):s.nodes=(List.range g.length).map (zh s):=by
 apply zuj;intro k;rw[zt8];by_cases hk:k<g.length
 .
  rw[zuC hk,zsR (show k<s.nodes.length by omega)];simp only[zw4];rw[yC (zsR (show k<s.nodes.length by omega))]
 rw[ztf tO,ztf tD];rfl
theorem zcU (hl:s.nodes.length=g.length):s.nodes.take g.length=(List.range g.length).map (zh s):=(zvB tO).trans (zlg hl)
section
variable {rd:Nat->List Int}
theorem FormF.dfn (h:FormF f g s rd) {n:Nat} (hn:n<g.length):(0<=(zh s n).dfn ↔ 0<=zO f g n):=by
 have hx:=h.at hn;constructor
 .
  intro h1;by_cases h2:0<=zO f g n
  . exact h2
  have:=hx.no tO;omega
 exact fun h1=>(hx.yes h1).1
theorem zcd (h:FormF f g s rd):((zcc s g.length).map (·.1))=xU f g s:=by
 unfold zcc xU;rw[zcU h.len,zus,List.map_flatMap];rw[List.flatMap_def,List.flatMap_def];congr 1;refine zuU fun n hn=>?_;have hd:=h.dfn (zva.1 hn);unfold zcb dfL;rw[zuT,zuW];congr 1;by_cases h1:0<=zO f g n
 . grind
 grind
theorem zfI (h:FormF f g s rd):(xU f g s).Nodup:=by
 rw[List.nodup_iff_count];intro a;by_cases ha:a ∈ xU f g s
 .
  obtain⟨h2,h3⟩:=xH h ha;obtain⟨k,rfl⟩:=ztN (show 0<=a by omega);have:=h.one k tO tO;omega
 grind
theorem zhE (h:FormF f g s rd):((zcc s g.length).map fun z=>z.1.toNat).Nodup:=by
 rw[show ((zcc s g.length).map fun z=>z.1.toNat)=((zcc s g.length).map (·.1)).map Int.toNat by rw[zuW];rfl,zcd h];refine List.Pairwise.map _ (fun a b hC=>hC) (List.Pairwise.imp_of_mem (fun {a b} ha hb hC e=>?_) (zfI h));have h2:=(xH h ha).1;have h3:=(xH h hb).1;exact hC tO
theorem zgG (h:FormF f g s rd):z ∈ zcc s g.length ↔ ∃ n,n<g.length/\z ∈ zcb (zh s n):=by
 unfold zcc;rw[zcU h.len,zus,zv3];constructor
 . rintro⟨n,hn,hz⟩;exact⟨n,zva.1 hn,hz⟩
 rintro⟨n,hn,hz⟩;exact⟨n,zva.2 hn,hz⟩
theorem zgH (h:FormF f g s rd) {n:Nat} (hn:n<g.length) (hz:z ∈ zcb (zh s n)):(xI s g.length)[z.1.toNat]?=some z.2:=by
 have hm:=(zgG h).2 ⟨n,hn,hz⟩;have hk:z.1 ∈ xU f g s:=by rw[<- zcd h];exact zv6.2 ⟨z,hm,rfl⟩
 have:=xH h hk;exact zle (zhE h) hm _ tD
theorem zlh (h:FormF f g s rd) (hk:(xI s g.length)[k]?=some l):l=[]\/∃ n,n<g.length/\∃ z ∈ zcb (zh s n),z.1=(k:Int)/\z.2=l:=by
 rcases zlf hk with h1 | ⟨z,hz,h1,h2⟩
 .
  rw[zuD]at h1;split at h1
  . grind
  cases h1
 obtain⟨n,hn,hY⟩:=(zgG h).1 hz;have hC:z.1 ∈ xU f g s:=by rw[<- zcd h];exact zv6.2 ⟨z,hz,rfl⟩
 have:=xH h hC
 grind
theorem zmc (h:FormF f g s rd) {n:Nat} (hn:n<g.length) (hu:u ∈ (zh s n).uses):∃ q:Nat,u.2=(q:Int)/\q<s.of_.length:=qQ ((h.at hn).ver u hu)
theorem znM (h:FormF f g s rd) {n:Nat} (hn:n<g.length) (hp:p ∈ (zh s n).phis) (ha:a ∈ p.args):∃ q:Nat,a=(q:Int)/\q<s.of_.length:=qQ ((h.at hn).phi.args p hp a ha)
theorem zhF (h:FormF f g s rd) (hk:(xI s g.length)[k]?=some l) (hN:NeedV f g s (k:Int)) (ha:a ∈ l):NeedV f g s a/\∃ q:Nat,a=(q:Int)/\q<s.of_.length:=by
 rcases zlh h hk with rfl | ⟨n,hn,z,hz,h1,rfl⟩
 . cases ha
 unfold zcb at hz;rcases zta.1 hz with hz | hz
 .
  obtain⟨p,hp,rfl⟩:=zv6.1 hz;exact⟨.arg hn hp tD ha,znM h hn hp ha⟩
 split at hz
 .
  rename_i hd;rw[zt9]at hz;subst hz;obtain⟨u,hu,rfl⟩:=zv6.1 ha;exact⟨.use hn hd tD hu,zmc h hn hu⟩
 cases hz
noncomputable def yx (f:Fl) (g:List Nd) (s:Sf) (i:Nat):List Int:=(List.range i).flatMap fun n=>if kf f g s n=true then (zh s n).uses.map (·.2) else []
theorem jJ (h:kf f g s i=true):yx f g s (i+1)=yx f g s i++(zh s i).uses.map (·.2):=by unfold yx;rw[zvn,zuq,zut,zt2 h]
theorem zak (h:¬ kf f g s i=true):yx f g s (i+1)=yx f g s i:=by unfold yx;rw[zvn,zuq,zut,zt1 h,zu1]
theorem zjo (i:Nat):(yx f g s i).length<=((s.nodes.take i).map fun x=>x.uses.length).sum:=by
 induction i with
 | zero=>simp[yx]
 | succ i ih =>
  by_cases hi:i<s.nodes.length
  .
   have e:=zsR hi;rw[ze e,zuT,List.sum_append];by_cases h:kf f g s i=true
   . rw[jJ h,zsZ,yC e];simp only[zuV,zuX,zvx,List.sum_nil,ztb];omega
   rw[zak h];simp only[zuV,zuX,zvx,List.sum_nil];omega
  rw[zvB tO];rw[zvB tO]at ih
  have:yx f g s (i+1)=yx f g s i:=by
   by_cases h:kf f g s i=true
   . rw[jJ h,zcK hi];simp
   exact zak h
  rw[this];exact ih
theorem zli (h:i<=m):(yx f g s i).length<=(yx f g s m).length:=by
 induction m with
 | zero =>
  obtain rfl:i=0:=tO;exact ztg _
 | succ m ih =>
  by_cases e:i=m+1
  . grind
  refine zsX (ih tO) ?_;by_cases hs:kf f g s m=true
  . rw[jJ hs,zsZ];omega
  rw[zak hs];exact ztg _
structure WkN (f:Fl) (g:List Nd) (s:Sf) (nl:List Bool) (wl:List Int):Prop where
 len:nl.length=s.of_.length
 snd:∀ k:Nat,nl[k]?=some true->NeedV f g s (k:Int)
 wrk:∀ v ∈ wl,NeedV f g s v/\∃ q:Nat,v=(q:Int)/\q<s.of_.length
 sink:∀ n,n<g.length->kf f g s n=true->∀ u ∈ (zh s n).uses,nl[u.2.toNat]?=some true\/u.2 ∈ wl
 cls:∀ k:Nat,nl[k]?=some true->∀ l,(xI s g.length)[k]?=some l->∀ a ∈ l,nl[a.toNat]?=some true\/a ∈ wl
theorem WkN.start (h:FormF f g s rd):WkN f g s (List.replicate s.of_.length false) (yx f g s g.length):=by
 have hC:∀ k:Nat,(List.replicate s.of_.length false)[k]? ≠ some true:=fun k e=>by
  grind
 refine⟨tR,fun k e=>absurd e (hC k),fun v hv=>?_,fun n hn hs u hu=>.inr ?_,fun k e=>absurd e (hC k)⟩
 .
  unfold yx at hv;obtain⟨n,hn,hv⟩:=zv3.1 hv;have hn:=zva.1 hn;split at hv
  .
   rename_i hs;obtain⟨u,hu,rfl⟩:=zv6.1 hv;exact⟨.sink hn hs hu,zmc h hn hu⟩
  cases hv
 unfold yx
 grind
theorem WkN.skip {v:Nat} (h:WkN f g s nl (wl++[(v:Int)])) (hv:nl[v]?=some true):WkN f g s nl wl:=by
 have key:∀ a:Int,nl[a.toNat]?=some true\/a ∈ wl++[(v:Int)]->nl[a.toNat]?=some true\/a ∈ wl:=fun a ha=>by
  grind
 exact⟨h.len,h.snd,fun x hx=>h.wrk x (zv0 _ hx),fun n hn hs u hu=>key _ (h.sink n hn hs u hu),fun k hk l hl a ha=>key _ (h.cls k hk l hl a ha)⟩
theorem WkN.take (hF:FormF f g s rd) {v:Nat} (h:WkN f g s nl (wl++[(v:Int)])) (hl:(xI s g.length)[v]?=some l):WkN f g s (nl.set v true) (wl++l):=by
 obtain⟨hN,q,hq,hC⟩:=h.wrk v tR;obtain rfl:v=q:=tO;have da:v<nl.length:=by rw[h.len];exact hC
 have hset:∀ k:Nat,(nl.set v true)[k]?=some true ↔ nl[k]?=some true\/k=v:=fun k=>by
  by_cases e:k=v
  . grind
  rw[zuG (fun h=>e h.symm)];simp[e]
 have key:∀ a:Int,nl[a.toNat]?=some true\/a ∈ wl++[(v:Int)]->(nl.set v true)[a.toNat]?=some true\/a ∈ wl++l:=fun a ha=>by
  grind
 refine⟨by rw[zuS,h.len],fun k hk=>?_,fun x hx=>?_,fun n hn hs u hu=>key _ (h.sink n hn hs u hu),fun k hk l' hY a ha=>?_⟩
 .
  rcases (hset k).1 hk with h1 | rfl
  . exact h.snd k h1
  exact hN
 .
  rcases zta.1 hx with hx | hx
  . exact h.wrk x (zv0 _ hx)
  exact zhF hF hl hN hx
 rcases (hset k).1 hk with h1 | rfl
 . exact key _ (h.cls k h1 l' hY a ha)
 grind
theorem WkN.fin (hF:FormF f g s rd) (h:WkN f g s nl []):nl=zaW f g s:=by
 refine zlc h.len fun k hk=>⟨h.snd k,fun hN=>?_⟩;have hC:nl[((k:Nat):Int).toNat]?=some true:=NeedV.all (P:=fun a=>nl[a.toNat]?=some true) f g s (fun n hn hs u hu=>(h.sink n hn hs u hu).resolve_right tR) (fun n hn hd hP u hu=>?_) (fun n hn p hp hP a ha=>?_) hN
 . grind
 . exact(h.cls _ hP _ (zgH hF hn (z:=((zh s n).dfn,(zh s n).uses.map (·.2))) (by unfold zcb;rw[zt2 hd];simp)) _ (zv6.2 ⟨u,hu,rfl⟩)).resolve_right tR
 exact(h.cls _ hP _ (zgH hF hn (z:=(p.ver,p.args)) (by unfold zcb;exact zv0 _ (zv6.2 ⟨p,hp,rfl⟩))) _ ha).resolve_right tR
def muN (s:Sf) (m:Nat) (nl:List Bool):Nat:=((List.range s.of_.length).map fun k=>if nl[k]?=some true then 0 else ((xI s m)[k]?.getD []).length+1).sum
theorem zmL {v:Nat} (hl:(xI s m)[v]?=some l) (hv:nl[v]? ≠ some true) (hC:v<nl.length):muN s m nl=muN s m (nl.set v true)+(l.length+1):=by
 have hY:v<s.of_.length:=by rw[<- zeU s m];exact(zt5.1 hl).1
 unfold muN;refine Dfs.sum_one _ _ v _ s.of_.length hY (fun i hi=>?_) ?_
 . rw[zuG (fun e=>hi e.symm)]
 rw[zt1 hv,zuH hC,zt2 rfl,hl,zw0];omega
end
end Go.Proofs.YtckdhgbepmpgiaaGreat
namespace Go.GL
def Held (E:Hp) (w:World):Prop:=(∀ x ∈ E,x.2.holds w/\x.2.loc/\(∀ b,¬ x.2.fz b)/\∀ q,x.2.S q->q<w.heap.size)/\E.Pairwise (fun x y=>∀ q,x.2.S q->¬ y.2.S q)
structure GBack (E E':Hp) (w w':World):Prop where
 keep:Keep (HS E) w w'
 held:Held E' w'
 new:∀ x ∈ E',∀ q,x.2.S q->HS E q\/w.heap.size<=q
def HE.nz:HE->Bool
 | .fro ..=>false
 | .dat ..=>false
 | _=>true
theorem zsf {e:HE} (h:e.nz=true):∀ b,¬ e.fz b:=by
 cases e with
 | fro b o cs=>cases h
 | dat F p=>cases h
 | _=>exact fun _ h=>h
theorem VI.held (hI:VI Bs H w) (hE:E.map (fun x=>hget H x.1)=E.map (fun x=>some x.2)) (hu:xX (E.map (·.1))=true) (hz:E.all (fun x=>x.2.nz)=true):Held E w:=by
 have h:=hI.pick (Has.of hE) hu;exact⟨fun x hx=>⟨h.holds x hx,h.loc x hx,zsf (ztX.1 hz x hx),h.low x hx⟩,h.apart⟩
theorem VI.back (hI:VI Bs H w) (j:Nat) (hj:Bs[j]?=some (w0,HS E)) (hE:E'.map (fun x=>hget H x.1)=E'.map (fun x=>some x.2)) (hu:xX (E'.map (·.1))=true) (hz:E'.all (fun x=>x.2.nz)=true):GBack E E' w0 w:=by
 have hb:=zsS hj;exact⟨(hI.base _ hb).1,hI.held hE hu hz,fun x hx q hq=>((hI.pick (Has.of hE) hu).base _ hb).2 x hx q hq⟩
theorem VI.back0 (hI:VI Bs H w) (j:Nat) (hj:Bs[j]?=some (w0,fun _=>False)) (hE:E'.map (fun x=>hget H x.1)=E'.map (fun x=>some x.2)) (hu:xX (E'.map (·.1))=true) (hz:E'.all (fun x=>x.2.nz)=true):GBack [] E' w0 w:=by
 have hb:=zsS hj;exact⟨(hI.base _ hb).1.mono fun q _ h=>h.elim,hI.held hE hu hz,fun x hx q hq=>.inr ((((hI.pick (Has.of hE) hu).base _ hb).2 x hx q hq).resolve_left fun h=>h)⟩
theorem znN {ks:List Nat} (hE:E.map (fun x=>hget H x.1)=E.map (fun x=>some x.2)) (hk:E.all (fun x=>zgZ x.1 ks)=true) (hq:HS E q):InS H ks q:=by
 obtain⟨x,hx,hs⟩:=hq;exact⟨x,zl (Has.of hE x hx),ztX.1 hk x hx,hs⟩
theorem zfJ (hE:E.map (fun x=>hget H x.1)=E.map (fun x=>some x.2)) (hq:HS E q):HS H q:=by
 obtain⟨x,hx,hs⟩:=hq;exact⟨_,zl (Has.of hE x hx),hs⟩
theorem xc {f:FuncId} {ks:List Nat} {E':α->Hp} {Φ:Value->α->Prop} (hE:E.map (fun x=>hget H x.1)=E.map (fun x=>some x.2)) (hk:E.all (fun x=>zgZ x.1 ks)=true) (h:Calls P f args w (Ret fun r w'=>∃ x,Φ r x/\GBack E (E' x) w w')):Calls P f args w (Ret fun r w'=>∃ x,Φ r x/\Hands H ks (E' x) w w'):=by
 refine Calls.mono h ?_;rintro e' w' ⟨r,rfl,x,h1,h2⟩;exact⟨r,rfl,x,h1,h2.keep.mono fun q _ hq=>znN hE hk hq,fun y hy=>⟨(h2.held.1 y hy).1,(h2.held.1 y hy).2.1,(h2.held.1 y hy).2.2.1,fun q hq=>⟨(h2.new y hy q hq).imp (znN hE hk) id,(h2.held.1 y hy).2.2.2 q hq⟩⟩,h2.held.2⟩
theorem VI.offE (hI:VI Bs H w) (j:Nat) (hj:Bs[j]?=some (w0,HS E)) (hE:E'.map (fun x=>hget H x.1)=E'.map (fun x=>some x.2)) (hD:∀ q,D q->q<w0.heap.size) (ho:∀ q,HS E q->¬ D q):∀ q,HS E' q->¬ D q:=by
 rintro q ⟨x,hx,hq⟩ hd;rcases (hI.base _ (zsS hj)).2 _ (zl (Has.of hE x hx)) q hq with h1 | h1
 . grind
 grind
def rho:List (Nat × Nat)->Nat->Nat
 | [],k=>k
 | (a,b)::r,k=>cond (Nat.beq a k) b (rho r k)
def zmd (ρ:List (Nat × Nat)):Hp->Hp
 | []=>[]
 | x::r=>(rho ρ x.1,x.2)::zmd ρ r
theorem zfK (ρ:List (Nat × Nat)):∀ H:Hp,zmd ρ H=H.map fun x=>(rho ρ x.1,x.2)
 | []=>rfl
 | x::r=>by rw[zmd,zfK ρ r];rfl
theorem VI.ren (ρ:List (Nat × Nat)) (h:VI Bs H w):VI Bs (zmd ρ H) w:=by
 have hm:∀ x ∈ zmd ρ H,∃ y ∈ H,y.2=x.2:=fun x hx=>by
  rw[zfK]at hx
  grind
 refine⟨fun x hx=>?_,fun x hx=>?_,?_,fun x hx y hy=>?_,fun x hx=>?_,fun p hp=>⟨(h.base p hp).1,fun x hx=>?_⟩⟩
 . obtain⟨y,hy,e⟩:=hm x hx;rw[<- e];exact h.holds y hy
 . obtain⟨y,hy,e⟩:=hm x hx;rw[<- e];exact h.loc y hy
 . rw[zfK];exact List.Pairwise.map _ (fun _ _ h=>h) h.apart
 . obtain⟨x',hC,e⟩:=hm x hx;obtain⟨y',hY,e'⟩:=hm y hy;rw[<- e,<- e'];exact h.froz x' hC y' hY
 . obtain⟨y,hy,e⟩:=hm x hx;rw[<- e];exact h.low y hy
 obtain⟨y,hy,e⟩:=hm x hx;rw[<- e];exact(h.base p hp).2 y hy
section
variable {n:Fm} {Q:Exit->Act->World->Prop} {ks:List Fr} {pos:Pos}
theorem V.ren (ρ:List (Nat × Nat)) (A1:Tgs) (hC:A1.map (fun p=>zd7 env p.1)=A1.map (fun p=>jw (zmd ρ H) p.2)) (hY:A1.all (fun p=>(jw (zmd ρ H) p.2).isSome)=true) (h:V P n Q ks pos env A1 (zmd ρ H) Bs):V P n Q ks pos env A H Bs :=
 fun _ w hI=>h (TgOk.of hC hY) w (hI.ren ρ)
theorem zsg (k1 k2:Nat) {F1 F2:Nat->Prop} {p1 p2:World->Prop} (hn:(hget H k1,hget H k2)=(some (.dat F1 p1),some (.dat F2 p2))) (h:∀ w,p1 w->p2 w->(∀ b,F1 b\/F2 b->b<w.heap.size)->(∀ b,HS H b->¬ F1 b)->(∀ b,HS H b->¬ F2 b)->V P n Q ks pos env A H ((w,HS H)::Bs)):V P n Q ks pos env A H Bs:=by
 simp only[Prod.mk.injEq]at hn;intro hA w hI;have h1:=hI.at k1 hn.1;have h2:=hI.at k2 hn.2;exact h w h1.1 h2.1 (fun b hb=>hb.elim (h1.2 b) (h2.2 b)) (fun b hb hF=>hI.offF k1 hn.1 b hF hb) (fun b hb hF=>hI.offF k2 hn.2 b hF hb) hA w hI.here
end
def AllR {α:Type} (R:Rel α) (D:Nat->Prop) (w:World):List α->List (List Value)->Prop
 | [],[]=>True
 | x::l,c::cs=>R D w x c/\AllR R D w l cs
 | _,_=>False
theorem AllR.at {α:Type} {R:Rel α} {D:Nat->Prop} {w:World}:∀ {l:List α} {cs:List (List Value)},AllR R D w l cs->∀ {i:Nat} {x:α},l[i]?=some x->∃ c,cs[i]?=some c/\R D w x c
 | [],[],_,i,x,h=>tD
 | y::l,c::cs,h,0,x,hx=>by simp at hx;subst hx;exact⟨c,rfl,h.1⟩
 | y::l,c::cs,h,i+1,x,hx=>by
  obtain⟨c',h1,h2⟩:=AllR.at h.2 (i:=i) (x:=x) tD
  grind
 | [],_::_,h,_,_,_=>h.elim
 | _::_,[],h,_,_,_=>h.elim
theorem zgI {k:Nat}:∀ {cs:List (List Value)} {i j:Nat} {c:List Value} {u:Value},(∀ c ∈ cs,c.length=k)->cs[i]?=some c->c[j]?=some u->cs.flatten[i*k+j]?=some u
 | [],i,j,c,u,_,h,_=>tD
 | y::cs,0,j,c,u,hk,h,hu=>by
  simp at h;subst h;rw[Nat.zero_mul,zvY,zuu,zth (zt5.1 hu).1];exact hu
 | y::cs,i+1,j,c,u,hk,h,hu=>by
  have hy:=hk y (zsV ..);rw[zuu,zvX,zti tO,show i*k+k+j - y.length=i*k+j by omega];exact zgI (fun c hc=>hk c (zsU _ hc)) tD hu
theorem zsh {R:Rel α} {l:List α} (cs:List (List Value)) (hb:Blk w b cs.flatten e) (hD:D b) (hk:∀ c ∈ cs,c.length=k) (hm:l.length<=9223372036854775807) (h:AllR R D w l cs):SlR k R D w (.slice (some ⟨b,0,none⟩) l.length l.length) l :=
 zpI hb hD rfl (ztg _) hm fun i x hx=>by
  obtain⟨c,h1,h2⟩:=h.at hx;exact⟨c,hk c (zsS h1),fun j u hu=>zgI hk h1 hu,h2⟩
section
variable {fn:Func} {R:Ending->World->Prop} {n:Nat}
theorem zsi {s p:Tmp} {t1 t2:TypeId} {k1 o1 k2 o2 z1 z2:Nat} {c1 c2 l1 l2:List Value} (h:fn.results=#[.cell s t1,.cell p t2]) (hC:∀ w,(isAgg t1).run P w=.ok true w) (hY:∀ w,(isAgg t2).run P w=.ok true w) (da:∀ w,(sizeOf t1).run P w=.ok z1 w) (db:∀ w,(sizeOf t2).run P w=.ok z2 w) (dc:tgt A s=some (k1,o1)) (dg:tgt A p=some (k2,o2)) (dh:cellAt H k1=some c1) (dl:cellAt H k2=some c2) (dm:zlY z1 o1 c1=some l1) (dr:zlY z2 o2 c2=some l2)
  (hR:∀ w,VI Bs H w->R (.returned (.tuple #[.agg l1.toArray,.agg l2.toArray])) w):V P n (bodyPost P fn R) [] (.e .ret) env A H Bs:=fun hA w hw=>by
 obtain⟨a1,h1,h2⟩:=zb1 hA hw dc dh dm hC da;obtain⟨a2,h3,h4⟩:=zb1 hA hw dg dl dr hY db;intro a' ha;have g1:=ha.get s _ h1;have g2:=ha.get p _ h3;refine bodyPost_ret (v:=.tuple #[.agg l1.toArray,.agg l2.toArray]) ?_ ha.defs (hR w hw);simp[results,h,g1,g2,asAddr,h2,h4]
end
end Go.GL
namespace Go.Proofs.YtckdhgbepmpgiaaGreat
open Go.GL
abbrev B22:=Nat × Nat × Nat × Nat × Nat × Nat × Nat × Nat × Nat × Nat
abbrev zhG (bv bb b4 bo b9 bf ba bp bu bn:Nat) (ph:Value) (u:Int):Hp:=[
 (906,.own bv [.string ⟨#[120]⟩,.int .i64 1,.int .i64 0,.int .i64 1,.int .i64 0,.string ⟨#[121]⟩,.int .i64 0,.int .i64 0,.int .i64 1,.int .i64 0] 142),
 (910,.own bb [.int .i64 0,.int .i64 0,.int .i64 1,.int .i64 0,.int .i64 0,.int .i64 1,.slice none 0 0,.slice none 0 0,.slice none 0 0,.slice none 0 0] 72),
 (914,.own b4 [.int .i64 3,.int .i64 0,.int .i64 0,.int .i64 0,.int .i64 24,.int .i64 0,.slice none 0 0,.slice (some ⟨bb,0,none⟩) 1 1,.slice none 0 0,.slice none 0 0,.int .i64 1,.int .i64 0,.int .i64 0,.int .i64 0,.int .i64 24,.int .i64 1,.slice none 0 0,.slice none 0 0,.slice none 0 0,.slice none 0 0] 72),
 (916,.own bo [.int .i64 0,.int .i64 1,.int .i64 1,.int .i64 1] 3),
 (919,.own b9 [.int .i64 0,.int .i64 0] 85),
 (922,.own bf [.int .i64 1,.int .i64 2] 3),
 (923,.own ba [.int .i64 1,.int .i64 2] 3),
 (925,.own bp [.int .i64 1,.int .i64 3,.slice (some ⟨bf,0,none⟩) 2 2,.slice (some ⟨ba,0,none⟩) 2 2] 88),
 (927,.own bu [.int .i64 1,.int .i64 u] 85),
 (930,.own bn [.slice none 0 0,.slice none 0 0,.int .i64 (-1),.slice none 0 0,.slice (some ⟨b9,0,none⟩) 1 1,.int .i64 (-1),.slice none 0 0,.slice none 0 0,.int .i64 2,ph,.slice (some ⟨bu,0,none⟩) 1 1,.int .i64 (-1),.slice none 0 0,.slice none 0 0,.int .i64 (-1)] 59)]
theorem zeV (W:World):Calls prog 31 #[] W (Ret fun r w'=>∃ b:B22,r=.tuple #[.agg #[.slice (some ⟨b.1,0,none⟩) 2 2,.slice none 0 0,.slice (some ⟨b.2.2.1,0,none⟩) 2 2],.agg #[.slice (some ⟨b.2.2.2.1,0,none⟩) 4 4,.slice (some ⟨b.2.2.2.2.2.2.2.2.2,0,none⟩) 5 5]]/\GBack [] (zhG b.1 b.2.1 b.2.2.1 b.2.2.2.1 b.2.2.2.2.1 b.2.2.2.2.2.1 b.2.2.2.2.2.2.1 b.2.2.2.2.2.2.2.1 b.2.2.2.2.2.2.2.2.1 b.2.2.2.2.2.2.2.2.2 (.slice (some ⟨b.2.2.2.2.2.2.2.1,0,none⟩) 1 1) 3) W w'):=by
 refine zqp func31 O ntmps31 (V.inn (Vs 2 O (V.alloc 0 tz26 O O (fun b0=>?_))));refine V.alloc 1 tz30 O O (fun b1=>(Vs 4 O (zru [Value.string { data:=#[] },Value.int IntKind.i64 0,Value.int IntKind.i64 0,Value.int IntKind.i64 0,Value.int IntKind.i64 0] [(0,1),(1,1),(2,1),(3,1),(4,1)] [(0,_),(1,_),(3,_)] O O (fun _=>tK) (zru [Value.string { data:=#[] },Value.int IntKind.i64 0,Value.int IntKind.i64 0,Value.int IntKind.i64 0,Value.int IntKind.i64 0] [(0,1),(1,1),(2,1),(3,1),(4,1)] [(0,_),(3,_)] O O (fun _=>tK) (zro 6 [(0,_),(1,_)] tR22 ts142 tz142 tS O O tK (fun b6=>?_))))));refine zru [Value.int IntKind.i64 0,Value.int IntKind.i64 0,Value.slice none 0 0] [(0,1),(1,1),(2,1)] [(0,_)] O O (fun _=>tK) (zru [Value.int IntKind.i64 0,Value.int IntKind.i64 0,Value.slice none 0 0] [(0,1),(1,1),(2,1)] [(1,_)] O O (fun _=>tK) (zru [Value.int IntKind.i64 0,Value.int IntKind.i64 0,Value.int IntKind.i64 0,Value.int IntKind.i64 0,Value.int IntKind.i64 0,Value.int IntKind.i64 0,Value.slice none 0 0,Value.slice none 0 0,Value.slice none 0 0,Value.slice none 0 0] [(0,1),(1,1),(2,1),(3,1),(4,3),(7,1),(8,1),(9,1)] [(0,_),(2,_),(4,_)] O O (fun _=>tK) ?_));refine zro 10 [(0,_)] tR24 ts72 tz72 tS O O tK (fun b10=>(zru [Value.int IntKind.i64 0,Value.int IntKind.i64 0,Value.int IntKind.i64 0,Value.int IntKind.i64 0,Value.int IntKind.i64 0,Value.int IntKind.i64 0,Value.slice none 0 0,Value.slice none 0 0,Value.slice none 0 0,Value.slice none 0 0] [(0,1),(1,1),(2,1),(3,1),(4,3),(7,1),(8,1),(9,1)] [(0,_),(4,_),(5,_)] O O (fun _=>tK) (zru [Value.int IntKind.i64 0,Value.int IntKind.i64 0,Value.slice none 0 0] [(0,1),(1,1),(2,1)] [(0,_),(1,_)] O O (fun _=>tK) ?_)));refine zru [Value.int IntKind.i64 0,Value.int IntKind.i64 0,Value.int IntKind.i64 0,Value.int IntKind.i64 0,Value.int IntKind.i64 0,Value.int IntKind.i64 0,Value.slice none 0 0,Value.slice none 0 0,Value.slice none 0 0,Value.slice none 0 0] [(0,1),(1,1),(2,1),(3,1),(4,3),(7,1),(8,1),(9,1)] [(0,_),(4,_)] O O (fun _=>tK) (zro 14 [(0,_),(1,_)] tR24 ts72 tz72 tS O O tK (fun b14=>?_));refine zru [Value.slice none 0 0,Value.slice none 0 0,Value.slice none 0 0] [(0,1),(1,1),(2,1)] [(0,_),(2,_)] O O (fun _=>tK) (V.alloc 2 tz26 O O (fun b2=>?_));refine Vs 5 O (zro 16 [(0,_),(1,_),(2,_),(3,_)] tR27 ts3 tz3 tS O O tK (fun b16=>?_));refine zru [Value.slice none 0 0,Value.slice none 0 0,Value.int IntKind.i64 0] [(0,1),(1,1),(2,1)] [(2,_)] O O (fun _=>tK) (zru [Value.int IntKind.i64 0,Value.int IntKind.i64 0] [(0,1),(1,1)] [(0,_),(1,_)] O O (fun _=>tK) (zro 19 [(0,_)] tR57 ts85 tz85 tS O O tK (fun b19=>?_)));refine zru [Value.slice none 0 0,Value.slice none 0 0,Value.int IntKind.i64 0] [(0,1),(1,1),(2,1)] [(1,_),(2,_)] O O (fun _=>tK) (zru [Value.slice none 0 0,Value.slice none 0 0,Value.int IntKind.i64 0] [(0,1),(1,1),(2,1)] [(2,_)] O O (fun _=>tK) (zro 22 [(0,_),(1,_)] tR27 ts3 tz3 tS O O tK (fun b22=>?_)));refine zro 23 [(0,_),(1,_)] tR27 ts3 tz3 tS O O tK (fun b23=>(zru [Value.int IntKind.i64 0,Value.int IntKind.i64 0,Value.slice none 0 0,Value.slice none 0 0] [(0,1),(1,1),(2,1),(3,1)] [(0,_),(1,_),(2,_),(3,_)] O O (fun _=>tK) (zro 25 [(0,_)] tR56 ts88 tz88 tS O O tK (fun b25=>?_))));refine zru [Value.int IntKind.i64 0,Value.int IntKind.i64 0] [(0,1),(1,1)] [(0,_),(1,_)] O O (fun _=>tK) (zro 27 [(0,_)] tR57 ts85 tz85 tS O O tK (fun b27=>?_));refine zru [Value.slice none 0 0,Value.slice none 0 0,Value.int IntKind.i64 0] [(0,1),(1,1),(2,1)] [(0,_),(1,_),(2,_)] O O (fun _=>tK) (zru [Value.slice none 0 0,Value.slice none 0 0,Value.int IntKind.i64 0] [(0,1),(1,1),(2,1)] [(2,_)] O O (fun _=>tK) (zro 30 [(0,_),(1,_),(2,_),(3,_),(4,_)] tR28 ts59 tz59 tS O O tK (fun b30=>?_)));refine zru [Value.slice none 0 0,Value.slice none 0 0] [(0,1),(1,1)] [(0,_),(1,_)] O O (fun _=>tK) (V.alloc 3 tz30 O O (fun b3=>?_));refine Vs 4 O (V.ren [(6,906),(10,910),(14,914),(16,916),(19,919),(22,922),(23,923),(25,925),(27,927),(30,930)] [(0,some (0,0)),(1,some (1,0)),(2,some (2,0)),(3,some (3,0))] O O (Vw [1,906,910,914,2,916,919,922,923,925,927,930,3] [3] O (Vd [0,1] 0 tK O O O (Ve 2 0 O tK O O O (Vl 3 O tK O (VDx.done tK (Vs 2 O (zsi results31 tg26 tg30 ts26 ts30 O O O O O O (fun w hI=>⟨_,rfl,(b6,b10,b14,b16,b19,b22,b23,b25,b27,b30),rfl,hI.back0 0 O O O rfl⟩)))))))))
theorem zeW (f:Fl) (v1 v2 v3:Value) (D:Nat->Prop) (W:World) (hf:RFl D W f v1 v2 v3) (hC:ssize f.body<=10000) :
  Calls prog 14 #[.agg #[v1,v2,v3]] W (Ret fun r w'=>(∃ nv,r=.agg #[nv]/\SlR 4 RNd (fun b=>W.heap.size<=b) w' nv (zd f))/\Ext W w'):=by
 refine zqq func14 O ntmps14 O (V.inn (Vs 2 O (V.box 1 O O (fun b1=>?_))));refine V.alloc 2 tz36 O O (fun b2=>(Vs 5 O (zr4 call33 O (fun w hI=>zfG f v1 v2 v3 D w Jp hC) ?_)));rintro rr w1 w2 hY da ⟨nv,rfl,hnv⟩ db;have dc:W.heap.size<=w1.heap.size:=hY.k0.size;obtain⟨an,cn,rfl⟩:=hnv.form;refine Vs 4 O (zp4 results14 tg36 ts36 O O O (fun w hI=>⟨_,rfl,⟨_,rfl,(hnv.keep zC hI.k0 fun b hb _ hs=>tD).wide zC fun b hb=>tO⟩,hI.k1⟩))
section
variable {bv bb b4 bo b9 bf ba bp bu bn:Nat} {ph:Value} {u:Int}
theorem zal (hE:∀ x ∈ zhG bv bb b4 bo b9 bf ba bp bu bn ph u,x.2.holds w) (hD:∀ q,q<w.heap.size->D q):RFl D w exF22 (.slice (some ⟨bv,0,none⟩) 2 2) (.slice none 0 0) (.slice (some ⟨b4,0,none⟩) 2 2):=by
 have h1:=hE _ (zsV ..);replace h1:Blk w bv _ 142:=h1;have h2:=hE _ (zsU _ (zsV ..));replace h2:Blk w bb _ 72:=h2;have h3:=hE _ (zsU _ (zsU _ (zsV ..)));replace h3:Blk w b4 _ 72:=h3;have kA:SlR 10 RSt D w (.slice (some ⟨bb,0,none⟩) 1 1) [zla]:=zsh (R:=RSt) (l:=[zla]) [[.int .i64 0,.int .i64 0,.int .i64 1,.int .i64 0,.int .i64 0,.int .i64 1,.slice none 0 0,.slice none 0 0,.slice none 0 0,.slice none 0 0]] h2 (hD _ h2.lt) (fun c hc=>by rw[zt9]at hc;subst hc;rfl) tS ⟨RSt.put (s:=zla) SlR.nil SlR.nil SlR.nil SlR.nil,trivial⟩;refine⟨?_,SlR.nil,?_⟩
 . exact zsh (R:=RVr) (l:=exF22.vars)  [[.string ⟨#[120]⟩,.int .i64 1,.int .i64 0,.int .i64 1,.int .i64 0],[.string ⟨#[121]⟩,.int .i64 0,.int .i64 0,.int .i64 1,.int .i64 0]] h1 (hD _ h1.lt) J8 tS ⟨rfl,rfl,trivial⟩
 exact zsh (R:=RSt) (l:=exF22.body)  [[.int .i64 3,.int .i64 0,.int .i64 0,.int .i64 0,.int .i64 24,.int .i64 0,.slice none 0 0,.slice (some ⟨bb,0,none⟩) 1 1,.slice none 0 0,.slice none 0 0],[.int .i64 1,.int .i64 0,.int .i64 0,.int .i64 0,.int .i64 24,.int .i64 1,.slice none 0 0,.slice none 0 0,.slice none 0 0,.slice none 0 0]] h3 (hD _ h3.lt) J8 tS ⟨RSt.put (s:=znK) SlR.nil kA SlR.nil SlR.nil,RSt.put (s:=znL) SlR.nil SlR.nil SlR.nil SlR.nil,trivial⟩
theorem zcV (hE:∀ x ∈ zhG bv bb b4 bo b9 bf ba bp bu bn ph u,x.2.holds w) (hD:∀ q,q<w.heap.size->D q):SlR 1 zG D w (.slice (some ⟨bo,0,none⟩) 4 4) [0,1,1,1]:=by
 have h4:=hE _ (zsU _ (zsU _ (zsU _ (zsV ..))));replace h4:Blk w bo _ 3:=h4;exact zsh (R:=zG) (l:=[(0:Int),1,1,1]) [[.int .i64 0],[.int .i64 1],[.int .i64 1],[.int .i64 1]] h4 (hD _ h4.lt) (fun c hc=>tD) tS ⟨rfl,rfl,rfl,rfl,trivial⟩
theorem zcW {phis:List Phn} (hE:∀ x ∈ zhG bv bb b4 bo b9 bf ba bp bu bn ph u,x.2.holds w) (hD:∀ q,q<w.heap.size->D q) (hp:SlR 4 zm9 D w ph phis):SlR 3 RSn D w (.slice (some ⟨bn,0,none⟩) 5 5) [⟨[],[],-1⟩,⟨[],[(0,0)],-1⟩,⟨[],[],2⟩,⟨phis,[(1,u)],-1⟩,⟨[],[],-1⟩]:=by
 have h5:=hE _ ir;replace h5:Blk w b9 _ 85:=h5;have h9:=hE _ (zsU _ (zsU _ (zsU _ (zsU _ ir))));replace h9:Blk w bu _ 85:=h9;have hC:=hE _ (zsU _ (zsU _ (zsU _ (zsU _ (zsU _ ir)))));replace hC:Blk w bn _ 59:=hC;have k5:SlR 2 xq D w (.slice (some ⟨b9,0,none⟩) 1 1) [(0,0)]:=zsh (R:=xq) (l:=[((0:Int),(0:Int))]) [[.int .i64 0,.int .i64 0]] h5 (hD _ h5.lt) (fun c hc=>tD) tS ⟨rfl,trivial⟩;have k9:SlR 2 xq D w (.slice (some ⟨bu,0,none⟩) 1 1) [(1,u)]:=zsh (R:=xq) (l:=[((1:Int),u)]) [[.int .i64 1,.int .i64 u]] h9 (hD _ h9.lt) (fun c hc=>tD) tR ⟨rfl,trivial⟩
 exact zsh (R:=RSn) (l:=[⟨[],[],-1⟩,⟨[],[(0,0)],-1⟩,⟨[],[],2⟩,⟨phis,[(1,u)],-1⟩,⟨[],[],-1⟩]) [[.slice none 0 0,.slice none 0 0,.int .i64 (-1)],[.slice none 0 0,.slice (some ⟨b9,0,none⟩) 1 1,.int .i64 (-1)],[.slice none 0 0,.slice none 0 0,.int .i64 2],[ph,.slice (some ⟨bu,0,none⟩) 1 1,.int .i64 (-1)],[.slice none 0 0,.slice none 0 0,.int .i64 (-1)]] hC (hD _ hC.lt) (fun c hc=>tD) tR
  ⟨⟨_,_,rfl,SlR.nil,SlR.nil⟩,⟨_,_,rfl,SlR.nil,k5⟩,⟨_,_,rfl,SlR.nil,SlR.nil⟩,⟨_,_,rfl,hp,k9⟩,⟨_,_,rfl,SlR.nil,SlR.nil⟩,trivial⟩
theorem zdJ (hE:∀ x ∈ zhG bv bb b4 bo b9 bf ba bp bu bn (.slice (some ⟨bp,0,none⟩) 1 1) 3,x.2.holds w) (hD:∀ q,q<w.heap.size->D q):RSf D w exS22 (.slice (some ⟨bo,0,none⟩) 4 4) (.slice (some ⟨bn,0,none⟩) 5 5):=by
 have h6:=hE _ (zsU _ ir);replace h6:Blk w bf _ 3:=h6;have h7:=hE _ (zsU _ (zsU _ ir));replace h7:Blk w ba _ 3:=h7;have h8:=hE _ (zsU _ (zsU _ (zsU _ ir)));replace h8:Blk w bp _ 88:=h8;have k6:SlR 1 zG D w (.slice (some ⟨bf,0,none⟩) 2 2) [1,2]:=zsh (R:=zG) (l:=[(1:Int),2]) [[.int .i64 1],[.int .i64 2]] h6 (hD _ h6.lt) (fun c hc=>tD) tS ⟨rfl,rfl,trivial⟩;have k7:SlR 1 zG D w (.slice (some ⟨ba,0,none⟩) 2 2) [1,2]:=zsh (R:=zG) (l:=[(1:Int),2]) [[.int .i64 1],[.int .i64 2]] h7 (hD _ h7.lt) (fun c hc=>tD) tS ⟨rfl,rfl,trivial⟩;refine⟨zcV hE hD,zcW (phis:=[⟨1,3,[1,2],[1,2]⟩]) hE hD ?_⟩;exact zsh (R:=zm9) (l:=[⟨1,3,[1,2],[1,2]⟩]) [[.int .i64 1,.int .i64 3,.slice (some ⟨bf,0,none⟩) 2 2,.slice (some ⟨ba,0,none⟩) 2 2]] h8 (hD _ h8.lt) (fun c hc=>by rw[zt9]at hc;subst hc;rfl) tS ⟨⟨_,_,rfl,k6,k7⟩,trivial⟩
theorem zjp (hE:∀ x ∈ zhG bv bb b4 bo b9 bf ba bp bu bn (.slice none 0 0) 2,x.2.holds w) (hD:∀ q,q<w.heap.size->D q):RSf D w exT22 (.slice (some ⟨bo,0,none⟩) 4 4) (.slice (some ⟨bn,0,none⟩) 5 5):=⟨zcV hE hD,zcW (phis:=[]) hE hD SlR.nil⟩
end
def zjq:Ins:=⟨[1],[],[]⟩
theorem zhH:zz exF22.vars zjq=0:=by decide +kernel
theorem zjr:(zhk exF22 zjq).outs=[1]:=by decide +kernel
theorem zeX (hk:k<s.of_.length) (hN:NeedV f g s (k:Int)):(zaW f g s)[k]?=some true:=by
 unfold zaW;rw[zt8,zuC hk];simp only[zw4];rw[@zt3 _ (Classical.propDecidable _) hN]
theorem zhI:(zaW exF22 exG22 exS22)[0]?=some true:=zeX tS (NeedV.sink (n:=1) (u:=(0,0)) tS iH iH)
theorem zhJ:(zaW exF22 exG22 exS22)[3]?=some true:=zeX tS (NeedV.sink (n:=3) (u:=(1,3)) tS iH iH)
theorem zmM:(yx exF22 exG22 exS22 exG22.length).length+muN exS22 exG22.length (List.replicate exS22.of_.length false)<=1000000000:=by decide +kernel
open Go.GL
def zmN (f:Fl) (s:Sf) (r:Ins) (i:Nat) (vl:List Int):Prop:=(i=0->∀ v:Nat,v<f.vars.length->vl[v]?=(zK f.vars r)[v]?)/\∀ j,i=j+1->∀ y:Nat,(xi f r j).at_=(y:Int)->ziJ f (zd f) s y vl (xi f r i).σ.vals
theorem zjs (vd:Valid f) {n n':Nat} {x':Nd} (hw:OnWalk f r K i n x) (hC:OnWalk f r K (i+1) n' x') (hi:i<K):n ∈ zw (zd f) n'/\n' ≠ 0:=by
 have hn:=(zt5.1 hw.nd).1;have h1:=(hw.go hi).1;have h2:(xi f r (i+1)).at_=_:=congrArg Mc.at_ h1;rw[hC.at_]at h2;dsimp only at h2;have h3:=zmA f (ym f r) x (ya f x.at_) (xi f r i).σ (xi f r i).rd;rw[<- h2]at h3;have h4:=(vd.away hw.nd).1 _ h3;refine⟨pred_mem.2 ⟨hn,?_⟩,tO⟩;rw[zM hw.nd];rcases h3 with h3 | h3
 . omega
 omega
theorem zlj {n:Nat} (hw:OnWalk f r K 0 n x):n=0:=by
 have h:(xi f r 0).at_=0:=rfl;have:=hw.at_;omega
theorem zoj {rd:Nat->List Int} (h:FormF f g s rd) (hg:0<g.length):(zh s 0).phis=[]:=(h.at hg).phi.zero rfl
theorem zlk (vd:Valid f) (h:RightF f (zd f) s (rdV f (zd f))) {n y:Nat} (hg:GoesAll f r K) (hi:i<=K) (hw:OnWalk f r K i n x) (hy:(xi f r (i - 1)).at_=(y:Int)) (hC:vl.length=s.of_.length) (hp:zmN f s r i vl) :
  InvV f (zd f) s n (jr f (zd f) s y vl (zh s n).phis) (xi f r i).σ.vals/\((zh s n).phis ≠ []->y ∈ zw (zd f) n):=by
 have hn:=(zt5.1 hw.nd).1;cases i with
 | zero =>
  obtain rfl:=zlj hw;have h0:=zoj h.toFormF hn;rw[h0];exact⟨InvV.start h.toFormF (hp.1 O),fun h=>absurd O h⟩
 | succ j =>
  obtain⟨n0,x0,hY⟩:=zj6 vd hg (show j<=K by omega);rw[zvI,hY.at_]at hy;obtain rfl:n0=y:=tO;obtain⟨h1,h2⟩:=zjs vd hY hw tO;exact⟨zjj h h2 hn h1 hC (hp.2 j O n0 hY.at_),fun _=>h1⟩
theorem zll {n:Nat} (hw:OnWalk f r K i n x) (h:ziJ f (zd f) s n vl (xi f r (i+1)).σ.vals):zmN f s r (i+1) vl:=by
 refine⟨fun h=>tO,fun j hj y hy=>?_⟩;obtain rfl:i=j:=tO;rw[hw.at_]at hy;obtain rfl:n=y:=tO;exact h
theorem zhK (f:Fl):CtOk f (List.replicate (zd f).length 0) (fun _=>0):=fun i x hx _=>by
 rw[zuD,zt2 (zt5.1 hx).1]
theorem zdK (_:Valid f) (h:RightF f (zd f) s (rdV f (zd f))) {n:Nat} (hx:(zd f)[n]?=some x) {σ:Sg} (_:InV f.vars σ.vals) (hI:InvV f (zd f) s n vl σ.vals) (_:List Int) (hn:zcr f x=false):ziJ f (zd f) s n vl σ.vals:=by
 refine hI.pass h ?_;unfold zO;rw[zM hx,hn,zt1 tS];decide
theorem zmO (h:RightF f (zd f) s (rdV f (zd f))) {n:Nat} (hx:(zd f)[n]?=some x) (hV:InV f.vars vals) (hI:InvV f (zd f) s n vl vals) (hl:vl.length=s.of_.length) (ha:zcr f x=true) {v:Vr} (hk:(ya f x.at_).var=(k:Int)) (hv:f.vars[k]?=some v) (m:Int):ziJ f (zd f) s n (vl.set (zh s n).dfn.toNat (xt m v.low v.high)) (zm6 f.vars vals (ya f x.at_).var m)/\∃ q:Nat,(zh s n).dfn=(q:Int)/\q<vl.length:=by
 have hY:=(zt5.1 hv).1;have hd:zO f (zd f) n=(k:Int):=by unfold zO;rw[zM hx,ha,zt2 rfl,hk]
 have da:=(zt5.1 hx).1;have hC:=(h.toFormF.at da).yes tO;have hs:zm6 f.vars vals (ya f x.at_).var m=vals.set k (xt m v.low v.high):=by unfold zm6;rw[hk,ztd,hv]
 rw[hs];refine⟨hI.set h da hd hY (by rw[hV.len];exact hY) tO _,?_⟩;obtain⟨q,hq,db⟩:=qQ hC;exact⟨q,hq,tO⟩
abbrev rnH (b gb:Nat) (ofv nodv vv hv rv ov:Value) (vl rl outs:List Int) (t:Int):Hp:=[(900,.own b (rnr gb ofv nodv vv hv rv ov (.int .i64 t)) 107),(901,qc vv vl),(902,qc rv rl),(903,qc ov outs)]
abbrev znO (f:Fl) (s:Sf) (n:Nat) (b gb:Nat) (ofv nodv vv hv rv ov:Value) (vl ro:List Int) (outs:List Int) (t:Int) (σ':Sg) (W w':World):Prop:=∃ (x:List Int × Value),(x.1.length=vl.length/\ziJ f (zd f) s n x.1 σ'.vals)/\GBack (rnH b gb ofv nodv vv hv rv ov vl ro outs t) (rnH b gb ofv nodv vv hv rv x.2 x.1 ro σ'.outs σ'.time) W w'
theorem zmP (k2:x.kind=2):zcr f x=(decide ((ya f x.at_).act=0) || decide ((ya f x.at_).act=5)):=by unfold zcr;rw[zt3 k2,ztK]
theorem zmQ (f:Fl) (s:Sf) (vd:Valid f) (hR:RightF f (zd f) s (rdV f (zd f))) (hs:List Int) (ek:hs.length=f.hatches.length) (n:Nat) (x:Nd) (hx:(zd f)[n]?=some x) (k2:x.kind=2) (σ:Sg) (hV:InV f.vars σ.vals) (em:σ.outs.length<=1000000000) (vl ro:List Int) (dZ:vl.length=s.of_.length) (da:InvV f (zd f) s n vl σ.vals)
  (b gb:Nat) (ofv nodv vv hv rv ov:Value) (D Dh:Nat->Prop) (W:World) (hE:Held (rnH b gb ofv nodv vv hv rv ov vl ro σ.outs (σ.time+(ya f x.at_).cost)) W) (hS:RSf D W s ofv nodv) (hG:GrO D W f (zd f) gb) (hh:SlR 1 zG Dh W hv hs) (hY:∀ q,HS (rnH b gb ofv nodv vv hv rv ov vl ro σ.outs (σ.time+(ya f x.at_).cost)) q->¬ D q) (dg:∀ q,HS (rnH b gb ofv nodv vv hv rv ov vl ro σ.outs (σ.time+(ya f x.at_).cost)) q->¬ Dh q)
  (a1:Option Addr) (n1:Nat) (a2:Option Addr) (n2:Nat) (a3:Option Addr) (n3:Nat) (a4:Option Addr) (n4:Nat) (hb:SlR 1 zG D W (.slice a4 (ya f x.at_).bounds.length n4) (ya f x.at_).bounds) :
  Calls prog 93 #[.pointer (some ⟨b,0,none⟩),.int .i64 n,.agg #[.int .i64 (ya f x.at_).act,.int .i64 (ya f x.at_).cost,.int .i64 (ya f x.at_).var,.int .i64 (ya f x.at_).n,.int .i64 (ya f x.at_).term.op,.int .i64 (ya f x.at_).term.n,.slice a1 (ya f x.at_).term.kids.length n1,.slice a2 (ya f x.at_).thn.length n2,.slice a3 (ya f x.at_).els.length n3,.slice a4 (ya f x.at_).bounds.length n4]] W (Ret fun r w'=>r=.tuple #[]/\znO f s n b gb ofv nodv vv hv rv ov vl ro σ.outs (σ.time+(ya f x.at_).cost) (qt f hs (ya f x.at_) σ) W w'):=by
 have d5:=(zt5.1 hx).1;obtain⟨h0,d6,_⟩:=vd.gOk.at hx (.inl k2);have hget:=qh h0 d6;obtain⟨dF,er,_⟩:=vd.step _ (zsS hget);have dG:yP (zd f) n=x:=zM hx;have dh:stN f (yP (zd f) n)=ya f x.at_:=by rw[dG];unfold stN;rw[zt2 h0]
 have hl:=vd.lens;have ew:=vd.ssize;have ez:=yA f vd.plain;have eA:=xj f.body;have dH:=zmP (f:=f) k2;have d7:=hR.len;obtain⟨xs,dl⟩:∃ xs,s.nodes[n]?=some xs:=j9;have d8:=yC dl;obtain⟨v1,v2,v3,gv,sv,pv,hD,dm,hf,_,_,_⟩:=id hG;have dQ:=hf.vars;obtain⟨av,cv,rfl⟩:=dQ.form;have dr:=hS.nodes;obtain⟨an,cn,rfl⟩:=dr.form;obtain⟨ah,ch,rfl⟩:=hh.form;have eC:=hS.of_.max;generalize dD:ya f x.at_=st at *;refine zqs func93 O ntmps93 O (zrL [(900,.own b [.pointer (some ⟨gb,0,none⟩),ofv,.slice an s.nodes.length cn,vv,.slice ah hs.length ch,rv,ov,.int .i64 (σ.time+st.cost)] 107),(901,.row 3 1 vv vl.length (vl.map zb)),(902,.row 3 1 rv ro.length (ro.map zb)),(903,.row 3 1 ov σ.outs.length (σ.outs.map zb))] hE.1 hE.2 (zrg 904 0 O O (fun h=>hY _ h hD) dm (zqO 0 900 0 O O ?_)));have db:rdB f x=true->∀ w,Keep (HS (rnH b gb ofv (.slice an s.nodes.length cn) vv (.slice ah hs.length ch) rv ov vl ro σ.outs (σ.time+st.cost))) W w->Cells w b 0 (rnr gb ofv (.slice an s.nodes.length cn) vv (.slice ah hs.length ch) rv ov (.int .i64 (σ.time+st.cost)))->w.ownsRow 0 3 1 vv vl.length (vl.map zb)->Calls prog 92 #[.pointer (some ⟨b,0,none⟩),.int .i64 n] w (Ret fun r w'=>r=.int .i64 (qO σ.vals st.term)/\Ext w w'):=fun dE w hk hc hv=>dh ▸ zgE f (zd f) s vd.good hR n d5 (dh ▸ dF) tD tD tO tO vl σ.vals hV da b gb _ _ _ _ _ _ _ D D (fun _=>True) w hc (hS.keep hk fun q hq _ h=>hY q h hq) (hG.keep hk fun q hq _ h=>hY q h hq) (zpK zb iA hv (fun _ _=>trivial));refine Vs 2 O (V.box 5 O O (fun b5=>?_));refine Vs 15 O (zoE O (fun a1=>?_) (fun a1=>?_))
 .
  have dE:rdB f x=true:=by unfold rdB;rw[dD];simp[k2,a1]
  have dc:qt f hs st σ={ σ with outs:=σ.outs++[qO σ.vals st.term],time:=σ.time+st.cost }:=by unfold qt;rw[zt1 tO,zt2 a1]
  have hC:=zdK vd hR hx hV da hs tD;refine Vw [900,904,5] [14] O (Vd [0,1,2,3,4,5,6,7] 0 tK O O O (zr3 8 0 call92 O tK O O (fun w hI=>db dE w hI.k0 (hI.at 900 O).cells (hI.at 901 O)) (zrp 9 21 0 [(0,_)] tR27 ts3 tz3 tS O tK O O tK (fun b21=>?_))));refine zqW 10 903 21 0 tu27 Tryz.el3 O tS O tK O O O tO tO (fun u903=>(Vd [11,12,13] 0 tK O O O (zqY 903 O tO ?_)));rintro bo co rfl dt;refine Vl 14 O tK O (VDx.done tK (Vs 1 O (zrk 903 O (e':=.row 3 1 (.slice (some ⟨bo,0,none⟩) (σ.outs.length+1) co) (σ.outs++[qO σ.vals st.term]).length ((σ.outs++[qO σ.vals st.term]).map zb)) tD (zpa tr93 (fun w hI=>⟨_,rfl,rfl,dc ▸ ⟨(vl,.slice (some ⟨bo,0,none⟩) (σ.outs.length+1) co),⟨rfl,hC⟩,hI.back 0 O O O rfl⟩⟩)))))
 refine Vs 6 O (zoE O (fun a6=>?_) (fun a6=>?_))
 .
  have dc:qt f hs st σ={ σ with time:=kF st.bounds (σ.time+st.cost) }:=by unfold qt;rw[zt1 tO,zt1 a1,zt1 tO,zt2 a6]
  have hC:=zdK vd hR hx hV da hs tD;refine Vw [900,904,5] [12] O (Vd [0,1,2,3,4,5,6,7] 0 tK O O O (zr3 8 0 call134 O tK O O (fun w hI=>zco st.bounds (σ.time+st.cost) _ D w (hb.keep zc hI.k0 fun q hq _ h=>hY q h hq)) (Vd [9,10,11] 0 tK O O O (Vl 12 O tK O (VDx.done tK (Vs 1 O Jm))))))
 refine Vs 1 O (zrm (σ:=Bool) [0,1,5] [5,900,901,902,903,904] [0,5] O (fun e a=>(40,.bool a)::e) (fun e a=>e) (fun a=>a=zcr f x) j1 j1 ?_ ?_)
 .
  refine Vs 6 O (zoE O (fun a0=>?_) (fun a0=>?_))
  . refine Vs 1 O (zoS (true) j2 j3 tD 0 O O)
  refine Vs 4 O (zoS (decide (st.act=5)) j2 j3 tD 0 O O)
 rintro a ha;refine Vs 1 O (V.bool O (fun t=>?_) (fun t=>?_))
 .
  have du:zcr f x=true:=ha ▸ t;have d9:st.act=0\/st.act=5:=tD;have eb:=dF.var d9;obtain⟨k,hk⟩:∃ k:Nat,st.var=(k:Int):=⟨st.var.toNat,tO⟩;refine Vs 6 O (zrm (σ:=Int) [0,1,5] [5,900,901,902,903,904] [0,5] O (fun e m=>(6,.int .i64 m)::e) (fun e m=>e) (fun m=>qt f hs st σ={ σ with vals:=zm6 f.vars σ.vals st.var m,time:=σ.time+st.cost }) j1 j1 ?_ ?_)
  .
   refine Vs 7 O (zoE O (fun b0=>?_) (fun b0=>?_))
   .
    have dE:rdB f x=true:=by unfold rdB;rw[dD];simp[k2,b0]
    refine Vs 3 O (zr2 call92 O (fun w hI=>db dE w hI.k0 (hI.at 900 O).cells (hI.at 901 O)) (Vs 2 O (zoS (qO σ.vals st.term) j2 j3 (by unfold qt;rw[zt2 b0]) 0 O O)))
   have a5:st.act=5:=tO;have ec:=dF.num a5;refine zrh 1000 0 st.n.toNat tO hh O O O (fun b_ d_ h_=>by have dw:=dg _ h_;first | omega | exact dw d_) (fun y eD eE eF dI ed dJ ee dK=>?_);obtain rfl:=dK;refine Vq tK (Vs 6 O (zqT 1000 tR27 ts3 O dJ tO (st.n.toNat) tO O (Vs 3 O (zoS (y) j2 j3 (by unfold qt;rw[zt1 b0,zt1 a1,zt2 a5,zis dI]) 0 O O))))
  rintro m dc;refine Vs 2 O (zrh 2000 0 k tO dQ O O O (fun b_ d_ h_=>by have dw:=hY _ h_;first | omega | exact dw d_) (fun v eG eH eI dL dM dN ef dO=>?_));obtain rfl:=dO;refine Vw [5,900,904,2000] [] O (Vd [0,1,2,3] 0 tK O O O (zqP 60 904 0 O O (Vd [4,5,6,7,8,9] 0 tK O O O (zqR 10 2000 tR22 ts142 O tK O dN tO (k) tO O ?_))));obtain⟨hC,q,hq,eJ⟩:=zmO (m:=m) hR hx hV da dZ du (dD ▸ hk) dL;rw[dD]at hC;refine Vd [11] 0 tK O O O (zqM 12 7 0 O tK O O (fun _ _=>M.alloc tz142 O) (fun b7=>?_));refine Ve 13 0 O tK O O O (VD.done tK (Vs 1 O (zqX 901 O tO ?_)));rintro bv cq rfl dx;refine zrh 3000 0 n tO dr O O O (fun b_ d_ h_=>by have dw:=hY _ h_;first | omega | exact dw d_) (fun xn eh ei ej dy dR dz dS dA=>?_);obtain⟨dT,dU,rfl,dB,dC⟩:=dA;obtain⟨dV,dW,rfl⟩:=dB.form;obtain⟨dX,dY,rfl⟩:=dC.form;obtain rfl:xs=xn:=Option.some.inj (dl.symm.trans dy);rw[d8]at hq hC;refine Vw [5,900,904,2000,7,3000] [] O (Vd [0,1,2,3,4,5,6,7,8,9,13,14,15,16,17] 0 tK O O O (zqR 10 3000 tR28 ts59 O tK O dz tO (n) tO O (Vd [11,12] 0 tK O O O (zr3 18 0 call46 O tK O O (fun w hI=>zeS m v.low v.high w (vd.good v dM).2.1) (Vb [19] 0 tK O O O tO (zr1 20 901 0 (q) ts3 O tK O O tO tD (VD.done tK (Vs 1 O (zrk 901 O (e':=.row 3 1 (.slice (some ⟨bv,0,none⟩) vl.length cq) (vl.set q (xt m v.low v.high)).length ((vl.set q (xt m v.low v.high)).map zb)) (by rw[zuZ,zuS]) ?_)))))))));refine zpa tr93 (fun w hI=>⟨_,rfl,rfl,dc ▸ ⟨(vl.set q (xt m v.low v.high),ov),⟨zuS,tD⟩,hI.back 0 O O O rfl⟩⟩)
 have du:zcr f x=false:=ha ▸ t
 have dc:qt f hs st σ={ σ with time:=σ.time+st.cost }:=by
  rw[dH]at du;simp at du;unfold qt
  grind
 have hC:=zdK vd hR hx hV da hs du;refine Vs 2 O Jm
abbrev zjt (f:Fl) (s:Sf) (r:Ins) (i n:Nat) (b gb:Nat) (ofv nodv vv hv rv ov:Value) (vl ro:List Int) (rr:Value) (W w':World):Prop:=∃ (x:List Int × List Int × Value),(rr=.int .i64 (xi f r (i+1)).at_/\x.1.length=vl.length/\ziJ f (zd f) s n x.1 (xi f r (i+1)).σ.vals/\x.2.1.length=ro.length/\CtOk f x.2.1 (xi f r (i+1)).rd)/\GBack (rnH b gb ofv nodv vv hv rv ov vl ro (xi f r i).σ.outs (xi f r i).σ.time) (rnH b gb ofv nodv vv hv rv x.2.2 x.1 x.2.1 (xi f r (i+1)).σ.outs (xi f r (i+1)).σ.time) W w'
theorem znP {f:FuncId} {Φ:α->Prop} {E':α->Hp} (h:Calls P f args w (Ret fun r w'=>r=.tuple #[]/\∃ x,Φ x/\GBack E (E' x) w w')):Calls P f args w (Ret fun r w'=>∃ x,(r=.tuple #[]/\Φ x)/\GBack E (E' x) w w'):=by
 refine Calls.mono h ?_;rintro e' w' ⟨r,rfl,h1,x,h2,h3⟩;exact⟨_,rfl,x,⟨h1,h2⟩,h3⟩
theorem zlm (f:Fl) (s:Sf) (vd:Valid f) (hR:RightF f (zd f) s (rdV f (zd f))) (r:Ins) (e0:zz f.vars r=0) (K:Nat) (hg:GoesAll f r K) (i:Nat) (hi:i<K) (n:Nat) (x:Nd) (hw:OnWalk f r K i n x) (vl ro:List Int) (eh:vl.length=s.of_.length) (dQ:ro.length=(zd f).length) (dl:InvV f (zd f) s n vl (xi f r i).σ.vals) (da:CtOk f ro (xi f r i).rd)
  (b gb:Nat) (ofv nodv vv hv rv ov:Value) (D Dh:Nat->Prop) (W:World) (dR:∀ q,D q\/Dh q->q<W.heap.size) (hE:Held (rnH b gb ofv nodv vv hv rv ov vl ro (xi f r i).σ.outs (xi f r i).σ.time) W) (hS:RSf D W s ofv nodv) (hG:GrO D W f (zd f) gb) (hh:SlR 1 zG Dh W hv (ym f r)) (hY:∀ q,HS (rnH b gb ofv nodv vv hv rv ov vl ro (xi f r i).σ.outs (xi f r i).σ.time) q->¬ D q) (db:∀ q,HS (rnH b gb ofv nodv vv hv rv ov vl ro (xi f r i).σ.outs (xi f r i).σ.time) q->¬ Dh q) :
  Calls prog 48 #[.pointer (some ⟨b,0,none⟩),.int .i64 n] W (Ret fun rr w'=>zjt f s r i n b gb ofv nodv vv hv rv ov vl ro rr W w'):=by
 have ei:=(zt5.1 hw.nd).1;have hx:=hw.nd;obtain⟨ej,eH⟩:=hw.go hi;have dH:=ziT vd e0 hg i tO;have hV:=dH.inv;have ht:=dH.time;have eI:=dH.outs;have eJ:=dH.rd x.at_;have hK:=(zmB vd hg).2;have hl:=vd.lens;have eK:=vd.ssize;have eL:=yA f vd.plain;have eM:=xj f.body;have dK:yP (zd f) n=x:=zM hx;have hC:zcr f x=false->ziJ f (zd f) s n vl (xi f r i).σ.vals:=fun ha=>zdK vd hR hx hV dl [] ha;have dm:x.kind ≠ 2->zcr f x=false:=fun h=>by unfold zcr;rw[zt4 h,Bool.false_and]
 obtain⟨v1,v2,v3,gv,sv,pv,hD,dr,hf,dL,dt,_⟩:=id hG;obtain⟨ag,cg,rfl⟩:=dL.form;obtain⟨as1,cs1,rfl⟩:=dt.form;have ek:=dL.max;have dS:((zd f).map (stN f)).length=(zd f).length:=ztb _;have du:((zd f).map (stN f))[n]?=some (stN f x):=by rw[zt8,hx];rfl
 have em:(ym f r).length=f.hatches.length:=by simp[zkJ]
 unfold zjt at *;rw[ej];generalize hm:xi f r i=m at *;generalize eN:(zd f).map (stN f)=gm at *;obtain⟨at_,σ,rd⟩:=m;dsimp only at *;refine zqr func48 O ntmps48 O (zrL [(900,.own b [.pointer (some ⟨gb,0,none⟩),ofv,nodv,vv,hv,rv,ov,.int .i64 σ.time] 107),(901,.row 3 1 vv vl.length (vl.map zb)),(902,.row 3 1 rv ro.length (ro.map zb)),(903,.row 3 1 ov σ.outs.length (σ.outs.map zb))] hE.1 hE.2 (zrg 904 0 O O (fun h=>hY _ h hD) dr (zqO 0 900 0 O O (zqX 902 O tO ?_))));rintro br cr rfl dw;refine Vs 6 O (zrh 1000 0 n tO dL O O O (fun b_ d_ h_=>by have dM:=hY _ h_;first | omega | exact dM d_) (fun x2 er ew ez dx dT dy dU dz=>?_));obtain rfl:=dz;obtain rfl:x2=x:=Option.some.inj (dx.symm.trans hx);refine zrh 2000 0 n tO dt O O O (fun b_ d_ h_=>by have dM:=hY _ h_;first | omega | exact dM d_) (fun st eA eC eD dA dV dB dW dC=>?_);obtain⟨dX,dY,dZ,d5,rfl,dD,dE,dF,dc⟩:=dC.get;obtain⟨d6,d7,rfl⟩:=dD.form;obtain⟨d8,d9,rfl⟩:=dE.form;obtain⟨eb,ec,rfl⟩:=dF.form;obtain⟨ed,ee,rfl⟩:=dc.form;have dN:st=stN f x2:=Option.some.inj (dA.symm.trans du);refine Vw [900,904,1000,2000] [] O (Vd [0,1,2,3] 0 tK O O O (zqP 10 904 0 O O (Vd [4,5,6,7,10,11,12,13] 0 tK O O O (zqP 20 904 0 O O (Vd [14,15,16,17] 0 tK O O O ?_)))));refine zqR 8 1000 tR34 ts65 O tK O dy tO _ rfl O (Vd [9] 0 tK O O O ?_);refine zqR 18 2000 tR24 ts72 O tK O dB tO _ rfl O (Vd [19] 0 tK O O O (zrZ 2 0 [(20,5,[],false),(21,6,[],false)] (psi [(5,phA 5 [Value.int IntKind.i64 0,Value.int IntKind.i64 0,Value.int IntKind.i64 0,Value.int IntKind.i64 0] 65),(6,phA 6 [Value.int IntKind.i64 0,Value.int IntKind.i64 0,Value.int IntKind.i64 0,Value.int IntKind.i64 0,Value.int IntKind.i64 0,Value.int IntKind.i64 0,Value.slice none 0 0,Value.slice none 0 0,Value.slice none 0 0,Value.slice none 0 0] 72)]) tK tK O O ⟨?_,?_,True.intro⟩ ?_))
 . exact MP.alloc 5 O O tz65 O O
 . exact MP.alloc 6 O O tz72 O O
 rintro val hn ⟨⟨b5,e5,n5⟩,⟨b6,e6,n6⟩,_⟩;refine VD.cast [(0,some (900,0)),(7,some (900,0)),(8,some (900,0)),(9,some (900,0)),(10,some (904,0)),(11,some (904,0)),(12,some (904,3)),(15,some (1000,0)),(17,some (900,0)),(18,some (900,0)),(19,some (900,0)),(20,some (904,0)),(21,some (904,0)),(22,some (904,4)),(25,some (2000,0)),(5,some (5,0)),(6,some (6,0))] _ _ (zhb e5 (zhb e6 rfl)) (znm n5 (znm n6 rfl)) O O O ?_;clear n5 n6
 have dI:x2.kind ≠ 0->0<=x2.at_/\(preL f.body)[x2.at_.toNat]?=some (ya f x2.at_)/\stN f x2=ya f x2.at_:=fun h0=>by
  have h1:=(vd.gOk n x2 hx);have h2:=(vd.ends hx).1
  have h3:0<=x2.at_:=by
   omega
  exact⟨h3,qh h3 ((vd.ends hx).2 h3),by unfold stN;rw[zt2 h3]⟩
 have dg:rdB f x2=true->x2.kind ≠ 0->∀ t:Int,∀ rl:List Int,∀ w,Keep (HS (rnH b gb ofv nodv vv hv (.slice (some ⟨br,0,none⟩) ro.length cr) ov vl ro σ.outs σ.time)) W w->Cells w b 0 (rnr gb ofv nodv vv hv (.slice (some ⟨br,0,none⟩) ro.length cr) ov (.int .i64 t))->w.ownsRow 0 3 1 vv vl.length (vl.map zb)->Calls prog 92 #[.pointer (some ⟨b,0,none⟩),.int .i64 n] w (Ret fun r w'=>r=.int .i64 (qO σ.vals st.term)/\Ext w w'):=fun dJ k0 t rl w hk hc hv=>by
  obtain⟨h1,h2,h3⟩:=dI k0;have h4:=zgE f (zd f) s vd.good hR n ei (by rw[dK,h3];exact(vd.step _ (zsS h2)).1) tD tD tO tO vl σ.vals hV dl b gb _ _ _ _ _ _ _ D D (fun _=>True) w hc (hS.keep hk fun q hq _ h=>hY q h hq) (hG.keep hk fun q hq _ h=>hY q h hq) (zpK zb iA hv (fun _ _=>trivial))
  grind
 refine Ve 22 0 O tK O O O (Ve 23 0 O tK O O O (VD.done tK (Vs 15 O (zoE O (fun k4=>?_) (fun k4=>?_)))))
 .
  obtain⟨g0,y,hy,eE,eF⟩:=(vd.part hx).2.1 k4;have eO:=(zt5.1 hy).1;have hp:xp f (ym f r) x2 (ya f x2.at_) σ rd=(x2.next,σ,ze0 rd x2.at_ 0):=by unfold xp;rw[zt1 tO,zt1 tO,zt2 k4]
  rw[hp];have dG:=da.set vd dQ hy eE 0;rw[eF]at dG;refine Vs 1 O (Vw [900,904,1000,2000,5,6] [] O (Vb [0,1,2,3,4,5,6] 0 tK O O O tO (zr1 7 902 0 (x2.next.toNat) ts3 O tK O O tO tD (VD.done tK (Vs 2 O (zrk 902 O (e':=.row 3 1 (.slice (some ⟨br,0,none⟩) ro.length cr) (ro.set x2.next.toNat 0).length ((ro.set x2.next.toNat 0).map zb)) (by rw[zuZ,zuS]<;>rfl) (Vs 9 O (zoV tr48 O (fun w hI=>⟨_,rfl,(vl,ro.set x2.next.toNat 0,ov),⟨rfl,rfl,hC (dm tO),zuS,dG⟩,hI.back 0 O O O rfl⟩)))))))))
 refine Vs 6 O (zoE O (fun k5=>?_) (fun k5=>?_))
 .
  obtain⟨h1,h2,h3⟩:=dI tO;have ef:=da n x2 hx k5;have hN:=((vd.step _ (zsS h2)).2.2 ((vd.part hx).2.2 k5));have dh:=(vd.step _ (zsS h2)).1.cost;obtain rfl:st=ya f x2.at_:=dN.trans h3;refine Vs 2 O (Vq tK (Va 6 O tO (V.rlQ 902 (n) tg3 O tO (show _=some (Value.int .i64 (rd x2.at_)) by rw[zt8,ef];rfl) ?_)));refine Vs 5 O (zoE O (fun c=>?_) (fun c=>?_))
  .
   have hp:xp f (ym f r) x2 (ya f x2.at_) σ rd=(x2.other,σ,rd):=by unfold xp;rw[zt1 tO,zt1 tO,zt1 k4,zt2 ⟨k5,c⟩]
   rw[hp];refine Vs 11 O iT
  have hp:xp f (ym f r) x2 (ya f x2.at_) σ rd=(if qO σ.vals (ya f x2.at_).term ≠ 0 then x2.next else x2.other,{ σ with time:=σ.time+(ya f x2.at_).cost },ze0 rd x2.at_ (rd x2.at_+1)):=by unfold xp;rw[zt1 tO,zt1 tO,zt1 k4,zt1 (fun h=>c h.2),zt2 k5]
  rw[hp];have dG:=da.set vd dQ hx k5 (rd x2.at_+1);have dJ:rdB f x2=true:=by unfold rdB;simp[k5]
  refine Va 10 O tO (zqZ 902 (n) tg3 O tO (show _=some (Value.int .i64 (rd x2.at_)) by rw[zt8,ef];rfl) ?_);refine Va 2 O tO (zr0 902 (n) ts3 O tO tD (zrk 902 O (e':=.row 3 1 (.slice (some ⟨br,0,none⟩) ro.length cr) (ro.set n (rd x2.at_+1)).length ((ro.set n (rd x2.at_+1)).map zb)) (by rw[zuZ,zuS]<;>rfl) (Vs 3 O (Vw [900,904,1000,2000,5,6] [11] O (Vb [0,1,2,3,4,5,6,7,8,9,10] 0 tK O O O tO (Vl 11 O tK O (VDx.done tK (Vs 6 O (zr2 call92 O (fun w hI=>dg dJ tO _ ro w hI.k0 (hI.at 900 O).cells (hI.at 901 O)) (Vs 3 O ?_))))))))));refine zoE O (fun z=>?_) (fun z=>?_)
  .
   rw[zt1 (zte z)];refine Vs 11 O JL
  rw[zt2 z];refine Vs 12 O JL
 refine Vs 6 O (zoE O (fun k3=>?_) (fun k3=>?_))
 .
  obtain⟨h1,h2,h3⟩:=dI tO;have dh:=(vd.step _ (zsS h2)).1.cost;obtain rfl:st=ya f x2.at_:=dN.trans h3;have hp:xp f (ym f r) x2 (ya f x2.at_) σ rd=(if qO σ.vals (ya f x2.at_).term ≠ 0 then x2.next else x2.other,{ σ with time:=σ.time+(ya f x2.at_).cost },rd):=by unfold xp;rw[zt1 tO,zt1 tO,zt1 k4,zt1 (fun h=>k5 h.1),zt1 k5]
  rw[hp];have dJ:rdB f x2=true:=by unfold rdB;simp[k3]
  refine Vs 1 O (Vw [900,904,1000,2000,5,6] [11] O (Vb [0,1,2,3,4,5,6,7,8,9,10] 0 tK O O O tO (Vl 11 O tK O (VDx.done tK (Vs 6 O (zr2 call92 O (fun w hI=>dg dJ tO _ ro w hI.k0 (hI.at 900 O).cells (hI.at 901 O)) (Vs 3 O (zoE O (fun z=>?_) (fun z=>?_)))))))))
  .
   rw[zt1 (zte z)];refine Vs 11 O iT
  rw[zt2 z];refine Vs 12 O iT
 refine Vs 6 O (zoE O (fun k2=>?_) (fun k2=>?_))
 .
  obtain⟨h1,h2,h3⟩:=dI tO;have dh:=(vd.step _ (zsS h2)).1.cost;obtain rfl:st=ya f x2.at_:=dN.trans h3;have hp:xp f (ym f r) x2 (ya f x2.at_) σ rd=(x2.next,qt f (ym f r) (ya f x2.at_) σ,rd):=by unfold xp;rw[zt1 tO,zt2 k2]
  rw[hp];refine Vs 1 O (Vw [900,904,1000,2000,5,6] [11] O (Vb [0,1,2,3,4,5,6,7,8,9,10] 0 tK O O O tO (Vl 11 O tK O (VDx.done tK (Vs 5 O (zrM [900,901,902,903] (Hn:=fun y:List Int × Value=>[(900,.own b [.pointer (some ⟨gb,0,none⟩),ofv,nodv,vv,hv,.slice (some ⟨br,0,none⟩) ro.length cr,y.2,.int .i64 (qt f (ym f r) (ya f x2.at_) σ).time] 107),(901,.row 3 1 vv y.1.length (y.1.map zb)),(902,.row 3 1 (.slice (some ⟨br,0,none⟩) ro.length cr) ro.length (ro.map zb)),(903,.row 3 1 y.2 (qt f (ym f r) (ya f x2.at_) σ).outs.length ((qt f (ym f r) (ya f x2.at_) σ).outs.map zb))]) [(0,some (900,0)),(5,some (5,0)),(6,some (6,0)),(7,some (900,0)),(8,some (900,0)),(9,some (900,0)),(10,some (904,0)),(11,some (904,0)),(12,some (904,3)),(15,some (1000,0)),(17,some (900,0)),(18,some (900,0)),(19,some (900,0)),(20,some (904,0)),(21,some (904,0)),(22,some (904,4)),(25,some (2000,0)),(27,some (5,0)),(105,some (900,0)),(106,some (900,0)),(107,some (900,6)),(108,some (900,7)),(110,some (6,1)),(113,some (900,0)),(114,some (900,6)),(115,some (900,7)),(116,some (900,0))] call93 O iA j1 (fun w hI=>xc O O (znP (zmQ f s vd hR (ym f r) em n x2 hx k2 σ hV tO vl ro eh dl b gb ofv nodv vv hv _ ov D Dh w (hI.held O O O) (hS.keep hI.k0 fun q hq _ h=>hY q h hq) (hG.keep hI.k0 fun q hq _ h=>hY q h hq) (hh.keep zc hI.k0 fun q hq _ h=>db q h hq) (hI.offE 0 O O (fun q h=>dR q (.inl h)) hY) (hI.offE 0 O O (fun q h=>dR q (.inr h)) db) _ _ _ _ _ _ _ _ (dc.keep zc hI.k0 fun q hq _ h=>hY q h hq)))) ?_))))));rintro _ ⟨vl',ov'⟩ ⟨rfl,eG,dO⟩;refine Vs 11 O (zoV tr48 O (fun w hI=>⟨_,rfl,(vl',ro,ov'),⟨rfl,eG,dO,rfl,da⟩,hI.back 0 O O O rfl⟩))
 have k0:x2.kind=0:=tO;have hp:xp f (ym f r) x2 (ya f x2.at_) σ rd=(x2.next,σ,rd):=by unfold xp;rw[zt2 k0]
 rw[hp];refine Vs 11 O iT
end Go.Proofs.YtckdhgbepmpgiaaGreat
namespace Go.GL
abbrev MIP (m:Nat) (l:List (Int × Value)):HE:=.res (fun q=>q=m) (fun w=>MapI w m l)
abbrev MEP (m:Nat) (l:List (Int × Value)) (k:Int) (st:Nat):HE:=.res (fun q=>q=m) (fun w=>MapE w m l k st)
theorem MapE.lt {st:Nat} {k:Int} {l:List (Int × Value)} (h:MapE w m l k st):m<w.heap.size:=h.map.lt
theorem MIP.loc {l:List (Int × Value)}:(MIP m l).loc:=fun w w' T h hk hT=>by
 have h:MapI w m l:=h;exact h.keep hk (hT m h.lt O)
theorem MEP.loc {st:Nat} {k:Int} {l:List (Int × Value)}:(MEP m l k st).loc:=fun w w' T h hk hT=>by
 have h:MapE w m l k st:=h;exact h.keep hk (hT m h.lt O)
section
variable {ty:TypeId} {pos:String} {g:Option (Nat × Bool)} {kt:TypeId} {l:List (Int × Value)}
theorem zsj:xd P ⟨dst,.makeMap t none,ty,pos,aft,g⟩ env w (fun u w'=>∃ b,u=.map (some b)/\MapI w' b []/\Ext w w'/\∀ q,q=b->w.heap.size<=q/\q<w'.heap.size):=by
 obtain⟨u,w',h0,b,h1,h2,h3,h4,h5⟩:=M.makeMap (P:=P) (env:=env) (w:=w) (dst:=dst) (ty:=ty) (pos:=pos) (aft:=aft) (g:=g) (t:=t);exact⟨u,w',h0,b,h1,h4,h5,fun q hq=>tO⟩
theorem zsk {x u:Operand} {k:Int} (h:MapI w m l) (ht:P.underlying t=some (.map kt et)) (hk:P.underlying kt=some (.int .i64)) (hx:ev env x=some (.map (some m))) (hy:ev env y=some (.int .i64 k)) (hu:ev env u=some v) (hl:zhW l k v=l') :
  xO P ⟨dst,.insert t x y u,ty,pos,aft,g⟩ env w (fun w'=>MapI w' m l'/\Keep (fun q=>q=m) w w'/\∀ q,q=m->(q=m\/w.heap.size<=q)/\q<w'.heap.size):=by
 subst hl;obtain⟨w',h0,h1,h2,h3⟩:=M.insert (dst:=dst) (ty:=ty) (pos:=pos) (aft:=aft) (g:=g) h ht hk hx hy hu;exact⟨w',h0,h1,h2,fun q hq=>⟨.inl hq,by have:=h1.lt;omega⟩⟩
theorem zsl {x:Operand} {k:Int} {z:Value} (h:MapI w m l) (hv:(zm5 l k).getD z=v) (ht:P.underlying t=some (.map kt et)) (hk:P.underlying kt=some (.int .i64)) (hz:∀ w,(zeroValue et).run P w=.ok z w) (hx:ev env x=some (.map (some m))) (hy:ev env y=some (.int .i64 k)) :
  yu P ⟨dst,.lookup t x y false,ty,pos,aft,g⟩ env w v w:=hv ▸ zs0 h ht hk hz hx hy
theorem zsm {x:Operand} {k:Int} (h:MapI w m l) (hv:zm5 l k=some v) (ht:P.underlying t=some (.map kt et)) (hk:P.underlying kt=some (.int .i64)) (hx:ev env x=some (.map (some m))) (hy:ev env y=some (.int .i64 k)) :
  xd P ⟨dst,.mapEntry t x y,ty,pos,aft,g⟩ env w (fun u w'=>∃ st:Nat,u=.tuple #[v,.int .i64 st]/\MapE w' m l k st/\Keep (fun q=>q=m) w w'/\∀ q,q=m->(q=m\/w.heap.size<=q)/\q<w'.heap.size):=by
 obtain⟨u,w',h0,st,h1,h2,h3,h4⟩:=M.mapEntry (dst:=dst) (ty:=ty) (pos:=pos) (aft:=aft) (g:=g) h hv ht hk hx hy;exact⟨u,w',h0,st,h1,h2,h3,fun q hq=>⟨.inl hq,by have:=h2.lt;omega⟩⟩
theorem zsn {x u:Operand} {k:Int} {st:Nat} (h:MapE w m l k st) (hx:ev env x=some (.map (some m))) (hy:ev env y=some (.int .i64 st)) (hu:ev env u=some v) (hl:zhW l k v=l') :
  xO P ⟨dst,.entryStore t x y u,ty,pos,aft,g⟩ env w (fun w'=>MapI w' m l'/\Keep (fun q=>q=m) w w'/\∀ q,q=m->(q=m\/w.heap.size<=q)/\q<w'.heap.size):=by
 subst hl;obtain⟨w',h0,h1,h2,h3⟩:=M.entryStore (dst:=dst) (ty:=ty) (pos:=pos) (aft:=aft) (g:=g) (t:=t) h hx hy hu;exact⟨w',h0,h1,h2,fun q hq=>⟨.inl hq,by have:=h1.lt;omega⟩⟩
end
end Go.GL
namespace Go.Proofs.YtckdhgbepmpgiaaGreat
open Go.GL
def zdL (q:Int->Value):List (Int × Value):=[(1,q 1),(2,q 2),(3,q 3)]
theorem zeY {q:Int->Value} {k:Int} (hk:1<=k/\k<=3):zm5 (zdL q) k=some (q k):=by
 rcases JW with rfl | rfl | rfl<;>rfl
theorem zju {q:Int->Value} {k:Int} {u:Value} (hk:1<=k/\k<=3):zhW (zdL q) k u=zdL (fun j=>if j=k then u else q j):=by
 rcases JW with rfl | rfl | rfl<;>rfl
theorem zln (f:Fl) (r:Ins) (v1 v2 v3 s1 s2 s3:Value) (D:Nat->Prop) (W:World) (hf:RFl D W f v1 v2 v3) (dH:SlR 1 zG D W s1 r.secret) (dI:SlR 1 zG D W s2 r.pub) (dJ:SlR 1 zG D W s3 r.random) (dr:∀ v ∈ f.vars,0<=v.kind/\v.kind<=3) (du:f.vars.length<=1000) (hb:∀ k,(xZ r k).length<=1000000000) :
  Calls prog 44 #[.agg #[v1,v2,v3],.agg #[s1,s2,s3]] W (Ret fun rr w'=>(∃ u,rr=.tuple #[u,.int .i64 (zz f.vars r)]/\(zz f.vars r=0->SlR 1 zG (fun b=>W.heap.size<=b) w' u (zK f.vars r)))/\Ext W w'):=by
 have dc:=hf.vars;obtain⟨av,cv,rfl⟩:=dc.form;have dK:=dc.max;refine zqr func44 O ntmps44 O (V.inn (Vs 2 O (V.box 2 O O (fun b2=>?_))));refine V.box 3 O O (fun b3=>(Vs 6 O (zs5 901 (E:=fun m=>MIP m []) (u:=fun m=>.map (some m)) O (fun _=>⟨MIP.loc,fun _ h=>h⟩) (fun w hI=>zsj) (fun m901=>?_))));refine Vs 2 O (zs3 901 (e':=MIP m901 [(1,s1)]) O MIP.loc (fun _ h=>h) (fun w hI=>zsk (hI.at 901 O) tu156 tu100 O O O O) (Vs 2 O (zs3 901 (e':=MIP m901 [(1,s1),(2,s2)]) O MIP.loc (fun _ h=>h) (fun w hI=>zsk (hI.at 901 O) tu156 tu100 O O O O) (Vs 2 O (zs3 901 (e':=MIP m901 [(1,s1),(2,s2),(3,s3)]) O MIP.loc (fun _ h=>h) (fun w hI=>zsk (hI.at 901 O) tu156 tu100 O O O O) (Vs 5 O (zqU 902 3 1 O (Vs 19 O (zrl (σ:=Nat × StS × (Int->Value) × Bool × Value) [6,22,23] [] [] O (fun e ⟨i,s,q,o,u⟩=>(7,u)::(8,.bool o)::(24,.int .i64 i)::e) (fun e ⟨i,s,q,o,u⟩=>(901,MIP m901 (zdL q))::(902,.row 3 1 u s.vals.length (s.vals.map zb))::e) (fun⟨i,s,q,o,u⟩=>i<=f.vars.length/\(f.vars.take i).foldl (zt r) (some ⟨[],0,0,0⟩)=some s/\LeftOk D W r s q/\o=((f.vars.take i).zip s.vals).all inB) (fun⟨i,s,q,o,u⟩=>f.vars.length - i) (0,⟨[],0,0,0⟩,fun k=>if k=1 then s1 else if k=2 then s2 else s3,true,.slice none 0 0) j2 j3 j1 j1 j1 ⟨zt6 _,rfl,fun k h1 h3=>by rcases JW with rfl | rfl | rfl<;>assumption,rfl⟩ ?_)))))))));rintro⟨i,s,q,o,u⟩ ⟨hi,hS,hL,ho⟩;refine Vs 6 O (zoE O (fun dw=>?_) (fun dw=>?_))
 .
  refine Vs 6 O (zri 1000 0 i tO dc O O O (fun x dL dM dN da dg dh dl=>?_));obtain rfl:=dl;refine zqQ 1000 tR22 ts142 O dh tO _ rfl O ?_;obtain⟨dx,_⟩:=zcI i s hi hS;have dO:=dr x dg;refine Vs 1 O (V.alloc 10 tz142 O O (fun b10=>?_));refine Vs 11 O (zrm (σ:=Int × (Int->Value) × StS) [6,7,8,10,22,23,24] [10,902] [10] O (fun e ⟨n,q',s'⟩=>(11,.int .i64 n)::e) (fun e ⟨n,q',s'⟩=>(901,MIP m901 (zdL q'))::e) (fun⟨n,q',s'⟩=>zt r (some s) x=some s'/\s'.vals=s.vals++[n]/\LeftOk D W r s' q') j1 j1 ?_ ?_)
  .
   refine Vs 7 O (zoE O (fun hk=>?_) (fun hk=>?_))
   .
    have hY:1<=x.kind/\x.kind<=3:=tO;obtain⟨rest,hC⟩:∃ rest,rest=(xZ r x.kind).drop (zaO s x.kind):=⟨_,rfl⟩;have hq:=hL x.kind hY.1 hY.2;rw[<- hC]at hq;obtain⟨aq,cq,dt⟩:=hq.form;rw[dt]at hq;have dy:=zkL hY hC.symm;refine Vs 5 O (zqh O (fun w hI=>zsl (v:=.slice aq rest.length cq) (hI.at 901 O) (by rw[zeY hY,dt];rfl) tu156 tu100 tz27 O O) (Vs 11 O (zoE O (fun z=>?_) (fun z=>?_))))
    .
     have hn:(f.vars.take (i+1)).foldl (zt r) (some ⟨[],0,0,0⟩)=none:=by
      rw[ze da,zuv,hS];exact ziM hY (by rw[dy,ztf tO])
     have h1:zz f.vars r=1:=by unfold zz;rw[zfA hn]
     refine Vs 15 O UM
    refine zrj 2000 0 0 tO hq O O (fun y dQ dR dz dA dm=>?_);have dB:(xZ r x.kind)[zaO s x.kind]?=some y:=tD;refine Vs 2 O (Vw [1000,10,2000] [9] O (Vd [0,1,2,3,6] 0 tK O O O ?_));refine zqR 4 2000 tR27 ts3 O tK O dm tO _ rfl O (Vd [5,8] 0 tK O O O (zrx 7 O tK O (fun w=>zpk tR27 ts3 O O tO) (zse 9 901 0 (E':=fun st=>MEP m901 (zdL q) x.kind st) (r:=fun st=>.tuple #[q x.kind,.int .i64 st]) O tK O O (fun _=>⟨MEP.loc,fun _ h=>h⟩) (fun w hI=>zsm (hI.at 901 O) (zeY hY) tu156 tu100 O O) (fun st=>?_))));refine Vd [10] 0 tK O O O (zs4 11 901 0 (e':=MIP m901 (zdL fun j=>if j=x.kind then (.slice (if cq=1 then aq else aq.map (·.add (1*1))) (rest.length - 1) (cq - 1)) else q j)) O tK O O MIP.loc (fun _ h=>h) (fun w hI=>zsn (hI.at 901 O) O O O (zju hY)) (VD.done tK (zoS ⟨y,fun j=>if j=x.kind then (.slice (if cq=1 then aq else aq.map (·.add (1*1))) (rest.length - 1) (cq - 1)) else q j,zcp s x.kind y⟩ j2 j3 ⟨zkM hY dB,zhg _ _ _,hL.next hY hC hq tO⟩ 0 O O)))
   refine Vs 1 O (zoS ⟨x.init,q,⟨s.vals++[x.init],s.a,s.b,s.c⟩⟩ j2 j3 ⟨ziL tO,rfl,hL⟩ 0 O O)
  rintro⟨n,q',s'⟩ ⟨dC,dD,dE⟩;refine Vs 2 O (zrm (σ:=Bool) [6,7,11,22,23,24] [901,902] [] O (fun e o'=>(8,.bool o')::e) (fun e o'=>e) (fun o'=>o'=(o&&inB (x,n))) j1 j1 ?_ ?_)
  .
   refine Vs 3 O (zqb 51 O (fun b1=>?_) (fun b1=>?_))
   .
    subst b1;refine Vs 6 O (V.sp 57 O (fun b2=>?_) (fun b2=>?_))
    . refine Vs 7 O (zoS (decide (n<=x.high)) j2 j3 (by simp[inB,b2]) 0 O O)
    refine Vs 7 O (zoS (false) j2 j3 (by simp[inB];omega) 0 O O)
   subst b1;refine Vs 13 O (zoS (false) j2 j3 tR 0 O O)
  rintro o' dF;refine Vs 4 O (zro 65 [(0,_)] tR27 ts3 tz3 tS O O tK (fun b65=>?_));refine zqV 902 65 tu27 Tryz.el3 O tS O O tO tO (fun u902=>(Va 8 O tO (zrk 902 O (e':=.row 3 1 u902 s'.vals.length (s'.vals.map zb)) tD (V.back ⟨i+1,s',q',o',u902⟩ j2 j3 ⟨tO,zhl da hS dC,dE,by rw[dF,ho,dD,zkA da s.vals dx n]⟩ tD 0 O O))))
 obtain rfl:i=f.vars.length:=tO;rw[zsW]at hS ho;have db:zaP f.vars r=some s:=hS;obtain⟨a1,c1,e1⟩:=(hL 1 tS tS).form;obtain⟨a2,c2,e2⟩:=(hL 2 tS tS).form;obtain⟨a3,c3,e3⟩:=(hL 3 tS tS).form;have dG:zK f.vars r=s.vals:=by unfold zK;rw[db]
 have hm:∀ k,((xZ r k).drop (zaO s k)).length<=1000000000:=fun k=>tD;have dS:=hm 1;have dT:=hm 2;have dU:=hm 3;refine Vs 9 O (zqh O (fun w hI=>zsl (v:=.slice a1 ((xZ r 1).drop (zaO s 1)).length c1) (hI.at 901 O) (by rw[<- e1];rfl) tu156 tu100 tz27 O O) (Vs 2 O (zqh O (fun w hI=>zsl (v:=.slice a2 ((xZ r 2).drop (zaO s 2)).length c2) (hI.at 901 O) (by rw[<- e2];rfl) tu156 tu100 tz27 O O) (Va 3 O tO (zqh O (fun w hI=>zsl (v:=.slice a3 ((xZ r 3).drop (zaO s 3)).length c3) (hI.at 901 O) (by rw[<- e3];rfl) tu156 tu100 tz27 O O) ?_)))));refine Va 5 O tO (zoE O (fun z=>?_) (fun z=>?_))
 .
  have h1:zz f.vars r=1:=by
   rcases (show 0<((xZ r 1).drop (zaO s 1)).length\/0<((xZ r 2).drop (zaO s 2)).length\/0<((xZ r 3).drop (zaO s 3)).length by omega) with h | h | h
   . exact zaw db (k:=1) tS h
   . exact zaw db (k:=2) tS h
   exact zaw db (k:=3) tS h
  refine Vs 8 O UM
 have hc:=ziN db dr (fun k h1 h3=>by rcases JW with rfl | rfl | rfl<;>omega);rw[<- ho]at hc;refine Vs 6 O (zqh O (fun w hI=>zpS O j6) (Vs 2 O (V.bool O (fun y=>?_) (fun y=>?_))))
 .
  have h3:zz f.vars r=3:=by rw[hc];cases o;(· rfl);cases y
  refine Vs 8 O (zoY tr44 O O (fun w hI=>⟨_,rfl,⟨_,by rw[h3],fun h=>tO⟩,hI.k0⟩))
 have h0:zz f.vars r=0:=by rw[hc];cases o;(· cases y);rfl
 refine Vs 10 O (zoY tr44 O O (fun w hI=>⟨_,rfl,⟨_,tD,fun _=>dG ▸ zpK (R:=zG) (D:=fun b=>W.heap.size<=b) zb (fun _ _=>rfl) (hI.at 902 O) (fun q hq=>hI.own 902 0 O O q hq)⟩,hI.k0⟩))
end Go.Proofs.YtckdhgbepmpgiaaGreat
namespace Go.GL
open Go.RowKit Go.Row
section
variable {ty:TypeId} {pos:String} {gu:Option (Nat × Bool)}
theorem zso {z:Value} {x:Operand} {g:Nat} {news:List Value} {a0:Addr} {cs:Nat} (hu:P.underlying t=some (.slice e)) (he:(P.info? e).map (fun i=>(i.zero,i.size,i.bytes))=some (some z,1,by'))
  (hx:ev env x=some (.slice (some ⟨g,0,none⟩) m c)) (hy:ev env y=some (.slice (some a0) j cs)) (hY:(HE.row e 1 (.slice (some ⟨g,0,none⟩) m c) m xs).holds w) (hl:news.length=j) (dm:j<=m) (da:∀ q u,news[q]?=some u->w.cell? (a0.add q)=some u) (h1:∀ u ∈ news,u.oneCell'=true) (hz:news++xs.drop j=zs) :
  xd P ⟨dst,.call ⟨.builtin .copy,#[x,y],#[t,t]⟩,ty,pos,aft,gu⟩ env w (fun u w'=>u=.int .i64 (j:Int)/\(HE.row e 1 (.slice (some ⟨g,0,none⟩) m c) m zs).holds w'/\Keep (HE.row e 1 (.slice (some ⟨g,0,none⟩) m c) m xs).S w w'/\∀ q,(HE.row e 1 (.slice (some ⟨g,0,none⟩) m c) m zs).S q->((HE.row e 1 (.slice (some ⟨g,0,none⟩) m c) m xs).S q\/w.heap.size<=q)/\q<w'.heap.size):=by
 subst hz;have hY:w.ownsRow 0 e 1 (.slice (some ⟨g,0,none⟩) m c) m xs:=hY;obtain⟨i,hi,dr,dt,du⟩:=info_parts he;obtain⟨db,h2⟩:=hY;rcases h2 with⟨h2,_⟩ | ⟨g0,cap,cur,hv,dc,hg,hc,dg,dh,hC⟩
 . cases h2
 cases hv;rw[zvU]at dh hC db;have hr:=run_copy_row (P:=P) w t t ty e g 0 m c a0 j cs cur e news hu tD hg tD da tO h1;have dl:=(ztt.1 hg).1;refine⟨.int .i64 (j:Int),w.setRow g (cur.toList.take 0++news++cur.toList.drop (0+news.length)).toArray,fun n a ha=>?_,rfl,⟨?_,.inr ⟨g,c,_,rfl,dc,setRow_heap w g cur _ e _ hg,hc,dg,?_,?_⟩⟩,⟨rfl,rfl,rfl,ztg _,tR,fun k _ hk=>setRow_other w g k _ (fun e=>hk (by simp[HE.S,Value.ownBlock,e]))⟩,fun q hq=>⟨.inl hq,?_⟩⟩
 .
  rw[<- hl];simp[execOp,resolve,invoke,builtin,ha.eval hx,ha.eval hy,hr,goInt]
 . grind
 . grind
 .
  rw[zvU,zvE,zvb,zvY,hl];show (news++cur.toList.drop j).take m=_;rw[List.take_append,zvB tO,hl,<- hC,List.drop_take]
 have hq:some g=some q:=hq;cases hq;simpa using dl
theorem zsp {z:Value} {x:Operand} {g:Nat} {vy:Value} (hu:P.underlying t=some (.slice e)) (he:(P.info? e).map (fun i=>(i.zero,i.size,i.bytes))=some (some z,1,by'))
  (hx:ev env x=some (.slice (some ⟨g,0,none⟩) m c)) (hy:ev env y=some vy) (hC:(HE.row e 1 (.slice (some ⟨g,0,none⟩) m c) m xs).holds w) (hY:SlR 1 zG D w vy l) (db:l.length<=m) (hz:l.map (Value.int .i64)++xs.drop l.length=zs) :
  xd P ⟨dst,.call ⟨.builtin .copy,#[x,y],#[t,t]⟩,ty,pos,aft,gu⟩ env w (fun u w'=>u=.int .i64 (l.length:Int)/\(HE.row e 1 (.slice (some ⟨g,0,none⟩) m c) m zs).holds w'/\Keep (HE.row e 1 (.slice (some ⟨g,0,none⟩) m c) m xs).S w w'/\∀ q,(HE.row e 1 (.slice (some ⟨g,0,none⟩) m c) m zs).S q->((HE.row e 1 (.slice (some ⟨g,0,none⟩) m c) m xs).S q\/w.heap.size<=q)/\q<w'.heap.size):=by
 obtain⟨ao,cap,rfl⟩:=hY.form;cases l with
 | nil =>
  have hz:xs=zs:=hz;subst hz;obtain⟨i,hi,dc,dg,dh⟩:=info_parts he;have hr:=run_copy_none (P:=P) w t t ty e (some ⟨g,0,none⟩) ao m c 0 cap hu tD tR;refine⟨.int .i64 0,w,fun n a ha=>?_,rfl,hC,Keep.refl _ _,fun q hq=>⟨.inl hq,xB (show w.ownsRow 0 e 1 _ m _ from hC) hq⟩⟩;have dl:(Builtin.copy_ #[t,t] ty #[.slice (some ⟨g,0,none⟩) m c,.slice ao ([]:List Int).length cap]).run P w=.ok (goInt 0) w:=hr;simp[execOp,resolve,invoke,builtin,ha.eval hx,ha.eval hy,hr,goInt]
 | cons v0 l =>
  obtain⟨b,o,cs,rfl,_⟩:=hY.at (i:=0) (x:=v0) rfl;refine zso hu he hx hy hC (ztb _) db (fun q u hq=>?_) (fun u hu=>?_) hz
  .
   rw[zt8]at hq;obtain⟨v,hv,rfl⟩:=zw3.1 hq;obtain⟨b',o',cs,e1,_,h3,h4⟩:=hY.at hv;cases e1;obtain rfl:cs=[.int .i64 v]:=h4;have:=h3 0 _ rfl;by_cases da:q=0
   . subst da;simpa[Addr.add] using this
   simpa[Addr.add,da] using this
  obtain⟨v,_,rfl⟩:=zv6.1 hu;rfl
end
end Go.GL
