/-
  Contracts and the mathematics that the proof needs. Nothing here is a claim.
-/
import Derived.Test.YtckdhgbepmpgiaaGreatKB3
theorem iD {p:Prop}(h:p:=by exact congrArg some tK):p:=h
theorem iQ {p:Prop}(h:p:=by exact zp7 tr25 tg72 ts72 O O O O (fun w hI=>⟨_,rfl,⟨_,rfl,rfl,RSt.put (SlR.wide zy (z1.keep zy hI.k0 (fun q hq _ hs=>dg q hq hs)) hC) (SlR.wide zf (z2.keep zf hI.k0 (fun q hq _ hs=>dg q hq hs)) hC) (SlR.wide zf (z3.keep zf hI.k0 (fun q hq _ hs=>dg q hq hs)) hC) (SlR.wide zc (z4.keep zc hI.k0 (fun q hq _ hs=>dg q hq hs)) hC)⟩,hI.k1⟩)):p:=h
theorem ig {p:Prop}(h:p:=by exact fun b_ d_ h_=>by have da:=dg _ h_;first | omega | exact da d_):p:=h
theorem iz {p:Prop}(h:p:=by exact VD.skip 35 0 O tK O O (Vd [36,37,38,39,40,41,42,43,44,45,46] 0 tK O O O (VD.done tK (Vs 14 O (zoV tr78 O (fun w hI=>⟨_,rfl,⟨_,rfl,dh p hC fun h=>c3 h.ver⟩,hI.k0⟩)))))):p:=h
theorem y6 {p:Prop}(h:p:=by exact fun q hq=>⟨zvP (da q hq).1 hI.k0.size,show ¬ (qc u (acc++ye t++mentL (t.kids.take i))).S q from hI.offD 0 900 O O (da q hq).1 (fun h=>dc q h hq)⟩):p:=h
theorem JK {p:Prop}(h:p:=by exact VD.done tK (Vs 14 O (zoV tr78 O (fun w hI=>⟨_,rfl,⟨_,rfl,dh p hC fun h=>c4 (by rw[dB];exact h.frm)⟩,hI.k0⟩)))):p:=h
theorem JQ {p:Prop}(h:p:=by exact ⟨zt6 _,fun j u h=>absurd h (zvV _)⟩):p:=h
theorem JS {p:Prop}(h:p:=by unfold rdB;rw[hC];exact zt3 tO):p:=h
theorem JU {p:Prop}(h:p:=by exact yL _ _ O):p:=h
theorem JW {p:Prop}(h:p:=by exact show k=1\/k=2\/k=3 by omega):p:=h
theorem Je {p:Prop}(h:p:=by exact fun w hI=>zc6 f g s p.ver p.var b gb _ _ _ _ D D' w (Tr1 hI.k0 hc) (Tr1 hI.k0 dy) (Tr1 hI.k0 hG)):p:=h
theorem Ji {p:Prop}(h:p:=by exact zoV tr78 O (fun w hI=>⟨_,rfl,⟨_,rfl,dh p hC fun h=>c5 (by have:=h.len;omega)⟩,hI.k0⟩)):p:=h
theorem Jl {p:Prop}(h:p:=by exact zoV tr71 O (fun w hI=>⟨_,rfl,Tr1 hI.k1 (dg (by unfold rdB;rw[hC];exact zt4 tO)),hI.k1⟩)):p:=h
theorem Jn {p:Prop}(h:p:=by exact Tr1 hI.k0 dx):p:=h
theorem Jq {p:Prop}(h:p:=by exact fun q _ h=>by rw[h];rfl):p:=h
theorem Jv {p:Prop}(h:p:=by exact zoV tr78 O (fun w hI=>⟨_,rfl,⟨_,rfl,dh p hC fun h=>c6 (h.args a du)⟩,hI.k0⟩)):p:=h
theorem Jx {p:Prop}(h:p:=by exact zr9 0 tr23 O O tD):p:=h
theorem J0 {p:Prop}(h:p:=by exact ⟨_,rfl,by rw[dm];exact zj hC da (fun _ _ h=>h),rfl,da.mono (fun _ _ h=>h.elim)⟩):p:=h
theorem J2 {p:Prop}(h:p:=by exact fun w hI=>ziU f.body v3 D w x.at_ s (Tr1 hI.k0 hf.body) h0 (db ▸ qh h0 h1) hz):p:=h
theorem J7 {p:Prop}(h:p:=by rw[zt4 (fun h=>g1 (by have:=(zt5.1 (verB_nat.1 h).1).1;omega))]):p:=h
theorem UA {p:Prop}(h:p:=by rw[show acc++ye t++mentL (t.kids.take 0)=acc++ye t from zu1 _]):p:=h
theorem UB {p:Prop}(h:p:=by exact ⟨dH,rfl,ztg _,tO,tO,tO,dJ.symm,rfl,(da.ext dt).mono (fun _ _ h=>h.elim)⟩):p:=h
theorem UD {p:Prop}(h:p:=by exact ⟨zt6 _,fun j x h=>absurd h (zvV _)⟩):p:=h
theorem UE {p:Prop}(h:p:=by exact ⟨zt6 _,fun q a h=>absurd h (zvV _)⟩):p:=h
theorem UF {p:Prop}(h:p:=by exact fun w hI=>zgt f s a p.var b gb _ _ _ _ D w (Tr1 hI.k0 hc) (Tr1 hI.k0 dy)):p:=h
theorem UJ {p:Prop}(h:p:=by exact ⟨c3,tD,tO,fun a ha=>by obtain⟨q,hq⟩:=zv5.1 ha;exact qd da q a hq⟩):p:=h
theorem UU {p:Prop}(h:p:=by exact fun q hq=>by exact hI.offD 0 900 O O (hC.lt hq) (fun h=>da q h hq)):p:=h
theorem UZ {p:Prop}(h:p:=by exact ⟨h1,trivial,fun _ h=>h,fun q hq=>⟨.inr (h2 q hq),xB h1 hq⟩⟩):p:=h
theorem Uq {p:Prop}(h:p:=by exact zrk 900 O (e':=.row 3 1 u2 (acc++ye t++mentL (t.kids.take (i+1))).length ((acc++ye t++mentL (t.kids.take (i+1))).map zb)) tD (V.back ⟨i+1,u2⟩ j2 j3 tO tD 0 O O)):p:=h
theorem Ur {p:Prop}(h:p:=by exact zrk 900 O (e':=.row 3 1 u900 (acc++ye t).length ((acc++ye t).map zb)) (by unfold ye;rw[zt2 e,zsZ,zuT];rfl) (zoS (u900) j2 j3 True.intro 0 O O)):p:=h
theorem Uw {p:Prop}(h:p:=by exact zrk 901 O (e':=.row 3 1 u901 (jp g n (i+1)).length ((jp g n (i+1)).map zb)) tD (zoS (u901) j2 j3 True.intro 0 O O)):p:=h
theorem YB {p:Prop}(h:p:=by exact Sub.cons (by unfold xb;rw[zt1 (fun h=>h.elim e1 e2),zt1 e3];rfl) j2):p:=h
theorem YC {p:Prop}(h:p:=by exact Sub.cons (by unfold xb;rw[zt1 (fun h=>h.elim e1 e2),zt2 e3];rfl) j2):p:=h
open Go.Proofs.Tryz
variable {α:Type} {f:Go.GL.Fl} {hs vl vals:List Int} {g:List Go.GL.Nd} {vs:List Go.GL.Vr} {nh m a b j i nv d fuel q d2 N kk:Nat} {x:Go.GL.Nd} {r1 r2:Int->Int} {k v y:Int} {F:α->Int} {B C O O':Nat->Int->Int} {w w':Go.World} {e ty2 t:Go.TypeId} {P:Go.Program} {Q:Go.Exit->Go.Act->Go.World->Prop} {ks:List Go.GL.Fr} {env:Go.GL.Env} {A:Go.GL.Tgs} {H Hs:Go.GL.Hp} {Bs B0:Go.GL.zn} {ops:Array Go.Oper} {rest:List Go.Oper} {aft aft2:Array Go.Edge} {e' e2:Go.GL.HE} {L:List Nat} {listed:Array Bool} {r:Go.GL.Ins} {D:Nat->Prop} {u1 u2 z u:Go.Value} {ps2:String} {cs rv us:List Go.Value} {rows:List (List Int)} {dn':Nat->Nat->Prop} {enc:α->Go.Value} {dst:Option Go.Tmp}
namespace Go.Proofs.YtckdhgbepmpgiaaGreat
open Go.GL
def zhh (body:Sg->Sg) (cost:Int) (t:Tm):Nat->Sg->Sg
 | 0,σ=>σ
 | k+1,σ=>if qO σ.vals t=0 then { σ with time:=σ.time+cost } else zhh body cost t k (body { σ with time:=σ.time+cost })
section
variable (f:Fl) (hs:List Int)
mutual
def exS:St->Sg->Sg
 | .mk a c v n t th el b,σ =>
  if a=3 then (if qO σ.vals t ≠ 0 then exL th { σ with time:=σ.time+c } else exL el { σ with time:=σ.time+c })
  else if a=4 then zhh (fun σ=>exL th σ) c t n.toNat σ
  else qt f hs (.mk a c v n t th el b) σ
def exL:List St->Sg->Sg
 | [],σ=>σ
 | s::r,σ=>exL r (exS s σ)
end
theorem znx (s:St) (σ:Sg):exS f hs s σ=if s.act=3 then (if qO σ.vals s.term ≠ 0 then exL f hs s.thn { σ with time:=σ.time+s.cost } else exL f hs s.els { σ with time:=σ.time+s.cost })
  else if s.act=4 then zhh (exL f hs s.thn) s.cost s.term s.n.toNat σ else qt f hs s σ:=by cases s;rw[exS];rfl
structure Mc where
 at_:Int
 σ:Sg
 rd:Int->Int
def znn:St:=.mk 0 0 0 0 (.mk 0 0 []) [] [] []
def yP (g:List Nd) (k:Int):Nd:=g[k.toNat]?.getD ⟨1,-1,-1,-1⟩
def ya (f:Fl) (k:Int):St:=(preL f.body)[k.toNat]?.getD znn
def jY (g:List Nd) (m:Mc):Mc :=
 ⟨(xp f hs (yP g m.at_) (ya f (yP g m.at_).at_) m.σ m.rd).1,(xp f hs (yP g m.at_) (ya f (yP g m.at_).at_) m.σ m.rd).2.1,(xp f hs (yP g m.at_) (ya f (yP g m.at_).at_) m.σ m.rd).2.2⟩
def zcq (g:List Nd):Nat->Mc->Mc
 | 0,m=>m
 | k+1,m=>zcq g k (jY f hs g m)
theorem za9 (g:List Nd):∀ (a b:Nat) (m:Mc),zcq f hs g (a+b) m=zcq f hs g b (zcq f hs g a m)
 | 0,b,m=>by rw[zvY];rfl
 | a+1,b,m=>by rw[show a+1+b=(a+b)+1 by omega];exact za9 g a b (jY f hs g m)
theorem zcJ (g:List Nd) (k:Nat) (m:Mc):zcq f hs g (k+1) m=jY f hs g (zcq f hs g k m):=by rw[za9];rfl
def Goes (g:List Nd) (lo hi:Int) (k:Nat) (m m':Mc):Prop:=zcq f hs g k m=m'/\∀ j,j<k->lo<=(zcq f hs g j m).at_/\(zcq f hs g j m).at_<hi
end
section
variable {lo hi:Int} {k k':Nat} {m m' m'':Mc}
theorem Goes.refl (m:Mc):Goes f hs g lo hi 0 m m:=⟨rfl,fun _ h=>absurd h (zvV _)⟩
theorem Goes.trans (h:Goes f hs g lo hi k m m') (h':Goes f hs g lo hi k' m' m''):Goes f hs g lo hi (k+k') m m'':=by
 refine⟨by rw[za9,h.1,h'.1],fun j hj=>?_⟩;by_cases hC:j<k
 . exact h.2 j hC
 obtain⟨i,rfl⟩:∃ i,j=k+i:=⟨j - k,tO⟩;rw[za9,h.1];exact h'.2 i tO
theorem Goes.widen {lo' hC:Int} (h:Goes f hs g lo hi k m m') (h1:lo'<=lo) (h2:hi<=hC):Goes f hs g lo' hC k m m':=⟨h.1,fun j hj=>by have:=h.2 j hj;omega⟩
theorem Goes.one (h:jY f hs g m=m') (h1:lo<=m.at_/\m.at_<hi):Goes f hs g lo hi 1 m m':=by
 refine⟨h,fun j hj=>?_⟩;obtain rfl:j=0:=tO;exact h1
end
mutual
def nbS:St->Nat
 | .mk a _ _ n _ th el _=>if a=3 then 1+max (nbL th) (nbL el) else if a=4 then 2+n.toNat*(1+nbL th) else 1
def nbL:List St->Nat
 | []=>0
 | s::r=>nbS s+nbL r
end
theorem zm7 (s:St):nbS s=if s.act=3 then 1+max (nbL s.thn) (nbL s.els) else if s.act=4 then 2+s.n.toNat*(1+nbL s.thn) else 1:=by cases s;rw[nbS];rfl
theorem zny (l:List St):∀ top,stepsCodeN vs nh l top=0->(nbL l:Int)<=2*(bds l).1:=by
 induction l using zqD with
 | h l ih =>
 intro top h;have hm:=xT l top h
 have key:∀ r:List St,(∀ x ∈ r,x ∈ l)->(nbL r:Int)<=2*(bds r).1:=by
  intro r;induction r with
  | nil=>intro _;simp[nbL,bds]
  | cons x r ihr =>
   intro hx;have h1:=ihr (fun y hy=>hx y iu);obtain⟨last,h2⟩:=hm x (hx x (zsV ..));obtain⟨h3,_,_,h4,h5⟩:=qn h2;have h6:=(ih x (hx x (zsV ..))).1 _ h4;have h7:=(ih x (hx x (zsV ..))).2 _ h5;have b4:=xm x.thn _ h4;have b5:=xm x.els _ h5;rw[nbL,bds]
   have:(nbS x:Int)<=2*(qI x).1:=by
    rw[zm7,yX];by_cases a4:x.act=4
    .
     rw[zt1 (show ¬ x.act=3 by omega),zt2 a4,zt2 a4];obtain⟨n,hn⟩:=ztN (h3.rep a4).1;rw[hn,ztd]
     have:((n*(1+nbL x.thn):Nat):Int)<=(n:Int)*(2*(1+(bds x.thn).1)):=by
      rw[Int.natCast_mul];exact ztS tO tO
     grind
    grind
   simp only;omega
 exact key l (fun x h=>h)
def CtxG (g:List Nd) (n:Nat) (ns:List Nd):Prop:=∀ (i:Nat) x,ns[i]?=some x->g[n+i]?=some x
def CtxP (P:List St) (a:Nat) (ps:List St):Prop:=∀ (i:Nat) x,ps[i]?=some x->P[a+i]?=some x
theorem CtxG.left {n:Nat} {a b:List Nd} (h:CtxG g n (a++b)):CtxG g n a:=fun i x hx=>h i x (by rw[zth (zt5.1 hx).1];exact hx)
theorem CtxG.right {n:Nat} {a b:List Nd} (h:CtxG g n (a++b)) (hm:m=n+a.length):CtxG g m b:=fun i x hx=>by
 rw[hm,zvF];exact h _ x (by rw[zti tO];simpa using hx)
theorem CtxG.head {n:Nat} {b:List Nd} (h:CtxG g n (x::b)):g[n]?=some x:=h 0 x rfl
theorem CtxG.tail {n:Nat} {b:List Nd} (h:CtxG g n (x::b)):CtxG g (n+1) b:=fun i y hy=>by
 rw[zvF,zvG 1];exact h (i+1) y tD
theorem CtxP.left {P:List St} {n:Nat} {a b:List St} (h:CtxP P n (a++b)):CtxP P n a:=fun i x hx=>h i x (by rw[zth (zt5.1 hx).1];exact hx)
theorem CtxP.right {P:List St} {n:Nat} {a b:List St} (h:CtxP P n (a++b)) (hm:m=n+a.length):CtxP P m b:=fun i x hx=>by
 rw[hm,zvF];exact h _ x (by rw[zti tO];simpa using hx)
theorem CtxP.head {P:List St} {n:Nat} {x:St} {b:List St} (h:CtxP P n (x::b)):P[n]?=some x:=h 0 x rfl
theorem CtxP.tail {P:List St} {n:Nat} {x:St} {b:List St} (h:CtxP P n (x::b)):CtxP P (n+1) b:=fun i y hy=>by
 rw[zvF,zvG 1];exact h (i+1) y tD
theorem jl {n:Nat} (h:g[n]?=some x):yP g n=x:=by unfold yP;rw[ztd,h];rfl
theorem zix {s:St} (h:(preL f.body)[a]?=some s):ya f a=s:=by unfold ya;rw[ztd,h];rfl
def SameR (a n:Nat) (rd rd':Int->Int):Prop:=∀ k:Int,¬ ((a:Int)<=k/\k<(a+n:Nat))->rd' k=rd k
theorem SameR.refl (a n:Nat) (rd:Int->Int):SameR a n rd rd:=fun _ _=>rfl
theorem SameR.trans {n:Nat} {r3:Int->Int} (h:SameR a n r1 r2) (h':SameR a n r2 r3):SameR a n r1 r3:=fun k hk=>(h' k hk).trans (h k hk)
theorem SameR.widen {n:Nat} (h:SameR a n r1 r2) (h1:b<=a) (h2:a+n<=b+m):SameR b m r1 r2:=fun k hk=>h k (fun h3=>hk ⟨tO,tO⟩)
theorem zs1 {n:Nat} {rd:Int->Int} (h:(a:Int)<=k/\k<(a+n:Nat)):SameR a n rd (ze0 rd k v):=fun j hj=>by
 unfold ze0;rw[zt1 (fun e=>hj tO)]
section
def Sim (f:Fl) (hs:List Int) (g:List Nd) (l:List St):Prop:=∀ (a n e:Nat),CtxG g n (layL l a n e)->CtxP (preL f.body) a (preL l)->∀ (σ:Sg) (rd:Int->Int),∃ k rd',Goes f hs g n (n+widL l:Nat) k ⟨((if l.isEmpty then e else n:Nat):Int),σ,rd⟩ ⟨(e:Int),exL f hs l σ,rd'⟩/\k<=nbL l/\SameR a (ssize l) rd rd'
theorem zmr (s:St) (hp:s.plainB=true) (hn:s.act=4->0<=s.n) (h1:Sim f hs g s.thn) (h2:Sim f hs g s.els):∀ (a n e:Nat),CtxG g n (s.lay a n e)->CtxP (preL f.body) a s.pre->∀ (σ:Sg) (rd:Int->Int),∃ k rd',Goes f hs g n (n+s.wid:Nat) k ⟨(n:Int),σ,rd⟩ ⟨(e:Int),exS f hs s σ,rd'⟩/\k<=nbS s/\SameR a s.size rd rd':=by
 intro a n e hG hP σ rd;have hw:=s.wid_eq;have hz:=s.size_eq;have dc:=hp;rw[s.plainB_eq,ztA,ztA]at dc;rw[s.lay_eq]at hG;rw[s.pre_eq]at hP;have hC:ya f a=s:=zix hP.head;rw[zm7,znx];by_cases a3:s.act=3
 .
  rw[zt2 a3]at hG;rw[zt1 i5]at hw;rw[zt2 a3,zt2 a3];have hY:=jl hG.head;have dm:=zB s.thn dc.1.2 (a+1) (n+1) e;have dr:=yp s.thn;obtain⟨k1,r1,g1,b1,s1⟩:=h1 (a+1) (n+1) e hG.tail.left hP.tail.left { σ with time:=σ.time+s.cost } rd;obtain⟨k2,r2,g2,b2,s2⟩:=h2 (a+1+ssize s.thn) (n+1+widL s.thn) e (hG.tail.right tO) (hP.tail.right tO) { σ with time:=σ.time+s.cost } rd;by_cases hv:qO σ.vals s.term ≠ 0
  .
   rw[zt2 hv];refine⟨1+k1,r1,(Goes.one (m':=⟨((if s.thn.isEmpty then e else n+1:Nat):Int),{ σ with time:=σ.time+s.cost },rd⟩) ?_ tD).trans (g1.widen tO tO),tO,s1.widen tO tO⟩;unfold jY;rw[hY,hC];simp[xp,hv,apply_ite (Nat.cast (R:=Int))]
  rw[zt1 hv];refine⟨1+k2,r2,(Goes.one (m':=⟨((if s.els.isEmpty then e else n+1+widL s.thn:Nat):Int),{ σ with time:=σ.time+s.cost },rd⟩) ?_ tD).trans (g2.widen tO tO),tO,s2.widen tO tO⟩;unfold jY;rw[hY,hC];simp[xp,hv,apply_ite (Nat.cast (R:=Int))]
 by_cases a4:s.act=4
 .
  rw[zt1 a3,zt2 a4]at hG;rw[zt2 a4]at hw;rw[zt1 a3,zt1 a3,zt2 a4,zt2 a4];have hY:=jl hG.head;have da:=jl hG.tail.head;have dh:CtxG g (n+2) (layL s.thn (a+1) (n+2) (n+1)):=hG.tail.tail;obtain⟨N,hN⟩:=ztN (hn a4)
  have key:∀ (q:Nat),q<=N->∀ (σ:Sg) (rd:Int->Int),rd a=((N - q:Nat):Int)->∃ k rd',Goes f hs g n (n+s.wid:Nat) k ⟨((n+1:Nat):Int),σ,rd⟩ ⟨(e:Int),zhh (exL f hs s.thn) s.cost s.term q σ,rd'⟩/\k<=1+q*(1+nbL s.thn)/\SameR a s.size rd rd':=by
   intro q;induction q with
   | zero =>
    intro _ σ rd db;refine⟨1,rd,Goes.one ?_ tD,tO,SameR.refl _ _ _⟩;unfold jY;rw[da,hC];simp[xp,hN,db,zhh]
   | succ q ih =>
    intro hq σ rd db;have dg:¬ (rd a=s.n):=tO;rw[zhh];by_cases hv:qO σ.vals s.term=0
    .
     rw[zt2 hv];refine⟨1,ze0 rd a (rd a+1),Goes.one ?_ tD,tO,zs1 tO⟩;unfold jY;rw[da,hC];simp[xp,dg,hv]
    rw[zt1 hv];obtain⟨k1,r1,g1,b1,s1⟩:=h1 (a+1) (n+2) (n+1) dh hP.tail.left { σ with time:=σ.time+s.cost } (ze0 rd a (rd a+1))
    have dl:r1 a=((N - q:Nat):Int):=by
     rw[s1 a tO];unfold ze0;rw[zt2 rfl,db];omega
    obtain⟨k2,r2,g2,b2,s2⟩:=ih tO _ r1 dl;refine⟨1+(k1+k2),r2,(Goes.one (m':=⟨((if s.thn.isEmpty then n+1 else n+2:Nat):Int),{ σ with time:=σ.time+s.cost },ze0 rd a (rd a+1)⟩) ?_ tD).trans ((g1.widen tO tO).trans g2),?_,(zs1 tO).trans ((s1.widen tO tO).trans s2)⟩
    .
     unfold jY;rw[da,hC];simp[xp,dg,hv,apply_ite (Nat.cast (R:=Int))]
    grind
  rw[hN,ztd];obtain⟨k,r',hg,hb,hr⟩:=key N (ztg _) σ (ze0 rd a 0) (by unfold ze0;rw[zt2 rfl,zvW];rfl);refine⟨1+k,r',(Goes.one (m':=⟨((n+1:Nat):Int),σ,ze0 rd a 0⟩) ?_ tD).trans hg,tO,(zs1 tO).trans hr⟩;unfold jY;rw[hY,hC];simp[xp]
 rw[zt1 a3,zt1 a4]at hG;rw[zt1 a4]at hw;rw[zt1 a3,zt1 a4,zt1 a3,zt1 a4];have hY:=jl hG.head;refine⟨1,rd,Goes.one ?_ tD,tO,SameR.refl _ _ _⟩;unfold jY;rw[hY,hC];simp[xp]
theorem zkB (l:List St):plainL l=true->(∀ s ∈ preL l,s.act=4->0<=s.n)->Sim f hs g l:=by
 induction l using zqD with
 | h l ih =>
 intro hp hn
 have key:∀ r:List St,(∀ x ∈ r,x ∈ l)->plainL r=true->(∀ s ∈ preL r,s.act=4->0<=s.n)->Sim f hs g r:=by
  intro r;induction r with
  | nil =>
   intro _ _ _ a n e _ _ σ rd;exact⟨0,rd,by rw[exL];exact Goes.refl _,zt6 _,SameR.refl _ _ _⟩
  | cons s r ihr =>
   intro hm da dc a n e hG hP σ rd;have dg:=hm s (zsV ..);have dl:widL (s::r)=s.wid+widL r:=rfl;rw[plainL,ztA]at da;have db:=da.1;have hY:=db;rw[s.plainB_eq,ztA,ztA]at hY;rw[layL]at hG;rw[preL]at hP;have hC:∀ x ∈ s.pre++preL r,x.act=4->0<=x.n:=dc;rw[s.pre_eq]at hC;have H1:=zmr (g:=g) (f:=f) (hs:=hs) s db (fun h=>hC s tR h) ((ih s dg).1 hY.1.2 (fun x hx=>hC x tD)) ((ih s dg).2 hY.2 (fun x hx=>hC x tD))
   have dh:(s.lay a n (if r.isEmpty then e else n+s.wid)).length=s.wid:=by
    have h1:=zB [s] (by rw[plainL,db];rfl) a n (if r.isEmpty then e else n+s.wid);simpa[layL,widL] using h1
   have dm:s.pre.length=s.size:=by
    have:=yp [s];simpa[preL,ssize] using this
   obtain⟨k1,r1,g1,b1,s1⟩:=H1 a n (if r.isEmpty then e else n+s.wid) hG.left hP.left σ rd;obtain⟨k2,r2,g2,b2,s2⟩:=ihr (fun y hy=>hm y iu) da.2 (fun x hx=>dc x (by rw[preL];exact zv1 _ hx)) (a+s.size) (n+s.wid) e (hG.right tO) (hP.right tO) (exS f hs s σ) r1;refine⟨k1+k2,r2,?_,by rw[nbL];omega,(s1.widen (ztg _) (by rw[ssize];omega)).trans (s2.widen tO (by rw[ssize];omega))⟩;rw[List.isEmpty_cons,zt1 tS,exL];exact Goes.trans (Goes.widen g1 tO tO) (Goes.widen g2 tO tO)
 exact key l (fun x h=>h) hp hn
end
open Go.GL
theorem zeB (l:List St):∀ top,stepsCodeN vs nh l top=0->∀ s ∈ preL l,∃ last,zJ vs nh s last=0:=by
 induction l using zqD with
 | h l ih =>
 intro top h;have hm:=xT l top h
 have key:∀ r:List St,(∀ x ∈ r,x ∈ l)->∀ s ∈ preL r,∃ last,zJ vs nh s last=0:=by
  intro r;induction r with
  | nil=>intro _ s hs;simp[preL]at hs
  | cons x r ihr =>
   intro hx s hs;obtain⟨last,h2⟩:=hm x (hx x (zsV ..));obtain⟨_,_,_,h4,h5⟩:=qn h2;rw[preL,x.pre_eq,zta,zt7,zta]at hs;rcases hs with (rfl | hs | hs) | hs
   . grind
   . grind
   . grind
   grind
 exact key l (fun x h=>h)
theorem zeC (l:List St):∀ s ∈ preL l,s.nodes<=snodes l:=by
 induction l using zqD with
 | h l ih =>
 have key:∀ r:List St,(∀ x ∈ r,x ∈ l)->∀ s ∈ preL r,s.nodes<=snodes r:=by
  intro r;induction r with
  | nil=>intro _ s hs;simp[preL]at hs
  | cons x r ihr =>
   intro hx s hs;have h1:=(ih x (hx x (zsV ..))).1;have h2:=(ih x (hx x (zsV ..))).2;have h3:=x.nodes_eq;rw[preL,x.pre_eq,zta,zt7,zta]at hs;rw[snodes];rcases hs with (rfl | hs | hs) | hs
   . omega
   . grind
   . grind
   grind
 exact key l (fun x h=>h)
theorem ziy {s:St} {last:Bool} (h:zJ f.vars f.hatches.length s last=0) (hn:s.nodes<=100000):StepOk f s:=by
 obtain⟨h1,h2,h3,_,_⟩:=qn h;have hC:=s.nodes_eq;unfold zD at h2;split at h2
 .
  rename_i hf;split at h2
  .
   rename_i hr;refine⟨hf,hr,tO,h1.cost,fun ha=>?_,fun ha=>?_⟩
   .
    unfold zH at h3;rcases ha with ha | ha
    .
     simp[ha,qM]at h3;omega
    simp[ha,qM]at h3;omega
   unfold zH at h3
   grind
  cases h2
 cases h2
def zb8 (s:St):Prop:=s.act=6->∀ b ∈ s.bounds,b<=67108864
theorem ziz {l:List Int} (h:xv l=true):∀ (d i:Nat) x y,l[i]?=some x->l[i+d]?=some y->x<=y:=by
 intro d;induction d with
 | zero=>intro i x y hx hy;rw[zvK,hx]at hy;cases hy;exact Int.le_refl _
 | succ d ih =>
  intro i x y hx hy;have hC:=(zt5.1 hy).1;obtain⟨z,hz⟩:∃ z,l[i+d]?=some z:=j9;have h1:=ih i x z hx hz;have h2:=(xF l).1 h (i+d) z y hz hy;omega
theorem zfB {s:St} {last:Bool} (h:zJ vs nh s last=0):zb8 s:=by
 intro a6 b hb;obtain⟨h1,h2,h3,_,_⟩:=qn h
 have h4:xa s=true:=by
  rw[zY]at h;split at h
  . cases h
  split at h
  . cases h
  rename_i h5;simpa using h5
 unfold zH at h3;simp[a6,xG]at h3;unfold xa at h4;simp[a6]at h4;have hr:=h3.2.2;obtain⟨i,hi⟩:=zv5.1 hb;have hC:=(zt5.1 hi).1;obtain⟨y,hy⟩:∃ y,s.bounds[s.bounds.length - 1]?=some y:=j9;have h5:=ziz hr (s.bounds.length - 1 - i) i b y hi tD;rw[hy]at h4;simp at h4;omega
theorem zeD (l:List Int) (t:Int):kF l t=t\/(kF l t ∈ l/\t<=kF l t):=by
 have key:∀ (l:List Int) (s:Int × Bool),(l.foldl (yY t) s).1=s.1\/((l.foldl (yY t) s).1 ∈ l/\t<=(l.foldl (yY t) s).1):=by
  intro l;induction l with
  | nil=>intro s;exact .inl rfl
  | cons b r ih =>
   intro s;rw[zuw];rcases ih (yY t s b) with h | h
   .
    rw[h];unfold yY;split
    . rename_i h1;exact .inr ⟨zsV ..,h1.1⟩
    exact .inl O
   grind
 exact key l (t,false)
structure Valid (f:Fl):Prop where
 ok:yO f=0
 size:snodes f.body+zx f.hatches<=1024
 bulk:sbulk f.body<=1000000
section
variable (V:Valid f)
include V
theorem Valid.plain:plainL f.body=true:=zbW V.ok
theorem Valid.good:∀ v ∈ f.vars,xz (v.low,v.high):=zbV (zZ V.ok).2.1
theorem Valid.kinds:∀ v ∈ f.vars,0<=v.kind/\v.kind<=3:=by
 have h:=(zZ V.ok).2.1
 have h1:∀ j,j<f.vars.length->za2 f.vars j=0:=by
  unfold zp at h;split at h
  . omega
  rename_i h2;intro j hj;exact qA f.vars.length 0 tO j (zt6 _) tO
 exact fun v hv=>(qB h1 v hv).2
theorem Valid.lens:f.vars.length<=64/\f.hatches.length<=8:=by
 have h:=(zZ V.ok).1;unfold qb at h;simp at h;omega
theorem Valid.ssize:ssize f.body<=1024:=zbX V.size
theorem Valid.step:∀ s ∈ preL f.body,StepOk f s/\zb8 s/\(s.act=4->0<=s.n/\s.n<=4096):=by
 intro s hs;obtain⟨last,h⟩:=zeB f.body true (zZ V.ok).2.2.2.1 s hs;have hn:=zeC f.body s hs;have:=V.size;exact⟨ziy h tO,zfB h,fun a4=>⟨((qn h).1.rep a4).1,((qn h).1.rep a4).2.1⟩⟩
theorem Valid.nb:nbL f.body<=8192:=by
 have h1:=zny f.body true (zZ V.ok).2.2.2.1;have h2:=(zZ V.ok).2.2.2.2;unfold zdr at h2;simp at h2;omega
end
theorem zaa (l:List St):∀ a n e,∀ x ∈ layL l a n e,x.kind=2\/x.kind=3\/x.kind=4\/x.kind=5:=by
 induction l using zqD with
 | h l ih =>
 have key:∀ r:List St,(∀ x ∈ r,x ∈ l)->∀ a n e,∀ x ∈ layL r a n e,x.kind=2\/x.kind=3\/x.kind=4\/x.kind=5:=by
  intro r;induction r with
  | nil=>intro _ a n e x hx;simp[layL]at hx
  | cons s r ihr =>
   intro hm a n e x hx;have h1:=(ih s (hm s (zsV ..))).1;have h2:=(ih s (hm s (zsV ..))).2;rw[layL,zta,s.lay_eq]at hx;rcases hx with hx | hx
   . grind
   grind
 exact key l (fun x h=>h)
structure NodeOk' (f:Fl) (x:Nd):Prop where
 kind:x.kind=0\/x.kind=2\/x.kind=3\/x.kind=4\/x.kind=5
 step:x.kind ≠ 0->0<=x.at_/\(preL f.body)[x.at_.toNat]?=some (ya f x.at_)/\StepOk f (ya f x.at_)/\zb8 (ya f x.at_)
theorem Valid.node (V:Valid f) (h0:0<=k) (h1:k<(zd f).length - 1):(zd f)[k.toNat]?=some (yP (zd f) k)/\NodeOk' f (yP (zd f) k):=by
 obtain⟨n,rfl⟩:=ztN h0;have hY:=yA f V.plain
 have hget:(zd f)[n]?=some (yP (zd f) n):=by
  unfold yP;rw[ztd,zsR (show n<(zd f).length by omega)];rfl
 refine⟨hget,?_⟩;generalize yP (zd f) n=x at hget;unfold zd at hget;cases n with
 | zero=>simp at hget;subst hget;exact⟨.inl rfl,fun h=>absurd rfl h⟩
 | succ n =>
  rw[zux,zth (by rw[zB _ V.plain];omega)]at hget;have hx:=zsS hget;have hk:=zaa f.body _ _ _ x hx;have hr:=(jP f.body V.plain 0 1 (1+widL f.body)).range x hx;refine⟨.inr hk,fun _=>⟨tO,?_⟩⟩;obtain⟨s,hs⟩:∃ s,(preL f.body)[x.at_.toNat]?=some s:=⟨_,zsR (by rw[yp];omega)⟩;have e:ya f x.at_=s:=by unfold ya;rw[hs];rfl
  have hC:=V.step s (zsS hs);rw[e];exact⟨hs,hC.1,hC.2.1⟩
structure MInv (f:Fl) (j:Nat) (m:Mc):Prop where
 inv:InV f.vars m.σ.vals
 time:0<=m.σ.time/\m.σ.time<=(j:Int)*67108864
 outs:m.σ.outs.length<=j
 rd:∀ k,0<=m.rd k/\m.rd k<=j
theorem ziA {s:St} {σ:Sg} (hg:∀ v ∈ f.vars,xz (v.low,v.high)) (ho:StepOk f s) (hset:zb8 s) (hV:InV f.vars σ.vals) (ht:0<=σ.time/\σ.time<=(j:Int)*67108864) (hC:σ.outs.length<=j) :
  InV f.vars (qt f hs s σ).vals/\(0<=(qt f hs s σ).time/\(qt f hs s σ).time<=((j+1:Nat):Int)*67108864)/\(qt f hs s σ).outs.length<=j+1:=by
 have hc:=ho.cost;unfold qt;split
 . exact⟨hV.set hg _ _,tD,tD⟩
 split
 . grind
 split
 . exact⟨hV.set hg _ _,tD,tD⟩
 split
 .
  rename_i a6;refine⟨hV,?_,tD⟩;dsimp only;rcases zeD s.bounds (σ.time+s.cost) with h | h
  . omega
  have:=hset a6 _ h.1;omega
 grind
theorem ziB {m:Mc} (hg:∀ v ∈ f.vars,xz (v.low,v.high)) (hn:NodeOk' f (yP g m.at_)) (h:MInv f j m):MInv f (j+1) (jY f hs g m):=by
 obtain⟨h1,h2,h3,h4⟩:=h
 have hY:∀ k n,0<=n/\n<=(j:Int)+1->∀ i,0<=ze0 m.rd k n i/\ze0 m.rd k n i<=((j+1:Nat):Int):=fun k n hn i=>by
  have:=h4 i;unfold ze0;split<;>omega
 have hC:∀ k,0<=m.rd k/\m.rd k<=((j+1:Nat):Int):=fun k=>tD;unfold jY xp;generalize hx:yP g m.at_=x at hn ⊢;split
 . exact⟨h1,tD,tD,hC⟩
 rename_i k0;obtain⟨_,_,ho,hset⟩:=hn.step k0;have hc:=ho.cost;split
 .
  obtain⟨e1,e2,e3⟩:=ziA (hs:=hs) hg ho hset h1 h2 h3;exact⟨e1,e2,e3,hC⟩
 split
 . exact⟨h1,tD,tD,hY _ _ tO⟩
 split
 . exact⟨h1,tD,tD,hC⟩
 refine⟨h1,tD,tD,?_⟩;dsimp only;split
 . grind
 exact hC
theorem Valid.walk (V:Valid f) (hs:List Int) (σ:Sg):∃ (K:Nat) (rd':Int->Int),K<=8193/\Goes f hs (zd f) 0 ((zd f).length - 1) K ⟨0,σ,fun _=>0⟩ ⟨((zd f).length:Int) - 1,exL f hs f.body σ,rd'⟩:=by
 have hC:=yA f V.plain
 have hG:CtxG (zd f) 1 (layL f.body 0 1 (1+widL f.body)):=by
  intro i x hx;have hi:=(zt5.1 hx).1;unfold zd;rw[show 1+i=i+1 by omega,zux,zth hi];exact hx
 obtain⟨k,rd',hY,hk,_⟩:=zkB (hs:=hs) (g:=zd f) f.body V.plain (fun s da a4=>((V.step s da).2.2 a4).1) 0 1 (1+widL f.body) hG (fun i x hx=>by rw[zvY];exact hx) σ (fun _=>0);have:=V.nb;refine⟨1+k,rd',tO,(Goes.one (m':=⟨((if f.body.isEmpty then 1+widL f.body else 1:Nat):Int),σ,fun _=>0⟩) ?_ tD).trans ?_⟩
 .
  have h2:((if f.body.isEmpty then 1+widL f.body else 1:Nat):Int)=1:=by
   split
   .
    rename_i h;have:f.body=[]:=tD;rw[this];rfl
   rfl
  rw[h2];unfold jY;have:yP (zd f) 0=⟨0,-1,1,-1⟩:=rfl;rw[this];simp[xp]
 have e:((1+widL f.body:Nat):Int)=((zd f).length:Int) - 1:=tO;rw[<- e];exact hY.widen tO tO
open Go.GL
def zcr (f:Fl) (x:Nd):Bool:=decide (x.kind=2)&&(decide ((ya f x.at_).act=0) || decide ((ya f x.at_).act=5))
structure Phn where
 var:Int
 ver:Int
 frm:List Int
 args:List Int
variable {l:List Phn}
structure Sn where
 phis:List Phn
 uses:List (Int × Int)
 dfn:Int
structure Sf where
 of_:List Int
 nodes:List Sn
def xb (x y:Int):Int:=if y=-1\/y=x then x else if x=-1 then y else -2
def LeV (x y:Int):Prop:=x=-1\/x=y\/y=-2
theorem LeV.refl (x:Int):LeV x x:=.inr (.inl rfl)
theorem LeV.trans {x z:Int} (h:LeV x y) (h':LeV y z):LeV x z:=by unfold LeV at *;omega
theorem ziC {a b c d:Int} (h:LeV a c) (h':LeV b d):LeV (xb a b) (xb c d):=by
 unfold LeV xb at *;omega
theorem ziD (x y:Int):LeV x (xb x y):=by
 unfold LeV xb;omega
theorem zhi (x y:Int):LeV y (xb x y):=by
 unfold LeV xb;omega
def jm (l:List Int):Int:=l.foldl xb (-1)
theorem ziE (l:List Int):∀ a,LeV a (l.foldl xb a):=by
 induction l with
 | nil=>exact fun a=>LeV.refl a
 | cons x l ih=>exact fun a=>(ziD a x).trans (ih _)
theorem zkC {l:List Int} (h:y ∈ l):∀ a,LeV y (l.foldl xb a):=by
 induction l with
 | nil=>cases h
 | cons x l ih =>
  intro a;rcases zt7.1 h with rfl | h
  . exact(zhi a y).trans (ziE l _)
  grind
theorem zgm {l:List Int} (h:y ∈ l):LeV y (jm l):=zkC h _
theorem ziF {G:α->Int} {l:List α}:∀ {a b:Int},LeV a b->(∀ x ∈ l,LeV (F x) (G x))->LeV ((l.map F).foldl xb a) ((l.map G).foldl xb b):=by
 induction l with
 | nil=>exact fun h _=>h
 | cons x l ih=>exact fun h hl=>ih (ziC h (hl x (zsV ..))) fun y hy=>hl y iu
theorem ziG {G:α->Int} {l:List α} (h:∀ x ∈ l,LeV (F x) (G x)):LeV (jm (l.map F)) (jm (l.map G)):=ziF (LeV.refl _) h
theorem zeE (l:List Int) (x:Int):jm (l++[x])=xb (jm l) x:=by unfold jm;rw[zuv];rfl
def SndV (P:Int->Prop) (x:Int):Prop:=x=-1\/(0<=x/\P x)\/(x=-2/\∃ a b,P a/\P b/\a ≠ b)
theorem SndV.imp {P Q:Int->Prop} {x:Int} (h:SndV P x) (hi:∀ k,P k->Q k):SndV Q x:=by
 rcases h with h | ⟨h0,h⟩ | ⟨h0,a,b,ha,hb,hn⟩
 . exact .inl h
 . exact .inr (.inl ⟨h0,hi _ h⟩)
 exact .inr (.inr ⟨h0,a,b,hi _ ha,hi _ hb,hn⟩)
theorem zkD {P:Int->Prop} {x:Int} (hx:SndV P x) (hy:SndV P y):SndV P (xb x y):=by
 unfold xb;split
 . exact hx
 rename_i h1;split
 . exact hy
 rename_i h2;refine .inr (.inr ⟨rfl,?_⟩);rcases hx with hx | ⟨_,hx⟩ | ⟨_,hx⟩
 . omega
 .
  rcases hy with hy | ⟨_,hy⟩ | ⟨_,hy⟩
  . omega
  . grind
  exact hy
 exact hx
theorem zgn {P:Int->Prop} {l:List Int} (h:∀ x ∈ l,SndV P x):SndV P (jm l):=by
 suffices ∀ a,SndV P a->SndV P (l.foldl xb a) from this _ (.inl rfl);induction l with
 | nil=>exact fun a ha=>ha
 | cons x l ih=>exact fun a ha=>ih (fun y hy=>h y iu) _ (zkD ha (h x (zsV ..)))
def SumV (P:Int->Prop) (x:Int):Prop:=SndV P x/\∀ k,P k->LeV k x
theorem SumV.unique {P:Int->Prop} (hP:∀ k,P k->0<=k) {x:Int} (hx:SumV P x) (hy:SumV P y):x=y:=by
 have main:∀ {x y:Int},SumV P x->SumV P y->LeV x y:=by
  intro x y hx hy;rcases hx.1 with h | ⟨_,h⟩ | ⟨_,a,b,ha,hb,hn⟩
  . exact .inl h
  . exact hy.2 x h
  have h1:=hy.2 a ha;have h2:=hy.2 b hb;have h3:=hP a ha;have h4:=hP b hb;unfold LeV at *;omega
 have h1:=main hx hy;have h2:=main hy hx;unfold LeV at h1 h2;omega
section
variable (f:Fl) (g:List Nd) (s:Sf)
def zh (i:Nat):Sn:=s.nodes[i]?.getD ⟨[],[],-1⟩
def zO (i:Nat):Int:=if zcr f (yP g i)=true then (ya f (yP g i).at_).var else -1
def kL (l:List Phn) (v:Int):Option Int:=(l.find? fun p=>decide (p.var=v)).map (·.ver)
def zb9 (i:Nat) (v:Int):Option Int:=kL (zh s i).phis v
def yw (B:Nat->Int->Int) (i:Nat) (v:Int):Int:=if zO f g i=v then (zh s i).dfn else B i v
def zw (i:Nat):List Nat:=(List.range g.length).filter fun y=>decide ((yP g y).next=(i:Int)\/(yP g y).other=(i:Int))
def eqV (O:Nat->Int->Int) (i:Nat) (v:Int):Int:=if i=0 then v else match zb9 s i v with
 | some k=>k
 | none=>jm ((zw g i).map fun y=>O y v)
inductive RV (v:Int):Nat->Int->Prop
 | ini:RV v 0 v
 | phi {i:Nat} {k:Int}:i ≠ 0->zb9 s i v=some k->RV v i k
 | dfn {i y:Nat}:i ≠ 0->zb9 s i v=none->y ∈ zw g i->zO f g y=v->RV v i (zh s y).dfn
 | pass {i y:Nat} {k:Int}:i ≠ 0->zb9 s i v=none->y ∈ zw g i->zO f g y ≠ v->RV v y k->RV v i k
end
section
variable {s:Sf}
theorem yQ {y:Nat} (h:y ∈ zw g i):y<g.length:=zva.1 (zv2.1 h).1
structure NnS (f:Fl) (g:List Nd) (s:Sf):Prop where
 dfn:∀ y,y<g.length->0<=zO f g y->0<=(zh s y).dfn
 phi:∀ i v k,zb9 s i v=some k->0<=k
theorem RV.nn (hs:NnS f g s) (hv:0<=v) (h:RV f g s v i k):0<=k:=by
 induction h with
 | ini=>exact hv
 | phi _ h=>exact hs.phi _ _ _ h
 | dfn _ _ hy hd=>exact hs.dfn _ (yQ hy) tO
 | pass _ _ _ _ _ ih=>exact ih
theorem znz (hs:NnS f g s) (hv:0<=v) (h:∀ y,y<g.length->SndV (RV f g s v y) (B y v)):SndV (RV f g s v i) (eqV g s (yw f g s B) i v):=by
 unfold eqV;split
 .
  rename_i h0;subst h0;exact .inr (.inl ⟨hv,.ini⟩)
 rename_i h0;split
 .
  rename_i k hk;exact .inr (.inl ⟨hs.phi _ _ _ hk,.phi h0 hk⟩)
 rename_i hk;refine zgn fun x hx=>?_;obtain⟨y,hy,rfl⟩:=zv6.1 hx;unfold yw;split
 .
  rename_i hd;exact .inr (.inl ⟨hs.dfn _ (yQ hy) tO,.dfn h0 hk hy hd⟩)
 rename_i hd;exact(h y (yQ hy)).imp fun k hC=>.pass h0 hk hy hd hC
theorem zkE {y:Nat} (h:LeV (B y v) (C y v)):LeV (yw f g s B y v) (yw f g s C y v):=by
 unfold yw;split
 . exact LeV.refl _
 exact h
theorem ziH (h:∀ y,y<g.length->LeV (O y v) (O' y v)):LeV (eqV g s O i v) (eqV g s O' i v):=by
 unfold eqV;split
 . exact LeV.refl _
 split
 . exact LeV.refl _
 exact ziG fun y hy=>h y (yQ hy)
structure SolV (f:Fl) (g:List Nd) (s:Sf) (nv:Nat) (B:Nat->Int->Int):Prop where
 snd:∀ i,i<g.length->∀ v:Int,0<=v->v<(nv:Int)->SndV (RV f g s v i) (B i v)
 eq:∀ i,i<g.length->∀ v:Int,0<=v->v<(nv:Int)->B i v=eqV g s (yw f g s B) i v
theorem SolV.all (h:SolV f g s nv B) (hv:0<=v) (hn:v<(nv:Int)) (hi:i<g.length):SumV (RV f g s v i) (B i v):=by
 refine⟨h.snd i hi v hv hn,fun k hk=>?_⟩;induction hk with
 | ini=>rw[h.eq 0 hi v hv hn];exact LeV.refl _
 | @phi i k h0 hk=>rw[h.eq i hi v hv hn];unfold eqV;rw[zt1 h0,hk];exact LeV.refl _
 | @dfn i y h0 hk hy hd =>
  rw[h.eq i hi v hv hn];unfold eqV;rw[zt1 h0,hk];refine zgm (zv6.2 ⟨y,hy,?_⟩);unfold yw;rw[zt2 hd]
 | @pass i y k h0 hk hy hd _ ih =>
  rw[h.eq i hi v hv hn];unfold eqV;rw[zt1 h0,hk];refine(ih (yQ hy)).trans (zgm (zv6.2 ⟨y,hy,?_⟩));unfold yw;rw[zt1 hd]
noncomputable def zoc (P:Int->Prop):Int:=by
 classical
 exact if ∃ a b,P a/\P b/\a ≠ b then -2 else if h:∃ a,P a then Classical.choose h else -1
theorem ziI {P:Int->Prop} (hP:∀ k,P k->0<=k):SumV P (zoc P):=by
 classical
 unfold zoc;split
 .
  rename_i h;exact⟨.inr (.inr ⟨rfl,h⟩),fun k _=>.inr (.inr O)⟩
 rename_i h;split
 .
  rename_i h2;have h3:=Classical.choose_spec h2;refine⟨.inr (.inl ⟨hP _ h3,h3⟩),fun k hk=>?_⟩;by_cases e:k=Classical.choose h2
  . exact .inr (.inl e)
  grind
 rename_i h2;exact⟨.inl rfl,fun k hk=>absurd ⟨k,hk⟩ h2⟩
noncomputable def inV (f:Fl) (g:List Nd) (s:Sf) (i:Nat) (v:Int):Int:=zoc (RV f g s v i)
noncomputable def zab (f:Fl) (g:List Nd) (s:Sf) (i:Nat) (v:Int):Int:=yw f g s (inV f g s) i v
theorem SolV.is (hs:NnS f g s) (h:SolV f g s nv B) (hv:0<=v) (hn:v<(nv:Int)) (hi:i<g.length):B i v=inV f g s i v :=
 SumV.unique (fun _ hk=>hk.nn hs hv) (h.all hv hn hi) (ziI fun _ hk=>hk.nn hs hv)
structure RunV (f:Fl) (g:List Nd) (s:Sf) (nv:Nat) (B:Nat->Int->Int):Prop where
 snd:∀ i,i<g.length->∀ v:Int,0<=v->v<(nv:Int)->SndV (RV f g s v i) (B i v)
 le:∀ i,i<g.length->∀ v:Int,0<=v->v<(nv:Int)->LeV (B i v) (eqV g s (yw f g s B) i v)
def zcm (B:Nat->Int->Int) (i:Nat) (v x:Int):Nat->Int->Int:=fun j u=>if j=i/\u=v then x else B j u
theorem RunV.start (h:∀ i v,B i v=if i=0 then v else -1):RunV f g s nv B:=by
 refine⟨fun i _ v hv _=>?_,fun i _ v _ _=>?_⟩
 .
  rw[h];split
  . rename_i e;subst e;exact .inr (.inl ⟨hv,.ini⟩)
  exact .inl O
 rw[h];split
 . rename_i e;unfold eqV;rw[zt2 e];exact LeV.refl _
 exact .inl O
theorem RunV.next (hs:NnS f g s) (h:RunV f g s nv B) (hi:i<g.length) (hv:0<=v) (hn:v<(nv:Int)):RunV f g s nv (zcm B i v (eqV g s (yw f g s B) i v)):=by
 have hB:∀ j,j<g.length->∀ u:Int,0<=u->u<(nv:Int)->LeV (B j u) (zcm B i v (eqV g s (yw f g s B) i v) j u):=fun j hj u hu hC=>by
  unfold zcm;split
  . rename_i e;obtain⟨rfl,rfl⟩:=e;exact h.le j hj u hu hC
  exact LeV.refl _
 refine⟨fun j hj u hu hC=>?_,fun j hj u hu hC=>?_⟩
 .
  unfold zcm;split
  .
   rename_i e;obtain⟨rfl,rfl⟩:=e;exact znz hs hu fun y hy=>h.snd y hy u hu hC
  exact h.snd j hj u hu hC
 have hm:LeV (eqV g s (yw f g s B) j u) (eqV g s (yw f g s (zcm B i v (eqV g s (yw f g s B) i v))) j u):=ziH fun y hy=>zkE (hB y hy u hu hC);by_cases e:j=i/\u=v
 .
  obtain⟨rfl,rfl⟩:=e;rw[show zcm B j u (eqV g s (yw f g s B) j u) j u=eqV g s (yw f g s B) j u from zt2 x1];exact hm
 rw[show zcm B i v (eqV g s (yw f g s B) i v) j u=B j u from zt1 e];exact(h.le j hj u hu hC).trans hm
theorem RunV.done (h:RunV f g s nv B) (hd:∀ i,i<g.length->∀ v:Int,0<=v->v<(nv:Int)->B i v=-2\/eqV g s (yw f g s B) i v=B i v\/eqV g s (yw f g s B) i v=-1):SolV f g s nv B:=by
 refine⟨h.snd,fun i hi v hv hn=>?_⟩;have h1:=h.le i hi v hv hn;have h2:=hd i hi v hv hn;unfold LeV at h1;omega
def jH (x:Int):Nat:=if x=-1 then 0 else if x=-2 then 2 else 1
theorem zdw {x:Int} (h:LeV x y) (hn:y ≠ x):jH x<jH y:=by
 unfold LeV at h;unfold jH
 grind
theorem zms (x:Int):jH x<=2:=by
 unfold jH
 grind
end
open Go.GL
def jZ (f:Fl) (s:Sf) (k v:Int) (fresh:Bool):Prop:=0<=k/\s.of_[k.toNat]?=some v/\(fresh=true->(f.vars.length:Int)<=k)
instance (f:Fl) (s:Sf) (k v:Int) (b:Bool):Decidable (jZ f s k v b):=by unfold jZ;infer_instance
def zg (g:List Nd) (n:Nat):List Int:=(zw g n).map fun i:Nat=>(i:Int)
def dfL (f:Fl) (g:List Nd) (s:Sf) (n:Nat):List Int:=(zh s n).phis.map (·.ver)++if 0<=zO f g n then [(zh s n).dfn] else []
def xU (f:Fl) (g:List Nd) (s:Sf):List Int:=(List.range g.length).flatMap (dfL f g s)
section
variable (f:Fl) (g:List Nd) (s:Sf) (rd:Nat->List Int)
structure PhiF (n:Nat) (l:List Phn):Prop where
 zero:n=0->l=[]
 asc:l.Pairwise fun p q=>p.var<q.var
 ver:∀ p ∈ l,jZ f s p.ver p.var true
 frm:∀ p ∈ l,p.frm=zg g n
 len:∀ p ∈ l,p.args.length=p.frm.length
 args:∀ p ∈ l,∀ a ∈ p.args,jZ f s a p.var false
structure NodF (n:Nat) (x:Sn):Prop where
 phi:PhiF f g s n x.phis
 no:zO f g n<0->x.dfn=-1
 yes:0<=zO f g n->jZ f s x.dfn (zO f g n) true
 use:x.uses.map (·.1)=rd n
 ver:∀ u ∈ x.uses,jZ f s u.2 u.1 false
structure OfF:Prop where
 len:f.vars.length<=s.of_.length
 ini:∀ (k:Nat) v,s.of_[k]?=some v->k<f.vars.length->v=(k:Int)
 new:∀ (k:Nat) v,s.of_[k]?=some v->f.vars.length<=k->0<=v/\∃ x,f.vars[v.toNat]?=some x/\x.kind=0
structure FormF:Prop where
 of_:OfF f s
 len:s.nodes.length=g.length
 nod:∀ (n:Nat) x,s.nodes[n]?=some x->NodF f g s rd n x
 one:∀ k:Nat,f.vars.length<=k->k<s.of_.length->(xU f g s).count (k:Int)=1
structure RightF:Prop extends FormF f g s rd where
 use:∀ (n:Nat) x,s.nodes[n]?=some x->∀ u ∈ x.uses,inV f g s n u.1=u.2
 arg:∀ (n:Nat) x,s.nodes[n]?=some x->∀ p ∈ x.phis,∀ (i:Nat) y a,p.frm[i]?=some y->p.args[i]?=some a->zab f g s y.toNat p.var=a
end
section
variable {s:Sf} {rd:Nat->List Int}
theorem yC {n:Nat} {x:Sn} (h:s.nodes[n]?=some x):zh s n=x:=by unfold zh;rw[h];rfl
theorem zcK {n:Nat} (h:¬ n<s.nodes.length):zh s n=⟨[],[],-1⟩:=by unfold zh;rw[ztf tO];rfl
theorem FormF.at (h:FormF f g s rd) {n:Nat} (hn:n<g.length):NodF f g s rd n (zh s n):=by
 have hl:=h.len;have e:=zsR (show n<s.nodes.length by omega);rw[yC e];exact h.nod n _ e
theorem FormF.nn (h:FormF f g s rd):NnS f g s:=by
 refine⟨fun y hy hd=>((h.at hy).yes hd).1,fun i v k hk=>?_⟩;unfold zb9 kL at hk;obtain⟨p,hp,rfl⟩:=zw3.1 hk;have hm:=zv7 hp;by_cases hi:i<g.length
 . exact((h.at hi).phi.ver p hm).1
 have hl:=h.len;rw[zcK tO]at hm;cases hm
theorem zkF (h:l.Pairwise fun p q=>p.var<q.var) {p:Phn} (hp:p ∈ l):kL l p.var=some p.ver:=by
 unfold kL;induction l with
 | nil=>cases hp
 | cons q l ih =>
  rw[zvh]at h;rcases zt7.1 hp with rfl | hp
  . rw[zuo tR];rfl
  have:=h.1 p hp;rw[zun tD];exact ih h.2 hp
theorem zgo (h:kL l v=none):∀ p ∈ l,p.var ≠ v:=fun p hp e=>by
 unfold kL at h;rw[Option.map_eq_none_iff,zup]at h;exact h p hp tD
theorem zba (h:kL l v=some k):∃ p ∈ l,p.var=v/\p.ver=k:=by
 unfold kL at h;obtain⟨p,hp,rfl⟩:=zw3.1 h;exact⟨p,zv7 hp,by simpa using List.find?_some hp,rfl⟩
theorem zeF (h:FormF f g s rd) {n:Nat} (hn:n<g.length) (hk:k ∈ dfL f g s n):(f.vars.length:Int)<=k/\k<(s.of_.length:Int):=by
 have main:∀ {k v:Int},jZ f s k v true->(f.vars.length:Int)<=k/\k<(s.of_.length:Int):=fun {k v} hv=>by
  obtain⟨h0,h1,h2⟩:=hv;have:=(zt5.1 h1).1;have:=h2 rfl;omega
 unfold dfL at hk;rcases zta.1 hk with hk | hk
 .
  obtain⟨p,hp,rfl⟩:=zv6.1 hk;exact main ((h.at hn).phi.ver p hp)
 split at hk
 .
  rename_i hd;rw[zt9]at hk;subst hk;exact main ((h.at hn).yes hd)
 cases hk
theorem xH (h:FormF f g s rd) (hk:k ∈ xU f g s):(f.vars.length:Int)<=k/\k<(s.of_.length:Int):=by
 obtain⟨n,hn,hk⟩:=zv3.1 hk;exact zeF h (zva.1 hn) hk
theorem znA (h:FormF f g s rd):(f.vars.length+(xU f g s).length:Nat)=s.of_.length:=by
 have hp:(xU f g s).Perm ((List.range' f.vars.length (s.of_.length - f.vars.length)).map fun i:Nat=>(i:Int)):=by
  rw[zvl];intro a
  have hC:((List.range' f.vars.length (s.of_.length - f.vars.length)).map fun i:Nat=>(i:Int)).Nodup :=
   List.Pairwise.map _ (fun a b hY e=>hY tO) (List.nodup_range' (step:=1))
  by_cases ha:(f.vars.length:Int)<=a/\a<(s.of_.length:Int)
  .
   obtain⟨k,rfl⟩:∃ k:Nat,a=(k:Int):=⟨a.toNat,tO⟩;rw[h.one k tO tO,hC.count,zt2]
   grind
  rw[zu5.2 (fun hm=>ha (xH h hm)),zu5.2 (fun hm=>?_)];obtain⟨k,hk,rfl⟩:=zv6.1 hm;have:=List.mem_range'_1.1 hk;exact ha tO
 have hl:=hp.length_eq;rw[ztb,List.length_range']at hl;have:=h.of_.len;omega
end
open Go.GL
section
variable {s:Sf} {rd:Nat->List Int}
theorem SumV.le {P Q:Int->Prop} (hi:∀ k,P k->Q k) {x:Int} (hx:SumV P x) (hy:SumV Q y) (hP:∀ k,P k->0<=k):LeV x y:=by
 rcases hx.1 with h | ⟨_,h⟩ | ⟨_,a,b,ha,hb,hn⟩
 . exact .inl h
 . exact hy.2 x (hi x h)
 have h1:=hy.2 a (hi a ha);have h2:=hy.2 b (hi b hb);have h3:=hP a ha;have h4:=hP b hb;unfold LeV at *;omega
theorem zcL (hs:NnS f g s) (hv:0<=v) (i:Nat):SumV (RV f g s v i) (inV f g s i v):=ziI fun _ hk=>hk.nn hs hv
theorem zkG (hs:NnS f g s) (hv:0<=v):inV f g s 0 v=v :=
 SumV.unique (P:=RV f g s v 0) (fun _ hk=>hk.nn hs hv) (zcL hs hv 0) ⟨.inr (.inl ⟨hv,.ini⟩),fun k hk=>by
  cases hk with
  | ini=>exact LeV.refl _
  | phi h _=>exact absurd rfl h
  | dfn h _ _ _=>exact absurd rfl h
  | pass h _ _ _ _=>exact absurd rfl h⟩
theorem zmt (hs:NnS f g s) (hv:0<=v) (hi:i ≠ 0) (hk:zb9 s i v=some k):inV f g s i v=k :=
 SumV.unique (P:=RV f g s v i) (fun _ hk=>hk.nn hs hv) (zcL hs hv i) ⟨.inr (.inl ⟨hs.phi _ _ _ hk,.phi hi hk⟩),fun k' hC=>by
  cases hC with
  | ini=>exact absurd rfl hi
  | phi _ h=>rw[hk]at h;cases h;exact LeV.refl _
  | dfn _ h _ _=>rw[hk]at h;cases h
  | pass _ h _ _ _=>rw[hk]at h;cases h⟩
theorem zkH (hs:NnS f g s) (hv:0<=v) {y:Nat} (hi:i ≠ 0) (hk:zb9 s i v=none) (hy:y ∈ zw g i):LeV (zab f g s y v) (inV f g s i v):=by
 unfold zab yw;split
 .
  rename_i hd;exact(zcL hs hv i).2 _ (.dfn hi hk hy hd)
 rename_i hd;exact(zcL hs hv y).le (fun k hC=>.pass hi hk hy hd hC) (zcL hs hv i) fun _ h=>h.nn hs hv
theorem RV.of (h:FormF f g s rd) (hv:0<=v/\v<(f.vars.length:Int)) (hi:i<g.length) (hr:RV f g s v i k):0<=k/\s.of_[k.toNat]?=some v:=by
 induction hr with
 | ini =>
  have hl:=h.of_.len;have e:=zsR (show v.toNat<s.of_.length by omega);have:=h.of_.ini _ _ e tO;exact⟨hv.1,tD⟩
 | @phi i k h0 hk =>
  obtain⟨p,hp,rfl,rfl⟩:=zba hk;have:=(h.at hi).phi.ver p hp;exact⟨this.1,this.2.1⟩
 | @dfn i y h0 hk hy hd =>
  have:=(h.at (yQ hy)).yes tO;rw[hd]at this;exact⟨this.1,this.2.1⟩
 | @pass i y k h0 hk hy hd _ ih=>exact ih (yQ hy)
theorem zm8 (h:FormF f g s rd) (hv:0<=v/\v<(f.vars.length:Int)) (hi:i<g.length) (h0:0<=inV f g s i v):s.of_[(inV f g s i v).toNat]?=some v:=by
 rcases (zcL h.nn hv.1 i).1 with h1 | ⟨_,h1⟩ | ⟨h1,_⟩
 . omega
 . exact(h1.of h hv hi).2
 omega
def InvV (f:Fl) (g:List Nd) (s:Sf) (i:Nat) (vl vals:List Int):Prop:=∀ v:Nat,v<f.vars.length->inV f g s i v ≠ -1/\(0<=inV f g s i v->vl[(inV f g s i v).toNat]?=vals[v]?)
def ziJ (f:Fl) (g:List Nd) (s:Sf) (i:Nat) (vl vals:List Int):Prop:=∀ v:Nat,v<f.vars.length->zab f g s i v ≠ -1/\(0<=zab f g s i v->vl[(zab f g s i v).toNat]?=vals[v]?)
theorem InvV.start (h:FormF f g s rd) (he:∀ v:Nat,v<f.vars.length->vl[v]?=vals[v]?):InvV f g s 0 vl vals:=fun v hv=>by
 rw[zkG h.nn tO]
 grind
theorem InvV.join (h:RightF f g s rd) {y:Nat} (h0:i ≠ 0) (hi:i<g.length) (hy:y ∈ zw g i) {vl':List Int} (hp:ziJ f g s y vl vals)
  (h1:∀ p ∈ (zh s i).phis,vl'[p.ver.toNat]?=vl[(zab f g s y p.var).toNat]?) (h2:∀ k:Nat,(∀ p ∈ (zh s i).phis,p.ver ≠ (k:Int))->vl'[k]?=vl[k]?) (h3:∀ p ∈ (zh s i).phis,0<=zab f g s y p.var):InvV f g s i vl' vals:=fun v hv=>by
 have hf:=h.toFormF;have hn:=hf.at hi;obtain⟨g1,g2⟩:=hp v hv;cases hk:zb9 s i v with
 | some k =>
  rw[zmt hf.nn tO h0 hk];obtain⟨p,hY,dc,rfl⟩:=zba hk;have hC:=hn.phi.ver p hY;have h4:=h1 p hY;have h5:=h3 p hY;rw[dc]at h4 h5;exact⟨by have:=hC.1;omega,fun _=>h4.trans (g2 h5)⟩
 | none =>
  have db:=zkH hf.nn (show (0:Int)<=(v:Int) by omega) h0 hk hy;have dg:inV f g s i v ≠ -1:=by unfold LeV at db;omega
  refine⟨dg,fun hz=>?_⟩;have he:zab f g s y v=inV f g s i v:=by unfold LeV at db;omega
  have da:=zm8 hf (v:=(v:Int)) ⟨tO,tO⟩ hi hz;rw[h2 _ fun p hY e=>?_,<- he]
  . grind
  have hC:=(hn.phi.ver p hY).2.1;have e2:p.ver.toNat=(inV f g s i v).toNat:=tO;rw[e2,da]at hC;exact zgo hk p hY (Option.some.inj hC).symm
theorem InvV.pass (_:RightF f g s rd) (hI:InvV f g s i vl vals) (hd:zO f g i<0):ziJ f g s i vl vals:=fun v hv=>by
 have e:zab f g s i v=inV f g s i v:=by unfold zab yw;rw[zt1 tO]
 rw[e];exact hI v hv
theorem InvV.set (h:RightF f g s rd) (hi:i<g.length) (hI:InvV f g s i vl vals) {k:Nat} (hd:zO f g i=(k:Int)) (hk:k<f.vars.length) (hC:k<vals.length) (hY:(s.of_.length:Nat)<=vl.length) (x:Int):ziJ f g s i (vl.set (zh s i).dfn.toNat x) (vals.set k x):=fun v hv=>by
 have hf:=h.toFormF;have hy:=(hf.at hi).yes tO;have hl:(zh s i).dfn.toNat<s.of_.length:=(zt5.1 hy.2.1).1;by_cases e:v=k
 .
  subst e;have e2:zab f g s i v=(zh s i).dfn:=by unfold zab yw;rw[zt2 hd]
  rw[e2];exact⟨by have:=hy.1;omega,fun _=>by rw[zuH tO,zuH hC]⟩
 have e2:zab f g s i v=inV f g s i v:=by unfold zab yw;rw[zt1 tO]
 rw[e2];obtain⟨g1,g2⟩:=hI v hv;refine⟨g1,fun hz=>?_⟩;have da:=zm8 hf (v:=(v:Int)) ⟨tO,tO⟩ hi hz;rw[zuG (fun e3=>?_),zuG (fun e3=>e e3.symm)]
 . grind
 have:=hy.2.1
 grind
end
end Go.Proofs.YtckdhgbepmpgiaaGreat
namespace Go.Proofs
open Go.Shelf
def Tryz.lays189_ren:Go.Shelf.Ren:=⟨fun | 189=>116 | 125=>155 | 257=>154 | 128=>193 | 129=>194 | 294=>184 | 295=>185 | 296=>186 | 297=>187 | 298=>188 | 299=>189 | 216=>190 | 300=>191 | 301=>192 | 328=>208 | 329=>209 | 330=>210 | 331=>211 | 332=>212 | 215=>213 | 343=>224 | n=>n,fun | 28=>27 | 3=>3 | 46=>222 | 0=>0 | 51=>252 | 53=>254 | 4=>4 | 183=>246 | 182=>245 | 131=>207 | 5=>5 | 9=>9 | 218=>262 | 222=>266 | 228=>274 | 229=>201 | n=>n,fun | n=>n⟩
theorem Tryz.lays189:Go.Proofs.Lays.n189 prog Tryz.lays189_ren:={
  mixed:=tK
  f125:=Tryz.func155.trans iD
  f128:=Tryz.func193.trans iD
  f129:=Tryz.func194.trans iD
  f189:=Tryz.func116.trans iD
  f215:=Tryz.func213.trans iD
  f216:=Tryz.func190.trans iD
  f257:=Tryz.func154.trans iD
  f294:=Tryz.func184.trans iD
  f295:=Tryz.func185.trans iD
  f296:=Tryz.func186.trans iD
  f297:=Tryz.func187.trans iD
  f298:=Tryz.func188.trans iD
  f299:=Tryz.func189.trans iD
  f300:=Tryz.func191.trans iD
  f301:=Tryz.func192.trans iD
  f328:=Tryz.func208.trans iD
  f329:=Tryz.func209.trans iD
  f330:=Tryz.func210.trans iD
  f331:=Tryz.func211.trans iD
  f332:=Tryz.func212.trans iD
  f343:=Tryz.func224.trans iD
  t0:=underlying0
  a0:=isAgg0
  z0:=sizeOf0
  v0:=zeroValue0
  t3:=tu3
  a3:=tg3
  z3:=ts3
  v3:=tz3
  t4:=tu4
  a4:=tg4
  z4:=ts4
  v4:=zeroValue4
  t5:=underlying5
  a5:=isAgg5
  z5:=sizeOf5
  v5:=zeroValue5
  t9:=tu9
  a9:=tg9
  z9:=ts9
  v9:=zeroValue9
  t28:=tu27
  a28:=tg27
  z28:=ts27
  v28:=tz27
  t46:=underlying222
  a46:=isAgg222
  z46:=sizeOf222
  v46:=zeroValue222
  t51:=underlying252
  a51:=isAgg252
  z51:=sizeOf252
  v51:=zeroValue252
  t53:=underlying254
  a53:=isAgg254
  z53:=sizeOf254
  v53:=zeroValue254
  t131:=underlying207
  a131:=isAgg207
  z131:=sizeOf207
  v131:=zeroValue207
  t182:=underlying245
  a182:=isAgg245
  z182:=sizeOf245
  v182:=zeroValue245
  t183:=underlying246
  a183:=isAgg246
  z183:=sizeOf246
  v183:=zeroValue246
  t218:=underlying262
  a218:=isAgg262
  z218:=sizeOf262
  v218:=zeroValue262
  t222:=underlying266
  a222:=isAgg266
  z222:=sizeOf266
  v222:=zeroValue266
  t228:=underlying274
  a228:=isAgg274
  z228:=sizeOf274
  v228:=zeroValue274
  t229:=underlying201
  a229:=isAgg201
  z229:=sizeOf201
  v229:=zeroValue201 }
open Go.Sort Go.RowKit in
theorem Tryz.slices_Sort_int (blk off cap:Nat) (zs:List Int) (w:World) (hH:Holds (Value.int .i64) w blk off zs.toArray) (hC:blk<w.heap.size) (hY:zs.length<4611686018427387904) :
    Calls prog 116 #[.slice (some ⟨blk,off,none⟩) zs.length cap] w fun e w' =>
      e=.returned (.tuple #[])/\∃ n os,w'=grow (putRow (Value.int .i64) (Sort.ahead w n) blk off (zs.mergeSort fun x y=>decide (x<=y)).toArray) os:=Any.slices_Sort_int Tryz.lays189 blk off cap zs w hH hC hY
open Go.RowKit Go.Sort in
theorem Tryz.slices_Sort_int_none (p:Option Addr) (cap:Nat) (w:World) :
    Calls prog 116 #[.slice p 0 cap] w fun e w'=>e=.returned (.tuple #[])/\w'=w:=Any.slices_Sort_int_none Tryz.lays189 p cap w
end Go.Proofs
namespace Go.Proofs.YtckdhgbepmpgiaaGreat
open Go.GL
theorem zdx {l:List Int} {sp:List Value} (hb:Blk w b (l.map (.int .i64)++sp) e) (d:List Int) (hs:d.length=l.length) (m:Nat) (os:Array Obj) :
  Blk (Go.Sort.grow (Go.Sort.putRow (Value.int .i64) (Go.Sort.ahead w m) b 0 d.toArray) os) b (d.map (.int .i64)++sp) e/\Keep (fun q=>q=b) w (Go.Sort.grow (Go.Sort.putRow (Value.int .i64) (Go.Sort.ahead w m) b 0 d.toArray) os):=by
 have hC:=hb.lt;have dc:(Go.Sort.putRow (Value.int .i64) (Go.Sort.ahead w m) b 0 d.toArray).heap.size=w.heap.size:=by simp[Go.Sort.ahead]
 have hY:∀ i,i<w.heap.size->(Go.Sort.grow (Go.Sort.putRow (Value.int .i64) (Go.Sort.ahead w m) b 0 d.toArray) os).heap[i]?=(Go.Sort.putRow (Value.int .i64) (Go.Sort.ahead w m) b 0 d.toArray).heap[i]?:=by
  intro i hi;show ((Go.Sort.putRow (Value.int .i64) (Go.Sort.ahead w m) b 0 d.toArray).heap++os)[i]?=_;rw[ztq tO]
 refine⟨?_,rfl,rfl,rfl,Nat.le_add_right _ _,?_,?_⟩
 .
  unfold Blk at *;rw[hY b hC];show (w.heap.modify b _)[b]?=_;rw[ztu,zt2 rfl,hb];simp only[zw4,Go.Sort.onCells];congr 2;apply zto;intro j;simp only[Go.Sort.putCells,Array.getElem?_mapIdx,List.getElem?_toArray];by_cases hj:j<d.length
  .
   rw[zth tD,zth tD];rw[zsR tD];simp[hj]
  rw[zti tD,zti tD];have da:¬ j<l.length:=tO;simp[hs,da]
 . grind
 intro i hi db;rw[hY i hi];show (w.heap.modify b _)[i]?=_;rw[ztu,zt1 (fun h=>db h.symm)]
def yR (l:List Int):List Int:=l.mergeSort fun x y=>decide (x<=y)
theorem zac (l:List Int) (x:Int):x ∈ yR l ↔ x ∈ l:=List.mem_mergeSort
theorem xf (l:List Int):(yR l).length=l.length:=List.length_mergeSort _
theorem zaQ (l:List Int):(yR l).Pairwise (·<=·):=by
 have:=List.pairwise_mergeSort (le:=fun x y:Int=>decide (x<=y)) tD tD l;exact this.imp tD
theorem zdy (l:List Int) (v:Value) (n:Nat) (w:World) (hC:w.ownsRow 0 3 1 v n (l.map (.int .i64))) (da:l.length<=1048576):Calls prog 116 #[v] w (Ret fun u w'=>u=.tuple #[]/\w'.ownsRow 0 3 1 v n ((yR l).map (.int .i64))/\Keep (fun q=>v.ownBlock=some q) w w'):=by
 have hn:=zg3 hC;subst hn;by_cases h0:l=[]
 .
  subst h0;obtain⟨ao,c,rfl⟩:=yb hC;refine(Tryz.slices_Sort_int_none ao c w).mono ?_;rintro e w' ⟨rfl,rfl⟩;exact⟨_,rfl,rfl,by simpa[yR] using hC,Keep.refl _ _⟩
 obtain⟨g,cap,sp,rfl,_,dg,db,hB,dc⟩:=jz hC h0
 have hH:Go.Sort.Holds (Value.int .i64) w g 0 l.toArray:=by
  intro j hj;have hY:j<l.length:=tO;refine⟨?_,hB.frozen⟩;refine hB.cells j _ ?_;rw[zth tD,zt8,zsR hY];simp[hY]
 refine(Tryz.slices_Sort_int g 0 cap l w hH hB.lt tO).mono ?_;rintro e w' ⟨rfl,q,os,rfl⟩;have hw:=zdx hB (yR l) (xf l) q os;refine⟨_,rfl,rfl,?_,hw.2.mono Jq⟩;have:=zbl hw.1 (cap:=cap) (by rw[<- dc];simp[xf]) db;rw[xf]at this;exact this
mutual
/-- The variables that a term mentions, in order. -/
def yD:Tm->List Int
 | .mk op n ks=>(if op=24 then [n] else [])++mentL ks
def mentL:List Tm->List Int
 | []=>[]
 | k::r=>yD k++mentL r
end
theorem zad (t:Tm):yD t=(if t.op=24 then [t.n] else [])++mentL t.kids:=by cases t;rw[yD];rfl
theorem mentL_mem {l:List Tm}:v ∈ mentL l ↔ ∃ k ∈ l,v ∈ yD k:=by
 induction l with
 | nil=>simp[mentL]
 | cons k r ih=>rw[mentL,zta,ih];simp
theorem zhj (l:List Tm) (k:Tm):mentL (l++[k])=mentL l++yD k:=by
 induction l with
 | nil=>simp[mentL]
 | cons x r ih=>rw[zu3,mentL,mentL,ih,zu0]
theorem zkI {a b:List Int} (t:Tm):(∀ v ∈ yD t,lki a v.toNat=lki b v.toNat)->qO a t=qO b t:=by
 induction t using zqB with
 | h t ih =>
  intro h;rw[zdt,zdt]
  have hk:valL a t.kids=valL b t.kids:=by
   rw[zb6,zb6];exact zuU fun k hk=>ih k hk fun v hv=>h v (by rw[zad];exact zv1 _ (mentL_mem.2 ⟨k,hk,hv⟩))
  rw[hk];unfold za6;split
  . rfl
  split
  .
   rename_i e;exact h t.n (by rw[zad,zt2 e];simp)
  rfl
def rdB (f:Fl) (x:Nd):Bool:=decide (x.kind=3\/x.kind=5\/(x.kind=2/\((ya f x.at_).act=0\/(ya f x.at_).act=1)))
def rdN (f:Fl) (x:Nd):List Int:=if rdB f x=true then Gr.compactL (yR (yD (ya f x.at_).term)) else []
def rdV (f:Fl) (g:List Nd) (n:Nat):List Int:=rdN f (yP g n)
theorem znB (h:rdB f x=true):v ∈ rdN f x ↔ v ∈ yD (ya f x.at_).term:=by
 unfold rdN;rw[zt2 h,Gr.compactL_mem,zac]
section
variable (f:Fl) (g:List Nd) (s:Sf)
def kf (n:Nat):Bool:=decide (¬ 0<=(zh s n).dfn/\((yP g n).kind ≠ 2\/(ya f (yP g n).at_).act=1))
inductive NeedV:Int->Prop
 | sink {n:Nat} {u:Int × Int}:n<g.length->kf f g s n=true->u ∈ (zh s n).uses->NeedV u.2
 | use {n:Nat} {u:Int × Int}:n<g.length->0<=(zh s n).dfn->NeedV (zh s n).dfn->u ∈ (zh s n).uses->NeedV u.2
 | arg {n:Nat} {p:Phn} {a:Int}:n<g.length->p ∈ (zh s n).phis->NeedV p.ver->a ∈ p.args->NeedV a
theorem NeedV.all {P:Int->Prop} (h1:∀ n,n<g.length->kf f g s n=true->∀ u ∈ (zh s n).uses,P u.2)
  (h2:∀ n,n<g.length->0<=(zh s n).dfn->P (zh s n).dfn->∀ u ∈ (zh s n).uses,P u.2) (h3:∀ n,n<g.length->∀ p ∈ (zh s n).phis,P p.ver->∀ a ∈ p.args,P a) (h:NeedV f g s k):P k:=by
 induction h with
 | sink hn hs hu=>exact h1 _ hn hs _ hu
 | use hn hd _ hu ih=>exact h2 _ hn hd ih _ hu
 | arg hn hp _ ha ih=>exact h3 _ hn _ hp ih _ ha
end
end Go.Proofs.YtckdhgbepmpgiaaGreat
namespace Go.GL
open Go.RowKit
section
variable {n:Fm} {pos:Pos} {v:Value}
variable {op:Op} {ty:TypeId} {ps:String} {g:Option (Nat × Bool)}
theorem zs5 (k:Nat) {β:Type} {E:β->HE} {u:β->Value} (hn:(Nat.blt d n,gd ops env g,(hget H k).isNone)=(true,some true,true)) (hE:∀ x,(E x).loc/\∀ b,¬ (E x).fz b) (hm:∀ w,VI Bs H w->xd P ⟨some d,op,ty,ps,aft,g⟩ env w (fun r w'=>∃ x,r=u x/\(E x).holds w'/\Ext w w'/\∀ q,(E x).S q->w.heap.size<=q/\q<w'.heap.size))
  (h:∀ x,V P n Q ks (.o ops rest) ((d,u x)::env) ((d,none)::A) ((k,E x)::H) Bs):V P n Q ks (.o ops (⟨some d,op,ty,ps,aft,g⟩::rest)) env A H Bs:=by
 simp only[Prod.mk.injEq,zw1]at hn;refine fun hA w hI=>G.mem hn.1 hn.2.1 (hm w hI) ?_;rintro _ w' ⟨x,rfl,hh,hk,hS⟩;exact h x (TgOk.none (hA.new hn.2.2)) w' (hI.new hk k hh (hE x).1 (hE x).2 hS)
theorem zs3 (k:Nat) {e:HE} (hn:(gd ops env g,hget H k,qK H k)=(some true,some e,none)) (hl:e'.loc) (hz:∀ b,¬ e'.fz b) (hm:∀ w,VI Bs H w->xO P ⟨none,op,ty,ps,aft,g⟩ env w (fun w'=>e'.holds w'/\Keep e.S w w'/\∀ q,e'.S q->(e.S q\/w.heap.size<=q)/\q<w'.heap.size))
  (h:V P n Q ks (.o ops rest) env A (hset H k e') Bs):V P n Q ks (.o ops (⟨none,op,ty,ps,aft,g⟩::rest)) env A H Bs:=by
 simp only[Prod.mk.injEq]at hn;refine fun hA w hI=>zpt hn.1 (hm w hI) ?_;rintro w' ⟨hh,hk,hS⟩;exact h (hA.res hn.2.1 hn.2.2) w' (hI.set hn.2.1 hk hh hl hz hS)
end
section
variable {n:Fm}
theorem VD.skip (i j:Nat) {op:Op} {ty:TypeId} {ps:String} {g:Option (Nat × Bool)} (hi:ops[i]?=some ⟨some d,op,ty,ps,aft,g⟩) (hr:Region.ready .any ops listed=[i]) (hn:(Nat.blt d n,gd ops env g,xX (Hs.map (·.1)))=(true,some false,true)) (hB:Bs.drop j=B0)
  (h:VD P n Q ks ops Hs B0 L fuel (listed.setIfInBounds i true) ((d,undef)::env) ((d,none)::A) H Bs):VD P n Q ks ops Hs B0 L (fuel+1) listed env A H Bs:=by
 simp only[Prod.mk.injEq]at hn;subst hB;refine fun hH hA w hI=>WD.skip i hi hr (xW hn.2.1) O hn.1 ((hI.drop j).pick hH hn.2.2) (h hH hA.none w hI)
end
section
variable {n:Fm} {pos:Pos}
theorem zs6 (k k2:Nat) {e:HE} (A1:Tgs) (hn:(hget H k,hget H k2)=(some e,some e2))
  (hC:A1.map (fun p=>zd7 env p.1)=A1.map (fun p=>jw ((k,e')::yM [k,k2] H) p.2)) (hY:A1.all (fun p=>(jw ((k,e')::yM [k,k2] H) p.2).isSome)=true)
  (he:∀ w,VI Bs H w->e'.holds w) (hl:e'.loc) (hz:∀ b,¬ e'.fz b) (hS:∀ q,e'.S q->e.S q\/e2.S q) (h:V P n Q ks pos env A1 ((k,e')::yM [k,k2] H) Bs):V P n Q ks pos env A H Bs:=by
 simp only[Prod.mk.injEq]at hn;refine fun _ w hI=>h (TgOk.of hC hY) w (hI.hands (Hn:=[(k,e')]) ⟨Keep.refl _ _,fun x hx=>?_,zvk _ _⟩);rw[zt9]at hx;subst hx;have i1:∀ q,e.S q->InS H [k,k2] q:=fun q hq=>⟨_,zl hn.1,by simp[zgZ,],hq⟩;have i2:∀ q,e2.S q->InS H [k,k2] q:=fun q hq=>⟨_,zl hn.2,by simp[zgZ,],hq⟩;refine⟨he w hI,hl,hz,fun q hq=>?_⟩;rcases hS q hq with h1 | h1
 . exact⟨.inl (i1 q h1),hI.low _ (zl hn.1) q h1⟩
 exact⟨.inl (i2 q h1),hI.low _ (zl hn.2) q h1⟩
theorem zs7 (k j:Nat) {w0:World} {S F:Nat->Prop} {p:World->Prop} (hn:(hget H k).isNone=true) (hp:Bs[j]?=some (w0,S)) (hl:(HE.dat F p).loc) (h0:p w0) (hF:∀ q,F q->q<w0.heap.size/\¬ S q) (h:V P n Q ks pos env A ((k,.dat F p)::H) Bs):V P n Q ks pos env A H Bs:=by
 refine fun hA w hI=>h (hA.new (by simpa using hn)) w ?_;have hb:=hI.base _ (zsS hp);have hk:(HE.dat F p).holds w:=HE.keep (e:=.dat F p) ⟨h0,fun q hq=>(hF q hq).1⟩ hl hb.1 (fun q hq=>hq.elim) fun b hC=>(hF b hC).2
 have hY:∀ x ∈ H,∀ b,F b->¬ x.2.S b:=fun x hx b hC hs=>by
  grind
 refine⟨?_,?_,?_,?_,?_,?_⟩
 .
  intro x hx;rcases zt7.1 hx with rfl | hx
  . exact hk
  exact hI.holds x hx
 .
  intro x hx;rcases zt7.1 hx with rfl | hx
  . exact hl
  exact hI.loc x hx
 . exact zvh.2 ⟨fun x _ q hq=>hq.elim,hI.apart⟩
 .
  intro x hx y hy b hC hs;rcases zt7.1 hy with rfl | hy
  . exact hs
  rcases zt7.1 hx with rfl | hx
  . exact hY y hy b hC hs
  exact hI.froz x hx y hy b hC hs
 .
  intro x hx q hq;rcases zt7.1 hx with rfl | hx
  . exact hq.elim
  exact hI.low x hx q hq
 intro q hq;refine⟨(hI.base q hq).1,fun x hx b hC=>?_⟩;rcases zt7.1 hx with rfl | hx
 . exact hC.elim
 exact(hI.base q hq).2 x hx b hC
end
theorem zgp {α:Type} {R:α->α->Prop} (hs:∀ x y,R x y->R y x):∀ {l:List α},l.Pairwise R->∀ {x y},x ∈ l->y ∈ l->x ≠ y->R x y
 | [],_,_,_,h,_,_=>tD
 | a::l,hp,x,y,hx,hy,hne=>by
  rw[zvh]at hp;rcases zt7.1 hx with e1 | h1
  . grind
  rcases zt7.1 hy with e2 | h2
  . grind
  exact zgp hs hp.2 h1 h2 hne
theorem VI.sep {k k2:Nat} {e:HE} (hI:VI Bs H w) (h1:hget H k=some e) (h2:hget H k2=some e2) (hC:k ≠ k2) (hq:e.S q):¬ e2.S q :=
 zgp (R:=fun x y:Nat × HE=>∀ q,x.2.S q->¬ y.2.S q) (fun _ _ h q hy hx=>h q hx hy) hI.apart (zl h1) (zl h2) (fun e=>hC (congrArg Prod.fst e)) q hq
end Go.GL
namespace Go.Proofs.YtckdhgbepmpgiaaGreat
open Go.GL
theorem zmu {l:List St} {k:Nat} {x s:St} (h:l[i]?=some x) (hk:(preL l)[ssize (l.take i)+k]?=some s):(x.pre++preL (l.drop (i+1)))[k]?=some s:=by
 have e:preL l=preL (l.take i)++(x.pre++preL (l.drop (i+1))):=by
  have h1:=congrArg preL (yH h);rw[zbZ]at h1;exact h1
 rw[e,zti (by rw[yp];omega),yp,zvJ]at hk;exact hk
theorem zmv (l:List St):∀ (v:Value) (D:Nat->Prop) (w:World) (k:Nat) (s:St),SlR 10 RSt D w v l->(preL l)[k]?=some s->ssize l<=10000 ->
  Calls prog 25 #[v,.int .i64 k] w (Ret fun r w'=>(∃ cs:List Value,r=.tuple #[.agg cs.toArray,.bool true]/\cs.length=10/\RSt D w' s cs)/\Ext w w'):=by
 induction l using zqD with
 | h l ih =>
 intro v D0 w k s hl hs dR;replace hl:=hl.narrow tS kQ;generalize dS:(fun b=>D0 b/\b<w.heap.size)=D at hl;have dz:∀ q,D q->q<w.heap.size:=fun q h=>tD;have hC:∀ q,D q->D0 q:=fun q h=>tD;have dT:=hl.max;have dA:=(zt5.1 hs).1;rw[yp]at dA;have dU:=jO l;obtain⟨av,nv,rfl⟩:=hl.form;refine zqr func25 O ntmps25 O (V.inn (Vs 2 O (V.alloc 4 tz72 O O (fun b4=>?_))));refine Vs 10 O (zoE O (fun n0=>?_) (fun n0=>?_))
 . omega
 refine Vs 9 O (zrl (σ:=Nat × Nat) [0,4] [] [4] O (fun e ⟨i,q⟩=>(1,.int .i64 q)::(6,.int .i64 i)::e) (fun e ⟨i,q⟩=>(4,.own b4 [.int .i64 0,.int .i64 0,.int .i64 0,.int .i64 0,.int .i64 0,.int .i64 0,.slice none 0 0,.slice none 0 0,.slice none 0 0,.slice none 0 0] 72)::e) (fun⟨i,q⟩=>i<=l.length/\ssize (l.take i)+q=k) (fun⟨i,q⟩=>l.length - i) (0,k) j2 j3 j1 j1 j1 ⟨zt6 _,by simp[ssize]⟩ ?_);rintro⟨i,q⟩ ⟨hi,hq⟩;refine zqO 4 4 0 O O (Vs 9 O (zoE O (fun i1=>?_) (fun i1=>?_)))
 .
  refine zri 1000 0 i tO hl O O O (fun x dV dW dX dh dr hY dt=>?_);obtain⟨dB,dC,dD,dE,rfl,dl,da,db,dm⟩:=dt.get;obtain⟨dF,dG,rfl⟩:=dl.form;obtain⟨dH,dI,rfl⟩:=da.form;obtain⟨dJ,dK,rfl⟩:=db.form;obtain⟨dL,dM,rfl⟩:=dm.form;obtain⟨ih1,ih2⟩:=ih x dr;have dY:=xC dh;have dZ:=x.size_eq;have dc:=zmu (k:=q) dh (by rw[hq];exact hs);rw[St.pre_eq]at dc;refine Vs 11 O (zoE O (fun q0=>?_) (fun q0=>?_))
  .
   obtain rfl:q=0:=tO;simp only[zu3,zuy,Option.some.injEq]at dc;subst dc;refine Vs 4 O ?_;refine zqQ 1000 tR24 ts72 O hY tO _ rfl O (Vs 12 O (zp7 tr25 tg72 ts72 O O O O (fun w hI=>⟨_,rfl,⟨_,rfl,rfl,RSt.put (SlR.wide zy (show SlR 3 RTm D w _ _ from Tr1 hI.k0 dl) hC) (SlR.wide zf (show SlR 10 RSt D w _ _ from Tr1 hI.k0 da) hC) (SlR.wide zf (show SlR 10 RSt D w _ _ from Tr1 hI.k0 db) hC) (SlR.wide zc (show SlR 1 zG D w _ _ from Tr1 hI.k0 dm) hC)⟩,hI.k0⟩)))
  obtain⟨q',rfl⟩:∃ q',q=q'+1:=⟨q - 1,tO⟩;rw[zu3,zux,zu0]at dc;refine Va 13 O tO ?_;refine zqQ 1000 tR24 ts72 O hY tO _ rfl O (Vs 2 O (zr2 tc56 O (fun w hI=>jQ x.thn _ D w iR tO) (Vs 11 O (zoE O (fun q2=>?_) (fun q2=>?_)))))
  .
   rw[zth (by rw[yp];omega)]at dc;have dN:((q'+1:Nat):Int) - 1=(q':Nat):=tO;refine Vs 4 O ?_;refine zqQ 1000 tR24 ts72 O hY tO _ rfl O (Vs 3 O (zr4 tc25 O (fun w hI=>(by have h:=ih1 _ D w q' s iR dc tO;rw[<- dN]at h;exact h)) ?_));rintro rr w1 w2 du dw ⟨cs,rfl,dO,dx⟩ dy;have dg:∀ q,D q->¬ HS _ q:=fun q hq h=>by have:=VI.hsE du 0 rfl h;have:=dz q hq;omega
   obtain⟨y1,y2,y3,y4,rfl,z1,z2,z3,z4⟩:=dx.get;obtain⟨p1,m1,rfl⟩:=z1.form;obtain⟨p2,m2,rfl⟩:=z2.form;obtain⟨p3,m3,rfl⟩:=z3.form;obtain⟨p4,m4,rfl⟩:=z4.form;refine Vs 13 O iQ
  rw[zti (by rw[yp];omega),yp]at dc;refine Va 14 O tO ?_;refine zqQ 1000 tR24 ts72 O hY tO _ rfl O (Vs 2 O (zr2 tc56 O (fun w hI=>jQ x.els _ D w y7 tO) (Vs 11 O (zoE O (fun q3=>?_) (fun q3=>?_)))))
  .
   rw[zth (by rw[yp];omega)]at dc;have dQ:((q'+1:Nat):Int) - 1 - (ssize x.thn:Nat)=((q' - ssize x.thn:Nat):Int):=tO;refine Vs 4 O ?_;refine zqQ 1000 tR24 ts72 O hY tO _ rfl O (Vs 3 O (zr4 tc25 O (fun w hI=>(by have h:=ih2 _ D w (q' - ssize x.thn) s y7 dc tO;rw[<- dQ]at h;exact h)) ?_));rintro rr w1 w2 du dw ⟨cs,rfl,dO,dx⟩ dy;have dg:∀ q,D q->¬ HS _ q:=fun q hq h=>by have:=VI.hsE du 0 rfl h;have:=dz q hq;omega
   obtain⟨y1,y2,y3,y4,rfl,z1,z2,z3,z4⟩:=dx.get;obtain⟨p1,m1,rfl⟩:=z1.form;obtain⟨p2,m2,rfl⟩:=z2.form;obtain⟨p3,m3,rfl⟩:=z3.form;obtain⟨p4,m4,rfl⟩:=z4.form;refine Vs 13 O iQ
  refine Va 15 O tO (V.back ⟨i+1,q' - ssize x.thn - ssize x.els⟩ Ui j3 ⟨tO,by rw[jN dh];omega⟩ tD 0 O O)
 grind
theorem zfC (t:Tm):zA vs true t=true->zA vs false t=true:=by
 induction t using zqB with
 | h t ih =>
  intro h;rw[yV,ztA,ztA]at h ⊢;refine⟨⟨h.1.1,?_⟩,?_⟩
  .
   have h2:=h.1.2;unfold zS at h2 ⊢;split
   .
    rename_i e;rw[zt2 e,ztA]at h2;rw[h2.1];rfl
   rename_i e;rw[zt1 e]at h2;exact h2
  have key:∀ l:List Tm,(∀ k ∈ l,k ∈ t.kids)->formedL vs true l=true->formedL vs false l=true:=by
   intro l;induction l with
   | nil=>intro _ _;rfl
   | cons x r ihr =>
    intro hm hf;rw[formedL,ztA]at hf ⊢;exact⟨ih x (hm x (zsV ..)) hf.1,ihr (fun k hk=>hm k (zsU _ hk)) hf.2⟩
  exact key t.kids (fun k h=>h) h.2
theorem Valid.hatch (V:Valid f):∀ h ∈ f.hatches,zA f.vars false h.term=true/\(rng f.vars h.term).isSome=true/\h.term.nodes<=1000000/\h.low<=h.high:=by
 intro h hm;obtain⟨i,hi⟩:=zv5.1 hm;have hY:=(zt5.1 hi).1;have h0:=(zZ V.ok).2.2.1;have h1:=qA f.hatches.length 0 h0 i (zt6 _) tO;rw[zat hi]at h1;have hn:=xS hi;have:=V.size;unfold zI at h1;split at h1
 . cases h1
 split at h1
 . cases h1
 split at h1
 . cases h1
 rename_i hb;unfold zD at h1;split at h1
 .
  rename_i hf;split at h1
  .
   rename_i hr;refine⟨zfC _ hf,hr,tO,?_⟩;have hC:zb3 h.low h.high=true:=tD;unfold zb3 at hC;exact(of_decide_eq_true hC).1
  cases h1
 cases h1
def zkJ (vals:List Int) (hs:List Ht):List Int:=hs.map fun h=>xt (qO vals h.term) h.low h.high
theorem ziK {hs:List Ht} {x:Ht} (h:hs[i]?=some x):zkJ vals (hs.take (i+1))=zkJ vals (hs.take i)++[xt (qO vals x.term) x.low x.high]:=by
 unfold zkJ;rw[ze h,zuT];rfl
theorem zc2 (h:zz vs r=0):InV vs (zK vs r):=by
 unfold zz at h;cases hs:zaP vs r with
 | none=>rw[hs]at h;cases h
 | some s =>
  rw[hs]at h;have hv:zK vs r=s.vals:=by unfold zK;rw[hs]
  have hl:=zcI (vs:=vs) (r:=r) vs.length s (ztg _) (by rw[zsW];exact hs);simp only at h;unfold zb7 at h;split at h
  . cases h
  split at h
  .
   rename_i ha;rw[hv];refine⟨hl.1,fun i v hi=>?_⟩;have hC:=(zt5.1 hi).1;rw[ztX]at ha
   have:=ha (v,lki s.vals i) (zv5.2 ⟨i,by
    rw[List.getElem?_zip_eq_some]
    exact⟨hi,zgj tO⟩⟩)
   unfold inB at this;simp at this;exact this
  cases h
abbrev ym (f:Fl) (r:Ins):List Int:=zkJ (zK f.vars r) f.hatches
abbrev zkK (f:Fl) (r:Ins):Sg:=⟨zK f.vars r,[],0⟩
abbrev zou (f:Fl) (r:Ins):Mc:=⟨0,zkK f r,fun _=>0⟩
def zhk (f:Fl) (r:Ins):Sg:=exL f (ym f r) f.body (zkK f r)
def GoesAll (f:Fl) (r:Ins) (K:Nat):Prop:=∃ rd',Goes f (ym f r) (zd f) 0 ((zd f).length - 1) K (zou f r) ⟨((zd f).length:Int) - 1,zhk f r,rd'⟩
theorem GoesAll.unique {K K':Nat} (h:GoesAll f r K) (h':GoesAll f r K'):K=K':=by
 obtain⟨_,h1,h2⟩:=h;obtain⟨_,h3,h4⟩:=h';rcases zvR K K' with hh | hh | hh
 . have:=(h4 K hh).2;rw[h1]at this;dsimp only at this;omega
 . exact hh
 have:=(h2 K' hh).2;rw[h3]at this;dsimp only at this;omega
theorem zdz:∀ (D:Nat->Prop) (w:World) (x:Int) (cs:List Value),zG D w x cs->cs=[zb x]:=fun _ _ _ _ h=>h
def LeftOk (D:Nat->Prop) (W:World) (r:Ins) (s:StS) (q:Int->Value):Prop:=∀ k,1<=k->k<=3->SlR 1 zG D W (q k) ((xZ r k).drop (zaO s k))
theorem ziL {s:StS} {x:Vr} (h:x.kind=0):zt r (some s) x=some ⟨s.vals++[x.init],s.a,s.b,s.c⟩:=by simp[zt,h]
theorem zkL {s:StS} (_:1<=k/\k<=3) {l:List Int} (hl:(xZ r k).drop (zaO s k)=l):(xZ r k)[zaO s k]?=l[0]?:=by
 rw[<- hl,zuz,zvK]
theorem zhl {x:Vr} {s s1:StS} (he:f.vars[i]?=some x) (hs:(f.vars.take i).foldl (zt r) (some ⟨[],0,0,0⟩)=some s) (h1:zt r (some s) x=some s1):(f.vars.take (i+1)).foldl (zt r) (some ⟨[],0,0,0⟩)=some s1:=by
 rw[ze he,zuv,hs];exact h1
theorem LeftOk.next {W:World} {s:StS} {q:Int->Value} {aq:Option Addr} {cq:Nat} {rest:List Int} (hL:LeftOk D W r s q) (hk:1<=k/\k<=3) (hr:rest=(xZ r k).drop (zaO s k)) (hq:SlR 1 zG D W (.slice aq rest.length cq) rest) (h1:1<=rest.length):LeftOk D W r (zcp s k y) (fun j=>if j=k then .slice (if cq=1 then aq else aq.map (·.add (1*1))) (rest.length - 1) (cq - 1) else q j):=by
 intro j hC hY;have hc:=zeA s hk ⟨hC,hY⟩ y;dsimp only;by_cases e:j=k
 .
  subst e;rw[zt2 rfl]at hc;rw[zt2 rfl,hc];have:=hq.drop 1 h1;rw[hr,zub]at this
  grind
 rw[zt1 e]at hc;rw[zt1 e,hc];exact hL j hC hY
theorem zkM {s:StS} {x:Vr} (h:1<=x.kind/\x.kind<=3) (hy:(xZ r x.kind)[zaO s x.kind]?=some y):zt r (some s) x=some (zcp s x.kind y):=by
 simp only[zt,Option.bind_some]
 grind
theorem ziM {s:StS} {x:Vr} (h:1<=x.kind/\x.kind<=3) (hy:(xZ r x.kind)[zaO s x.kind]?=none):zt r (some s) x=none:=by
 simp only[zt,Option.bind_some]
 grind
theorem zaw {s:StS} (hS:zaP f.vars r=some s) (hk:1<=k/\k<=3) (h:0<((xZ r k).drop (zaO s k)).length):zz f.vars r=1:=by
 unfold zz;rw[hS];dsimp only;unfold zb7;rw[zuN]at h;rw[zt2];rcases JW with rfl | rfl | rfl
 .
  have h:0<r.secret.length - s.a:=h;omega
 .
  have h:0<r.pub.length - s.b:=h;omega
 have h:0<r.random.length - s.c:=h;omega
theorem ziN {s:StS} (hS:zaP f.vars r=some s) (hC:∀ v ∈ f.vars,0<=v.kind/\v.kind<=3) (hz:∀ k:Int,1<=k->k<=3->((xZ r k).drop (zaO s k)).length=0):zz f.vars r=if (f.vars.zip s.vals).all inB then 0 else 3:=by
 have hY:=ziw hC f.vars.length s (ztg _) (by rw[zsW];exact hS)
 have key:∀ k:Int,1<=k->k<=3->zaO s k=(xZ r k).length:=fun k h1 h3=>by
  grind
 have h1:s.a=r.secret.length:=key 1 tO tO;have h2:s.b=r.pub.length:=key 2 tO tO;have h3:s.c=r.random.length:=key 3 tO tO;unfold zz;rw[hS];dsimp only;unfold zb7;omega
theorem zkN {l:List α} {x:α} (h:l[i]?=some x):l.drop i=x::l.drop (i+1):=by
 obtain⟨h1,h2⟩:=zt5.1 h;rw[zuc h1,h2]
end Go.Proofs.YtckdhgbepmpgiaaGreat
namespace Go.GL
def RQu:Rel (Int × List Int):=fun D w q cs=>∃ v,cs=[.int .i64 q.1,v]/\SlR 1 zG D w v q.2
@[ext] structure Ac where
 mode:Int
 budget:Int
 spent:Int
 left:List Int
 asked:List (Int × List Int)
deriving DecidableEq
structure RAc (D:Nat->Prop) (w:World) (a:Ac) (v1 v2:Value):Prop where
 left:SlR 1 zG D w v1 a.left
 asked:SlR 2 RQu D w v2 a.asked
end Go.GL
namespace Go.Proofs.YtckdhgbepmpgiaaGreat
open Go.GL
variable {s:Sf}
def zm9:Rel Phn:=fun D w p cs=>∃ u1 u2,cs=[.int .i64 p.var,.int .i64 p.ver,u1,u2]/\SlR 1 zG D w u1 p.frm/\SlR 1 zG D w u2 p.args
def RSn:Rel Sn:=fun D w x cs=>∃ u1 u2,cs=[u1,u2,.int .i64 x.dfn]/\SlR 4 zm9 D w u1 x.phis/\SlR 2 xq D w u2 x.uses
theorem qC:yq xq:=fun _ _ _ _ _ _ _ _ h=>h
theorem zcM:yq zm9:=fun _ _ _ _ hD hk _ _ ⟨u1,u2,h0,h1,h2⟩=>⟨u1,u2,h0,h1.stable zc hD hk,h2.stable zc hD hk⟩
theorem zae:yq RSn:=fun _ _ _ _ hD hk _ _ ⟨u1,u2,h0,h1,h2⟩=>⟨u1,u2,h0,h1.stable zcM hD hk,h2.stable qC hD hk⟩
theorem zaR:qv xq:=fun _ _ _ _ h=>h
theorem zhm:qv zm9:=fun _ _ _ _ ⟨u1,u2,h0,h1,h2⟩=>⟨u1,u2,h0,h1.narrow tO qJ,h2.narrow tO qJ⟩
theorem ziO:qv RSn:=fun _ _ _ _ ⟨u1,u2,h0,h1,h2⟩=>⟨u1,u2,h0,h1.narrow tO zhm,h2.narrow tO zaR⟩
instance:StC zm9:=⟨zcM⟩
structure RSf (D:Nat->Prop) (w:World) (s:Sf) (u1 u2:Value):Prop where
 of_:SlR 1 zG D w u1 s.of_
 nodes:SlR 3 RSn D w u2 s.nodes
theorem RSf.keep {S:Nat->Prop} (h:RSf D w s u1 u2) (hk:Keep S w w') (hS:∀ b,D b->b<w.heap.size->¬ S b):RSf D w' s u1 u2:=⟨h.of_.keep zc hk hS,h.nodes.keep zae hk hS⟩
theorem RSf.ext (h:RSf D w s u1 u2) (hk:Ext w w'):RSf D w' s u1 u2:=⟨h.of_.ext zc hk,h.nodes.ext zae hk⟩
instance {D:Nat->Prop} {w w':World} {s:Sf} {u1 u2:Value}:Tr (RSf D w s u1 u2) w w' (RSf D w' s u1 u2):=⟨fun h hk=>RSf.ext h hk⟩
theorem RSf.wide {D':Nat->Prop} (h:RSf D w s u1 u2) (hD:∀ q,D q->D' q):RSf D' w s u1 u2:=⟨h.of_.wide zc hD,h.nodes.wide zae hD⟩
def stN (f:Fl) (x:Nd):St:=if 0<=x.at_ then ya f x.at_ else znn
def zeG (g:List Nd):List (List Int):=(List.range g.length).map (zg g)
def GrO (D:Nat->Prop) (w:World) (f:Fl) (g:List Nd) (b:Nat):Prop:=∃ v1 v2 v3 gv sv pv,D b/\Cells w b 0 [v1,v2,v3,gv,sv,pv]/\RFl D w f v1 v2 v3/\SlR 4 RNd D w gv g/\SlR 10 RSt D w sv (g.map (stN f))/\SlR 1 (RSl 1 zG) D w pv (zeG g)
theorem GrO.keep {S:Nat->Prop} (h:GrO D w f g b) (hk:Keep S w w') (hS:∀ b,D b->b<w.heap.size->¬ S b):GrO D w' f g b:=by
 obtain⟨v1,v2,v3,gv,sv,pv,h0,h1,h2,h3,h4,h5⟩:=h;exact⟨v1,v2,v3,gv,sv,pv,h0,hk.cells h1 (hS b h0 (zsT _ _ (h1 0 _ O))),⟨h2.vars.keep yG hk hS,h2.hatches.keep yN hk hS,h2.body.keep zf hk hS⟩,h3.keep zC hk hS,h4.keep zf hk hS,h5.keep (zP zc) hk hS⟩
theorem GrO.ext (h:GrO D w f g b) (hk:Ext w w'):GrO D w' f g b:=h.keep hk fun _ _ _ h=>h
instance {D:Nat->Prop} {w w':World} {f:Fl} {g:List Nd} {b:Nat}:Tr (GrO D w f g b) w w' (GrO D w' f g b):=⟨fun h hk=>GrO.ext h hk⟩
theorem zM (h:g[i]?=some x):yP g (i:Int)=x:=by unfold yP;rw[ztd,h];rfl
theorem zdA (h:i<g.length):(zeG g)[i]?=some (zg g i):=by unfold zeG;rw[zt8,zuC h];rfl
theorem pred_mem {y:Nat}:y ∈ zw g i ↔ y<g.length/\((yP g y).next=(i:Int)\/(yP g y).other=(i:Int)):=by
 unfold zw
 grind
def GOk (f:Fl) (g:List Nd):Prop:=∀ (i:Nat) x,g[i]?=some x->(x.at_<0->x.kind=0\/x.kind=1)/\(0<=x.at_->x.at_<((preL f.body).length:Int)/\(yD (ya f x.at_).term).length<=100000)
theorem GOk.at (h:GOk f g) (hx:g[i]?=some x) (hk:x.kind=2\/x.kind=3\/x.kind=5):0<=x.at_/\x.at_<((preL f.body).length:Int)/\(yD (ya f x.at_).term).length<=100000:=by
 obtain⟨h1,h2⟩:=h i x hx
 have h0:0<=x.at_:=by
  by_cases e:x.at_<0
  . have:=h1 e;omega
  omega
 exact⟨h0,h2 h0⟩
theorem jo (f:Fl) (g:List Nd) (hk:GOk f g) (i:Nat) (hi:i<g.length) (b:Nat) (D:Nat->Prop) (W:World) (hG:GrO D W f g b) :
  Calls prog 79 #[.pointer (some ⟨b,0,none⟩),.int .i64 i] W (Ret fun r w'=>r=.int .i64 (zO f g i)/\Ext W w'):=by
 obtain⟨v1,v2,v3,gv,sv,pv,hD,da,hf,hg,hs,hp⟩:=hG;obtain⟨as_,cs_,rfl⟩:=hs.form;obtain⟨ag,cg,rfl⟩:=hg.form;have dQ:(g.map (stN f)).length=g.length:=ztb _;have dR:=hs.max;refine zqr func79 O ntmps79 O (V.inn (zrg 900 0 O O (fun h=>h) da (zqO 0 900 0 O O (Vs 13 O (zri 1000 0 i tO hs O O O (fun st dJ dK dL hC dw db dc=>?_))))));obtain⟨dx,dy,dz,dA,rfl,dg,dh,dl,dm⟩:=dc.get;obtain⟨dB,dC,rfl⟩:=dg.form;obtain⟨dD,dE,rfl⟩:=dh.form;obtain⟨dF,dG,rfl⟩:=dl.form;obtain⟨dH,dI,rfl⟩:=dm.form;refine zqQ 1000 tR24 ts72 O db tO _ rfl O (Vs 1 O (V.alloc 5 tz72 O O (fun b5=>?_)));refine Vs 10 O (zri 2000 0 i tO hg O O O (fun x dS dT dU hY dM dr dt=>?_));obtain rfl:=dt;refine zqQ 2000 tR34 ts65 O dr tO _ rfl O ?_;have hx:=zM hY;have dN:st=stN f x:=by rw[zt8,hY]at hC;exact(Option.some.inj hC).symm
 refine Vs 4 O (V.sp 22 O (fun g1=>?_) (fun g1=>?_))
 .
  have h0:=(hk.at hY (.inl g1)).1;have du:st=ya f x.at_:=by rw[dN];exact zt2 h0
  have dO:zO f g i=if st.act=0\/st.act=5 then st.var else -1:=by
   unfold zO zcr;rw[hx,<- du];by_cases e:st.act=0\/st.act=5
   . rw[zt2 e,zt2 (by simpa[g1] using e)]
   rw[zt1 e,zt1 (by simpa[g1] using e)]
  refine Vs 4 O (V.sp 26 O (fun g2=>?_) (fun g2=>?_))
  . refine Vs 17 O (zr9 0 tr79 O O tD)
  refine Vs 7 O (zoE O (fun g3=>?_) (fun g3=>?_))
  . refine Vs 9 O (zr9 0 tr79 O O tD)
  refine Vs 8 O (zr9 0 tr79 O O tD)
 refine Vs 20 O (zr9 0 tr79 O O (by unfold zO zcr;rw[hx,zt1 tD]))
end Go.Proofs.YtckdhgbepmpgiaaGreat
namespace Go.GL
section
variable {n:Nat}
theorem zqP (s k off:Nat) (h:zd7 env s=jw H (some (k,off))) (hs:(jw H (some (k,off))).isSome=true) (h1:VD P n Q ks ops Hs B0 L fuel listed env ((s,some (k,off))::A) H Bs):VD P n Q ks ops Hs B0 L fuel listed env A H Bs:=by
 refine fun hH hA w hI=>h1 hH (fun s' k' off' hk=>?_) w hI;simp only[tgt]at hk;cases hb:Nat.beq s s' with
 | false=>rw[hb]at hk;exact hA s' k' off' hk
 | true =>
  rw[hb]at hk;cases hk;have:=TgOk.of (A:=[(s,some (k,off))]) (env:=env) (H:=H) tD tD;exact this s' k off (by simp[tgt,hb])
end
end Go.GL
namespace Go.Proofs.YtckdhgbepmpgiaaGreat
open Go.GL
def ye (t:Tm):List Int:=if t.op=24 then [t.n] else []
theorem zdB (t:Tm):yD t=ye t++mentL t.kids:=zad t
theorem zcN {l:List Tm} {k:Tm} (h:l[i]?=some k):mentL (l.take (i+1))=mentL (l.take i)++yD k:=by rw[ze h,zhj]
theorem zgq (l:List Tm) (i:Nat):(mentL (l.take i)).length<=(mentL l).length:=by
 have main:∀ a b:List Tm,mentL (a++b)=mentL a++mentL b:=fun a b=>by
  induction a with
  | nil=>simp[mentL]
  | cons x r ih=>rw[zu3,mentL,mentL,ih,zu0]
 have:=congrArg List.length (main (l.take i) (l.drop i));rw[zvz,zsZ]at this;omega
abbrev qc (u:Value) (l:List Int):HE:=.row 3 1 u l.length (l.map zb)
theorem zkO (t:Tm):∀ (kv uo:Value) (acc:List Int) (D:Nat->Prop) (W:World),SlR 3 RTm D W kv t.kids->(qc uo acc).holds W->(∀ q,D q->q<W.heap.size/\uo.ownBlock ≠ some q)->acc.length+(yD t).length<=1000000 ->
  Calls prog 127 #[.agg #[.int .i64 t.op,.int .i64 t.n,kv],uo] W (Ret fun r w'=>∃ x:Value,r=x/\(qc x (acc++yD t)).holds w'/\Keep (qc uo acc).S W w'/\∀ q,(qc x (acc++yD t)).S q->((qc uo acc).S q\/W.heap.size<=q)/\q<w'.heap.size):=by
 induction t using zqB with
 | h t ih =>
 intro kv uo acc D W hk hC da db;obtain⟨ak,ck,rfl⟩:=hk.form;have dA:=hk.max;have dc:∀ q,(qc uo acc).S q->¬ D q:=fun q h hd=>(da q hd).2 h;rw[zdB,zsZ]at db;refine zqr func127 O ntmps127 O (zrA 900 (.row 3 1 uo acc.length (acc.map zb)) (hC) trivial (fun _ h=>h) (fun q hq=>xB hC hq) (Vs 2 O (V.box 2 O O (fun b2=>?_))));refine Vs 4 O (zrm (σ:=Value) [2] [2] [2] O (fun e u=>(1,u)::e) (fun e u=>(900,.row 3 1 u (acc++ye t).length ((acc++ye t).map zb))::e) (fun u=>True) j1 j1 ?_ ?_)
 .
  refine Vs 7 O (zoE O (fun e=>?_) (fun e=>?_))
  .
   refine Vs 4 O (zro 13 [(0,_)] tR27 ts3 tz3 tS O O tK (fun b13=>?_));refine zqV 900 13 tu27 Tryz.el3 O tS O O tO tO (fun u900=>(Vs 2 O Ur))
  refine zrk 900 O (e':=.row 3 1 uo (acc++ye t).length ((acc++ye t).map zb)) (by unfold ye;rw[zt1 e,zu1]) (Vs 1 O (zoS (uo) j2 j3 True.intro 0 O O))
 rintro u -;refine Vs 10 O (zrk 900 O (e':=.row 3 1 u (acc++ye t++mentL (t.kids.take 0)).length ((acc++ye t++mentL (t.kids.take 0)).map zb)) UA (Vs 1 O (zrl (σ:=Nat × Value) [16,17] [] [] O (fun e ⟨i,u⟩=>(18,.int .i64 i)::(1,u)::e) (fun e ⟨i,u⟩=>(900,.row 3 1 u (acc++ye t++mentL (t.kids.take i)).length ((acc++ye t++mentL (t.kids.take i)).map zb))::e) (fun⟨i,u⟩=>i<=t.kids.length) (fun⟨i,u⟩=>t.kids.length - i) (0,u) j2 j3 j1 j1 j1 (zt6 _) ?_)));rintro⟨i,u⟩ hi;refine Vs 6 O (zoE O (fun lt=>?_) (fun lt=>?_))
 .
  refine Vs 6 O (zrh 1000 0 i tO hk O O O (fun b_ d_ h_=>by have dr:=dc _ h_;first | omega | exact dr d_) (fun k dB dC dD dg dh dl dt dm=>?_));obtain⟨du,rfl,hY⟩:=dm.get;obtain⟨dw,dx,rfl⟩:=hY.form;refine zqQ 1000 tR68 ts70 O dl tO _ rfl O ?_;have dy:=zcN dg;have dz:=zgq t.kids (i+1);rw[dy,zsZ]at dz;refine Vs 1 O (V.alloc 6 tz70 O O (fun b6=>?_));refine Vs 6 O (zr7 900 (E:=fun x=>.row 3 1 x (acc++ye t++mentL (t.kids.take i)++yD k).length ((acc++ye t++mentL (t.kids.take i)++yD k).map zb)) call127 O iF (fun w hI=>ih k dh _ _ (acc++ye t++mentL (t.kids.take i)) D w (hY.keep zy hI.k0 (fun q hq _ hs=>dc q hs hq)) (hI.at 900 O) y6 tD) ?_);rintro u2 _ rfl;refine Va 8 O tO Uq
 obtain rfl:i=t.kids.length:=tO;refine zrk 900 O (e':=qc u (acc++yD t)) (by rw[zsW,zdB,<- zu0]) (Vs 12 O (zoV results127 O (fun w hI=>⟨_,rfl,⟨u,rfl,hI.at 900 rfl,hI.k0,fun q hq=>hI.inS 0 900 O O hq⟩⟩)))
theorem zbb (xs ys:List Int) (u v:Value) (D D':Nat->Prop) (w:World) (hx:SlR 1 zG D w u xs) (hy:SlR 1 zG D' w v ys):Calls prog 69 #[u,v] w (Ret fun r w'=>r=.bool (decide (xs=ys))/\Ext w w'):=by
 obtain⟨ao,cx,rfl,dA,dB,dl⟩:=hx;obtain⟨bo,cy,rfl,dC,dD,dm⟩:=hy;refine zqr func69 O ntmps69 O (Gs 15 O (zqe O (fun dr=>?_) (fun dE=>?_)))
 .
  refine Gs 7 O ?_;have:¬ xs=ys:=fun h=>dr tD;refine zoU results69 O ⟨_,rfl,tD,Keep.refl _ _⟩
 have hl:xs.length=ys.length:=tO;refine Gs 11 O (G.loop (σ:=Nat) (fun k=>[(0,.slice ao xs.length cx),(1,.slice bo ys.length cy),(11,.slice ao xs.length cx),(12,.int .i64 xs.length),(13,.int .i64 k)]) (fun k=>fun w'=>k<=xs.length/\xs.take k=ys.take k/\Ext w w') (fun k=>xs.length - k) 0 j2 JG ?_);rintro k w1 ⟨dF,dt,hC⟩;refine Gs 6 O (zqe O (fun dG=>?_) (fun dH=>?_))
 .
  obtain⟨x,hx⟩:∃ x,xs[k]?=some x:=j9;obtain⟨y,hy⟩:∃ y,ys[k]?=some y:=j9;obtain⟨b1,o1,c1,du,_,dw,dc,rfl⟩:=dl k x hx;obtain⟨b2,o2,c2,dx,_,dy,dg,rfl⟩:=dm k y hy;have hY:=hC.cells dc (fun h=>h);have da:=hC.cells dg (fun h=>h);refine Gs 11 O (Qt tK (Gs 2 O (zqj O O (fun w1 db=>zph tR27 ts3 O O du tO) (zql O tg3 (fun w1 db=>(db.cell (hY 0 _ O) (fun h=>h))) (Gs 2 O (zqj O O (fun w1 db=>zph tR27 ts3 O O dx tO) (zql O tg3 (fun w1 db=>(db.cell (da 0 _ O) (fun h=>h))) (Gs 1 O (zqn (fun w2 dh=>?_))))))))));refine Gs 1 O (zqe O (fun hd=>?_) (fun he=>?_))
  .
   have:¬ xs=ys:=by
    grind
   refine Gs 11 O (zoU results69 O ⟨_,rfl,tD,hC.ext dh⟩)
  have dz:x=y:=zt0.1 he;refine Ga 7 O tO (G.back (k+1) j2 ⟨tO,?_,hC.ext dh⟩ tO);obtain⟨h1,h2⟩:=zt5.1 hx;obtain⟨h3,h4⟩:=zt5.1 hy;rw[zvD h1,zvD h3,dt,h2,h4,dz]
 have dI:k=xs.length:=tO
 have:xs=ys:=by
  grind
 refine Gs 11 O (zoU results69 O ⟨_,rfl,tD,hC⟩)
theorem zc3 {α:Type} {c:Nat} {enc:α->List Value} (hc:∀ x,(enc x).length=c) {v:Value} {j:Nat} {x y:α} (hj:j<c) (hy:enc y=(enc x).set j v):∀ (L:List α) (k:Nat) (sp:List Value),L[k]?=some x->(L.flatMap enc++sp).set (k*c+j) v=(L.set k y).flatMap enc++sp
 | [],k,sp,h=>tD
 | z::r,0,sp,h=>by
  grind
 | z::r,k+1,sp,h=>by
  simp only[zux]at h;simp only[zur,List.set_cons_succ,zu0];rw[zvt _ _ tD,hc];rw[show (k+1)*c+j - c=k*c+j from tD,zc3 hc hj hy r k sp h]
theorem znC (m:Nat):Builtin.zeroCells (Value.int .i64 0).cells m=(List.replicate (m*1) (.int .i64 0)).toArray:=by
 apply Array.ext
 . simp[Builtin.zeroCells,Value.cells]
 intro i h1 h2;have:i % 1=0:=tO;simp[Builtin.zeroCells,Value.cells,this]
theorem zc4 (es:List Int) (v:Value) (n:Nat) (w:World) (hC:w.ownsRow 0 3 1 v n (es.flatMap zdl)) (dE:es.length<=1048576):Calls prog 117 #[v] w (Ret fun u w'=>w'.ownsRow 0 3 1 u (Gr.compactL es).length ((Gr.compactL es).flatMap zdl)/\u.ownBlock=v.ownBlock/\Keep (fun q=>v.ownBlock=some q) w w'):=by
 have hn:n=es.length:=by
  have:=hC.1;rw[qL]at this;omega
 subst hn;by_cases h0:es=[]
 .
  subst h0
  obtain⟨l,c,hv⟩:∃ ao c,v=.slice ao 0 c:=by
   rcases hC.2 with⟨rfl,_⟩ | ⟨g,cap,cur,rfl,_⟩<;>exact⟨_,_,rfl⟩
  subst hv;refine zqq func117 O ntmps117 O (Gs 13 O (zoG O rfl (Gs 8 O (zoU tr117 O ⟨_,rfl,hC,rfl,Keep.refl _ _⟩))))
 obtain⟨g,cap,sp,rfl,_,dX,dF,hB,dG⟩:=qu xN tO hC h0;refine zqq func117 O ntmps117 O (Gs 13 O (zqe O (fun h2=>?_) (fun h2=>?_)))
 .
  refine Gs 8 O ?_
  have e1:Gr.compactL es=es:=by
   match es,h0,h2 with
   | [x],_,_=>rfl
   | x::y::r,_,h=>simp at h;omega
  refine zoU tr117 O ⟨_,rfl,tD,rfl,Keep.refl _ _⟩
 refine Gs 9 O ?_
 have e1:Gr.compactL (es.take 1)=es.take 1:=by
  match es,h0 with
  | x::r,_=>rfl
 refine G.loop (σ:=Nat) (fun k=>[(0,.slice (some ⟨g,0,none⟩) es.length cap),(3,.int .i64 k)]) (fun k=>fun w'=>1<=k/\k<=es.length/\Gr.compactL (es.take k)=es.take k/\Ext w w') (fun k=>es.length - k) 1 j2 ⟨tO,tO,e1,Keep.refl _ _⟩ ?_;rintro k w2 ⟨dY,dZ,dm,da⟩;have dr:=da.blk hB (fun h=>h);refine Gs 9 O (zqe O (fun d5=>?_) (fun d6=>?_))
 .
  refine Gs 5 O (Qt tK (Gs 2 O ?_));obtain⟨x,hx⟩:∃ e,es[k]?=some e:=j9;obtain⟨y,hy⟩:∃ e,es[k - 1]?=some e:=j9;refine Ga 1 O tO (zql O tg3 (fun w1 hY=>(hY.cell (yT xN dr hx 0 _ O) (fun h=>h))) (Ga 4 O tO (zql O tg3 (fun w1 hY=>((show Cells w2 g (0+((k:Int) - 1).toNat*1) (zdl y) from by rw[show ((k:Int) - 1).toNat=k - 1 from tO];exact yT xN dr hy) 0 _ O |> fun h=>hY.cell h (fun h=>h))) (Gs 1 O (zqn (fun w3 dt=>?_))))));have dH:=dt.blk dr (fun h=>h)
  have dA:(Gr.compactL (es.take k)).getLast?=some y:=by
   grind
  refine Gs 1 O (zqe O (fun dI=>?_) (fun d7=>?_))
  .
   refine Gs 4 O ?_;have d8:x=y:=dI;refine zqg O O (zpN tR27 ts3 O O O tO tO) (Gs 10 O ?_)
   have dJ:Gr.compactL (es.take (k+1))=es.take k:=by
    rw[Gr.compactL_take hx];unfold Gr.cstep
    grind
   refine G.loop (σ:=Nat × Nat × List Int) (fun⟨q,k2,L⟩=>[(0,.slice (some ⟨g,0,none⟩) es.length cap),(3,.int .i64 q),(4,.slice (some ⟨g,0+k*1,none⟩) (es.length - k) (cap - k)),(5,.int .i64 k2)]) (fun⟨q,k2,L⟩=>fun w'=>Blk w' g (L.flatMap zdl++sp) 3/\L.length=es.length/\k<=q/\q+1<=k+k2/\1<=k2/\k2<=es.length - k/\L.take q=Gr.compactL (es.take (k+k2))/\L.drop (k+k2 - 1)=es.drop (k+k2 - 1)/\Keep (fun b=>b=g) w w') (fun⟨q,k2,L⟩=>es.length - k - k2) (k,1,es) j2 UB ?_;rintro⟨q,k2,L⟩ w4 ⟨dc,hL,d9,eb,dK,dL,dg,dh,du⟩;have dM:(L.flatMap zdl++sp).length=cap*1:=by rw[<- dG,zsZ,zsZ,qL,qL,hL]
   refine Gs 9 O (zqe O (fun dN=>?_) (fun dO=>?_))
   .
    refine Gs 5 O (Qt tK (Gs 2 O ?_));obtain⟨x2,dw⟩:∃ e,es[k+k2]?=some e:=j9;obtain⟨y2,dB⟩:∃ e,es[k+k2 - 1]?=some e:=j9
    have dQ:L[k+k2]?=some x2:=by
     have:=congrArg (fun l=>l[1]?) dh;simp only[zuz]at this;rw[show k+k2 - 1+1=k+k2 from tO]at this;rw[this];exact dw
    have dR:L[k+k2 - 1]?=some y2:=by
     have:=congrArg (fun l=>l[0]?) dh;simp only[zuz,zvK]at this;rw[this];exact dB
    have dC:Cells w4 g (0+k*1+(k2:Int).toNat*1) (zdl x2):=by
     have:=yT xN dc dQ
     grind
    have dS:Cells w4 g (0+k*1+((k2:Int) - 1).toNat*1) (zdl y2):=by
     have:=yT xN dc dR
     grind
    refine Ga 1 O tO (zql O tg3 (fun w1 hY=>(hY.cell (dC 0 _ O) (fun h=>h))) (Ga 4 O tO (zql O tg3 (fun w1 hY=>(hY.cell (dS 0 _ O) (fun h=>h))) (Gs 1 O (zqn (fun w5 dl=>?_))))));have dD:=dl.blk dc (fun h=>h)
    have dx:(Gr.compactL (es.take (k+k2))).getLast?=some y2:=by
     have:=Gr.compactL_last dB
     grind
    refine Gs 1 O (zqe O (fun dT=>?_) (fun dU=>?_))
    .
     refine Ga 7 O tO (zqk O tg3 (dl.cell (dC 0 _ O) (fun h=>h)) (Ga 1 O tO (zpt O (M.store ts3 O O O O dD tO) ?_)));rintro w6 ⟨dV,db,dy⟩;obtain⟨z,hz⟩:∃ z,L[q]?=some z:=j9;rw[ztd,zvY,<- zvK (q*1),zc3 xN (y:=x2) tS rfl L q sp hz]at db;refine Ga 14 O tO (G.back (q+1,k2+1,L.set q x2) j2 ⟨db,tD,tO,tO,tO,tO,?_,?_,(du.ext dl).trans dy (fun _ _ h=>h)⟩ tD)
     .
      rw[show k+(k2+1)=k+k2+1 from tO,Gr.compactL_take dw,<- dg];unfold Gr.cstep;rw[zt1 tD];rw[zvD tD];simp[zvC]
     rw[zue tO];have:=congrArg (List.drop 1) dh;simp only[zub]at this
     grind
    refine Ga 8 O tO (G.back (q,k2+1,L) j2 ⟨dD,hL,tO,tO,tO,tO,?_,?_,du.ext dl⟩ tD)
    .
     rw[show k+(k2+1)=k+k2+1 from tO,Gr.compactL_take dw,<- dg];unfold Gr.cstep
     grind
    have:=congrArg (List.drop 1) dh;simp only[zub]at this
    grind
   refine Gs 9 O (zqg O O (zpN tR27 ts3 O O O tO tO) (zpq O (M.clear (k:=1) (zs:=List.replicate ((es.length - q)*1) (.int .i64 0)) tR27 tz3 O tO (znC _) tR (by intro u hu;rw[zui hu];rfl) dc tO) ?_));rintro _ w6 ⟨rfl,dV,db,dy⟩;refine Gs 6 O (zqg O O (zpM tR27 ts3 O O tO) (Gs 9 O (zoU tr117 O ⟨_,rfl,?_,rfl,(du.trans dy (fun _ _ h=>h)).mono Jq⟩)));have dz:k+k2=es.length:=tO;rw[dz,zsW]at dg;have dW:(Gr.compactL es).length=q:=tD;have ec:q*1<=(L.flatMap zdl++sp).length:=tO;rw[dW];rw[ztd,zvY]at db;have h7:=zN (k:=1) (n:=q) (cap:=cap) db tO dF tD;rw[zu0,zvA tD,List.take_take,Nat.min_self,zvA (by rw[qL];omega),jy xN,dg]at h7;exact h7
  refine Ga 8 O tO (G.back (k+1) j2 ⟨tO,tO,?_,da.ext dt⟩ tO);rw[Gr.compactL_take hx];unfold Gr.cstep;rw[zt1 tD,dm];rw[zvD tO];rw[zsR tO]at hx;cases hx;rfl
 refine Gs 12 O ?_;have:k=es.length:=tO;subst this;rw[zsW]at dm;refine zoU tr117 O J0
theorem zkP (t:Tm):∀ (kv uo:Value) (acc:List Int) (D:Nat->Prop) (W:World),SlR 3 RTm D W kv t.kids->(qc uo acc).holds W->(∀ q,D q->q<W.heap.size/\uo.ownBlock ≠ some q)->acc.length+(yD t).length<=1000000 ->
  Calls prog 115 #[.agg #[.int .i64 t.op,.int .i64 t.n,kv],uo] W (Ret fun r w'=>∃ x:Value,r=x/\(qc x (acc++yD t)).holds w'/\Keep (qc uo acc).S W w'/\∀ q,(qc x (acc++yD t)).S q->((qc uo acc).S q\/W.heap.size<=q)/\q<w'.heap.size):=by
 induction t using zqB with
 | h t ih =>
 intro kv uo acc D W hk hC da db;obtain⟨ak,ck,rfl⟩:=hk.form;have dA:=hk.max;have dc:∀ q,(qc uo acc).S q->¬ D q:=fun q h hd=>(da q hd).2 h;rw[zdB,zsZ]at db;refine zqr func115 O ntmps115 O (zrA 900 (.row 3 1 uo acc.length (acc.map zb)) (hC) trivial (fun _ h=>h) (fun q hq=>xB hC hq) (Vs 2 O (V.box 2 O O (fun b2=>?_))));refine Vs 4 O (zrm (σ:=Value) [2] [2] [2] O (fun e u=>(1,u)::e) (fun e u=>(900,.row 3 1 u (acc++ye t).length ((acc++ye t).map zb))::e) (fun u=>True) j1 j1 ?_ ?_)
 .
  refine Vs 7 O (zoE O (fun e=>?_) (fun e=>?_))
  .
   refine Vs 4 O (zro 13 [(0,_)] tR27 ts3 tz3 tS O O tK (fun b13=>?_));refine zqV 900 13 tu27 Tryz.el3 O tS O O tO tO (fun u900=>(Vs 2 O Ur))
  refine zrk 900 O (e':=.row 3 1 uo (acc++ye t).length ((acc++ye t).map zb)) (by unfold ye;rw[zt1 e,zu1]) (Vs 1 O (zoS (uo) j2 j3 True.intro 0 O O))
 rintro u -;refine Vs 10 O (zrk 900 O (e':=.row 3 1 u (acc++ye t++mentL (t.kids.take 0)).length ((acc++ye t++mentL (t.kids.take 0)).map zb)) UA (Vs 1 O (zrl (σ:=Nat × Value) [16,17] [] [] O (fun e ⟨i,u⟩=>(18,.int .i64 i)::(1,u)::e) (fun e ⟨i,u⟩=>(900,.row 3 1 u (acc++ye t++mentL (t.kids.take i)).length ((acc++ye t++mentL (t.kids.take i)).map zb))::e) (fun⟨i,u⟩=>i<=t.kids.length) (fun⟨i,u⟩=>t.kids.length - i) (0,u) j2 j3 j1 j1 j1 (zt6 _) ?_)));rintro⟨i,u⟩ hi;refine Vs 6 O (zoE O (fun lt=>?_) (fun lt=>?_))
 .
  refine Vs 6 O (zrh 1000 0 i tO hk O O O (fun b_ d_ h_=>by have dr:=dc _ h_;first | omega | exact dr d_) (fun k dB dC dD dg dh dl dt dm=>?_));obtain⟨du,rfl,hY⟩:=dm.get;obtain⟨dw,dx,rfl⟩:=hY.form;refine zqQ 1000 tR68 ts70 O dl tO _ rfl O ?_;have dy:=zcN dg;have dz:=zgq t.kids (i+1);rw[dy,zsZ]at dz;refine Vs 1 O (V.alloc 6 tz70 O O (fun b6=>?_));refine Vs 6 O (zr7 900 (E:=fun x=>.row 3 1 x (acc++ye t++mentL (t.kids.take i)++yD k).length ((acc++ye t++mentL (t.kids.take i)++yD k).map zb)) call115 O iF (fun w hI=>ih k dh _ _ (acc++ye t++mentL (t.kids.take i)) D w (hY.keep zy hI.k0 (fun q hq _ hs=>dc q hs hq)) (hI.at 900 O) y6 tD) ?_);rintro u2 _ rfl;refine Va 8 O tO Uq
 obtain rfl:i=t.kids.length:=tO;refine zrk 900 O (e':=qc u (acc++yD t)) (by rw[zsW,zdB,<- zu0]) (Vs 12 O (zoV results115 O (fun w hI=>⟨_,rfl,⟨u,rfl,hI.at 900 rfl,hI.k0,fun q hq=>hI.inS 0 900 O O hq⟩⟩)))
theorem ziP (u:Value) (l:List Int) (h:(qc u l).holds w) (hl:l.length<=1048576):Calls prog 116 #[u] w (Ret fun r w'=>∃ _:Unit,r=.tuple #[]/\(qc u (yR l)).holds w'/\Keep (qc u l).S w w'/\∀ q,(qc u (yR l)).S q->((qc u l).S q\/w.heap.size<=q)/\q<w'.heap.size):=by
 refine(zdy l u l.length w h hl).mono ?_;rintro _ w' ⟨_,rfl,rfl,h1,h2⟩;have hC:(qc u (yR l)).holds w':=by rw[<- xf l]at h1;exact h1
 exact⟨_,rfl,(),rfl,hC,h2,fun q hq=>⟨.inl hq,xB h1 hq⟩⟩
theorem zcO (u:Value) (l:List Int) (h:(qc u l).holds w) (hl:l.length<=1048576):Calls prog 117 #[u] w (Ret fun r w'=>∃ x:Value,r=x/\(qc x (Gr.compactL l)).holds w'/\Keep (qc u l).S w w'/\∀ q,(qc x (Gr.compactL l)).S q->((qc u l).S q\/w.heap.size<=q)/\q<w'.heap.size):=by
 have he:∀ l:List Int,l.map zb=l.flatMap zdl:=fun l=>by rw[List.map_eq_flatMap];rfl
 have h':w.ownsRow 0 3 1 u l.length (l.flatMap zdl):=by rw[<- he];exact h
 refine(zc4 l u l.length w h' hl).mono ?_;rintro _ w' ⟨x,rfl,h1,h2,h3⟩;rw[<- he]at h1;exact⟨_,rfl,x,rfl,h1,h3,fun q hq=>⟨.inl (show u.ownBlock=some q from h2 ▸ hq),xB h1 hq⟩⟩
theorem zeH (f:Fl) (g:List Nd) (hk:GOk f g) (i:Nat) (hi:i<g.length) (b:Nat) (D:Nat->Prop) (W:World) (hG:GrO D W f g b) :
  Calls prog 81 #[.pointer (some ⟨b,0,none⟩),.int .i64 i] W (Ret fun r w'=>SlR 1 zG (fun q=>W.heap.size<=q) w' r (rdV f g i)/\Ext W w'):=by
 obtain⟨v1,v2,v3,gv,sv,pv,hD,dc,hf,hg,hs,hp⟩:=hG;obtain⟨as_,cs_,rfl⟩:=hs.form;obtain⟨ag,cg,rfl⟩:=hg.form;have dU:(g.map (stN f)).length=g.length:=ztb _;have dV:=hs.max;refine zqr func81 O ntmps81 O (V.inn (zrg 900 0 O O (fun h=>h) dc (zqO 0 900 0 O O (Vs 12 O (zri 1000 0 i tO hs O O O (fun st dO dQ dR da dy dg dh=>?_))))));obtain⟨dz,dA,dB,dC,rfl,db,dl,dm,dr⟩:=dh.get;obtain⟨dD,dE,rfl⟩:=db.form;obtain⟨dF,dG,rfl⟩:=dl.form;obtain⟨dH,dI,rfl⟩:=dm.form;obtain⟨dJ,dK,rfl⟩:=dr.form;refine zqQ 1000 tR24 ts72 O dg tO _ rfl O (Vs 1 O (V.alloc 5 tz72 O O (fun b5=>?_)));refine Vs 11 O (zri 2000 0 i tO hg O O O (fun x dW dX dY hY dS dt du=>?_));obtain rfl:=du;refine zqQ 2000 tR34 ts65 O dt tO _ rfl O ?_;have hx:=zM hY;have dL:st=stN f x:=by rw[zt8,hY]at da;exact(Option.some.inj da).symm
 have dM:rdV f g i=rdN f x:=by unfold rdV;rw[hx]
 have dN:rdB f x=false->SlR 1 zG (fun q=>W.heap.size<=q) W (.slice none 0 0) (rdV f g i):=fun h=>by rw[dM];unfold rdN;rw[h];exact SlR.nil
 refine Vs 4 O (zrm (σ:=Unit) [5] [5] [5] O (fun e u=>e) (fun e u=>e) (fun u=>rdB f x=true) j1 j1 ?_ ?_)
 .
  refine Vs 8 O (zoE O (fun k3=>?_) (fun k3=>?_))
  . refine Vs 5 O (zoS () j2 j3 (by unfold rdB;simp[k3]) 0 O O)
  refine Vs 5 O (zoE O (fun k5=>?_) (fun k5=>?_))
  . refine Vs 2 O (zoS () j2 j3 (by unfold rdB;simp[k5]) 0 O O)
  refine Vs 6 O (zoE O (fun k2=>?_) (fun k2=>?_))
  .
   have h0:=(hk.at hY (.inl k2)).1;have hC:st=ya f x.at_:=by rw[dL];exact zt2 h0
   refine Vs 6 O (V.sp 30 O (fun a0=>?_) (fun a0=>?_))
   .
    refine Vs 6 O (zoE O (fun a1=>?_) (fun a1=>?_))
    . refine Vs 9 O (zoV results81 O (fun w hI=>⟨_,rfl,Tr1 hI.k0 (dN (by unfold rdB;rw[<- hC];simp[k2,a0,a1])),hI.k0⟩))
    refine Vs 2 O (zoS () j2 j3 (by unfold rdB;rw[<- hC];simp[k2,zt0.1 a1]) 0 O O)
   refine Vs 9 O (zoS () j2 j3 (by unfold rdB;rw[<- hC];simp[k2,zt0.1 a0]) 0 O O)
  refine Vs 9 O (zoV results81 O (fun w hI=>⟨_,rfl,Tr1 hI.k0 (dN (by unfold rdB;simp[k2,k3,k5])),hI.k0⟩))
 rintro u dw;have dT:x.kind=2\/x.kind=3\/x.kind=5:=by unfold rdB at dw;simp at dw;omega
 obtain⟨h0,h1,h2⟩:=hk.at hY dT;have hC:st=ya f x.at_:=by rw[dL];exact zt2 h0
 rw[<- hC]at h2;have dx:rdV f g i=Gr.compactL (yR (yD st.term)):=by rw[dM];unfold rdN;rw[zt2 dw,<- hC]
 refine Vs 2 O (zqU 901 3 1 O (Vs 3 O (zr7 901 (E:=fun x=>qc x ([]++yD st.term)) call127 O iF (fun w hI=>zkO st.term _ _ [] (fun q=>D q/\q<W.heap.size) w ((db.narrow tO zbo).ext zy hI.k0) (hI.at 901 O) (fun q hq=>⟨zvP hq.2 (hI.k0).size,fun h=>by cases h⟩) tD) ?_)));rintro u2 _ rfl;rw[zvb];refine Vs 6 O (zr7 901 (E:=fun _:Unit=>qc u2 (yR (yD st.term))) call116 O iF (fun w hI=>ziP u2 (yD st.term) (hI.at 901 O) tO) ?_);rintro _ _ rfl;refine Vs 5 O (zr7 901 (E:=fun x=>qc x (Gr.compactL (yR (yD st.term)))) call117 O iF (fun w hI=>zcO u2 (yR (yD st.term)) (hI.at 901 O) (by rw[xf];omega)) ?_);rintro u3 _ rfl;refine Vs 4 O (zoV results81 O (fun w hI=>⟨_,rfl,by rw[dx];exact zpK zb iA (hI.at 901 O) (fun g hg=>hI.own 901 0 O O g hg),hI.k0⟩))
theorem ziQ (l:List St):plainL l=true->∀ (a n e:Nat) (G:List Nd) (P:List St),CtxG G n (layL l a n e)->CtxP P a (preL l)->∀ x ∈ layL l a n e,
  (x.kind=2->∃ s,P[x.at_.toNat]?=some s/\s.act ≠ 3/\s.act ≠ 4)/\(x.kind=4->0<=x.next/\∃ y,G[x.next.toNat]?=some y/\y.kind=5/\y.at_=x.at_)/\(x.kind=5->∃ s,P[x.at_.toNat]?=some s/\s.act=4):=by
 induction l using zqD with
 | h l ih =>
 intro hp
 have key:∀ r:List St,(∀ x ∈ r,x ∈ l)->∀ (a n e:Nat) (G:List Nd) (P:List St),CtxG G n (layL r a n e)->CtxP P a (preL r)->∀ x ∈ layL r a n e,
   (x.kind=2->∃ s,P[x.at_.toNat]?=some s/\s.act ≠ 3/\s.act ≠ 4)/\(x.kind=4->0<=x.next/\∃ y,G[x.next.toNat]?=some y/\y.kind=5/\y.at_=x.at_)/\(x.kind=5->∃ s,P[x.at_.toNat]?=some s/\s.act=4):=by
  intro r;induction r with
  | nil=>intro _ a n e G P _ _ x hx;simp[layL]at hx
  | cons s r ihr =>
   intro hm a n e G P hG hP x hx;have hs:=yU hp s (hm s (zsV ..));have hY:=hs;rw[s.plainB_eq,ztA,ztA]at hs;have h1:=(ih s (hm s (zsV ..))).1 hs.1.2;have h2:=(ih s (hm s (zsV ..))).2 hs.2;have hw:=s.wid_eq;rw[layL]at hG hx;rw[preL]at hP
   have hC:(s.lay a n (if r.isEmpty then e else n+s.wid)).length=s.wid:=by
    have h1:=zB [s] (by rw[plainL,hY];rfl) a n (if r.isEmpty then e else n+s.wid);simpa[layL,widL] using h1
   have db:s.pre.length=s.size:=by
    have:=yp [s];simpa[preL,ssize] using this
   rw[zta]at hx;rcases hx with hx | hx
   .
    replace hG:=hG.left;replace hP:=hP.left;generalize (if r.isEmpty then e else n+s.wid)=e' at hG hx hC;rw[s.lay_eq]at hG hx;rw[s.pre_eq]at hP;have da:=yp s.thn;split at hx
    .
     rename_i a3;rw[zt2 a3]at hG;have dc:=zB s.thn hs.1.2 (a+1) (n+1) e';rw[zt7,zta]at hx;rcases hx with rfl | hx | hx
     . grind
     . exact h1 _ _ _ G P hG.tail.left hP.tail.left x hx
     exact h2 _ _ _ G P (hG.tail.right tO) (hP.tail.right tO) x hx
    rename_i a3;split at hx
    .
     rename_i a4;rw[zt1 a3,zt2 a4]at hG;rw[zt7,zt7]at hx;rcases hx with rfl | rfl | hx
     . exact⟨fun h=>tD,fun _=>⟨Int.natCast_nonneg _,⟨5,a,if s.thn.isEmpty then (n+1:Nat) else (n+2:Nat),e'⟩,by dsimp only;rw[ztd];exact hG.tail.head,rfl,rfl⟩,fun h=>by (cases h)⟩
     . exact⟨fun h=>by (cases h),fun h=>by (cases h),fun _=>⟨s,by dsimp only;rw[ztd];exact hP.head,a4⟩⟩
     exact h1 _ _ _ G P hG.tail.tail hP.tail.left x hx
    rename_i a4;rw[zt9]at hx;subst hx;exact⟨fun _=>⟨s,by dsimp only;rw[ztd];exact hP.head,a3,a4⟩,fun h=>by (cases h),fun h=>by (cases h)⟩
   exact ihr (fun y hy=>hm y iu) _ _ _ G P (hG.right tO) (hP.right tO) x hx
 exact key l (fun x h=>h)
theorem ziR (l:List St):plainL l=true->∀ a n e:Nat,(layL l a n e).Pairwise fun x y=>x.kind=y.kind->x.at_ ≠ y.at_:=by
 induction l using zqD with
 | h l ih =>
 intro hp
 have key:∀ r:List St,(∀ x ∈ r,x ∈ l)->∀ a n e:Nat,(layL r a n e).Pairwise fun x y=>x.kind=y.kind->x.at_ ≠ y.at_:=by
  intro r;induction r with
  | nil=>intro _ a n e;simp[layL]
  | cons s r ihr =>
   intro hm a n e;have hs:=yU hp s (hm s (zsV ..));have hr:plainL r=true:=zbC fun y hy=>yU hp y (hm y iu);have hC:=(jP [s] (by rw[plainL,hs];rfl) a n (if r.isEmpty then e else n+s.wid)).range;have hY:=(jP r hr (a+s.size) (n+s.wid) e).range;rw[s.plainB_eq,ztA,ztA]at hs;have h1:=(ih s (hm s (zsV ..))).1 hs.1.2;have h2:=(ih s (hm s (zsV ..))).2 hs.2;simp only[layL,List.isEmpty_nil,if_true,zu1,ssize,zvK]at hC;rw[layL,zvg];refine⟨?_,ihr (fun y hy=>hm y iu) _ _ _,fun x hx y hy _=>tD⟩;generalize (if r.isEmpty then e else n+s.wid)=e';rw[s.lay_eq];split
   .
    have n1:=(jP s.thn hs.1.2 (a+1) (n+1) e').range;have n2:=(jP s.els hs.2 (a+1+ssize s.thn) (n+1+widL s.thn) e').range
    exact List.Pairwise.cons (fun y hy _=>by
     grind) (zvg.2 ⟨h1 _ _ _,h2 _ _ _,fun x hx y hy _=>by have:=n1 x hx;have:=n2 y hy;omega⟩)
   split
   .
    have n1:=(jP s.thn hs.1.2 (a+1) (n+2) (n+1)).range
    exact List.Pairwise.cons (fun y hy h=>by
     grind) (List.Pairwise.cons (fun y hy _=>by have:=n1 y hy;dsimp only;omega) (h1 _ _ _))
   grind
 exact key l (fun x h=>h)
theorem Valid.part (V:Valid f) (hx:(zd f)[i]?=some x) :
  (x.kind=2->(ya f x.at_).act ≠ 3/\(ya f x.at_).act ≠ 4)/\(x.kind=4->0<=x.next/\∃ y,(zd f)[x.next.toNat]?=some y/\y.kind=5/\y.at_=x.at_)/\(x.kind=5->(ya f x.at_).act=4):=by
 have hm:=zsS hx
 have hG:CtxG (zd f) 1 (layL f.body 0 1 (1+widL f.body)):=by
  intro i x hx;have hi:=(zt5.1 hx).1;unfold zd;rw[show 1+i=i+1 by omega,zux,zth hi];exact hx
 unfold zd at hm;rw[zt7,zta,zt9]at hm;rcases hm with rfl | hm | rfl
 . grind
 .
  obtain⟨p1,p2,p3⟩:=ziQ f.body V.plain 0 1 (1+widL f.body) (zd f) (preL f.body) hG (fun i x hx=>tD) x hm;refine⟨fun h=>?_,p2,fun h=>?_⟩
  .
   obtain⟨s,h1,h2⟩:=p1 h;unfold ya
   grind
  obtain⟨s,h1,h2⟩:=p3 h;unfold ya
  grind
 grind
theorem Valid.same (V:Valid f) {y:Nd} (hx:(zd f)[i]?=some x) (hy:(zd f)[j]?=some y) (hk:x.kind=y.kind) (he:x.at_=y.at_):i=j:=by
 have hP:(zd f).Pairwise fun x y=>x.kind=y.kind->x.at_ ≠ y.at_:=by
  have hC:=zaa f.body 0 1 (1+widL f.body);unfold zd;refine List.Pairwise.cons (fun y hy h=>?_) (zvg.2 ⟨ziR f.body V.plain _ _ _,tR,fun x hx y hy h=>?_⟩)
  . grind
  grind
 obtain⟨hi,rfl⟩:=zt5.1 hx;obtain⟨hj,rfl⟩:=zt5.1 hy;rcases zvR i j with h | h | h
 . exact absurd he (zvi.1 hP i j hi hj h hk)
 . exact h
 exact absurd he.symm (zvi.1 hP j i hj hi h hk.symm)
theorem Valid.heads (V:Valid f) {y:Nd} (hx:(zd f)[i]?=some x) (hy:(zd f)[j]?=some y) (kx:x.kind=5) (ky:y.kind=5) (he:x.at_=y.at_):i=j:=V.same hx hy (kx.trans ky.symm) he
theorem zeI (l:List St) (v:Value) (D:Nat->Prop) (W:World) (k:Int) (_:SlR 10 RSt D W v l) (hk:k<0) :
  Calls prog 25 #[v,.int .i64 k] W (Ret fun r w'=>r=.tuple #[.agg #[.int .i64 0,.int .i64 0,.int .i64 0,.int .i64 0,.int .i64 0,.int .i64 0,.slice none 0 0,.slice none 0 0,.slice none 0 0,.slice none 0 0],.bool false]/\Ext W w'):=by
 refine zqr func25 O ntmps25 O (V.inn (Vs 2 O (V.alloc 4 tz72 O O (fun b4=>?_))));refine Vs 10 O (zoE O (fun h=>?_) (fun h=>?_))
 . refine Vs 2 O (zru [Value.int IntKind.i64 0,Value.int IntKind.i64 0,Value.int IntKind.i64 0,Value.int IntKind.i64 0,Value.int IntKind.i64 0,Value.int IntKind.i64 0,Value.slice none 0 0,Value.slice none 0 0,Value.slice none 0 0,Value.slice none 0 0] [(0,1),(1,1),(2,1),(3,1),(4,3),(7,1),(8,1),(9,1)] [] O O (fun _=>tK) (Vs 6 O (zp7 tr25 tg72 ts72 O O O O (fun w hI=>⟨_,rfl,rfl,hI.k0⟩))))
 omega
end Go.Proofs.YtckdhgbepmpgiaaGreat
namespace Go.GL
theorem qP:qv RNd:=fun _ _ _ _ h=>h
end Go.GL
namespace Go.Proofs.YtckdhgbepmpgiaaGreat
open Go.GL
theorem ziS (l:List St):∀ (a n e N:Nat),n+widL l<=N->e<N->∀ x ∈ layL l a n e,(-1<=x.next/\x.next<N)/\(-1<=x.other/\x.other<N):=by
 induction l using zqD with
 | h l ih =>
 have wpos:∀ r:List St,r.isEmpty=false->1<=widL r:=by
  intro r hr;cases r with
  | nil=>simp at hr
  | cons s t=>have:=s.wid_eq;simp only[widL];omega
 have key:∀ r:List St,(∀ x ∈ r,x ∈ l)->∀ (a n e N:Nat),n+widL r<=N->e<N->∀ x ∈ layL r a n e,(-1<=x.next/\x.next<N)/\(-1<=x.other/\x.other<N):=by
  intro r;induction r with
  | nil=>intro _ a n e N _ _ x hx;simp[layL]at hx
  | cons s r ihr =>
   intro hm a n e N hN he x hx;have h1:=(ih s (hm s (zsV ..))).1;have h2:=(ih s (hm s (zsV ..))).2;have hw:=s.wid_eq;simp only[widL]at hN;rw[layL,zta]at hx;rcases hx with hx | hx
   .
    have hC:(if r.isEmpty then e else n+s.wid)<N:=by
     grind
    generalize (if r.isEmpty then e else n+s.wid)=e' at hx hC;rw[s.lay_eq]at hx;split at hx
    .
     rename_i a3;rw[zt1 i5]at hw;rw[zt7,zta]at hx;rcases hx with rfl | hx | hx
     .
      dsimp only;refine⟨?_,?_⟩
      . grind
      grind
     . exact h1 _ _ _ N tO hC x hx
     exact h2 _ _ _ N tO hC x hx
    split at hx
    .
     rename_i a4;rw[zt2 a4]at hw;rw[zt7,zt7]at hx;rcases hx with rfl | rfl | hx
     . dsimp only;omega
     .
      dsimp only;refine⟨?_,tO⟩;cases hr:s.thn.isEmpty
      . have:=wpos _ hr;simp;omega
      simp;omega
     exact h1 _ _ _ N tO tO x hx
    rw[zt9]at hx;subst hx;dsimp only;omega
   exact ihr (fun y hy=>hm y iu) _ _ _ N tO he x hx
 exact key l (fun x h=>h)
theorem Valid.edge (V:Valid f) (hx:(zd f)[i]?=some x):(∀ to,to=x.next\/to=x.other -> -1<=to/\to<(zd f).length)/\(x.kind=2->0<=x.at_/\x.at_<(preL f.body).length):=by
 have hY:=yA f V.plain;have hi:=(zt5.1 hx).1;refine⟨?_,fun k2=>?_⟩
 .
  have hm:=zsS hx;unfold zd at hm;rw[zt7,zta,zt9]at hm;rcases hm with rfl | hm | rfl
  . grind
  .
   have:=ziS f.body 0 1 (1+widL f.body) (zd f).length tO tO x hm;omega
  grind
 by_cases hl:i<(zd f).length - 1
 .
  obtain⟨h1,h2⟩:=V.node (k:=(i:Int)) tO tO;rw[ztd,hx]at h1;have e:=Option.some.inj h1;rw[<- e]at h2;obtain⟨h3,h4,_⟩:=h2.step tO;have:=(zt5.1 h4).1;omega
 have hC:=hx;unfold zd at hC;obtain⟨j,rfl⟩:∃ j,i=j+1:=⟨i - 1,tO⟩;rw[zux,zti (by rw[zB _ V.plain];omega),zB _ V.plain]at hC;rw[show j - widL f.body=0 by omega]at hC;simp at hC;subst hC;cases k2
theorem zgr (l:List St) (v:Value) (D:Nat->Prop) (w:World) (k:Int) (s:St) (hl:SlR 10 RSt D w v l) (h0:0<=k) (hs:(preL l)[k.toNat]?=some s) (hz:ssize l<=10000) :
  Calls prog 25 #[v,.int .i64 k] w (Ret fun r w'=>(∃ a1 c1 a2 c2 a3 c3 a4 c4,r=.tuple #[.agg #[.int .i64 s.act,.int .i64 s.cost,.int .i64 s.var,.int .i64 s.n,.int .i64 s.term.op,.int .i64 s.term.n,.slice a1 s.term.kids.length c1,.slice a2 s.thn.length c2,.slice a3 s.els.length c3,.slice a4 s.bounds.length c4],.bool true]/\RSt D w' s [.int .i64 s.act,.int .i64 s.cost,.int .i64 s.var,.int .i64 s.n,.int .i64 s.term.op,.int .i64 s.term.n,.slice a1 s.term.kids.length c1,.slice a2 s.thn.length c2,.slice a3 s.els.length c3,.slice a4 s.bounds.length c4]/\SlR 3 RTm D w' (.slice a1 s.term.kids.length c1) s.term.kids)/\Ext w w'):=by
 obtain⟨k,rfl⟩:=ztN h0;refine(zmv l v D w k s hl hs hz).mono fun e w'=>?_;rintro⟨_,rfl,⟨cs,rfl,_,hR⟩,hk⟩;have hC:=hR;obtain⟨u1,u2,u3,u4,rfl,h1,h2,h3,h4⟩:=hR.get;obtain⟨a1,c1,rfl⟩:=h1.form;obtain⟨a2,c2,rfl⟩:=h2.form;obtain⟨a3,c3,rfl⟩:=h3.form;obtain⟨a4,c4,rfl⟩:=h4.form;exact⟨_,rfl,⟨a1,c1,a2,c2,a3,c3,a4,c4,rfl,hC,h1⟩,hk⟩
abbrev xi (f:Fl) (r:Ins) (j:Nat):Mc:=zcq f (ym f r) (zd f) j (zou f r)
theorem ziT {f:Fl} {r:Ins} (vd:Valid f) (e0:zz f.vars r=0) {K:Nat} (hg:GoesAll f r K):∀ j,j<=K->MInv f j (xi f r j)
 | 0,_=>⟨zc2 e0,by show (0:Int)<=0/\(0:Int)<=_;omega,ztg _,fun k=>by show (0:Int)<=0/\(0:Int)<=_;omega⟩
 | j+1,h=>by
  have h3:0<=(xi f r j).at_/\(xi f r j).at_<((zd f).length:Int) - 1:=by
   obtain⟨_,_,h2⟩:=hg
   grind
  rw[show xi f r (j+1)=jY f (ym f r) (zd f) (xi f r j) from zcJ _ _ _ _ _];exact ziB vd.good (vd.node h3.1 h3.2).2 (ziT vd e0 hg j tO)
def CtOk (f:Fl) (cl:List Int) (rd:Int->Int):Prop:=∀ (i:Nat) x,(zd f)[i]?=some x->x.kind=5->cl[i]?=some (rd x.at_)
theorem CtOk.set (vd:Valid f) {cl:List Int} {rd:Int->Int} (h:CtOk f cl rd) (hl:cl.length=(zd f).length) (hx:(zd f)[i]?=some x) (hk:x.kind=5) (v:Int):CtOk f (cl.set i v) (ze0 rd x.at_ v):=by
 intro q y hy ky;have hi:=(zt5.1 hx).1;unfold ze0;by_cases e:y.at_=x.at_
 .
  obtain rfl:q=i:=vd.heads hy hx ky hk e;rw[zt2 e,zuH tO]
 rw[zt1 e,zuG (fun h=>e tD)];exact h q y hy ky
theorem zmw (vd:Valid f) (hx:(zd f)[i]?=some x):(i+1=(zd f).length->x=⟨1,-1,-1,-1⟩)/\(x.kind=0->x.at_=-1):=by
 have hC:=yA f vd.plain;have hi:=(zt5.1 hx).1;unfold zd at hx;cases i with
 | zero=>simp at hx;subst hx;exact⟨fun h=>tO,fun _=>rfl⟩
 | succ i =>
  rw[zux]at hx;by_cases hY:i<widL f.body
  .
   rw[zth (by rw[zB _ vd.plain];omega)]at hx;refine⟨fun h=>tO,fun h=>?_⟩;rcases zaa _ _ _ _ x (zsS hx) with h' | h' | h' | h'<;>omega
  rw[zti (by rw[zB _ vd.plain];omega),zB _ vd.plain,show i - widL f.body=0 by omega]at hx;simp at hx;subst hx;exact⟨fun _=>rfl,fun h=>tD⟩
end Go.Proofs.YtckdhgbepmpgiaaGreat
namespace Go.GL
open Go.RowKit
section
variable {n:Fm} {pos:Pos} {v:Value}
variable {op:Op} {ty:TypeId} {ps:String} {g:Option (Nat × Bool)}
theorem V.opM (k:Nat) {e:HE} {r:Value} (hn:(Nat.blt d n,gd ops env g,hget H k,qK H k)=(true,some true,some e,none)) (hl:e'.loc) (hz:∀ b,¬ e'.fz b) (hm:∀ w,VI Bs H w->xd P ⟨some d,op,ty,ps,aft,g⟩ env w (fun u w'=>u=r/\e'.holds w'/\Keep e.S w w'/\∀ q,e'.S q->(e.S q\/w.heap.size<=q)/\q<w'.heap.size))
  (h:V P n Q ks (.o ops rest) ((d,r)::env) ((d,none)::A) (hset H k e') Bs):V P n Q ks (.o ops (⟨some d,op,ty,ps,aft,g⟩::rest)) env A H Bs:=by
 simp only[Prod.mk.injEq]at hn;refine fun hA w hI=>G.mem hn.1 hn.2.1 (hm w hI) ?_;rintro _ w' ⟨rfl,hh,hk,hS⟩;exact h (TgOk.none (hA.res hn.2.2.1 hn.2.2.2)) w' (hI.set hn.2.2.1 hk hh hl hz hS)
end
section
variable {n:Fm}
variable {ty:TypeId} {ps:String}
theorem zs8 (i i2 k2 j:Nat) (kk:List Nat) {f:FuncId} {xs:Array Operand} {ts:Array TypeId} {vs:List Value} {Hn:α->Hp} {Φ:Value->α->Prop} (A1:Tgs) {e2:TypeId} (hf:∀ args w,(callFunc f args).run P w=.ok (.enter f args) w)
  (hi:(ops[i]?,ops[i2]?)=(some ⟨some d,.call ⟨.value (.func f),xs,ts⟩,ty,ps,aft,none⟩,some ⟨some d2,.alloc e2,ty2,ps2,aft2,none⟩)) (hr:Region.ready .any ops listed=[i,i2]) (hn:(Nat.blt d n,Nat.blt d2 n,qG env xs.toList,(hget H k2).isNone,xX (Hs.map (·.1)))=(true,true,some vs,true,true)) (hB:Bs.drop j=B0)
  (hC:∀ x,Hs.map (fun y=>hget (Hn x++yM kk H) y.1)=Hs.map (fun y=>some y.2))
  (dh:∀ r x,A1.map (fun p=>zd7 ((d,r)::env) p.1)=A1.map (fun p=>jw (Hn x++yM kk H) p.2)) (dl:∀ x,A1.all (fun p=>(jw (Hn x++yM kk H) p.2).isSome)=true)
  (hz:∀ w,(zeroValue e2).run P w=.ok z w) (dm:z.cells=cs.toArray)
  (hc:∀ w,VI Bs H w->Calls P f vs.toArray w (Ret fun r w'=>∃ x,Φ r x/\Hands H kk (Hn x) w w'))
  (h:∀ r x,Φ r x->VD P n Q ks ops Hs B0 L fuel (listed.setIfInBounds i true) ((d,r)::env) A1 (Hn x++yM kk H) Bs)
  (h2:∀ b,VD P n Q ks ops Hs B0 L fuel (listed.setIfInBounds i2 true) ((d2,.pointer (some ⟨b,0,none⟩))::env) ((d2,some (k2,0))::A) ((k2,.own b cs e2)::H) Bs):VD P n Q ks ops Hs B0 L (fuel+1) listed env A H Bs:=by
 simp only[Prod.mk.injEq,zw1]at hi hn;subst hB;obtain⟨dr,dt⟩:=hi;obtain⟨du,dw,hv,hY,da⟩:=hn;intro hH hA w hI;refine zpH i i2 (R:=fun r w'=>∃ x,Φ r x/\Hands H kk (Hn x) w w') (Rj:=fun r w'=>∃ b,r=.pointer (some ⟨b,0,none⟩)/\New w cs e2 b w') dr dt hr O O du O O dw (.inr ⟨f,_,F.call hf (yo hv),hc w hI⟩) (.inl (M.alloc hz dm)) ?_ ?_
 .
  rintro r w1 ⟨x,hP,hh⟩;have db:=hI.hands hh;exact⟨fun _=>(db.drop j).pick (Has.of (hC x)) da,h r x hP (Has.of (hC x)) (TgOk.of (dh r x) (dl x)) w1 db⟩
 rintro _ w1 ⟨b,rfl,hb,hs,hB,hk⟩;have dc:VI Bs ((k2,.own b cs e2)::H) w1:=hI.new hk k2 hB trivial (fun _ h=>h) JE;have dg:Has Hs ((k2,.own b cs e2)::H):=hH.new hY;refine⟨fun _=>(dc.drop j).pick dg da,h2 b dg ((hA.new hY).push fun k' off hg=>?_) w1 dc⟩;cases hg;exact Jh
end
end Go.GL
namespace Go.Proofs.YtckdhgbepmpgiaaGreat
open Go.GL
variable {s:Sf} {l:List Phn}
abbrev FQ:=(Option Addr × Nat) × (Option Addr × Nat) × (Option Addr × Nat) × (Option Addr × Nat)
abbrev zod (s:St) (y:FQ):Value:=.agg #[.int .i64 s.act,.int .i64 s.cost,.int .i64 s.var,.int .i64 s.n,.int .i64 s.term.op,.int .i64 s.term.n,.slice y.1.1 s.term.kids.length y.1.2,.slice y.2.1.1 s.thn.length y.2.1.2,.slice y.2.2.1.1 s.els.length y.2.2.1.2,.slice y.2.2.2.1 s.bounds.length y.2.2.2.2]
theorem ziU (l:List St) (v:Value) (D:Nat->Prop) (w:World) (k:Int) (s:St) (hl:SlR 10 RSt D w v l) (h0:0<=k) (hs:(preL l)[k.toNat]?=some s) (hz:ssize l<=10000) :
  Calls prog 25 #[v,.int .i64 k] w (Ret fun r w'=>∃ y:FQ,r=.tuple #[zod s y,.bool true]/\Hands H [] [] w w'):=by
 refine(zgr l v D w k s hl h0 hs hz).mono ?_;rintro _ w' ⟨_,rfl,⟨a1,c1,a2,c2,a3,c3,a4,c4,rfl,_,_⟩,hk⟩;exact⟨_,rfl,((a1,c1),(a2,c2),(a3,c3),(a4,c4)),rfl,hk.mono fun q _ h=>h.elim,fun x hx=>tD,List.Pairwise.nil⟩
theorem qh (h0:0<=k) (h1:k<((preL f.body).length:Int)):(preL f.body)[k.toNat]?=some (ya f k):=by
 unfold ya;rw[zsR (show k.toNat<(preL f.body).length by omega)];rfl
theorem zc5 (f:Fl) (g:List Nd) (hk:GOk f g) (hz:ssize f.body<=10000) (i:Nat) (hi:i<g.length) (v1 v2 v3 gv:Value) (D D':Nat->Prop) (W:World) (hf:RFl D W f v1 v2 v3) (hg:SlR 4 RNd D' W gv g) :
  Calls prog 23 #[.agg #[v1,v2,v3],.agg #[gv],.int .i64 i] W (Ret fun r w'=>r=.int .i64 (zO f g i)/\Ext W w'):=by
 obtain⟨ag,cg,rfl⟩:=hg.form;have dh:=hg.max;refine zqs func23 O ntmps23 O (V.inn (Vs 2 O (V.box 3 O O (fun b3=>?_))));refine V.box 4 O O (fun b4=>(Vs 9 O (zri 1000 0 i tO hg O O O (fun x dl dm dr hC dc hY da=>?_))));obtain rfl:=da;refine zqQ 1000 tR34 ts65 O hY tO _ rfl O ?_;have hx:=zM hC;refine Vs 5 O (zoE O (fun k2=>?_) (fun k2=>?_))
 . refine Vs 7 O (zr9 0 tr23 O O (by unfold zO zcr;rw[hx,zt1 tD]))
 have k2:=zt0.1 k2;obtain⟨h0,h1,h2⟩:=hk.at hC (.inl k2)
 have dg:zO f g i=if (ya f x.at_).act=0\/(ya f x.at_).act=5 then (ya f x.at_).var else -1:=by
  unfold zO zcr;rw[hx];by_cases e:(ya f x.at_).act=0\/(ya f x.at_).act=5
  . rw[zt2 e,zt2 (by simpa[k2] using e)]
  rw[zt1 e,zt1 (by simpa[k2] using e)]
 generalize db:ya f x.at_=s at *;refine Vs 3 O (Vw [3,4,1000] [] O (Vd [0,1,2,3,4] 0 tK O O O ?_));refine zqR 5 1000 tR34 ts65 O tK O hY tO _ rfl O (Vd [6,7] 0 tK O O O (zs8 8 12 7 0 [] (Hn:=fun y:FQ=>[]) [(3,some (3,0)),(4,some (4,0)),(9,some (4,0)),(12,some (1000,0)),(13,some (1000,0)),(17,some (3,2)),(19,some (4,0)),(22,some (1000,0)),(23,some (1000,1))] tc25 O tK O O j1 iA j1 tz72 O J2 ?_ (fun b7=>?_)))
 .
  rintro _ ⟨⟨a1,c1⟩,⟨a2,c2⟩,⟨a3,c3⟩,⟨a4,c4⟩⟩ rfl;refine Vd [9,10,11] 0 tK O O O (zqM 12 7 0 O tK O O (fun _ _=>M.alloc tz72 O) (fun b7=>?_));refine Ve 13 0 O tK O O O (Vd [14] 0 tK O O O (VD.done tK (Vs 8 O (V.sp 31 O (fun a0=>?_) (fun a0=>?_)))))
  . refine Vs 16 O Jx
  refine Vs 6 O (zoE O (fun a5=>?_) (fun a5=>?_))
  . refine Vs 9 O Jx
  refine Vs 8 O Jx
 refine zrN 8 0 [] (Hn:=fun y:FQ=>[]) [(3,some (3,0)),(4,some (4,0)),(7,some (7,0)),(9,some (4,0)),(12,some (1000,0)),(13,some (1000,0)),(17,some (3,2)),(19,some (4,0)),(22,some (1000,0)),(23,some (1000,1))] tc25 O tK O O j1 iA j1 J2 ?_;rintro _ ⟨⟨a1,c1⟩,⟨a2,c2⟩,⟨a3,c3⟩,⟨a4,c4⟩⟩ rfl;refine Vd [9,10,11] 0 tK O O O (Ve 13 0 O tK O O O (Vd [14] 0 tK O O O (VD.done tK (Vs 8 O (V.sp 31 O (fun a0=>?_) (fun a0=>?_))))))
 . refine Vs 16 O Jx
 refine Vs 6 O (zoE O (fun a5=>?_) (fun a5=>?_))
 . refine Vs 9 O Jx
 refine Vs 8 O Jx
theorem ziV (f:Fl) (g:List Nd) (hk:GOk f g) (hz:ssize f.body<=10000) (i:Nat) (hi:i<g.length) (v1 v2 v3 gv:Value) (D D':Nat->Prop) (W:World) (hf:RFl D W f v1 v2 v3) (hg:SlR 4 RNd D' W gv g) :
  Calls prog 71 #[.agg #[v1,v2,v3],.agg #[gv],.int .i64 i] W (Ret fun r w'=>SlR 1 zG (fun q=>W.heap.size<=q) w' r (rdV f g i)/\Ext W w'):=by
 obtain⟨ag,cg,rfl⟩:=hg.form;have dB:=hg.max;refine zqs func71 O ntmps71 O (V.inn (Vs 2 O (V.box 3 O O (fun b3=>?_))));refine V.box 4 O O (fun b4=>(Vs 8 O (zri 1000 0 i tO hg O O O (fun x dC dD dE hY dt db dc=>?_))));obtain rfl:=dc;refine zqQ 1000 tR34 ts65 O db tO _ rfl O ?_;have hx:=zM hY;obtain⟨du,dw⟩:=hk i x hY;have dr:rdV f g i=rdN f x:=by unfold rdV;rw[hx]
 have dg:rdB f x=false->SlR 1 zG (fun q=>W.heap.size<=q) W (.slice none 0 0) (rdV f g i):=fun h=>by rw[dr];unfold rdN;rw[h];exact SlR.nil
 refine Vs 1 O (V.alloc 7 tz65 O O (fun b7=>?_));refine Vs 4 O (zqd (p:=x.at_<0) (fun dh=>?_) (fun dh=>?_))
 .
  have dF:=du dh;refine Vs 5 O (zr2 tc25 O (fun w hI=>zeI f.body v3 D w x.at_ (Tr1 hI.k0 hf.body) dh) ?_);have dl:rdB f x=false:=zt4 tO;refine Vs 3 O (V.alloc 8 tz72 O O (fun b8=>?_));refine Vs 11 O (V.sp 27 O (fun p1=>?_) (fun p1=>?_))
  .
   refine Vs 5 O (V.sp 32 O (fun p2=>?_) (fun p2=>?_))
   .
    refine Vs 4 O (V.sp 36 O (fun p3=>?_) (fun p3=>?_))
    . refine Vs 20 O (zoV tr71 O (fun w hI=>⟨_,rfl,Tr1 hI.k0 (dg dl),hI.k0⟩))
    omega
   omega
  omega
 obtain⟨h1,h2⟩:=dw tO;have dx:=qh (show 0<=x.at_ by omega) h1;generalize hC:ya f x.at_=s at *;refine Vs 5 O (zr4 tc25 O (fun w hI=>zgr f.body v3 (fun b=>D b/\b<W.heap.size) w x.at_ s ((SlR.narrow tO kQ hf.body).ext zf hI.k0) tO dx hz) ?_);rintro rr w1 w2 dy dz ⟨a1,c1,a2,c2,a3,c3,a4,c4,rfl,hR,da⟩ dA;refine Vs 3 O (V.alloc 1008 tz72 O O (fun b1008=>?_));refine Vs 5 O (zrm (σ:=Unit) [8] [1008] [8] O (fun e u=>e) (fun e u=>e) (fun u=>rdB f x=true) j1 j1 ?_ ?_)
 .
  refine Vs 6 O (V.sp 27 O (fun k1_=>?_) (fun k1_=>?_))
  .
   refine Vs 5 O (V.sp 32 O (fun k2_=>?_) (fun k2_=>?_))
   .
    refine Vs 4 O (V.sp 36 O (fun k3_=>?_) (fun k3_=>?_))
    . refine Vs 21 O Jl
    refine Vs 4 O (V.sp 40 O (fun k4_=>?_) (fun k4_=>?_))
    .
     refine Vs 8 O (zoE O (fun k5_=>?_) (fun k5_=>?_))
     . refine Vs 8 O Jl
     refine Vs 1 O (zoS () j2 j3 JS 0 O O)
    refine Vs 10 O (zoS () j2 j3 JS 0 O O)
   refine Vs 18 O (zoS () j2 j3 JS 0 O O)
  refine Vs 23 O (zoS () j2 j3 JS 0 O O)
 rintro u dl;have dm:rdV f g i=Gr.compactL (yR (yD s.term)):=by rw[dr];unfold rdN;rw[zt2 dl,hC]
 refine Vs 2 O (zqU 901 3 1 O (Vs 3 O (zr7 901 (E:=fun x=>qc x ([]++yD s.term)) call115 O iF (fun w hI=>zkP s.term _ _ [] (fun q=>D q/\q<W.heap.size) w ((da.wide zy (fun q h=>(⟨h.1,h.2⟩:D q/\q<W.heap.size))).keep zy hI.k0 (fun b hb _ hs=>by have:=dy.hsE 0 O hs;have:=hb.2;omega)) (hI.at 901 O) (fun q hq=>⟨zvP hq.2 (hI.k1).size,fun h=>by cases h⟩) tD) ?_)));rintro u2 _ rfl;rw[zvb];refine Vs 6 O (zr7 901 (E:=fun _:Unit=>qc u2 (yR (yD s.term))) call116 O iF (fun w hI=>ziP u2 (yD s.term) (hI.at 901 O) tO) ?_);rintro _ _ rfl;refine Vs 5 O (zr7 901 (E:=fun x=>qc x (Gr.compactL (yR (yD s.term)))) call117 O iF (fun w hI=>zcO u2 (yR (yD s.term)) (hI.at 901 O) (by rw[xf];omega)) ?_);rintro u3 _ rfl;refine Vs 4 O (zoV tr71 O (fun w hI=>⟨_,rfl,by rw[dm];exact zpK zb iA (hI.at 901 O) (fun g hg=>hI.own 901 1 O O g hg),hI.k1⟩))
theorem verB_nat {n:Nat} {b:Bool}:jZ f s (n:Int) v b ↔ s.of_[n]?=some v/\(b=true->f.vars.length<=n):=by
 unfold jZ;rw[ztd];constructor
 . exact fun h=>⟨h.2.1,fun hb=>by have:=h.2.2 hb;omega⟩
 exact fun h=>⟨tO,h.1,fun hb=>by have:=h.2 hb;omega⟩
theorem zgs {b:Bool} (h:¬ 0<=k):¬ jZ f s k v b:=fun h2=>h h2.1
abbrev chk (gb:Nat) (ofv nv bv dv:Value):List Value:=[.pointer (some ⟨gb,0,none⟩),ofv,nv,bv,dv]
theorem zgt (f:Fl) (s:Sf) (k v:Int) (b gb:Nat) (ofv nv bv dv:Value) (D:Nat->Prop) (W:World) (hc:Cells W b 0 (chk gb ofv nv bv dv)) (hC:SlR 1 zG D W ofv s.of_) :
  Calls prog 82 #[.pointer (some ⟨b,0,none⟩),.int .i64 k,.int .i64 v] W (Ret fun r w'=>r=.bool (decide (jZ f s k v false))/\Ext W w'):=by
 obtain⟨ao,co,rfl⟩:=hC.form;have dc:=hC.max;refine zqs func82 O ntmps82 O (V.inn (zrg 900 0 O O (fun h=>h) hc (zqO 0 900 0 O O (Vs 10 O (V.sp 9 O (fun g0=>?_) (fun g0=>?_))))))
 .
  obtain⟨n,rfl⟩:=ztN g0;refine Vs 10 O (V.sp 19 O (fun g1=>?_) (fun g1=>?_))
  .
   refine Vs 6 O (zrj 1000 0 n tO hC O O (fun x dg dh hY db da=>?_));refine zqQ 1000 tR27 ts3 O da tO _ rfl O (Vs 8 O (zr9 0 results82 O O (by rw[ztj.2 (show jZ f s (n:Int) v false ↔ x=v by rw[verB_nat,hY];simp)])))
  refine Vs 15 O (zr9 0 results82 O O J7)
 refine Vs 25 O (zr9 0 results82 O O (by rw[zt4 (zgs g0)]))
theorem zc6 (f:Fl) (g:List Nd) (s:Sf) (k v:Int) (b gb:Nat) (ofv nv bv dv:Value) (D D':Nat->Prop) (W:World) (hc:Cells W b 0 (chk gb ofv nv bv dv)) (hY:SlR 1 zG D W ofv s.of_) (hG:GrO D' W f g gb) :
  Calls prog 80 #[.pointer (some ⟨b,0,none⟩),.int .i64 k,.int .i64 v] W (Ret fun r w'=>r=.bool (decide (jZ f s k v true))/\Ext W w'):=by
 obtain⟨v1,v2,v3,gv,sv,pv,hD,hC,hf,hg,hs,hp⟩:=hG;obtain⟨a1,c1,rfl⟩:=hf.vars.form;obtain⟨ao,co,rfl⟩:=hY.form;refine zqs func80 O ntmps80 O (V.inn (zrg 900 0 O O (fun h=>h) hc (zrg 901 0 O O (fun h=>h) hC (zqO 0 900 0 O O (Vs 12 O (zqO 11 901 0 O O (Vs 7 O (V.sp 18 O (fun g0=>?_) (fun g0=>?_)))))))))
 . refine Vs 3 O (zr2 call82 O (fun w hI=>zgt f s k v b gb _ _ _ _ D w (Tr1 hI.k0 hc) iV) (Vs 5 O (zr9 0 results80 O O (by rw[ztj.2 (show jZ f s k v true ↔ jZ f s k v false by unfold jZ;simp;omega)]))))
 refine Vs 9 O (zr9 0 results80 O O (by rw[zt4 (fun h=>g0 (by have:=h.2.2 rfl;omega))]))
theorem qp (f:Fl) (s:Sf) (k v:Int) (fr:Bool) (v1 v2 v3 ofv nv:Value) (D D':Nat->Prop) (W:World) (hf:RFl D' W f v1 v2 v3) (hY:SlR 1 zG D W ofv s.of_) :
  Calls prog 68 #[.agg #[v1,v2,v3],.agg #[ofv,nv],.int .i64 k,.int .i64 v,.bool fr] W (Ret fun r w'=>r=.bool (decide (jZ f s k v fr))/\Ext W w'):=by
 obtain⟨a1,c1,rfl⟩:=hf.vars.form;obtain⟨ao,co,rfl⟩:=hY.form;have dg:=hY.max;refine G.in5 func68 O ntmps68 O (V.inn (Vs 2 O (V.box 5 O O (fun b5=>?_))));refine V.box 6 O O (fun b6=>(Vs 8 O (V.sp 13 O (fun g0=>?_) (fun g0=>?_))))
 .
  obtain⟨n,rfl⟩:=ztN g0;refine Vs 7 O (V.sp 20 O (fun g1=>?_) (fun g1=>?_))
  .
   refine Vs 3 O (zrj 1000 0 n tO hY O O (fun x dh dl hC dc da=>?_));refine zqQ 1000 tR27 ts3 O da tO _ rfl O (Vs 5 O (V.sp 29 O (fun g2=>?_) (fun g2=>?_)))
   .
    refine Vs 1 O (zqh O (fun w hI=>zpS O j6) (Vs 1 O (zqb 32 O (fun g3=>?_) (fun g3=>?_))))
    .
     have db:fr=false:=by simpa using g3
     refine Vs 11 O (zr9 0 tr68 O O (by rw[db,zt3 (verB_nat.2 ⟨tD,fun h=>tD⟩)]))
    have db:fr=true:=by simpa using g3
    refine Vs 11 O (zr9 0 tr68 O O (by rw[db,ztj.2 (show jZ f s (n:Int) v true ↔ (n:Int) ≥ (f.vars.length:Int) by rw[verB_nat,hC,g2];simp)]))
   refine Vs 14 O (zr9 0 tr68 O O (by rw[zt4 (fun h=>g2 (by have:=(verB_nat.1 h).1;rw[hC]at this;exact Option.some.inj this))]))
  refine Vs 23 O (zr9 0 tr68 O O J7)
 refine Vs 30 O (zr9 0 tr68 O O (by rw[zt4 (zgs g0)]))
def jp (g:List Nd) (n:Nat) (i:Nat):List Int:=((List.range i).filter fun y:Nat=>decide ((yP g y).next=(n:Int)\/(yP g y).other=(n:Int))).map fun i:Nat=>(i:Int)
theorem zhn (g:List Nd) (n i:Nat):jp g n (i+1)=jp g n i++if (yP g i).next=(n:Int)\/(yP g i).other=(n:Int) then [(i:Int)] else []:=by
 unfold jp;rw[zvn,zuk,zuT];congr 1;by_cases e:(yP g i).next=(n:Int)\/(yP g i).other=(n:Int)
 . rw[zt2 e,zum (by simpa using e)];rfl
 rw[zt1 e,zul (by simpa using e)];rfl
theorem zkQ (g:List Nd) (n i:Nat):(jp g n i).length<=i:=by
 unfold jp
 grind
theorem zax (g:List Nd) (dg:g.length<=1000000) (n:Nat) (gv:Value) (D:Nat->Prop) (W:World) (hg:SlR 4 RNd D W gv g) :
  Calls prog 70 #[.agg #[gv],.int .i64 n] W (Ret fun r w'=>SlR 1 zG (fun q=>W.heap.size<=q) w' r (zg g n)/\Ext W w'):=by
 obtain⟨ag,cg,rfl⟩:=hg.form;refine zqr func70 O ntmps70 O (V.inn (Vs 2 O (V.box 2 O O (fun b2=>?_))));refine Vs 4 O (zqU 901 3 1 O (Vs 14 O (zrl (σ:=Nat × Value) [1,9,10] [] [] O (fun e ⟨i,u⟩=>(11,.int .i64 i)::(5,u)::e) (fun e ⟨i,u⟩=>(901,.row 3 1 u (jp g n i).length ((jp g n i).map zb))::e) (fun⟨i,u⟩=>i<=g.length) (fun⟨i,u⟩=>g.length - i) (0,_) j2 j3 j1 j1 j1 (zt6 _) ?_)));rintro⟨i,u⟩ hi;have dh:=zkQ g n i;have db:=zhn g n i;refine Vs 6 O (zoE O (fun lt=>?_) (fun lt=>?_))
 .
  refine Vs 7 O (zri 1000 0 i tO hg O O O (fun x dl dm dr hC dc hY da=>?_));obtain rfl:=da;refine zqQ 1000 tR34 ts65 O hY tO _ rfl O ?_;have hx:=zM hC;rw[hx]at db;refine Vs 1 O (V.alloc 7 tz65 O O (fun b7=>?_));refine Vs 4 O (zrm (σ:=Value) [1,9,10,11] [] [] O (fun e u'=>(5,u')::e) (fun e u'=>(901,.row 3 1 u' (jp g n (i+1)).length ((jp g n (i+1)).map zb))::e) (fun u'=>True) j1 j1 ?_ ?_)
  .
   refine Vs 7 O (V.sp 20 O (fun g1=>?_) (fun g1=>?_))
   .
    refine Vs 11 O (zro 28 [(0,_)] tR27 ts3 tz3 tS O O tK (fun b28=>?_));refine zqV 901 28 tu27 Tryz.el3 O tS O O tO tO (fun u901=>(Vs 2 O Uw))
   refine Vs 7 O (zoE O (fun g2=>?_) (fun g2=>?_))
   .
    refine Vs 3 O (zro 1028 [(0,_)] tR27 ts3 tz3 tS O O tK (fun b1028=>?_));refine zqV 901 1028 tu27 Tryz.el3 O tS O O tO tO (fun u901=>(Vs 2 O Uw))
   refine zrk 901 O (e':=.row 3 1 u (jp g n (i+1)).length ((jp g n (i+1)).map zb)) tD (Vs 1 O (zoS (u) j2 j3 True.intro 0 O O))
  rintro u' -;refine Va 6 O tO (V.back ⟨i+1,u'⟩ j2 j3 tO tD 0 O O)
 obtain rfl:i=g.length:=tO;refine Vs 12 O (zoV results70 O (fun w hI=>⟨_,rfl,zpK zb iA (show w.ownsRow 0 3 1 u (zg g n).length ((zg g n).map zb) from hI.at 901 O) (fun g hg=>hI.own 901 0 O O g hg),hI.k0⟩))
def VOk (f:Fl) (j:Nat) (v:Int):Prop:=(j<f.vars.length->v=(j:Int))/\(f.vars.length<=j->0<=v/\∃ x,f.vars[v.toNat]?=some x/\x.kind=0)
theorem ofF_iff:OfF f s ↔ f.vars.length<=s.of_.length/\∀ (j:Nat) v,s.of_[j]?=some v->VOk f j v :=
 ⟨fun h=>⟨h.len,fun j v hv=>⟨fun hj=>h.ini j v hv hj,fun hj=>h.new j v hv hj⟩⟩,fun h=>⟨h.1,fun j v hv hj=>(h.2 j v hv).1 hj,fun j v hv hj=>(h.2 j v hv).2 hj⟩⟩
theorem yi {l:List α} {P:Nat->α->Prop} {x:α} (h:∀ (j:Nat) y,j<i->l[j]?=some y->P j y) (hx:l[i]?=some x) (hp:P i x):∀ (j:Nat) y,j<i+1->l[j]?=some y->P j y:=fun j y hj hy=>by
 grind
theorem qd {l:List α} {P:Nat->α->Prop} (h:∀ (j:Nat) y,j<l.length->l[j]?=some y->P j y):∀ (j:Nat) y,l[j]?=some y->P j y:=fun j y hy=>h j y (zt5.1 hy).1 hy
theorem zeJ (f:Fl) (g:List Nd) (s:Sf) (b gb:Nat) (ofv nv bv dv:Value) (D D':Nat->Prop) (W:World) (hc:Cells W b 0 (chk gb ofv nv bv dv)) (dl:SlR 1 zG D W ofv s.of_) (hG:GrO D' W f g gb) :
  Calls prog 38 #[.pointer (some ⟨b,0,none⟩)] W (Ret fun r w'=>(∃ q:Bool,r=.bool q/\(q=true ↔ OfF f s))/\Ext W w'):=by
 obtain⟨v1,v2,v3,gv,sv,pv,hD,da,hf,hg,hs,hp⟩:=hG;have dt:=hf.vars;obtain⟨a1,c1,rfl⟩:=dt.form;obtain⟨ao,co,rfl⟩:=dl.form;have dA:=dl.max;have dh:∀ (j:Nat) v,s.of_[j]?=some v->¬ VOk f j v->((false:Bool)=true ↔ OfF f s):=fun j v hv hn=>⟨fun h=>tD,fun h=>absurd ((ofF_iff.1 h).2 j v hv) hn⟩;refine zqq func38 O ntmps38 O (V.inn (zrg 900 0 O O (fun h=>h) hc (zrg 901 0 O O (fun h=>h) da (zqO 0 900 0 O O (Vs 11 O (zqO 9 901 0 O O (Vs 21 O (zoE O (fun l0=>?_) (fun l0=>?_)))))))))
 . refine Vs 7 O (zoV tr38 O (fun w hI=>⟨_,rfl,⟨_,rfl,⟨fun h=>tD,fun h=>absurd h.len tO⟩⟩,hI.k0⟩))
 refine Vs 15 O (zrl (σ:=Nat) [0,3,27,28] [900,901] [0] O (fun e i=>(29,.int .i64 i)::e) (fun e i=>e) (fun i=>i<=s.of_.length/\∀ (j:Nat) v,j<i->s.of_[j]?=some v->VOk f j v) (fun i=>s.of_.length - i) 0 j2 j3 j1 j1 j1 ⟨zt6 _,fun j v h=>absurd h (zvV _)⟩ ?_);rintro i ⟨hi,hY⟩;refine Vs 6 O (zoE O (fun lt=>?_) (fun lt=>?_))
 .
  refine Vs 7 O (zrj 1000 0 i tO dl O O (fun v dB dC hC dw dm=>?_));refine zqQ 1000 tR27 ts3 O dm tO _ rfl O (Vs 12 O (V.sp 37 O (fun a1=>?_) (fun a1=>?_)))
  .
   refine Vs 6 O (zoE O (fun a2=>?_) (fun a2=>?_))
   . refine Vs 12 O (zoV tr38 O (fun w hI=>⟨_,rfl,⟨_,rfl,dh i v hC fun h=>a2 (h.1 tO)⟩,hI.k0⟩))
   have dr:=yi hY hC ⟨fun _=>zt0.1 a2,fun h=>tO⟩;refine Vs 8 O (V.sp 45 O (fun b1=>?_) (fun b1=>?_))
   . omega
   refine Va 33 O tO (V.back (i+1) j2 j3 ⟨tO,dr⟩ tO 0 O O)
  refine Vs 15 O (V.sp 45 O (fun b1=>?_) (fun b1=>?_))
  .
   refine Vs 3 O (V.sp 48 O (fun b2=>?_) (fun b2=>?_))
   . refine Vs 34 O (zoV tr38 O (fun w hI=>⟨_,rfl,⟨_,rfl,dh i v hC fun h=>by have:=(h.2 tO).1;omega⟩,hI.k0⟩))
   obtain⟨m,rfl⟩:=ztN (show 0<=v by omega);refine Vs 5 O (V.sp 53 O (fun b3=>?_) (fun b3=>?_))
   .
    refine Vs 29 O ?_
    have hb:¬ VOk f i (m:Int):=fun h=>by
     obtain⟨_,x,hx,_⟩:=h.2 tO;have:=(zt5.1 hx).1;omega
    refine zoV tr38 O (fun w hI=>⟨_,rfl,⟨_,rfl,dh i m hC hb⟩,hI.k0⟩)
   refine Vs 4 O (zqO 57 901 0 O O (Vs 5 O (zri 2000 0 m tO dt O O O (fun vr dx dy dz db du dc dg=>?_))));obtain rfl:=dg;refine zqQ 2000 tR22 ts142 O dc tO _ rfl O (Vs 7 O (zoE O (fun b4=>?_) (fun b4=>?_)))
   .
    have hb:¬ VOk f i (m:Int):=fun h=>by
     obtain⟨_,x,hx,h0⟩:=h.2 tO
     grind
    refine Vs 11 O (zoV tr38 O (fun w hI=>⟨_,rfl,⟨_,rfl,dh i m hC hb⟩,hI.k0⟩))
   have dr:=yi hY hC ⟨fun h=>tO,fun _=>⟨tO,vr,db,zt0.1 b4⟩⟩;refine Va 7 O tO (V.back (i+1) j2 j3 ⟨tO,dr⟩ tO 0 O O)
  omega
 obtain rfl:i=s.of_.length:=tO;refine Vs 11 O (zoV tr38 O (fun w hI=>⟨_,rfl,⟨_,rfl,⟨fun _=>ofF_iff.2 ⟨tO,qd hY⟩,fun _=>rfl⟩⟩,hI.k0⟩))
structure PhOne (f:Fl) (g:List Nd) (s:Sf) (n:Nat) (p:Phn):Prop where
 ver:jZ f s p.ver p.var true
 frm:p.frm=zg g n
 len:p.args.length=p.frm.length
 args:∀ a ∈ p.args,jZ f s a p.var false
structure PhTo (f:Fl) (g:List Nd) (s:Sf) (n:Nat) (l:List Phn) (i:Nat):Prop where
 asc:(l.take i).Pairwise fun p q=>p.var<q.var
 one:∀ p ∈ l.take i,PhOne f g s n p
theorem PhTo.start {n:Nat}:PhTo f g s n l 0:=⟨List.Pairwise.nil,fun p h=>tD⟩
theorem PhTo.next {n:Nat} {p:Phn} (h:PhTo f g s n l i) (hp:l[i]?=some p) (hv:0<i->∃ q,l[i - 1]?=some q/\q.var<p.var) (h1:PhOne f g s n p):PhTo f g s n l (i+1):=by
 refine⟨?_,fun q hq=>?_⟩
 .
  rw[ze hp];refine zvg.2 ⟨h.asc,zvk _ _,fun x hx y hy=>?_⟩;rw[zt9]at hy;subst hy;obtain⟨k,hk⟩:=zv5.1 hx;have hY:=(zt5.1 hk).1;rw[ztl]at hY;obtain⟨q,hq,da⟩:=hv tO;by_cases e:k=i - 1
  .
   subst e;rw[zuI tO,hq]at hk;cases hk;exact da
  have hC:(l.take i)[i - 1]?=some q:=by rw[zuI tO];exact hq
  have:=zvi.1 h.asc k (i - 1) tD (by have:=(zt5.1 hC).1;exact this) tO;rw[(zt5.1 hk).2,(zt5.1 hC).2]at this;omega
 rw[ze hp,zta,zt9]at hq;rcases hq with hq | rfl
 . exact h.one q hq
 exact h1
theorem PhTo.done {n:Nat} (h:PhTo f g s n l l.length) (h0:n=0->l=[]):PhiF f g s n l:=by
 have ha:=h.asc;have ho:=h.one;rw[zsW]at ha ho;exact⟨h0,ha,fun p hp=>(ho p hp).ver,fun p hp=>(ho p hp).frm,fun p hp=>(ho p hp).len,fun p hp=>(ho p hp).args⟩
theorem PhiF.bad {n:Nat} {p:Phn} (h:PhiF f g s n l) (hp:p ∈ l):PhOne f g s n p:=⟨h.ver p hp,h.frm p hp,h.len p hp,h.args p hp⟩
theorem zkR (f:Fl) (g:List Nd) (s:Sf) (n:Nat) (hn:n<g.length) (l:List Phn) (b gb:Nat) (lv ofv nv bv dv:Value) (D D' Dl:Nat->Prop) (W:World) (hc:Cells W b 0 (chk gb ofv nv bv dv)) (dy:SlR 1 zG D W ofv s.of_) (hG:GrO D' W f g gb) (hl:SlR 4 zm9 Dl W lv l) :
  Calls prog 78 #[.pointer (some ⟨b,0,none⟩),.int .i64 n,lv] W (Ret fun r w'=>(∃ q:Bool,r=.bool q/\(q=true ↔ PhiF f g s n l))/\Ext W w'):=by
 have dS:=hG;obtain⟨v1,v2,v3,gv,sv,pv,hD,dz,hf,hg,hs,dD⟩:=dS;obtain⟨apr,cpr,rfl⟩:=dD.form;obtain⟨al,cl,rfl⟩:=hl.form;have dT:(zeG g).length=g.length:=by simp[zeG]
 have dU:=dD.max;have ew:=hl.max;have dV:=dy.max;have dh:∀ p ∈ l,¬ PhOne f g s n p->((false:Bool)=true ↔ PhiF f g s n l):=fun p hp hb=>⟨fun h=>tD,fun h=>absurd (h.bad hp) hb⟩;refine zqs func78 O ntmps78 O (V.inn (zrg 900 0 O O (fun h=>h) hc (zrg 901 0 O O (fun h=>h) dz (zqO 0 900 0 O O (Vs 6 O (zrm (σ:=Unit) [0,1,2] [900,901] [0] O (fun e u=>e) (fun e u=>e) (fun u=>n=0->l=[]) j1 j1 ?_ ?_))))))
 .
  refine Vs 5 O (V.sp 13 O (fun z1=>?_) (fun z1=>?_))
  .
   refine Vs 6 O (zoE O (fun z2=>?_) (fun z2=>?_))
   . refine Vs 8 O (zoV tr78 O (fun w hI=>⟨_,rfl,⟨_,rfl,⟨fun h=>tD,fun h=>absurd (h.zero tO) (fun e=>tD)⟩⟩,hI.k0⟩))
   refine Vs 1 O (zoS () j2 j3 (fun _=>zuO.1 tO) 0 O O)
  refine Vs 8 O (zoS () j2 j3 (fun e=>absurd tO z1) 0 O O)
 rintro u h0;refine Vs 10 O (zrl (σ:=Nat) [0,1,2,18,19] [900,901] [0] O (fun e i=>(20,.int .i64 i)::e) (fun e i=>e) (fun i=>i<=l.length/\PhTo f g s n l i) (fun i=>l.length - i) 0 j2 j3 j1 j1 j1 ⟨zt6 _,PhTo.start⟩ ?_);rintro i ⟨hi,dE⟩;refine Vs 6 O (zoE O (fun lt=>?_) (fun lt=>?_))
 .
  refine Vs 7 O (zri 1000 0 i tO hl O O O (fun p ez eA eC db hC dF dG=>?_));obtain⟨dW,dX,rfl,dc,dg⟩:=dG;obtain⟨dY,dZ,rfl⟩:=dc.form;obtain⟨d5,d6,rfl⟩:=dg.form;refine zqQ 1000 tR56 ts88 O dF tO _ rfl O ?_;have d7:=dg.max;have d8:=dc.max;refine zri 2000 0 n tO dD O O O (fun pr d9 eb ec dl dN dm dA=>?_);obtain⟨dO,rfl,hY⟩:=dA;obtain⟨dQ,dR,rfl⟩:=hY.form;have dB:pr=zg g n:=by rw[zdA hn]at dl;exact(Option.some.inj dl).symm
  refine Vs 1 O (V.alloc 8 tz88 O O (fun b8=>?_));refine Vs 6 O (zqd (p:=0<i) (fun ci=>?_) (fun ci=>?_))
  .
   refine zri 3000 0 (i-1) tO hl O O O (fun q eD eE eF dr ed dH dI=>?_);obtain⟨ee,ef,rfl,dJ,dK⟩:=dI;obtain⟨eh,ei,rfl⟩:=dJ.form;obtain⟨ej,ek,rfl⟩:=dK.form;refine Vw [900,901,1000,2000,8,3000] [] O (Vd [0,1,2] 0 tK O O O (VD.sp 27 O (fun c1=>?_) (fun c1=>?_)))
   .
    refine Vb [3,4,5,6,7] 0 tK O O O tO (zqR 8 3000 tR56 ts88 O tK O dH tO (i - 1) tO O (Vd [9,10,11,12,13] 0 tK O O O (VD.sp 38 O (fun c2=>?_) (fun c2=>?_))))
    .
     have dL:¬ PhiF f g s n l:=fun h=>by
      have:=zvi.1 h.asc (i - 1) i (zt5.1 dr).1 (zt5.1 db).1 tO;rw[(zt5.1 dr).2,(zt5.1 db).2]at this;omega
     refine Vd [14,15,16,17,18] 0 tK O O O (VD.skip 19 0 O tK O O (Vd [20,21,22,23,24,25,26,27,28,29,30,31,32,33,34] 0 tK O O O (VD.skip 35 0 O tK O O (Vd [36,37,38,39,40,41,42,43,44,45,46] 0 tK O O O (VD.done tK (Vs 14 O (zoV tr78 O (fun w hI=>⟨_,rfl,⟨_,rfl,⟨fun h=>tD,fun h=>absurd h dL⟩⟩,hI.k0⟩))))))))
    have dM:0<i->∃ q,l[i - 1]?=some q/\q.var<p.var:=fun _=>⟨q,dr,tO⟩;refine Vd [14,15,16,17,18] 0 tK O O O (zr3 19 0 call80 O tK O O Je (zqi 20 0 O tK O O (fun w hI=>zpS O za) (Vd [21,22] 0 tK O O O (VD.sp 47 O (fun c3=>?_) (fun c3=>?_)))))
    . refine Vd [23,24,25,26,27,28,29,30,31,32,33,34] 0 tK O O O iz
    have c3:=zt0.1 c3;refine Vd [23,24,25,26,27,28] 0 tK O O O (zqP 53 901 0 O O (Vd [29,30,31,32] 0 tK O O O (zqR 33 2000 tR89 ts27 O tK O dm tO (n) tO O (Vd [34] 0 tK O O O (zr3 35 0 call69 O tK O O (fun w hI=>zbb p.frm pr _ _ _ _ w ip iV) (zqi 36 0 O tK O O (fun w hI=>zpS O za) (Vd [37,38] 0 tK O O O (VD.sp 63 O (fun c4=>?_) (fun c4=>?_)))))))))
    . refine Vd [39,40,41,42,43,44,45,46] 0 tK O O O JK
    have c4:=zt0.1 c4;refine Vd [39,40,41,42,43,44,45,46] 0 tK O O O (VD.done tK (Vs 1 O (zoE O (fun c5=>?_) (fun c5=>?_))))
    . refine Vs 12 O Ji
    refine Vs 11 O (zrl (σ:=Nat) [0,1,2,8,18,19,20,73,74] [8,900,901] [0,8] O (fun e j=>(75,.int .i64 j)::e) (fun e j=>e) (fun j=>j<=p.args.length/\∀ (q:Nat) a,q<j->p.args[q]?=some a->jZ f s a p.var false) (fun j=>p.args.length - j) 0 j2 j3 j1 j1 j1 UE ?_);rintro j ⟨hj,da⟩;refine Vs 6 O (zoE O (fun lj=>?_) (fun lj=>?_))
    .
     refine Vs 6 O (zrj 4000 0 j tO dg O O (fun a em er dt du dw=>?_));refine zqQ 4000 tR27 ts3 O dw tO _ rfl O (Vs 10 O (zr2 call82 O UF (zqh O (fun w hI=>zpS O j6) (Vs 2 O (zoE O (fun c6=>?_) (fun c6=>?_))))))
     . refine Vs 15 O Jv
     have dx:=yi da dt (zt0.1 c6);refine Va 7 O tO (V.back (j+1) j2 j3 ⟨tO,dx⟩ tO 0 O O)
    obtain rfl:j=p.args.length:=tO;have h1:PhOne f g s n p:=UJ;have dx:=dE.next db dM h1;refine Va 10 O tO (V.back (i+1) j2 j3 ⟨tO,dx⟩ tO 0 O O)
   omega
  refine Vw [900,901,1000,2000,8] [] O (Vd [0,1,2] 0 tK O O O (VD.sp 27 O (fun c1=>?_) (fun c1=>?_)))
  . omega
  have dM:0<i->∃ q,l[i - 1]?=some q/\q.var<p.var:=fun h=>tO;refine Vd [3,4,5,6,7,8,9,10,11,12,13,14,15,16,17,18] 0 tK O O O (zr3 19 0 call80 O tK O O Je (zqi 20 0 O tK O O (fun w hI=>zpS O za) (Vd [21,22] 0 tK O O O (VD.sp 47 O (fun c3=>?_) (fun c3=>?_)))))
  . refine Vd [23,24,25,26,27,28,29,30,31,32,33,34] 0 tK O O O iz
  have c3:=zt0.1 c3;refine Vd [23,24,25,26,27,28] 0 tK O O O (zqP 53 901 0 O O (Vd [29,30,31,32] 0 tK O O O (zqR 33 2000 tR89 ts27 O tK O dm tO (n) tO O (Vd [34] 0 tK O O O (zr3 35 0 call69 O tK O O (fun w hI=>zbb p.frm pr _ _ _ _ w ip iV) (zqi 36 0 O tK O O (fun w hI=>zpS O za) (Vd [37,38] 0 tK O O O (VD.sp 63 O (fun c4=>?_) (fun c4=>?_)))))))))
  . refine Vd [39,40,41,42,43,44,45,46] 0 tK O O O JK
  have c4:=zt0.1 c4;refine Vd [39,40,41,42,43,44,45,46] 0 tK O O O (VD.done tK (Vs 1 O (zoE O (fun c5=>?_) (fun c5=>?_))))
  . refine Vs 12 O Ji
  refine Vs 11 O (zrl (σ:=Nat) [0,1,2,8,18,19,20,73,74] [8,900,901] [0,8] O (fun e j=>(75,.int .i64 j)::e) (fun e j=>e) (fun j=>j<=p.args.length/\∀ (q:Nat) a,q<j->p.args[q]?=some a->jZ f s a p.var false) (fun j=>p.args.length - j) 0 j2 j3 j1 j1 j1 UE ?_);rintro j ⟨hj,da⟩;refine Vs 6 O (zoE O (fun lj=>?_) (fun lj=>?_))
  .
   refine Vs 6 O (zrj 5000 0 j tO dg O O (fun a em er dt du dw=>?_));refine zqQ 5000 tR27 ts3 O dw tO _ rfl O (Vs 10 O (zr2 call82 O UF (zqh O (fun w hI=>zpS O j6) (Vs 2 O (zoE O (fun c6=>?_) (fun c6=>?_))))))
   . refine Vs 15 O Jv
   have dx:=yi da dt (zt0.1 c6);refine Va 7 O tO (V.back (j+1) j2 j3 ⟨tO,dx⟩ tO 0 O O)
  obtain rfl:j=p.args.length:=tO;have h1:PhOne f g s n p:=UJ;have dx:=dE.next db dM h1;refine Va 10 O tO (V.back (i+1) j2 j3 ⟨tO,dx⟩ tO 0 O O)
 obtain rfl:i=l.length:=tO;have dC:=dE.done h0;refine Vs 11 O (zoV tr78 O (fun w hI=>⟨_,rfl,⟨_,rfl,⟨fun _=>dC,fun _=>rfl⟩⟩,hI.k0⟩))
theorem zho (f:Fl) (g:List Nd) (s:Sf) (hk:GOk f g) (dM:s.nodes.length=g.length) (b gb:Nat) (ofv nv bv dv:Value) (D D':Nat->Prop) (W:World) (hc:Cells W b 0 (chk gb ofv nv bv dv)) (hS:RSf D W s ofv nv) (hG:GrO D' W f g gb) :
  Calls prog 39 #[.pointer (some ⟨b,0,none⟩)] W (Ret fun r w'=>(∃ q:Bool,r=.bool q/\(q=true ↔ ∀ (n:Nat) x,s.nodes[n]?=some x->NodF f g s (rdV f g) n x))/\Ext W w'):=by
 have dx:=hS.of_;have dy:=hS.nodes;have d9:=dy.max;obtain⟨an,cn,rfl⟩:=dy.form;have dc:∀ (n:Nat) x,s.nodes[n]?=some x->¬ NodF f g s (rdV f g) n x->((false:Bool)=true ↔ ∀ (n:Nat) x,s.nodes[n]?=some x->NodF f g s (rdV f g) n x):=fun n x hx hb=>⟨fun h=>tD,fun h=>absurd (h n x hx) hb⟩;refine zqq func39 O ntmps39 O (V.inn (zrg 900 0 O O (fun h=>h) hc (zqO 0 900 0 O O (Vs 18 O (zrl (σ:=Nat) [0,13,14] [900] [0] O (fun e n=>(15,.int .i64 n)::e) (fun e n=>e) (fun n=>n<=s.nodes.length/\∀ (j:Nat) x,j<n->s.nodes[j]?=some x->NodF f g s (rdV f g) j x) (fun n=>s.nodes.length - n) 0 j2 j3 j1 j1 j1 UD ?_)))));rintro n ⟨hn,dg⟩;refine Vs 6 O (zoE O (fun lt=>?_) (fun lt=>?_))
 .
  refine Vs 7 O (zri 1000 0 n tO dy O O O (fun x eb ec ed hC dN dz dA=>?_));obtain⟨dO,dQ,rfl,dh,db⟩:=dA;obtain⟨dR,dS,rfl⟩:=dh.form;obtain⟨dT,dU,rfl⟩:=db.form;refine zqQ 1000 tR28 ts59 O dz tO _ rfl O ?_;have ee:=db.max;have dB:n<g.length:=tO;refine Vs 1 O (V.alloc 4 tz59 O O (fun b4=>?_));refine Vs 11 O (zr4 call78 O (fun w hI=>zkR f g s n dB x.phis b gb _ _ _ _ _ D D' D w (Tr1 hI.k0 hc) Jn (Tr1 hI.k0 hG) (Tr1 hI.k0 dh)) ?_);rintro r1 w1 w2 ef dV ⟨q,rfl,hq⟩ dW;refine zqh O (fun w hI=>zpS O j6) (Vs 2 O (V.bool O (fun p1=>?_) (fun p1=>?_)))
  .
   have hb:¬ PhiF f g s n x.phis:=fun h=>by have:=hq.2 h;rw[this]at p1;cases p1
   refine Vs 12 O (zoV tr39 O (fun w hI=>⟨_,rfl,⟨_,rfl,dc n x hC fun h=>hb h.phi⟩,hI.k1⟩))
  have dC:=hq.1 tD;refine Vs 9 O (zr2 call79 O (fun w hI=>jo f g hk n dB gb D' w (Tr1 hI.k1 hG)) (Vs 4 O (zrm (σ:=Unit) [0,3,4,13,14,15] [4,900] [0,4] O (fun e u=>e) (fun e u=>e) (fun u=>(zO f g n<0->x.dfn=-1)/\(0<=zO f g n->jZ f s x.dfn (zO f g n) true)) j1 j1 ?_ ?_)))
  .
   refine Vs 5 O (V.sp 34 O (fun d1=>?_) (fun d1=>?_))
   .
    refine Vs 5 O (V.sp 39 O (fun d2=>?_) (fun d2=>?_))
    . refine Vs 27 O (zoV tr39 O (fun w hI=>⟨_,rfl,⟨_,rfl,dc n x hC fun h=>d2 (h.no d1)⟩,hI.k1⟩))
    refine Vs 3 O (V.sp 42 O (fun d3=>?_) (fun d3=>?_))
    . omega
    refine Vs 12 O (zoS () j2 j3 ⟨fun _=>zt0.1 d2,fun h=>tO⟩ 0 O O)
   refine Vs 8 O (V.sp 42 O (fun d3=>?_) (fun d3=>?_))
   .
    refine Vs 4 O (zr2 call80 O (fun w hI=>zc6 f g s x.dfn (zO f g n) b gb _ _ _ _ D D' w (Tr1 hI.k1 hc) (Tr1 hI.k1 dx) (Tr1 hI.k1 hG)) (zqh O (fun w hI=>zpS O j6) (Vs 4 O (zoE O (fun d4=>?_) (fun d4=>?_)))))
    . refine Vs 13 O (zoV tr39 O (fun w hI=>⟨_,rfl,⟨_,rfl,dc n x hC fun h=>d4 (h.yes d3)⟩,hI.k1⟩))
    refine Vs 1 O (zoS () j2 j3 ⟨fun h=>tO,fun _=>zt0.1 d4⟩ 0 O O)
   omega
  rintro u ⟨dX,dY⟩;refine Vs 8 O (zr4 call81 O (fun w hI=>zeH f g hk n dB gb D' w (Tr1 hI.k1 hG)) ?_);rintro r2 w3 w4 eh dZ dD dl;obtain⟨ar,cr,rfl⟩:=dD.form;have ei:=dD.max;refine Vs 14 O (zoE O (fun e0=>?_) (fun e0=>?_))
  . refine Vs 12 O (zoV tr39 O (fun w hI=>⟨_,rfl,⟨_,rfl,dc n x hC fun h=>e0 (by rw[<- h.use,ztb])⟩,hI.k2⟩))
  refine Vs 11 O (zrl (σ:=Nat) [0,6,13,14,15,64,65] [900] [0] O (fun e k=>(66,.int .i64 k)::e) (fun e k=>e) (fun k=>k<=x.uses.length/\∀ (q:Nat) u,q<k->x.uses[q]?=some u->(rdV f g n)[q]?=some u.1/\jZ f s u.2 u.1 false) (fun k=>x.uses.length - k) 0 j2 j3 j1 j1 j1 ⟨zt6 _,fun q u h=>absurd h (zvV _)⟩ ?_);rintro k ⟨ej,hY⟩;refine Vs 6 O (zoE O (fun lk=>?_) (fun lk=>?_))
  .
   refine Vs 7 O (zri 2000 2 k tO db O O O (fun u ek em er dm dE dF dG=>?_));obtain rfl:=dG;refine zqQ 2000 tR57 ts85 O dF tO _ rfl O (zrh 3000 0 k tO dD O O O (fun b_ d_ h_=>by have d5:=dl _ h_;first | omega | exact d5 d_) (fun rk d6 d7 d8 dr dJ dt dK du=>?_));obtain rfl:=du;refine Vs 1 O (V.alloc 8 tz85 O O (fun b8=>?_));refine Vs 5 O (Vw [900,2000,3000,8] [] O (Vd [0,1,2,3] 0 tK O O O (zqR 4 3000 tR27 ts3 O tK O dt tO (k) tO O (Vd [5,6,7] 0 tK O O O (VD.sp 78 O (fun e1=>?_) (fun e1=>?_))))))
   .
    have hb:¬ NodF f g s (rdV f g) n x:=fun h=>e1 (by
     have:=congrArg (fun l:List Int=>l[k]?) h.use;rw[zt8,dm,dr]at this
     exact Option.some.inj this)
    refine Vd [8,9,10,11,12] 0 tK O O O (VD.skip 13 0 O tK O O (Vd [14,15] 0 tK O O O (VD.done tK (Vs 17 O (zoV tr39 O (fun w hI=>⟨_,rfl,⟨_,rfl,dc n x hC hb⟩,hI.k2⟩))))))
   have e1:=zt0.1 e1;refine Vd [8,9,10,11,12] 0 tK O O O (zr3 13 0 call82 O tK O O (fun w hI=>zgt f s u.2 u.1 b gb _ _ _ _ D w (Tr1 hI.k2 hc) (Tr1 hI.k2 dx)) (zqi 14 0 O tK O O (fun w hI=>zpS O za) (Vd [15] 0 tK O O O (VD.done tK (Vs 1 O (zoE O (fun e2=>?_) (fun e2=>?_)))))))
   . refine Vs 15 O (zoV tr39 O (fun w hI=>⟨_,rfl,⟨_,rfl,dc n x hC fun h=>e2 (h.ver u dE)⟩,hI.k2⟩))
   have dH:=yi hY dm ⟨tD,zt0.1 e2⟩;refine Va 7 O tO (V.back (k+1) j2 j3 ⟨tO,dH⟩ tO 0 O O)
  obtain rfl:k=x.uses.length:=tO;have da:=qd hY
  have dI:x.uses.map (·.1)=rdV f g n:=by
   apply zuj;intro q;rw[zt8];by_cases dL:q<x.uses.length
   . rw[(da q _ (zsR dL)).1,zsR dL];rfl
   rw[ztf tO,ztf tO];rfl
  have dw:NodF f g s (rdV f g) n x:=⟨dC,dX,dY,dI,fun u hu=>by obtain⟨q,hq⟩:=zv5.1 hu;exact(da q u hq).2⟩;have dH:=yi dg hC dw;refine Va 10 O tO (V.back (n+1) j2 j3 ⟨tO,dH⟩ tO 2 O O)
 obtain rfl:n=s.nodes.length:=tO;refine Vs 11 O (zoV tr39 O (fun w hI=>⟨_,rfl,⟨_,rfl,⟨fun _=>qd dg,fun _=>rfl⟩⟩,hI.k0⟩))
end Go.Proofs.YtckdhgbepmpgiaaGreat
namespace Go.GL
open Go.RowKit
section
variable {n:Fm} {ty:TypeId} {ps:String} {g g2:Option (Nat × Bool)}
theorem zs9 {n:Fm} {pos:Pos} (k:Nat) {e:HE} {p:World->Prop} (hn:(hget H k,qK H k)=(some e,none)) (hl:(HE.dat e.S p).loc) (hp:∀ w,VI Bs H w->p w)
  (h:∀ w,p w->(∀ b,HS (hset H k (.dat e.S p)) b->¬ e.S b)->V P n Q ks pos env A (hset H k (.dat e.S p)) ((w,HS (hset H k (.dat e.S p)))::Bs)):V P n Q ks pos env A H Bs:=by
 simp only[Prod.mk.injEq]at hn;intro hA w hI;have he:(HE.dat e.S p).holds w:=⟨hp w hI,fun q hq=>hI.low _ (zl hn.1) q hq⟩;have hF:=hI.freeze hn.1 he hl (fun q h=>h) (fun b hb=>hb);have hg:hget (hset H k (.dat e.S p)) k=some (.dat e.S p):=by rw[jM hn.1,zvL];rfl
 exact h w (hp w hI) (fun b hb hs=>hF.offF k hg b hs hb) (hA.res hn.1 hn.2) w hF.here
end
end Go.GL
namespace Go.Proofs.YtckdhgbepmpgiaaGreat
open Go.GL
variable {s:Sf} {l:List Phn}
def kG (L:List Int) (m:Nat):List Int:=(List.range m).map fun k:Nat=>((L.count (k:Int):Nat):Int)
theorem qj (L:List Int) (m:Nat):(kG L m).length=m:=by simp[kG]
theorem qD {L:List Int} {k:Nat} (h:k<m):(kG L m)[k]?=some ((L.count (k:Int):Nat):Int):=by unfold kG;rw[zt8,zuC h];rfl
theorem zgu (m:Nat):kG [] m=List.replicate m 0:=by
 rw[List.eq_replicate_iff];refine⟨qj _ _,fun x hx=>?_⟩;obtain⟨k,_,rfl⟩:=zv6.1 hx;rfl
theorem zaf {L:List Int} {k:Nat} (h:k<m):(kG L m).set k (((L.count (k:Int):Nat):Int)+1)=kG (L++[(k:Int)]) m:=by
 apply zuj;intro j;by_cases hj:j<m
 .
  rw[qD hj,zu4];by_cases e:j=k
  .
   subst e;rw[zuH (by rw[qj];exact hj),List.count_singleton_self];rfl
  rw[zuG (fun h=>e h.symm),qD hj,List.count_singleton];rw[zt1 tD];simp
 rw[ztf (by rw[zuS,qj];omega),ztf (by rw[qj];omega)]
def dP (x:Sn):List Int:=if 0<=x.dfn then [x.dfn] else []
def LP (s:Sf) (n:Nat):List Int:=(List.range n).flatMap fun i=>dP (zh s i)++(zh s i).phis.map (·.ver)
theorem zfD {n:Nat} {x:Sn} (h:s.nodes[n]?=some x):LP s (n+1)=LP s n++dP x++x.phis.map (·.ver):=by
 unfold LP;rw[zvn,zuq,zut,yC h,zu0]
theorem zdC {rd:Nat->List Int} (hC:s.nodes.length=g.length) (hN:∀ (n:Nat) x,s.nodes[n]?=some x->NodF f g s rd n x) (a:Int):(LP s g.length).count a=(xU f g s).count a:=by
 have main:∀ n,n<=g.length->(LP s n).count a=((List.range n).flatMap (dfL f g s)).count a:=by
  intro n;induction n with
  | zero=>exact fun _=>rfl
  | succ n ih =>
   intro hn;have e:=zsR (show n<s.nodes.length by omega);have hx:=hN n _ e;rw[zfD e,zvn,zuq,zut,zu4,zu4,zu4,ih tO];unfold dfL dP;rw[yC e,zu4];by_cases hd:0<=zO f g n
   .
    have:=(hx.yes hd).1
    grind
   have:=hx.no tO
   grind
 exact main _ (ztg _)
theorem qQ {b:Bool} (h:jZ f s k v b):∃ n:Nat,k=(n:Int)/\n<s.of_.length:=⟨k.toNat,by have:=h.1;omega,(zt5.1 h.2.1).1⟩
theorem zkS (f:Fl) (g:List Nd) (s:Sf) (rd:Nat->List Int) (da:s.nodes.length=g.length) (hN:∀ (n:Nat) x,s.nodes[n]?=some x->NodF f g s rd n x) (ee:f.vars.length<=s.of_.length) (dJ:s.of_.length<=1000000/\(LP s g.length).length<=1000000) (b gb:Nat) (ofv nv bv dv:Value) (D D':Nat->Prop) (W:World) (hc:Cells W b 0 (chk gb ofv nv bv dv)) (hS:RSf D W s ofv nv) (hG:GrO D' W f g gb) :
  Calls prog 40 #[.pointer (some ⟨b,0,none⟩)] W (Ret fun r w'=>(∃ q:Bool,r=.bool q/\(q=true ↔ ∀ k:Nat,f.vars.length<=k->k<s.of_.length->(xU f g s).count (k:Int)=1))/\Ext W w'):=by
 obtain⟨v1,v2,v3,gv,sv,pv,hD,db,hf,hg,hs,hp⟩:=hG;have dK:=hf.vars;obtain⟨a1,c1,rfl⟩:=dK.form;have dL:=hS.of_;have dh:=hS.nodes;have ef:=dh.max;obtain⟨ao,co,rfl⟩:=dL.form;obtain⟨an,cn,rfl⟩:=dh.form;generalize hm:s.of_.length=m at *;have dG:∀ (L:List Int) (k:Int),L.count k<=L.length:=fun L k=>List.count_le_length;refine zqq func40 O ntmps40 O (V.inn (zrg 900 0 O O (fun h=>h) hc (zrg 901 0 O O (fun h=>h) db (zqO 0 900 0 O O (Vs 13 O (zpw 16 tu27 Tryz.el3 O tO tO (zs:=List.replicate m (.int .i64 0)) JU tR (fun b16=>?_)))))));refine zrk 16 O (e':=.row 3 1 (.slice (some ⟨b16,0,none⟩) m m) m ((kG (LP s 0) m).map zb)) (by rw[show LP s 0=[] from rfl,zgu,zuY]) (Vs 16 O (zrl (σ:=Nat) [0,3,21,22] [900,901] [0] O (fun e n=>(23,.int .i64 n)::e) (fun e n=>(16,.row 3 1 (.slice (some ⟨b16,0,none⟩) m m) m ((kG (LP s n) m).map zb))::e) (fun n=>n<=s.nodes.length) (fun n=>s.nodes.length - n) 0 j2 j3 j1 j1 j1 (zt6 _) ?_));rintro n hn
 have dM:∀ j,j<=g.length->(LP s j).length<=(LP s g.length).length:=fun j hj=>by
  have:LP s g.length=LP s j++(List.range' j (g.length - j)).flatMap fun i=>dP (zh s i)++(zh s i).phis.map (·.ver):=by
   unfold LP;rw[<- zuq,zvm,zvm];congr 1;rw[show g.length=j+(g.length - j) by omega,<- List.range'_append_1];simp
  grind
 refine Vs 6 O (zoE O (fun lt=>?_) (fun lt=>?_))
 .
  refine Vs 6 O (zri 1000 0 n tO dh O O O (fun x eh ei ej dc dN dl dm=>?_));obtain⟨dO,dQ,rfl,hC,dr⟩:=dm;obtain⟨dR,dS,rfl⟩:=hC.form;obtain⟨dT,dU,rfl⟩:=dr.form;refine zqQ 1000 tR28 ts59 O dl tO _ rfl O ?_;have hx:=hN n x dc;have ek:=hC.max;have dt:=zfD dc;have dV:=dM (n+1) tO;rw[dt,zsZ,zsZ,ztb]at dV;refine Vs 1 O (V.alloc 5 tz59 O O (fun b5=>?_));refine Vs 4 O (zrm (σ:=Unit) [0,3,5,21,22,23] [5,900,901] [0,5] O (fun e u=>e) (fun e u=>(16,.row 3 1 (.slice (some ⟨b16,0,none⟩) m m) m ((kG (LP s n++dP x) m).map zb))::e) (fun u=>True) j1 j1 ?_ ?_)
  .
   refine Vs 7 O (zoE O (fun d0=>?_) (fun d0=>?_))
   .
    have dH:dP x=[x.dfn]:=zt2 d0
    have dW:0<=zO f g n:=by
     by_cases e:0<=zO f g n
     . exact e
     have:=hx.no tO;omega
    obtain⟨k,hk,hY⟩:=qQ (hx.yes dW);rw[hm]at hY;have dI:=dG (LP s n) (k:Int);refine Va 5 O tO (zqZ 16 (k) tg3 O tO (show _=some (Value.int .i64 (((LP s n).count (k:Int):Nat):Int)) by rw[zt8,qD hY];rfl) ?_);refine Va 2 O tO (zr0 16 (k) ts3 O tO (by simp[qj];omega) (zrk 16 O (e':=.row 3 1 (.slice (some ⟨b16,0,none⟩) m m) m ((kG (LP s n++dP x) m).map zb)) (by rw[dH,hk,<- zaf hY,zuZ]) (Vs 1 O (zoS () j2 j3 True.intro 0 O O))))
   have dH:dP x=[]:=zt1 d0;refine zrk 16 O (e':=.row 3 1 (.slice (some ⟨b16,0,none⟩) m m) m ((kG (LP s n++dP x) m).map zb)) tD (Vs 1 O (zoS () j2 j3 True.intro 0 O O))
  rintro u -;refine Vs 9 O (zrk 16 O (e':=.row 3 1 (.slice (some ⟨b16,0,none⟩) m m) m ((kG (LP s n++dP x++(x.phis.take 0).map (·.ver)) m).map zb)) tD (Vs 1 O (zrl (σ:=Nat) [0,3,21,22,23,38,39] [900,901] [0] O (fun e j=>(40,.int .i64 j)::e) (fun e j=>(16,.row 3 1 (.slice (some ⟨b16,0,none⟩) m m) m ((kG (LP s n++dP x++(x.phis.take j).map (·.ver)) m).map zb))::e) (fun j=>j<=x.phis.length) (fun j=>x.phis.length - j) 0 j2 j3 j1 j1 j1 (zt6 _) ?_)));rintro j hj;refine Vs 6 O (zoE O (fun lj=>?_) (fun lj=>?_))
  .
   refine Vs 6 O (zri 2000 0 j tO hC O O O (fun p em er ew du dw dx dy=>?_));obtain⟨dX,dY,rfl,dz,dA⟩:=dy;obtain⟨dZ,d5,rfl⟩:=dz.form;obtain⟨d6,d7,rfl⟩:=dA.form;refine zqQ 2000 tR56 ts88 O dx tO _ rfl O ?_;obtain⟨k,hk,hY⟩:=qQ (hx.phi.ver p dw);rw[hm]at hY;have dI:=dG (LP s n++dP x++(x.phis.take j).map (·.ver)) (k:Int);rw[zsZ,zsZ,ztb,ztl]at dI;refine Vs 1 O (V.alloc 7 tz88 O O (fun b7=>?_));refine Va 8 O tO (zqZ 16 (k) tg3 O tO (show _=some (Value.int .i64 (((LP s n++dP x++(x.phis.take j).map (·.ver)).count (k:Int):Nat):Int)) by rw[zt8,qD hY];rfl) ?_);refine Va 2 O tO (zr0 16 (k) ts3 O tO (by simp[qj];omega) (zrk 16 O (e':=.row 3 1 (.slice (some ⟨b16,0,none⟩) m m) m ((kG (LP s n++dP x++(x.phis.take (j+1)).map (·.ver)) m).map zb)) (by rw[ze du,zuT,<- zu0,show [p].map (·.ver)=[(k:Int)] by grind,<- zaf hY,zuZ]) (Va 7 O tO (V.back (j+1) j2 j3 tO tO 0 O O))))
  obtain rfl:j=x.phis.length:=tO;refine zrk 16 O (e':=.row 3 1 (.slice (some ⟨b16,0,none⟩) m m) m ((kG (LP s (n+1)) m).map zb)) tD (Va 10 O tO (V.back (n+1) j2 j3 tO tO 0 O O))
 obtain rfl:n=s.nodes.length:=tO;have dB:∀ a,(LP s s.nodes.length).count a=(xU f g s).count a:=fun a=>by rw[da];exact zdC da hN a
 refine Vs 7 O (zs9 16 O (p:=fun w=>SlR 1 zG (fun q=>(Value.slice (some ⟨b16,0,none⟩) m m).ownBlock=some q) w (.slice (some ⟨b16,0,none⟩) m m) (kG (LP s s.nodes.length) m)) (fun w w' T h hk hT=>h.keep zc hk fun b hb _=>hT b hb) (fun w hI=>zpK zb iA (show w.ownsRow 0 3 1 _ m _ from hI.at 16 O) (fun g hg=>hg)) (fun wp dC d8=>?_));have ez:=qj (LP s s.nodes.length) m;have d9:=dC.drop f.vars.length tO;have eA:((kG (LP s s.nodes.length) m).drop f.vars.length).length=m - f.vars.length:=tD;refine Vs 6 O (zqO 57 901 0 O O (Vs 5 O (zqh O (fun w hI=>zpk tR27 ts3 O O tO) (Vs 5 O (zrl (σ:=Nat) [63,64] [16] [] O (fun e j=>(65,.int .i64 j)::e) (fun e j=>e) (fun j=>j<=m - f.vars.length/\∀ k:Nat,f.vars.length<=k->k<f.vars.length+j->(xU f g s).count (k:Int)=1) (fun j=>m - f.vars.length - j) 0 j2 j3 j1 j1 j1 ⟨zt6 _,fun k h1 h2=>tO⟩ ?_)))));rintro j ⟨hj,dD⟩;refine Vs 6 O (zoE O (fun lj=>?_) (fun lj=>?_))
 .
  refine Vs 6 O (zrh 3000 0 j tO d9 O O O (fun b_ d_ h_=>by have eb:=d8 _ h_;first | omega | exact eb d_) (fun c eC eD eE dg ec dE ed dF=>?_));obtain rfl:=dF;refine zqQ 3000 tR27 ts3 O dE tO _ rfl O ?_
  have eF:c=(((xU f g s).count ((f.vars.length+j:Nat):Int):Nat):Int):=by
   rw[zuz,qD tO,dB]at dg;exact(Option.some.inj dg).symm
  refine Vs 10 O (zoE O (fun e1=>?_) (fun e1=>?_))
  .
   have hb:¬ ∀ k:Nat,f.vars.length<=k->k<m->(xU f g s).count (k:Int)=1:=fun h=>e1 tD;refine Vs 11 O (zoV results40 O (fun w hI=>⟨_,rfl,⟨_,rfl,⟨fun h=>tD,fun h=>absurd h hb⟩⟩,hI.k1⟩))
  have dt:∀ k:Nat,f.vars.length<=k->k<f.vars.length+(j+1)->(xU f g s).count (k:Int)=1:=fun k h1 h2=>by
   grind
  refine Va 7 O tO (V.back (j+1) j2 j3 ⟨tO,dt⟩ tO 0 O O)
 refine Vs 11 O (zoV results40 O (fun w hI=>⟨_,rfl,⟨_,rfl,⟨fun _ k h1 h2=>dD k h1 tO,fun _=>rfl⟩⟩,hI.k1⟩))
def bfV (rows:List (List Int)) (i:Nat) (v:Int):Int:=((rows[i]?.getD [])[v.toNat]?).getD (-1)
structure Shp (rows:List (List Int)) (N nv:Nat):Prop where
 len:rows.length=N
 row:∀ r ∈ rows,r.length=nv
def ko (rows:List (List Int)) (i v:Nat) (x:Int):List (List Int):=rows.set i ((rows[i]?.getD []).set v x)
theorem zaU {r:List Int} {v:Nat} {x:Int} (hr:rows[i]?=some r) (hx:r[v]?=some x):bfV rows i (v:Int)=x:=by unfold bfV;rw[hr,zw0,ztd,hx];rfl
theorem Shp.at (h:Shp rows N nv) (hi:i<N):∃ r,rows[i]?=some r/\r.length=nv:=by
 have hl:=h.len;exact⟨_,zsR (show i<rows.length by omega),h.row _ (zuK _)⟩
theorem Shp.set (h:Shp rows N nv) {v:Nat} (hi:i<N) (x:Int):Shp (ko rows i v x) N nv:=by
 obtain⟨r,hr,hl⟩:=h.at hi;refine⟨by unfold ko;rw[zuS];exact h.len,fun q hq=>?_⟩;unfold ko at hq;rcases zv9 hq with hq | rfl
 . exact h.row q hq
 grind
theorem zgv (h:Shp rows N nv) {v:Nat} (hi:i<N) (hv:v<nv) (x:Int) {u:Int} (hu:0<=u):bfV (ko rows i v x) j u=zcm (bfV rows) i (v:Int) x j u:=by
 obtain⟨r,hr,hl⟩:=h.at hi;unfold bfV ko zcm;rw[hr,zw0];by_cases e:j=i
 .
  subst e;have hC:=(zt5.1 hr).1;rw[zuH hC,zw0];by_cases e2:u=(v:Int)
  . rw[zt2 ⟨rfl,e2⟩,e2,ztd,zuH tO];rfl
  rw[zt1 (fun h=>e2 h.2),zuG tO];show _=((rows[j]?.getD [])[u.toNat]?).getD (-1);rw[hr];rfl
 rw[zuG (fun h=>e h.symm),zt1 (fun h=>e h.1)]
section
theorem zkT (h:∀ y,y<g.length->B y v=C y v):eqV g s (yw f g s B) i v=eqV g s (yw f g s C) i v:=by
 unfold eqV;split
 . rfl
 split
 . rfl
 congr 1;refine zuU fun y hy=>?_;unfold yw;rw[h y (yQ hy)]
theorem RunV.congr (h:RunV f g s nv B) (he:∀ i,i<g.length->∀ v:Int,0<=v->v<(nv:Int)->B i v=C i v):RunV f g s nv C :=
 ⟨fun i hi v hv hn=>he i hi v hv hn ▸ h.snd i hi v hv hn,fun i hi v hv hn=>by
  rw[<- he i hi v hv hn,<- zkT fun y hy=>he y hy v hv hn]
  exact h.le i hi v hv hn⟩
end
def rkR (r:List Int):Nat:=(r.map jH).sum
def rkT (rows:List (List Int)):Nat:=(rows.map rkR).sum
theorem zgw {l:List Nat} {x y:Nat} (h:l[i]?=some x):(l.set i y).sum+x=l.sum+y:=by
 induction l generalizing i with
 | nil=>simp at h
 | cons z l ih =>
  cases i with
  | zero=>simp at h;subst h;simp;omega
  | succ i =>
   have:=ih (i:=i) tD;simp only[List.set_cons_succ,zvx];omega
theorem ziW {v:Nat} {r:List Int} {old x:Int} (hr:rows[i]?=some r) (ho:r[v]?=some old):rkT (ko rows i v x)+jH old=rkT rows+jH x:=by
 have h1:rkR (r.set v x)+jH old=rkR r+jH x:=by
  unfold rkR;rw[zuZ];exact zgw (by rw[zt8,ho];rfl)
 have h2:rkT (ko rows i v x)+rkR r=rkT rows+rkR (r.set v x):=by
  unfold rkT ko;rw[hr,zw0,zuZ];exact zgw (by rw[zt8,hr];rfl)
 omega
theorem ziX {l:List Nat} (h:∀ x ∈ l,x<=b):l.sum<=l.length*b:=by
 induction l with
 | nil=>simp
 | cons x l ih =>
  have h1:=h x (zsV ..);have h2:=ih fun y hy=>h y iu;rw[zvx,ztk,zvX];omega
theorem rk_le (h:Shp rows N nv):rkT rows<=N*(nv*2):=by
 unfold rkT
 have:=ziX (l:=rows.map rkR) (b:=nv*2) fun x hx=>by
  obtain⟨r,hr,rfl⟩:=zv6.1 hx
  have:=ziX (l:=r.map jH) (b:=2) fun y hy=>by
   obtain⟨z,_,rfl⟩:=zv6.1 hy;exact zms z
  rw[ztb,h.row r hr]at this;exact this
 rw[ztb,h.len]at this;omega
structure PassV (f:Fl) (g:List Nd) (s:Sf) (nv:Nat) (rows0 rows:List (List Int)) (ch:Bool) (dn:Nat->Nat->Prop):Prop where
 shp:Shp rows g.length nv
 run:RunV f g s nv (bfV rows)
 no:ch=false->rows=rows0/\∀ i v,dn i v->bfV rows0 i (v:Int)=-2\/eqV g s (yw f g s (bfV rows0)) i v=bfV rows0 i v\/eqV g s (yw f g s (bfV rows0)) i v=-1
 yes:ch=true->rkT rows0<rkT rows
section
variable {rows0:List (List Int)} {ch:Bool} {dn:Nat->Nat->Prop}
theorem PassV.imp (h:PassV f g s nv rows0 rows ch dn) (hd:∀ i v,dn' i v->dn i v):PassV f g s nv rows0 rows ch dn':=⟨h.shp,h.run,fun e=>⟨(h.no e).1,fun i v hv=>(h.no e).2 i v (hd i v hv)⟩,h.yes⟩
theorem PassV.start (h1:Shp rows g.length nv) (h2:RunV f g s nv (bfV rows)) (hd:∀ i v,¬ dn i v):PassV f g s nv rows rows false dn:=⟨h1,h2,fun _=>⟨rfl,fun i v h=>absurd h (hd i v)⟩,fun h=>tD⟩
theorem PassV.skip (h:PassV f g s nv rows0 rows ch dn) {v:Nat} (hs:bfV rows i (v:Int)=-2\/eqV g s (yw f g s (bfV rows)) i v=bfV rows i v\/eqV g s (yw f g s (bfV rows)) i v=-1) (hd:∀ j u,dn' j u->dn j u\/(j=i/\u=v)):PassV f g s nv rows0 rows ch dn' :=
 ⟨h.shp,h.run,fun e=>by
  obtain⟨h1,h2⟩:=h.no e;refine⟨h1,fun j u hC=>?_⟩;rcases hd j u hC with h3 | ⟨rfl,rfl⟩
  . grind
  .
   rw[<- h1];exact hs,h.yes⟩
theorem PassV.set (hs:NnS f g s) (h:PassV f g s nv rows0 rows ch dn) {v:Nat} (hi:i<g.length) (hv:v<nv) (hn:eqV g s (yw f g s (bfV rows)) i v ≠ bfV rows i v):PassV f g s nv rows0 (ko rows i v (eqV g s (yw f g s (bfV rows)) i v)) true dn':=by
 obtain⟨r,hr,hl⟩:=h.shp.at hi;have ho:=zsR (show v<r.length by omega);have hb:=zaU hr ho;have hC:=h.run.le i hi (v:Int) tO tO;have hY:=zdw hC hn;have h1:=ziW (x:=eqV g s (yw f g s (bfV rows)) i v) hr ho;rw[<- hb]at h1;refine⟨h.shp.set hi _,(h.run.next hs hi (v:=(v:Int)) tO tO).congr fun j _ u hu _=>(zgv h.shp hi hv _ hu).symm,fun e=>tD,fun _=>?_⟩;cases ch with
 | false=>rw[<- (h.no rfl).1];omega
 | true=>have:=h.yes rfl;omega
theorem PassV.done (h:PassV f g s nv rows0 rows false dn) (hd:∀ i v,1<=i->i<g.length->v<nv->dn i v) (h0:∀ v:Int,0<=v->v<(nv:Int)->bfV rows 0 v=v):SolV f g s nv (bfV rows):=by
 refine h.run.done fun i hi v hv hn=>?_;obtain⟨h1,h2⟩:=h.no rfl;by_cases e:i=0
 .
  subst e;exact .inr (.inl (by rw[h0 v hv hn];unfold eqV;rw[zt2 rfl]))
 have:=h2 i v.toNat (hd i v.toNat tO hi tO)
 grind
end
open Go.GL
theorem zeK (h:∀ y,y<g.length->O y v=O' y v):eqV g s O i v=eqV g s O' i v:=by
 unfold eqV;split
 . rfl
 split
 . rfl
 congr 1;exact zuU fun y hy=>h y (yQ hy)
structure FlwV (f:Fl) (g:List Nd) (s:Sf) (nv:Nat) (I O:Nat->Int->Int):Prop where
 snd:∀ i,i<g.length->∀ v:Int,0<=v->v<(nv:Int)->SndV (RV f g s v i) (I i v)
 out:∀ i,i<g.length->∀ v:Int,0<=v->v<(nv:Int)->O i v=-1\/O i v=yw f g s I i v
 le:∀ i,i<g.length->∀ v:Int,0<=v->v<(nv:Int)->LeV (I i v) (eqV g s O i v)
section
variable {I:Nat->Int->Int}
theorem FlwV.start (h:∀ i v,I i v=-1) (h':∀ i v,O i v=-1):FlwV f g s nv I O :=
 ⟨fun i _ v _ _=>.inl (h i v),fun i _ v _ _=>.inl (h' i v),fun i _ v _ _=>by rw[h];exact .inl rfl⟩
theorem FlwV.stay (h:FlwV f g s nv I O) (hi:i<g.length) (hv:0<=v) (hn:v<(nv:Int)):(if I i v=-2 then -2 else eqV g s O i v)=eqV g s O i v:=by
 split
 .
  rename_i e;have:=h.le i hi v hv hn;unfold LeV at this;omega
 rfl
theorem FlwV.next (hs:NnS f g s) (h:FlwV f g s nv I O) (hi:i<g.length) (hv:0<=v) (hn:v<(nv:Int)) :
  FlwV f g s nv (zcm I i v (eqV g s O i v)) (zcm O i v (if zO f g i=v then (zh s i).dfn else eqV g s O i v))/\LeV (O i v) (if zO f g i=v then (zh s i).dfn else eqV g s O i v):=by
 have hY:=h.le i hi v hv hn
 have da:LeV (O i v) (if zO f g i=v then (zh s i).dfn else eqV g s O i v):=by
  rcases h.out i hi v hv hn with e | e
  . exact .inl e
  rw[e];unfold yw;split
  . exact LeV.refl _
  exact hY
 have hO:∀ j,j<g.length->∀ u:Int,0<=u->u<(nv:Int)->LeV (O j u) (zcm O i v (if zO f g i=v then (zh s i).dfn else eqV g s O i v) j u):=fun j hj u hu hC=>by
  unfold zcm;split
  . grind
  exact LeV.refl _
 refine⟨⟨fun j hj u hu hC=>?_,fun j hj u hu hC=>?_,fun j hj u hu hC=>?_⟩,da⟩
 .
  by_cases e:j=i/\u=v
  .
   obtain⟨rfl,rfl⟩:=e;rw[show zcm I j u (eqV g s O j u) j u=eqV g s O j u from zt2 x1];unfold eqV;split
   . rename_i h0;subst h0;exact .inr (.inl ⟨hu,.ini⟩)
   rename_i h0;split
   . rename_i k hk;exact .inr (.inl ⟨hs.phi _ _ _ hk,.phi h0 hk⟩)
   rename_i hk;refine zgn fun x hx=>?_;obtain⟨y,hy,rfl⟩:=zv6.1 hx;rcases h.out y (yQ hy) u hu hC with e | e
   . exact .inl e
   rw[e];unfold yw;split
   . rename_i hd;exact .inr (.inl ⟨hs.dfn _ (yQ hy) tO,.dfn h0 hk hy hd⟩)
   rename_i hd;exact(h.snd y (yQ hy) u hu hC).imp fun k db=>.pass h0 hk hy hd db
  rw[show zcm I i v (eqV g s O i v) j u=I j u from zt1 e];exact h.snd j hj u hu hC
 .
  by_cases e:j=i/\u=v
  .
   obtain⟨rfl,rfl⟩:=e;right;unfold yw zcm;simp
  rw[show zcm O i v (if zO f g i=v then (zh s i).dfn else eqV g s O i v) j u=O j u from zt1 e];rcases h.out j hj u hu hC with e2 | e2
  . omega
  right;rw[e2];unfold yw;rw[show zcm I i v (eqV g s O i v) j u=I j u from zt1 e]
 have hm:LeV (eqV g s O j u) (eqV g s (zcm O i v (if zO f g i=v then (zh s i).dfn else eqV g s O i v)) j u):=ziH fun y hy=>hO y hy u hu hC;by_cases e:j=i/\u=v
 .
  obtain⟨rfl,rfl⟩:=e;rw[show zcm I j u (eqV g s O j u) j u=eqV g s O j u from zt2 x1];exact hm
 rw[show zcm I i v (eqV g s O i v) j u=I j u from zt1 e];exact(h.le j hj u hu hC).trans hm
theorem FlwV.congr {I':Nat->Int->Int} (h:FlwV f g s nv I O) (he:∀ i,i<g.length->∀ v:Int,0<=v->v<(nv:Int)->I i v=I' i v) (hC:∀ i,i<g.length->∀ v:Int,0<=v->v<(nv:Int)->O i v=O' i v):FlwV f g s nv I' O' :=
 ⟨fun i hi v hv hn=>he i hi v hv hn ▸ h.snd i hi v hv hn,fun i hi v hv hn=>by
  rw[<- hC i hi v hv hn];rcases h.out i hi v hv hn with e | e
  . omega
  . right;rw[e];unfold yw;rw[he i hi v hv hn],fun i hi v hv hn=>by
  rw[<- he i hi v hv hn,<- zeK fun y hy=>hC y hy v hv hn]
  exact h.le i hi v hv hn⟩
theorem FlwV.done (h:FlwV f g s nv I O) (hd:∀ i,i<g.length->∀ v:Int,0<=v->v<(nv:Int)->I i v=eqV g s O i v/\O i v=yw f g s I i v):SolV f g s nv I :=
 ⟨h.snd,fun i hi v hv hn=>by
  rw[(hd i hi v hv hn).1]
  exact zeK fun y hy=>(hd y hy v hv hn).2⟩
end
structure PasF (f:Fl) (g:List Nd) (s:Sf) (nv:Nat) (i0 o0 ins outs:List (List Int)) (ch:Bool) (dn:Nat->Nat->Prop):Prop where
 shi:Shp ins g.length nv
 sho:Shp outs g.length nv
 run:FlwV f g s nv (bfV ins) (bfV outs)
 no:ch=false->(ins=i0/\outs=o0)/\∀ i v,dn i v->bfV i0 i (v:Int)=eqV g s (bfV o0) i v/\bfV o0 i v=yw f g s (bfV i0) i v
 yes:ch=true->rkT i0+rkT o0<rkT ins+rkT outs
section
variable {i0 o0 ins outs:List (List Int)} {ch:Bool} {dn:Nat->Nat->Prop}
theorem PasF.start (h1:Shp ins g.length nv) (h2:Shp outs g.length nv) (h3:FlwV f g s nv (bfV ins) (bfV outs)) (hd:∀ i v,¬ dn i v):PasF f g s nv ins outs ins outs false dn:=⟨h1,h2,h3,fun _=>⟨x1,fun i v h=>absurd h (hd i v)⟩,fun h=>tD⟩
theorem PasF.imp (h:PasF f g s nv i0 o0 ins outs ch dn) (hd:∀ i v,dn' i v->dn i v):PasF f g s nv i0 o0 ins outs ch dn':=⟨h.shi,h.sho,h.run,fun e=>⟨(h.no e).1,fun i v hv=>(h.no e).2 i v (hd i v hv)⟩,h.yes⟩
theorem PasF.skip (h:PasF f g s nv i0 o0 ins outs ch dn) {v:Nat} (h1:bfV ins i (v:Int)=eqV g s (bfV outs) i v) (h2:bfV outs i v=if zO f g i=(v:Int) then (zh s i).dfn else eqV g s (bfV outs) i v) (hd:∀ j u,dn' j u->dn j u\/(j=i/\u=v)):PasF f g s nv i0 o0 ins outs ch dn' :=
 ⟨h.shi,h.sho,h.run,fun e=>by
  obtain⟨⟨e1,e2⟩,h4⟩:=h.no e;refine⟨⟨e1,e2⟩,fun j u hC=>?_⟩;rcases hd j u hC with h3 | ⟨rfl,rfl⟩
  . grind
  .
   rw[<- e1,<- e2];refine⟨h1,h2.trans ?_⟩;unfold yw
   rw[h1],h.yes⟩
theorem PasF.set (hs:NnS f g s) (h:PasF f g s nv i0 o0 ins outs ch dn) {v:Nat} (hi:i<g.length) (hv:v<nv)
  (hn:¬ (bfV ins i (v:Int)=eqV g s (bfV outs) i v/\bfV outs i v=if zO f g i=(v:Int) then (zh s i).dfn else eqV g s (bfV outs) i v)):PasF f g s nv i0 o0 (ko ins i v (eqV g s (bfV outs) i v)) (ko outs i v (if zO f g i=(v:Int) then (zh s i).dfn else eqV g s (bfV outs) i v)) true dn':=by
 obtain⟨r,hr,hl⟩:=h.shi.at hi;obtain⟨q,hq,dh⟩:=h.sho.at hi;have ho:=zsR (show v<r.length by omega);have hC:=zsR (show v<q.length by omega);have hb:=zaU hr ho;have db:=zaU hq hC;obtain⟨dc,hY⟩:=h.run.next hs hi (v:=(v:Int)) tO tO;have da:=h.run.le i hi (v:Int) tO tO;have h1:=ziW (x:=eqV g s (bfV outs) i v) hr ho;have h2:=ziW (x:=if zO f g i=(v:Int) then (zh s i).dfn else eqV g s (bfV outs) i v) hq hC;rw[<- hb]at h1;rw[<- db]at h2
 have mono:∀ {a b:Int},LeV a b->jH a<=jH b:=fun {a b} dg=>by
  by_cases e:b=a
  . grind
  exact Nat.le_of_lt (zdw dg e)
 have dl:jH (bfV ins i v)+jH (bfV outs i v)<jH (eqV g s (bfV outs) i v)+jH (if zO f g i=(v:Int) then (zh s i).dfn else eqV g s (bfV outs) i v):=by
  have m1:=mono da;have m2:=mono hY;by_cases e1:eqV g s (bfV outs) i v=bfV ins i v
  .
   by_cases e2:(if zO f g i=(v:Int) then (zh s i).dfn else eqV g s (bfV outs) i v)=bfV outs i v
   . omega
   have:=zdw hY e2;omega
  have:=zdw da e1;omega
 refine⟨h.shi.set hi _,h.sho.set hi _,dc.congr (fun j _ u hu _=>(zgv h.shi hi hv _ hu).symm) (fun j _ u hu _=>(zgv h.sho hi hv _ hu).symm),fun e=>tD,fun _=>?_⟩;cases ch with
 | false=>obtain⟨⟨e1,e2⟩,_⟩:=h.no rfl;rw[<- e1,<- e2];omega
 | true=>have:=h.yes rfl;omega
theorem PasF.done (h:PasF f g s nv i0 o0 ins outs false dn) (hd:∀ i v,i<g.length->v<nv->dn i v):SolV f g s nv (bfV ins)/\∀ i,i<g.length->∀ v:Int,0<=v->v<(nv:Int)->bfV outs i v=yw f g s (bfV ins) i v:=by
 obtain⟨⟨e1,e2⟩,h4⟩:=h.no rfl
 have h5:∀ i,i<g.length->∀ v:Int,0<=v->v<(nv:Int)->bfV ins i v=eqV g s (bfV outs) i v/\bfV outs i v=yw f g s (bfV ins) i v:=fun i hi v hv hn=>by
  have:=h4 i v.toNat (hd i v.toNat hi tO)
  grind
 exact⟨h.run.done h5,fun i hi v hv hn=>(h5 i hi v hv hn).2⟩
end
open Go.GL
theorem zcP (f:Fl) (g:List Nd) (s:Sf) (hk:GOk f g) (dy:s.nodes.length=g.length) (rows:List (List Int)) (nv:Nat) (dx:Shp rows g.length nv) (i v:Nat) (hi:i<g.length) (hv:v<nv) (b gb:Nat) (ofv nodv bv dv:Value) (D D' Db:Nat->Prop) (W:World) (hc:Cells W b 0 (chk gb ofv nodv bv dv)) (hS:RSf D W s ofv nodv) (hG:GrO D' W f g gb) (hr:SlR 1 (RSl 1 zG) Db W bv rows) :
  Calls prog 84 #[.pointer (some ⟨b,0,none⟩),.int .i64 i,.int .i64 v] W (Ret fun r w'=>r=.int .i64 (yw f g s (bfV rows) i v)/\Ext W w'):=by
 have hY:=hS.nodes;have dK:=hY.max;have dL:=hr.max;have dM:=dx.len;obtain⟨an,cn,rfl⟩:=hY.form;obtain⟨ar,cr,rfl⟩:=hr.form;refine zqs func84 O ntmps84 O (V.inn (zrg 900 0 O O (fun h=>h) hc (zqO 0 900 0 O O (Vs 13 O (zr2 call79 O (fun w hI=>jo f g hk i hi gb D' w (Tr1 hI.k0 hG)) (Vs 4 O (zoE O (fun d0=>?_) (fun d0=>?_))))))))
 .
  refine Vs 8 O (zri 1000 0 i tO hY O O O (fun x dN dO dQ da dz db dc=>?_));obtain⟨dA,dB,rfl,dg,dh⟩:=dc;obtain⟨dC,dD,rfl⟩:=dg.form;obtain⟨dE,dF,rfl⟩:=dh.form;refine zqQ 1000 tR28 ts59 O db tO _ rfl O (Vs 7 O (zr9 0 results84 O O (by unfold yw;rw[zt2 d0,yC da])))
 refine Vs 9 O (zri 2000 0 i tO hr O O O (fun r dR dS dT dl dm dr dt=>?_));obtain⟨dG,rfl,hC⟩:=dt;obtain⟨dH,dI,rfl⟩:=hC.form;refine zqQ 2000 tR89 ts27 O dr tO _ rfl O ?_;have dU:=dx.row r dm;refine Vs 2 O (zrj 3000 0 v tO hC O O (fun y dV dW du dJ dw=>?_));refine zqQ 3000 tR27 ts3 O dw tO _ rfl O (Vs 5 O (zr9 0 results84 O O (by unfold yw;rw[zt1 d0,zaU dl du])))
theorem zmx {k:Nat} {p:Phn} (h:∀ (j:Nat) q,j<k->l[j]?=some q->q.var ≠ v) (hp:l[k]?=some p) (hv:p.var=v):kL l v=some p.ver:=by
 unfold kL;induction l generalizing k with
 | nil=>simp at hp
 | cons q l ih =>
  cases k with
  | zero =>
   simp at hp;subst hp;rw[zuo tD];rfl
  | succ k =>
   have:=h 0 q tO rfl;rw[zun tD];exact ih (k:=k) (fun j q' hj hq=>h (j+1) q' tO tD) tD
theorem zkU (h:∀ (j:Nat) q,l[j]?=some q->q.var ≠ v):kL l v=none:=by
 unfold kL;rw[Option.map_eq_none_iff,zup];intro p hp e;obtain⟨j,hj⟩:=zv5.1 hp;exact h j p hj tD
theorem zag (h:(zg g i)[j]?=some y):∃ n:Nat,y=(n:Int)/\(zw g i)[j]?=some n/\n<g.length:=by
 unfold zg at h;rw[zt8]at h;obtain⟨n,hn,rfl⟩:=zw3.1 h;exact⟨n,rfl,hn,yQ (zsS hn)⟩
theorem zkV (f:Fl) (g:List Nd) (s:Sf) (hk:GOk f g) (dr:s.nodes.length=g.length) (rows:List (List Int)) (nv:Nat) (dN:Shp rows g.length nv) (i v:Nat) (hi:i<g.length) (h0:i ≠ 0) (hv:v<nv) (b gb:Nat) (ofv nodv bv dv:Value) (D D' Db:Nat->Prop) (W:World) (hc:Cells W b 0 (chk gb ofv nodv bv dv)) (hS:RSf D W s ofv nodv) (hG:GrO D' W f g gb) (hr:SlR 1 (RSl 1 zG) Db W bv rows) :
  Calls prog 83 #[.pointer (some ⟨b,0,none⟩),.int .i64 i,.int .i64 v] W (Ret fun r w'=>r=.int .i64 (eqV g s (yw f g s (bfV rows)) i v)/\Ext W w'):=by
 have dO:=hG;obtain⟨v1,v2,v3,gv,sv,pv,hD,dc,hf,hg,hs,dt⟩:=dO;obtain⟨apr,cpr,rfl⟩:=dt.form;have dQ:(zeG g).length=g.length:=by simp[zeG]
 have dR:=dt.max;have dS:=hS;have du:=hS.nodes;have er:=du.max;obtain⟨an,cn,rfl⟩:=du.form;refine zqs func83 O ntmps83 O (V.inn (zrg 900 0 O O (fun h=>h) hc (zrg 901 0 O O (fun h=>h) dc (zqO 0 900 0 O O (Vs 14 O (zri 1000 0 i tO du O O O (fun x ew ez eA dw dT dx dy=>?_)))))));obtain⟨dU,dV,rfl,da,dz⟩:=dy;obtain⟨dW,dX,rfl⟩:=da.form;obtain⟨dY,dZ,rfl⟩:=dz.form;refine zqQ 1000 tR28 ts59 O dx tO _ rfl O ?_;have eC:=da.max;have dI:zh s i=x:=yC dw;refine Vs 7 O (zrl (σ:=Nat) [0,1,2,21,22] [900,901] [0] O (fun e k=>(23,.int .i64 k)::e) (fun e k=>e) (fun k=>k<=x.phis.length/\∀ (j:Nat) q,j<k->x.phis[j]?=some q->q.var ≠ (v:Int)) (fun k=>x.phis.length - k) 0 j2 j3 j1 j1 j1 ⟨zt6 _,fun j q h=>absurd h (zvV _)⟩ ?_);rintro k ⟨eD,db⟩;refine Vs 6 O (zoE O (fun lt=>?_) (fun lt=>?_))
 .
  refine Vs 6 O (zri 2000 0 k tO da O O O (fun p eE eF eG dg d5 dA dB=>?_));obtain⟨d6,d7,rfl,dC,dD⟩:=dB;obtain⟨d8,d9,rfl⟩:=dC.form;obtain⟨eb,ec,rfl⟩:=dD.form;refine zqQ 2000 tR56 ts88 O dA tO _ rfl O (Vs 1 O (V.alloc 8 tz88 O O (fun b8=>?_)));refine Vs 11 O (zoE O (fun e0=>?_) (fun e0=>?_))
  . refine Vs 13 O (zoV results83 O (fun w hI=>⟨_,rfl,by unfold eqV zb9;rw[zt1 h0,dI,zmx db dg e0],hI.k0⟩))
  have dE:=yi db dg e0;refine Va 7 O tO (V.back (k+1) j2 j3 ⟨tO,dE⟩ tO 0 O O)
 obtain rfl:k=x.phis.length:=tO;have ed:zb9 s i v=none:=by unfold zb9;rw[dI];exact zkU (qd db)
 refine Vs 17 O (zqO 37 901 0 O O (Vs 4 O (zri 3000 0 i tO dt O O O (fun pr ee ef eh hY dJ dh dl=>?_))));obtain⟨dK,rfl,hC⟩:=dl;obtain⟨dL,dM,rfl⟩:=hC.form;refine zqQ 3000 tR89 ts27 O dh tO _ rfl O ?_;have dm:pr=zg g i:=by rw[zdA hi]at hY;exact(Option.some.inj hY).symm
 have dF:pr.length=(zw g i).length:=by rw[dm];simp[zg]
 have ei:=hC.max;refine Vs 6 O (zrl (σ:=Nat) [0,2,43,44] [900,901] [0] O (fun e j=>(45,.int .i64 j)::(9,.int .i64 (jm (((zw g i).take j).map fun y:Nat=>yw f g s (bfV rows) y v)))::e) (fun e j=>e) (fun j=>j<=pr.length) (fun j=>pr.length - j) 0 j2 j3 j1 j1 j1 (zt6 _) ?_);rintro j hj;refine Vs 6 O (zoE O (fun lj=>?_) (fun lj=>?_))
 .
  refine Vs 6 O (zrj 4000 0 j tO hC O O (fun y eH eI dG ej dH=>?_));refine zqQ 4000 tR27 ts3 O dH tO _ rfl O ?_;obtain⟨n,rfl,ek,em⟩:=zag (dm ▸ dG);have dE:jm (((zw g i).take (j+1)).map fun y:Nat=>yw f g s (bfV rows) y v)=xb (jm (((zw g i).take j).map fun y:Nat=>yw f g s (bfV rows) y v)) (yw f g s (bfV rows) n v):=by rw[ze ek,zuT,List.map_singleton,zeE]
  generalize jm (((zw g i).take j).map fun y:Nat=>yw f g s (bfV rows) y v)=ac at *;refine Vs 9 O (zr2 call84 O (fun w hI=>zcP f g s hk dr rows nv dN n v em hv b gb _ _ _ _ D D' Db w (Tr1 hI.k0 hc) (Tr1 hI.k0 dS) (Tr1 hI.k0 hG) (Tr1 hI.k0 hr)) ?_);generalize yw f g s (bfV rows) n v=bb at *;refine Vs 3 O (zrm (σ:=Unit) [0,2,43,44,45] [900,901] [0] O (fun e u=>(9,.int .i64 (xb ac bb))::e) (fun e u=>e) (fun u=>True) j1 j1 ?_ ?_)
  .
   refine Vs 6 O (V.sp 56 O (fun e1=>?_) (fun e1=>?_))
   . refine Vs 10 O (zoS () (Sub.cons (by unfold xb;rw[zt2 (.inl e1)];rfl) j2) j3 True.intro 0 O O)
   refine Vs 7 O (zoE O (fun e2=>?_) (fun e2=>?_))
   . refine Vs 2 O (zoS () (Sub.cons (by unfold xb;rw[zt2 (.inr e2)];rfl) j2) j3 True.intro 0 O O)
   refine Vs 7 O (zoE O (fun e3=>?_) (fun e3=>?_))
   . refine Vs 5 O (zoS () YC j3 True.intro 0 O O)
   refine Vs 4 O (zoS () YB j3 True.intro 0 O O)
  rintro u -;refine Va 6 O tO (V.back (j+1) (Sub.cons rfl (Sub.cons (by rw[dE];rfl) j2)) j3 tO tO 0 O O)
 obtain rfl:j=pr.length:=tO;refine Vs 12 O (zoV results83 O (fun w hI=>⟨_,rfl,by unfold eqV;rw[zt1 h0,ed,dF,zsW],hI.k0⟩))
end Go.Proofs.YtckdhgbepmpgiaaGreat
namespace Go.GL
theorem RowsOk.add {rows:List (List α)} {r:List α} (h:RowsOk enc e w rv rows) (hu:w.ownsRow 0 e 1 u r.length (r.map enc)) (db:∀ g,u.ownBlock=some g->∀ (i:Nat) v,rv[i]?=some v->v.ownBlock ≠ some g):RowsOk enc e w (rv++[u]) (rows++[r]):=by
 have hC:=h.len
 have hY:∀ (i:Nat) (v:Value),(rv++[u])[i]?=some v->(i<rv.length/\rv[i]?=some v)\/(i=rv.length/\v=u):=fun i v hv=>by
  by_cases hi:i<rv.length
  . rw[zth hi]at hv;exact .inl ⟨hi,hv⟩
  have hl:=(zt5.1 hv).1;rw[zsZ,ztc]at hl;obtain rfl:i=rv.length:=tO;rw[zti tO,zvW]at hv;exact .inr ⟨rfl,tD⟩
 refine⟨tD,fun i v r' hv hr=>?_,fun i j vi vj g da hi hj hg=>?_⟩
 .
  rcases hY i v hv with⟨h1,h2⟩ | ⟨rfl,rfl⟩
  .
   rw[zth tO]at hr;exact h.row i v r' h2 hr
  rw[hC,zti tO,zvW]at hr;obtain rfl:r=r':=tD;exact hu
 rcases hY i vi hi with⟨h1,h2⟩ | ⟨rfl,rfl⟩
 .
  rcases hY j vj hj with⟨h3,h4⟩ | ⟨rfl,rfl⟩
  . exact h.apart i j vi vj g da h2 h4 hg
  grind
 grind
theorem RowsOk.nil:RowsOk enc e w [] ([]:List (List α)):=⟨rfl,fun i v r h=>tD,fun i j vi vj g _ h=>tD⟩
theorem set_same {l:List α} {x:α} (h:l[i]?=some x):l.set i x=l:=by
 apply zuj;intro j;rw[zuF];by_cases e:i=j
 .
  subst e;rw[zt2 rfl,zt2 (zt5.1 h).1,h]
 grind
section
variable {ty:TypeId} {pos:String} {g0:Option (Nat × Bool)}
variable {rows:List (List α)} {p g c:Nat} {r:List α} {a:α}
theorem qq (hR:RowsOk enc e w rv rows) {v:Value} (hv:rv[p]?=some v) (hr:rows[p]?=some r):∃ ao c,v=.slice ao r.length c/\(0<r.length->∃ g,ao=some ⟨g,0,none⟩):=by
 have h:=hR.row p v r hv hr;rcases h.2 with⟨rfl,h0⟩ | ⟨g,cap,cur,rfl,_⟩
 . grind
 grind
theorem qr (hR:RowsOk enc e w rv rows) (hv:rv[p]?=some (.slice (some ⟨g,0,none⟩) m c)) (hr:rows[p]?=some r) (ha:r[j]?=some a):w.cell? ⟨g,0+(j:Int).toNat*1,none⟩=some (enc a):=by
 have h:=hR.row p _ r hv hr;obtain⟨ao,c',he⟩:=yb h;simp only[Value.slice.injEq]at he;obtain⟨_,rfl,_⟩:=he;have:=(jL h).2.2 j (enc a) (by rw[zt8,ha];rfl);simpa using this
theorem zsa {tl:TypeId} {x y:Operand} (hs:∀ w,(sizeOf tl).run P w=.ok 1 w) (hR:RowsOk enc e w rv rows) (hv:rv[p]?=some (.slice (some ⟨g,0,none⟩) m c)) (hr:rows[p]?=some r) (hj:j<r.length) (h1:one (enc a)=true) (hx:ev env x=some (.pointer (some ⟨g,0+(j:Int).toNat*1,none⟩))) (hy:ev env y=some (enc a)) :
  xO P ⟨dst,.store tl x y,ty,pos,aft,g0⟩ env w (fun w'=>RowsOk enc e w' rv (rows.set p (r.set j a))/\Keep (fun q=>∃ (i:Nat) (v:Value),rv[i]?=some v/\v.ownBlock=some q) w w'/\∀ q,(∃ (i:Nat) (v:Value),rv[i]?=some v/\v.ownBlock=some q)->((∃ (i:Nat) (v:Value),rv[i]?=some v/\v.ownBlock=some q)\/w.heap.size<=q)/\q<w'.heap.size):=by
 have ho:=hR.row p _ r hv hr;obtain⟨ao,c',he⟩:=yb ho;simp only[Value.slice.injEq]at he;obtain⟨_,rfl,_⟩:=he;obtain⟨sp,hB,hc,db,dc⟩:=xr ho;have dg:0+(j:Int).toNat*1=j:=tR;rw[dg]at hx;obtain⟨h6,h7⟩:=xL h1;obtain⟨w',hY,dl,dh,hk⟩:=M.store (dst:=dst) (ty:=ty) (pos:=pos) (aft:=aft) (g:=g0) hs hx hy h6 h7 hB tO
 have da:w'.ownsRow 0 e 1 (.slice (some ⟨g,0,none⟩) r.length c) (r.set j a).length ((r.set j a).map enc):=by
  have:=zN (k:=1) (n:=r.length) (cap:=c) dh hc db tD;rw[zvs _ _ tD,zvU,zvA tD,zvB tD]at this;rw[zuS,zuZ];omega
 have dm:∃ (i:Nat) (v:Value),rv[i]?=some v/\v.ownBlock=some g:=⟨p,_,hv,rfl⟩;have hC:=hR.put hv da (.inl rfl) (hk.mono fun q _ hq=>by have hq:q=g:=hq;subst hq;exact rfl);rw[set_same hv]at hC;refine⟨w',hY,hC,hk.mono fun q _ hq=>tD,fun q hq=>⟨.inl hq,?_⟩⟩;obtain⟨i,v,h8,h9⟩:=hq;exact zvP (hR.blk h8 h9) hk.size
end
theorem ziY (hq:∃ (i:Nat) (v:Value),(rv++[u])[i]?=some v/\v.ownBlock=some q):(∃ (i:Nat) (v:Value),rv[i]?=some v/\v.ownBlock=some q)\/u.ownBlock=some q:=by
 obtain⟨i,v,h1,h2⟩:=hq;by_cases hi:i<rv.length
 . exact .inl ⟨i,v,by rwa [zth hi]at h1,h2⟩
 have hl:=(zt5.1 h1).1;rw[zsZ,ztc]at hl;rw[zti tO,show i - rv.length=0 by omega]at h1;have h3:u=v:=Option.some.inj h1;exact .inr (h3 ▸ h2)
end Go.GL
namespace Go.Proofs.YtckdhgbepmpgiaaGreat
open Go.GL
variable {s:Sf}
theorem zkW {p:Nat} {v:Value} {r:List Int} (h:RowsOk zb e w rv rows) (hv:rv[p]?=some v) (hr:rows[p]?=some r):SlR 1 zG (fun _=>True) w v r:=zpK zb iA (h.row p v r hv hr) (fun _ _=>trivial)
theorem kH {v:Value} (h1:w.ownsRow 0 27 1 v rows.length rv) (h2:RowsOk zb 3 w rv rows) (hC:∀ g,v.ownBlock=some g->D g) (hY:∀ (i:Nat) u g,rv[i]?=some u->u.ownBlock=some g->D g):SlR 1 (RSl 1 zG) D w v rows:=by
 have:OwnR 27 1 (RSl 1 zG) D w v rows:=⟨rv,h1,fun i x hx=>by
  have da:=h2.len;have hl:=(zt5.1 hx).1;obtain⟨u,hu⟩:∃ u,rv[i]?=some u:=j9;have hd:(rv.drop (i*1)).take 1=[u]:=by rw[zvU,zkN hu];rfl
  rw[hd]
  exact⟨u,rfl,zpK zb iA (h2.row i u x hu hx) (fun g hg=>hY i u g hu hg)⟩⟩
 exact this.sl tS (zP zc) (fun q h=>h) hC
def kq (f:Fl) (g:List Nd) (s:Sf):Prop:=(∀ (n:Nat) x,s.nodes[n]?=some x->∀ u ∈ x.uses,inV f g s n u.1=u.2)/\∀ (n:Nat) x,s.nodes[n]?=some x->∀ p ∈ x.phis,∀ (i:Nat) y a,p.frm[i]?=some y->p.args[i]?=some a->zab f g s y.toNat p.var=a
def zfg (nv i:Nat):List Int:=(List.range nv).map fun v:Nat=>if i=0 then (v:Int) else -1
def rows0 (nv N:Nat):List (List Int):=(List.range N).map (zfg nv)
theorem zdD (nv i:Nat):(zfg nv i).length=nv:=by simp[zfg]
theorem zeL (nv N:Nat):Shp (rows0 nv N) N nv:=⟨by simp[rows0],fun r hr=>by obtain⟨i,_,rfl⟩:=zv6.1 hr;exact zdD nv i⟩
theorem zeM (h:i<N):(rows0 nv N)[i]?=some (zfg nv i):=by unfold rows0;rw[zt8,zuC h];rfl
theorem zgx (hi:i<N) (h0:0<=v) (hv:v<(nv:Int)):bfV (rows0 nv N) i v=if i=0 then v else -1:=by
 obtain⟨n,rfl⟩:=ztN h0;refine zaU (zeM hi) ?_;unfold zfg;rw[zt8,zuC tO];rfl
theorem ziZ (f:Fl) (g:List Nd) (s:Sf) (nv:Nat):RunV f g s nv (bfV (rows0 nv g.length)):=by
 have h:RunV f g s nv (fun i v=>if i=0 then v else -1):=RunV.start fun i v=>rfl;exact h.congr fun i hi v hv hn=>(zgx hi hv hn).symm
theorem zkX {k:Nat} (h:k<nv):((zfg nv i).take k++List.replicate (nv - k) 0).set k (if i=0 then (k:Int) else -1)=(zfg nv i).take (k+1)++List.replicate (nv - (k+1)) 0:=by
 have hg:(zfg nv i)[k]?=some (if i=0 then (k:Int) else -1):=by unfold zfg;rw[zt8,zuC h];rfl
 rw[ze hg,zvt _ _ tD,ztl,zdD,show k - min k nv=0 by omega,show nv - k=(nv - (k+1))+1 by omega,zvo];simp
theorem znD (h:OfF f s) {k:Nat} (hv:s.of_[k]?=some v):0<=v/\v<(f.vars.length:Int):=by
 by_cases hk:k<f.vars.length
 . have:=h.ini k v hv hk;omega
 obtain⟨h1,x,hx,_⟩:=h.new k v hv tO;have:=(zt5.1 hx).1;omega
theorem zah (h:OfF f s) {b:Bool} (hv:jZ f s k v b):0<=v/\v<(f.vars.length:Int):=znD h hv.2.1
def znE (f:Fl) (g:List Nd) (s:Sf) (p:Phn):Prop:=∀ (m:Nat) y,p.frm[m]?=some y->∀ a,p.args[m]?=some a->zab f g s y.toNat p.var=a
structure NodU (f:Fl) (g:List Nd) (s:Sf) (n:Nat) (x:Sn):Prop where
 use:∀ u ∈ x.uses,inV f g s n u.1=u.2
 arg:∀ p ∈ x.phis,znE f g s p
theorem zeN (h:∀ (n:Nat) x,s.nodes[n]?=some x->NodU f g s n x):kq f g s :=
 ⟨fun n x hx u hu=>(h n x hx).use u hu,fun n x hx p hp i y a hy ha=>(h n x hx).arg p hp i y hy a ha⟩
theorem zj0 (h:B q v=inV f g s q v):yw f g s B q v=zab f g s q v:=by
 unfold zab yw;rw[h]
theorem zfE (f:Fl) (g:List Nd) (s:Sf) (hk:GOk f g) (hC:s.nodes.length=g.length) (rows:List (List Int)) (nv:Nat) (hY:Shp rows g.length nv) (i:Nat) (v:Int) (hi:i<g.length) (h0:0<=v) (hv:v<(nv:Int)) (b gb:Nat) (ofv nodv bv dv:Value) (D D' Db:Nat->Prop) (W:World) (hc:Cells W b 0 (chk gb ofv nodv bv dv)) (hS:RSf D W s ofv nodv) (hG:GrO D' W f g gb) (hr:SlR 1 (RSl 1 zG) Db W bv rows) :
  Calls prog 84 #[.pointer (some ⟨b,0,none⟩),.int .i64 i,.int .i64 v] W (Ret fun r w'=>r=.int .i64 (yw f g s (bfV rows) i v)/\Ext W w'):=by
 obtain⟨n,rfl⟩:=ztN h0;exact zcP f g s hk hC rows nv hY i n hi tO b gb ofv nodv bv dv D D' Db W hc hS hG hr
theorem zj1 (f:Fl) (g:List Nd) (s:Sf) (hk:GOk f g) (hF:FormF f g s (rdV f g)) (fL:1<=g.length) (eI:g.length<=100000) (fM:f.vars.length<=1000) (b gb:Nat) (ofv nodv dv:Value) (D:Nat->Prop) (W:World) (hB:(HE.own b (chk gb ofv nodv (.slice none 0 0) dv) 97).holds W) (eC:∀ q,D q->q<W.heap.size/\q ≠ b) (hS:RSf D W s ofv nodv) (hG:GrO D W f g gb) :
  Calls prog 41 #[.pointer (some ⟨b,0,none⟩)] W (Ret fun r w'=>∃ x:Value × Bool,(r=.bool x.2/\(x.2=true ↔ kq f g s))/\(HE.own b (chk gb ofv nodv x.1 dv) 97).holds w'/\Keep (HE.own b (chk gb ofv nodv (.slice none 0 0) dv) 97).S W w'/\∀ q,(HE.own b (chk gb ofv nodv x.1 dv) 97).S q->((HE.own b (chk gb ofv nodv (.slice none 0 0) dv) 97).S q\/W.heap.size<=q)/\q<w'.heap.size):=by
 have eJ:=hG;obtain⟨v1,v2,v3,gv,sv,pv,hD,dD,hf,hg,hs,fN⟩:=eJ;obtain⟨av,cv,rfl⟩:=hf.vars.form;obtain⟨ag,cg,rfl⟩:=hg.form;have fO:=hS;have dS:=hS.nodes;have fP:=dS.max;obtain⟨an,cn,rfl⟩:=dS.form;have eK:=hF.len;have dT:=hF.nn;have dg:∀ q,(HE.own b (chk gb ofv (.slice an s.nodes.length cn) (.slice none 0 0) dv) 97).S q->¬ D q:=fun q h hd=>(eC q hd).2 h;have fQ:g.length*(f.vars.length*2)<=100000*(1000*2):=zvS eI tO;generalize hnv:f.vars.length=nv at *;generalize hN:g.length=N at *;refine zqq func41 O ntmps41 O (zrA 900 (.own b [.pointer (some ⟨gb,0,none⟩),ofv,.slice an s.nodes.length cn,.slice none 0 0,dv] 97) (hB) trivial (fun _ h=>h) (fun q hq=>by have hq:q=b:=hq;subst hq;exact(show Blk W q _ _ from hB).lt) (zrg 901 0 O O (fun h=>(eC _ hD).2 h) dD (zqO 0 900 0 O O (Vs 11 O (zqO 23 901 0 O O (Vs 15 O (zqO 32 901 0 O O (Vs 7 O (zqU 903 27 1 O (zqU 902 3 1 O (zrB 902 (e':=RowsP zb 3 [] []) O (fun w hI=>RowsOk.nil) RowsP.loc (fun _ h=>h) (fun q hq=>by obtain⟨i,u,h,_⟩:=hq;simp at h) ?_)))))))))));refine Vs 1 O (zrl (σ:=Nat × Value × List Value) [0,3,36] [901] [0] O (fun e ⟨i,u,hv⟩=>(37,.int .i64 i)::e) (fun e ⟨i,u,hv⟩=>(900,.own b [.pointer (some ⟨gb,0,none⟩),ofv,.slice an s.nodes.length cn,u,dv] 97)::(903,.row 27 1 u i hv)::(902,RowsP zb 3 hv ((rows0 nv N).take i))::e) (fun⟨i,u,hv⟩=>i<=N/\hv.length=i) (fun⟨i,u,hv⟩=>N - i) (0,.slice none 0 0,[]) j2 j3 j1 j1 j1 JF ?_);rintro⟨i,u,hv⟩ ⟨hi,fR⟩;refine Vs 6 O (zoE O (fun lt=>?_) (fun lt=>?_))
 .
  refine Vs 13 O (zpw 41 tu27 Tryz.el3 O tO tO (zs:=List.replicate nv (.int .i64 0)) JU tR (fun b41=>?_));refine zrk 41 O (e':=.row 3 1 (.slice (some ⟨b41,0,none⟩) nv nv) nv (((zfg nv i).take 0++List.replicate (nv - 0) 0).map zb)) tR (Vs 12 O (zrl (σ:=Nat) [0,3,4,5,36,37,43] [900,901,902,903] [0] O (fun e k=>(44,.int .i64 k)::e) (fun e k=>(41,.row 3 1 (.slice (some ⟨b41,0,none⟩) nv nv) nv (((zfg nv i).take k++List.replicate (nv - k) 0).map zb))::e) (fun k=>k<=nv) (fun k=>nv - k) 0 j2 j3 j1 j1 j1 (zt6 _) ?_));rintro k eL;have eM:=zdD nv i;refine Vs 6 O (zoE O (fun lk=>?_) (fun lk=>?_))
  .
   have dO:=zkX (i:=i) (show k<nv by omega);have fS:((zfg nv i).take k++List.replicate (nv - k) (0:Int)).length=nv:=tD;refine Va 15 O tO (zr0 41 (k) ts3 O tO tD (Vs 3 O (zqd (p:=i=0) (fun z0=>?_) (fun z0=>?_))))
   .
    refine Vs 5 O (zoE O (fun z1=>?_) (fun z1=>?_))
    .
     refine Va 5 O tO (zr0 41 (k) ts3 O tO tD ?_);rw[zt2 z0]at dO;refine zrk 41 O (e':=.row 3 1 (.slice (some ⟨b41,0,none⟩) nv nv) nv (((zfg nv i).take (k+1)++List.replicate (nv - (k+1)) 0).map zb)) (by rw[zvu,<- dO,zuZ]) (Va 7 O tO (V.back (k+1) j2 j3 tO tO 0 O O))
    omega
   refine Vs 5 O (zoE O (fun z1=>?_) (fun z1=>?_))
   . omega
   rw[zt1 z0]at dO;refine zrk 41 O (e':=.row 3 1 (.slice (some ⟨b41,0,none⟩) nv nv) nv (((zfg nv i).take (k+1)++List.replicate (nv - (k+1)) 0).map zb)) (by rw[<- dO,zuZ]) (Va 7 O tO (V.back (k+1) j2 j3 tO tO 0 O O))
  obtain rfl:k=nv:=tO;refine zrk 41 O (e':=.row 3 1 (.slice (some ⟨b41,0,none⟩) k k) (zfg k i).length ((zfg k i).map zb)) tD (Vs 12 O (zro 63 [(0,_)] tR89 ts27 tz27 tS O O tK (fun b63=>?_)));refine zqV 903 63 tu89 Tryz.el27 O tS O O tO tO (fun u903=>(Vs 2 O (zqX 903 O tO ?_)));rintro ob oc rfl db;refine Va 8 O tO (zs6 902 41 (e':=RowsP zb 3 (hv++[Value.slice (some ⟨b41,0,none⟩) k k]) ((rows0 k N).take (i+1))) [(0,some (900,0)),(57,some (900,0)),(58,some (900,0)),(59,some (900,0)),(60,some (900,3)),(65,some (900,0)),(66,some (900,3))] O O O (fun w hI=>(by rw[ze (zeM (nv:=k) (show i<N by omega))];exact(show RowsOk _ _ _ _ _ from hI.at 902 O).add (hI.at 41 O) (fun g hg i v hv eN=>hI.sep (k:=902) (k2:=41) O O tS ⟨i,v,hv,eN⟩ hg))) RowsP.loc (fun _ h=>h) (fun q (hq:∃ (i:Nat) (v:Value),(hv++[Value.slice (some ⟨b41,0,none⟩) k k])[i]?=some v/\v.ownBlock=some q)=>ziY hq) ?_);refine V.back ⟨i+1,.slice (some ⟨ob,0,none⟩) (i+1) oc,hv++[.slice (some ⟨b41,0,none⟩) k k]⟩ j2 j3 Ua tD 0 O O
 obtain rfl:i=N:=tO;have eO:(rows0 nv i).length=i:=(zeL nv i).len;have dU:Shp (rows0 nv i) g.length nv:=by rw[hN];exact zeL nv i
 have dE:RunV f g s nv (bfV (rows0 nv i)):=by have:=ziZ f g s nv;rwa [hN]at this
 have dV:∀ v:Int,0<=v->v<(nv:Int)->bfV (rows0 nv i) 0 v=v:=fun v h0 h1=>by rw[zgx tO h0 h1,zt2 rfl]
 have fT:∀ q,(fun _:Nat=>True) q:=fun _=>trivial;refine zqX 903 O tO ?_;rintro og oc rfl db;refine zrk 902 O (e':=RowsP zb 3 hv (rows0 nv i)) tD (Vs 12 O (zrl (σ:=Bool × List (List Int)) [0,3] [900,901,903] [0] O (fun e ⟨ch,rows⟩=>(7,.bool ch)::e) (fun e ⟨ch,rows⟩=>(902,RowsP zb 3 hv rows)::e) (fun⟨ch,rows⟩=>Shp rows g.length nv/\RunV f g s nv (bfV rows)/\(∀ v:Int,0<=v->v<(nv:Int)->bfV rows 0 v=v)/\(ch=false->SolV f g s nv (bfV rows))) (fun⟨ch,rows⟩=>(g.length*(nv*2) - rkT rows)*2+ch.toNat) (true,rows0 nv i) j2 j3 j1 j1 j1 ⟨dU,dE,dV,fun h=>tD⟩ ?_));rintro⟨ch,rows⟩ ⟨dQ,dW,eP,eQ⟩;refine Vs 6 O (V.bool O (fun c1=>?_) (fun c1=>?_))
 .
  subst c1;refine Vs 14 O (zrl (σ:=Nat × Bool × List (List Int)) [0,3] [900,901,903] [0] O (fun e ⟨j,c2,Q1⟩=>(8,.int .i64 j)::(7,.bool c2)::e) (fun e ⟨j,c2,Q1⟩=>(902,RowsP zb 3 hv Q1)::e) (fun⟨j,c2,Q1⟩=>1<=j/\j<=i/\PassV f g s nv rows Q1 c2 (fun a u=>1<=a/\a<j/\u<nv)/\∀ v:Int,0<=v->v<(nv:Int)->bfV Q1 0 v=v) (fun⟨j,c2,Q1⟩=>i - j) (1,false,rows) j2 j3 j1 j1 j1 ⟨ztg _,tO,PassV.start dQ dW (fun a u h=>tO),eP⟩ ?_);rintro⟨j,c2,Q1⟩ ⟨fU,hj,dr,hz⟩;refine Vs 8 O (zqO 73 901 0 O O (Vs 7 O (zoE O (fun lj=>?_) (fun lj=>?_))))
  .
   refine Vs 11 O (zrl (σ:=Nat × Bool × List (List Int)) [0,3,8,81] [900,901,903] [0] O (fun e ⟨v,c3,Q3⟩=>(82,.int .i64 v)::(7,.bool c3)::e) (fun e ⟨v,c3,Q3⟩=>(902,RowsP zb 3 hv Q3)::e) (fun⟨v,c3,Q3⟩=>v<=nv/\PassV f g s nv rows Q3 c3 (fun a u=>1<=a/\((a<j/\u<nv)\/(a=j/\u<v)))/\∀ v:Int,0<=v->v<(nv:Int)->bfV Q3 0 v=v) (fun⟨v,c3,Q3⟩=>nv - v) (0,c2,Q1) j2 j3 j1 j1 j1 ⟨zt6 _,dr.imp (fun a u h=>tO),hz⟩ ?_);rintro⟨v,c3,Q3⟩ ⟨fV,hC,dR⟩;refine Vs 6 O (zoE O (fun lv=>?_) (fun lv=>?_))
   .
    obtain⟨r,dF,eM⟩:=hC.shp.at (show j<g.length by omega);obtain⟨old,eD⟩:∃ z,r[v]?=some z:=j9;have fW:=zaU dF eD;obtain⟨hu,dG⟩:∃ z,hv[j]?=some z:=j9;refine zqI (p:=∃ ao ch,hu=.slice ao r.length ch/\(0<r.length->∃ g,ao=some ⟨g,0,none⟩)) (fun w hI=>qq (show RowsOk _ _ _ _ _ from hI.at 902 O) dG dF) (fun eR=>?_);obtain⟨ao,cu,rfl,eS⟩:=eR;obtain⟨gu,rfl⟩:=eS tO;have dX:Q3.length=i:=by have:=hC.shp.len;omega
    refine Va 18 O tO (zqZ 903 (j) tg27 O tO (dG) (Vs 1 O (zqh O (fun w hI=>zph tR27 ts3 O O O tO) (zqh O (fun w hI=>R.load tg3 O (qr (hI.at 902 O) dG dF eD)) (Vs 9 O (zoE O (fun o1=>?_) (fun o1=>?_)))))))
    .
     refine Vs 5 O (zr2 call83 O (fun w hI=>zkV f g s hk tO Q3 nv hC.shp j v tO tO tO b gb _ _ _ _ D D (fun _=>True) w (Blk.cells (hI.at 900 O)) (hS.keep hI.k0 fun q hd _ h=>dg q h hd) (hG.keep hI.k0 fun q hd _ h=>dg q h hd) (kH (show w.ownsRow 0 _ 1 _ _ _ from dX ▸ hI.at 903 O) (hI.at 902 O) (fun _ _=>trivial) (fun _ _ _ _ _=>trivial))) (Vs 9 O (V.sp 104 O (fun n1=>?_) (fun n1=>?_))))
     .
      refine Vs 5 O (zoE O (fun n2=>?_) (fun n2=>?_))
      .
       have hset:PassV f g s nv rows (ko Q3 j v (eqV g s (yw f g s (bfV Q3)) j v)) true (fun a u=>1<=a/\((a<j/\u<nv)\/(a=j/\u<v+1))):=hC.set dT (i:=j) (v:=v) tO tO tO
       have eT:∀ u:Int,0<=u->u<(nv:Int)->bfV (ko Q3 j v (eqV g s (yw f g s (bfV Q3)) j v)) 0 u=u:=fun u h0 h1=>by
        rw[zgv hC.shp tO tO _ h0];unfold zcm
        grind
       generalize eqV g s (yw f g s (bfV Q3)) j v=now at *;refine Va 8 O tO (zqZ 903 (j) tg27 O tO (dG) (Vs 2 O (zqh O (fun w hI=>zph tR27 ts3 O O O tO) (zs3 902 (e':=RowsP zb 3 hv (Q3.set j (r.set v now))) O RowsP.loc (fun _ h=>h) (fun w hI=>zsa ts3 (hI.at 902 O) dG dF tO O O O) (zrk 902 O (e':=RowsP zb 3 hv (ko Q3 j v now)) (by unfold ko;rw[dF];rfl) (Va 11 O tO (V.back ⟨v+1,true,ko Q3 j v now⟩ j2 j3 ⟨tO,hset,eT⟩ tD 0 O O)))))))
      have hY:PassV f g s nv rows Q3 c3 (fun a u=>1<=a/\((a<j/\u<nv)\/(a=j/\u<v+1))):=hC.skip (i:=j) (v:=v) (.inr (.inr tO)) (fun a u h=>tO);refine Va 7 O tO (V.back ⟨v+1,c3,Q3⟩ j2 j3 ⟨tO,hY,dR⟩ tD 0 O O)
     have hY:PassV f g s nv rows Q3 c3 (fun a u=>1<=a/\((a<j/\u<nv)\/(a=j/\u<v+1))):=hC.skip (i:=j) (v:=v) (.inr (.inl tO)) (fun a u h=>tO);refine Va 13 O tO (V.back ⟨v+1,c3,Q3⟩ j2 j3 ⟨tO,hY,dR⟩ tD 0 O O)
    have hY:PassV f g s nv rows Q3 c3 (fun a u=>1<=a/\((a<j/\u<nv)\/(a=j/\u<v+1))):=hC.skip (i:=j) (v:=v) (.inl tO) (fun a u h=>tO);refine Va 7 O tO (V.back ⟨v+1,c3,Q3⟩ j2 j3 ⟨tO,hY,dR⟩ tD 0 O O)
   refine Va 11 O tO (V.back ⟨j+1,c3,Q3⟩ j2 j3 ⟨tO,tO,hC.imp (fun a u h=>tO),dR⟩ tD 0 O O)
  have fX:(g.length*(nv*2) - rkT Q1)*2+c2.toNat<(g.length*(nv*2) - rkT rows)*2+true.toNat:=by
   have:=rk_le dr.shp;cases c2 with
   | true=>have:=dr.yes rfl;simp only[ztJ];omega
   | false=>rw[(dr.no rfl).1];simp only[ztJ,Bool.toNat_false];omega
  have dH:c2=false->SolV f g s nv (bfV Q1):=fun e=>by
   subst e;exact dr.done (fun a u h1 h2 h3=>tO) hz
  refine Vs 5 O (V.back ⟨c2,Q1⟩ j2 j3 ⟨dr.shp,dr.run,hz,dH⟩ tO 0 O O)
 subst c1;have dI:=eQ rfl;have dJ:rows.length=i:=by have:=dQ.len;omega
 have dK:=dQ.row;refine zs6 903 902 (e':=.res (fun q=>(Value.slice (some ⟨og,0,none⟩) i oc).ownBlock=some q\/∃ (k:Nat) (u:Value),hv[k]?=some u/\u.ownBlock=some q) (fun w=>SlR 1 (RSl 1 zG) (fun q=>(Value.slice (some ⟨og,0,none⟩) i oc).ownBlock=some q\/∃ (k:Nat) (u:Value),hv[k]?=some u/\u.ownBlock=some q) w (.slice (some ⟨og,0,none⟩) i oc) rows)) [(0,some (900,0))] O O O (fun w hI=>kH (show w.ownsRow 0 _ 1 _ _ _ from dJ ▸ hI.at 903 O) (hI.at 902 O) (fun _ h=>.inl h) (fun k u q h h2=>.inr ⟨k,u,h,h2⟩)) (fun w w' T h hk hT=>h.keep (zP zc) hk fun b hb hl=>hT b hl hb) (fun _ h=>h) (fun q hq=>hq) ?_;refine zs9 903 O (p:=(fun w=>SlR 1 (RSl 1 zG) (fun q=>(Value.slice (some ⟨og,0,none⟩) i oc).ownBlock=some q\/∃ (k:Nat) (u:Value),hv[k]?=some u/\u.ownBlock=some q) w (.slice (some ⟨og,0,none⟩) i oc) rows)) (fun w w' T h hk hT=>h.keep (zP zc) hk fun b hb _=>hT b hb) (fun w hI=>hI.at 903 O) (fun wp dL dt=>(Vs 18 O (zrl (σ:=Nat) [0,123,124] [900,901,903] [0] O (fun e n=>(125,.int .i64 n)::e) (fun e n=>e) (fun n=>n<=s.nodes.length/\(∀ (m:Nat) x,m<n->s.nodes[m]?=some x->NodU f g s m x)) (fun n=>s.nodes.length - n) 0 j2 j3 j1 j1 j1 ⟨zt6 _,fun m x h=>absurd h (zvV _)⟩ ?_)));rintro n ⟨hn,dY⟩;refine Vs 6 O (zoE O (fun ln=>?_) (fun ln=>?_))
 .
  refine Vs 7 O (zrh 1000 1 n tO dS O O O ig (fun x fY fZ f0 dh eU dZ eV d5=>?_));obtain⟨eW,eX,rfl,du,dw⟩:=d5;obtain⟨eY,eZ,rfl⟩:=du.form;obtain⟨fb,fe,rfl⟩:=dw.form;refine zqQ 1000 tR28 ts59 O dZ tO _ rfl O ?_;have dl:=hF.nod n x dh;have f4:=dw.max;have f5:=du.max;have fg:n<g.length:=tO;refine Vs 1 O (V.alloc 13 tz59 O O (fun b13=>?_));refine Vs 14 O (zrl (σ:=Nat) [0,12,13,123,124,125,131,132] [13,900,901,903] [0,13] O (fun e k=>(133,.int .i64 k)::e) (fun e k=>e) (fun k=>k<=x.uses.length/\(∀ (j:Nat) u,j<k->x.uses[j]?=some u->inV f g s n u.1=u.2)) (fun k=>x.uses.length - k) 0 j2 j3 j1 j1 j1 JQ ?_);rintro k ⟨eL,eE⟩;refine Vs 6 O (zoE O (fun lk=>?_) (fun lk=>?_))
  .
   refine Vs 6 O (zrh 2000 1 k tO dw O O O ig (fun u f7 f8 f9 d6 dM d7 fm d8=>?_));obtain rfl:=d8;refine zqQ 2000 tR57 ts85 O d7 tO _ rfl O ?_;have fp:=zah hF.of_ (dl.ver u dM);obtain⟨u1,u2⟩:=u;dsimp only at fp;obtain⟨v,rfl⟩:∃ v:Nat,u1=(v:Int):=⟨u1.toNat,tO⟩;refine zrh 3000 0 n tO dL O O O (fun b_ d_ h_=>by have da:=dt _ h_;first | omega | exact da d_) (fun r gc gf gh d9 eb ec fq ed=>?_);obtain⟨ft,rfl,dN⟩:=ed;obtain⟨fu,fw,rfl⟩:=dN.form;have gl:=dK r eb;refine zrh 4000 0 v tO dN O O O (fun b_ d_ h_=>by have da:=dt _ h_;first | omega | exact da d_) (fun y fx fy fA dc ee dx ef dy=>?_);obtain rfl:=dy;have eh:y=inV f g s n v:=by rw[<- zaU d9 dc];exact dI.is dT tO tO fg
   refine Vs 1 O (V.alloc 15 tz85 O O (fun b15=>?_));refine Vs 4 O (Vq tK (Vs 5 O (zqT 3000 tR89 ts27 O ec tO (n) tO O (Vs 3 O (zqT 4000 tR27 ts3 O dx tO (v) tO O (Vs 6 O (zoE O (fun e1=>?_) (fun e1=>?_))))))))
   .
    have dz:¬ kq f g s:=fun h=>e1 (by rw[eh];exact h.1 n x dh _ dM);refine Vs 16 O (zoV results41 O (fun w hI=>⟨_,rfl,⟨(.slice (some ⟨og,0,none⟩) i oc,false),⟨rfl,⟨fun h=>tD,fun h=>absurd h dz⟩⟩,hI.at 900 rfl,hI.k1,fun q hq=>hI.inS 1 900 O O hq⟩⟩))
   have dA:=yi eE d6 (show inV f g s n v=u2 by omega);refine Va 7 O tO (V.back (k+1) j2 j3 ⟨tO,dA⟩ tO 0 O O)
  obtain rfl:k=x.uses.length:=tO;refine Vs 14 O (zrl (σ:=Nat) [0,123,124,125,153,154] [900,901,903] [0] O (fun e k=>(155,.int .i64 k)::e) (fun e k=>e) (fun k=>k<=x.phis.length/\(∀ (j:Nat) p,j<k->x.phis[j]?=some p->znE f g s p)) (fun k=>x.phis.length - k) 0 j2 j3 j1 j1 j1 JQ ?_);rintro k ⟨gq,eF⟩;refine Vs 6 O (zoE O (fun lp=>?_) (fun lp=>?_))
  .
   refine Vs 6 O (zrh 5000 1 k tO du O O O ig (fun p gr gs gt ei dm ej fB ek=>?_));obtain⟨fC,fD,rfl,dB,dC⟩:=ek;obtain⟨fE,fF,rfl⟩:=dB.form;obtain⟨fG,fH,rfl⟩:=dC.form;refine zqQ 5000 tR56 ts88 O ej tO _ rfl O ?_;have fI:=dl.phi.frm p dm;have gw:=dl.phi.len p dm;have gx:=zah hF.of_ (dl.phi.ver p dm);have gy:=dB.max;have gz:=dC.max;refine Vs 1 O (V.alloc 17 tz88 O O (fun b17=>?_));refine Vs 12 O (zrl (σ:=Nat) [0,17,123,124,125,153,154,155,160,161] [17,900,901,903] [0,17] O (fun e j=>(162,.int .i64 j)::e) (fun e j=>e) (fun j=>j<=p.frm.length/\(∀ (m:Nat) y,m<j->p.frm[m]?=some y->∀ a,p.args[m]?=some a->zab f g s y.toNat p.var=a)) (fun j=>p.frm.length - j) 0 j2 j3 j1 j1 j1 ⟨zt6 _,fun m y h=>absurd h (zvV _)⟩ ?_);rintro j ⟨hj,eG⟩;refine Vs 6 O (zoE O (fun lj=>?_) (fun lj=>?_))
   .
    refine Vs 7 O (zrh 6000 1 j tO dB O O O ig (fun y fx fy fA dc ee dx ef dy=>?_));obtain rfl:=dy;refine zqQ 6000 tR27 ts3 O dx tO _ rfl O ?_;obtain⟨q,rfl,gA,eH⟩:=zag (fI ▸ dc);refine zrh 7000 1 j tO dC O O O ig (fun a gB gC gD em fJ er fK ew=>?_);obtain rfl:=ew;have ez:yw f g s (bfV rows) q p.var=zab f g s q p.var:=zj0 (dI.is dT tO tO eH);refine Vs 6 O (Vw [17,900,901,6000,7000] [] O (Vd [0,1,2,3,5,6,7] 0 tK O O O (zqR 8 7000 tR27 ts3 O tK O er tO (j) tO O (Vd [9] 0 tK O O O (zr3 4 0 call84 O tK O O (fun w hI=>zfE f g s hk tO rows nv dQ q p.var eH tO tO b gb _ _ _ _ D D _ w (Blk.cells (hI.at 900 O)) (hS.keep hI.k1 fun q hd _ h=>dg q h hd) (hG.keep hI.k1 fun q hd _ h=>dg q h hd) (dL.keep (zP zc) hI.k0 fun q hd _ hs=>dt q hs hd)) ?_)))));refine Vd [10] 0 tK O O O (VD.done tK (Vs 1 O (zoE O (fun e1=>?_) (fun e1=>?_))))
    .
     have dz:¬ kq f g s:=fun h=>e1 (by rw[ez];exact h.2 n x dh p dm j _ a dc em);refine Vs 19 O (zoV results41 O (fun w hI=>⟨_,rfl,⟨(.slice (some ⟨og,0,none⟩) i oc,false),⟨rfl,⟨fun h=>tD,fun h=>absurd h dz⟩⟩,hI.at 900 rfl,hI.k1,fun q hq=>hI.inS 1 900 O O hq⟩⟩))
    have dA:=yi eG dc (show ∀ a',p.args[j]?=some a'->zab f g s (Int.toNat (q:Int)) p.var=a' from fun a' gE=>by
     grind)
    refine Va 7 O tO (V.back (j+1) j2 j3 ⟨tO,dA⟩ tO 0 O O)
   obtain rfl:j=p.frm.length:=tO;have dA:=yi eF ei (show znE f g s p from fun m y hm a ha=>eG m y (zt5.1 hm).1 hm a ha);refine Va 10 O tO (V.back (k+1) j2 j3 ⟨tO,dA⟩ tO 0 O O)
  obtain rfl:k=x.phis.length:=tO
  have dA:∀ (m:Nat) x',m<n+1->s.nodes[m]?=some x'->NodU f g s m x':=fun m x' hm hx=>by
   by_cases e:m=n
   .
    subst e;obtain rfl:x'=x:=Option.some.inj (hx.symm.trans dh);exact⟨fun u hu=>by obtain⟨q,hq⟩:=zv5.1 hu;exact qd eE q u hq,fun p hp=>by obtain⟨q,hq⟩:=zv5.1 hp;exact qd eF q p hq⟩
   grind
  refine Va 10 O tO (V.back (n+1) j2 j3 ⟨tO,dA⟩ tO 0 O O)
 obtain rfl:n=s.nodes.length:=tO;have eA:kq f g s:=zeN (qd dY);refine Vs 11 O (zoV results41 O (fun w hI=>⟨_,rfl,⟨(.slice (some ⟨og,0,none⟩) i oc,true),⟨rfl,⟨fun _=>eA,fun _=>rfl⟩⟩,hI.at 900 rfl,hI.k1,fun q hq=>hI.inS 1 900 O O hq⟩⟩))
def EncS (D:Nat->Prop) (w:World) (l:List St) (xs:List Value):Prop:=xs.length=l.length*10/\∀ (i:Nat) x,l[i]?=some x->RSt D w x ((xs.drop (i*10)).take 10)
theorem EncS.nil:EncS D w [] []:=⟨rfl,fun i x h=>tD⟩
theorem EncS.add {l:List St} {xs:List Value} {x:St} (h:EncS D w l xs) (hx:RSt D w x cs) (hc:cs.length=10):EncS D w (l++[x]) (xs++cs):=by
 have h1:=h.1;refine⟨tD,fun i y hy=>?_⟩;by_cases hi:i<l.length
 .
  rw[zth hi]at hy;rw[zua tO,zvA tD];exact h.2 i y hy
 have hl:=(zt5.1 hy).1;rw[zsZ,ztc]at hl;obtain rfl:i=l.length:=tO;rw[zti tO,zvW]at hy;obtain rfl:x=y:=tD;rw[<- h1,List.drop_left,zvB tO];exact hx
theorem zkY (l:List St):∀ (D:Nat->Prop) (W0 W:World) (v uo:Value) (acc:List St) (xs:List Value),SlR 10 RSt D W0 v l->EqD D W0 W->EncS D W0 acc xs->(HE.row 72 10 uo acc.length xs).holds W->(∀ q,D q->uo.ownBlock ≠ some q)->acc.length+ssize l<=1000000 ->
  Calls prog 75 #[v,uo] W (Ret fun r w'=>∃ x:Value × List Value,(r=x.1/\EncS D W0 (acc++preL l) x.2)/\(HE.row 72 10 x.1 (acc++preL l).length x.2).holds w'/\Keep (HE.row 72 10 uo acc.length xs).S W w'/\∀ q,(HE.row 72 10 x.1 (acc++preL l).length x.2).S q->((HE.row 72 10 uo acc.length xs).S q\/W.heap.size<=q)/\q<w'.heap.size):=by
 induction l using zqD with
 | h l ih =>
 intro D W0 W v uo acc xs dJ hC dK hY dL dM;have hl:=hC.to zf dJ;obtain⟨av,cv,rfl⟩:=hl.form;have d6:=hl.max;have da:∀ q,(HE.row 72 10 uo acc.length xs).S q->¬ D q:=fun q h hd=>dL q hd h;refine zqr func75 O ntmps75 O (zrA 900 (.row 72 10 uo acc.length xs) (hY) trivial (fun _ h=>h) (fun q hq=>xB hY hq) (Vs 13 O (zrk 900 O (e':=.row 72 10 uo (acc++preL (l.take 0)).length xs) (by rw[show acc++preL (l.take 0)=acc from zu1 _]) (Vs 1 O (zrl (σ:=Nat × Value × List Value) [7,8] [] [] O (fun e ⟨i,u,ys⟩=>(9,.int .i64 i)::(1,u)::e) (fun e ⟨i,u,ys⟩=>(900,.row 72 10 u (acc++preL (l.take i)).length ys)::e) (fun⟨i,u,ys⟩=>i<=l.length/\EncS D W0 (acc++preL (l.take i)) ys) (fun⟨i,u,ys⟩=>l.length - i) (0,uo,xs) j2 j3 j1 j1 j1 ⟨zt6 _,by rw[show acc++preL (l.take 0)=acc from zu1 _];exact dK⟩ ?_)))));rintro⟨i,u,ys⟩ ⟨hi,dB⟩;refine Vs 6 O (zoE O (fun lt=>?_) (fun lt=>?_))
 .
  refine Vs 6 O (zrh 1000 0 i tO hl O O O (fun b_ d_ h_=>by have dN:=da _ h_;first | omega | exact dN d_) (fun x d7 d8 d9 db dc dC dO dD=>?_));obtain⟨dQ,dR,dS,dT,rfl,dg,dh,dl,dm⟩:=dD.get;obtain⟨dr,dt,rfl⟩:=dg.form;obtain⟨du,dw,rfl⟩:=dh.form;obtain⟨dx,dy,rfl⟩:=dl.form;obtain⟨dz,dA,rfl⟩:=dm.form;refine zqQ 1000 tR24 ts72 O dC tO _ rfl O ?_;have eb:=xC db;have ec:=x.size_eq;have dU:=ziq db;have ed:=yp (l.take i);have dV:=yp x.thn;have dW:=yp x.els;have dG:=hC.back zf dh;have dH:=hC.back zf dl;have dX:=hC.back zy dg;have dY:=hC.back zc dm;have dE:EncS D W0 (acc++preL (l.take i)++[x]) (ys++[.int .i64 x.act,.int .i64 x.cost,.int .i64 x.var,.int .i64 x.n,.int .i64 x.term.op,.int .i64 x.term.n,.slice dr x.term.kids.length dt,.slice du x.thn.length dw,.slice dx x.els.length dy,.slice dz x.bounds.length dA]):=dB.add (RSt.put dX dG dH dY) rfl;have dF:acc++preL (l.take i)++[x]++preL x.thn++preL x.els=acc++preL (l.take (i+1)):=by rw[dU,x.pre_eq];simp
  have dZ:ssize (l.take i)+(1+ssize x.thn+ssize x.els)<=ssize l:=tO;have ee:(acc++preL (l.take i)).length=acc.length+ssize (l.take i):=tD;refine Vs 1 O (V.alloc 6 tz72 O O (fun b6=>?_));refine Vs 7 O (zro 15 [(0,_)] tR24 ts72 tz72 tS O O tK (fun b15=>?_));refine zqV 900 15 tu24 Tryz.el72 O tS O O tO tO (fun u900=>(Vs 3 O (zrk 900 O (e':=.row 72 10 u900 (acc++preL (l.take i)++[x]).length (ys++[.int .i64 x.act,.int .i64 x.cost,.int .i64 x.var,.int .i64 x.n,.int .i64 x.term.op,.int .i64 x.term.n,.slice dr x.term.kids.length dt,.slice du x.thn.length dw,.slice dx x.els.length dy,.slice dz x.bounds.length dA])) tD (Vw [1000,6,15] [] O (Vd [0,1,2,3,4] 0 tK O O O (zr8 5 900 0 (E:=fun z:Value × List Value=>.row 72 10 z.1 (acc++preL (l.take i)++[x]++preL x.thn).length z.2) call75 O tK O O iF (fun w hI=>(ih x dc).1 D W0 w _ _ (acc++preL (l.take i)++[x]) _ dG (hC.keep hI.k0 (fun b hb=>hC.lt hb) (fun b hb hs=>da b hs hb)) dE (hI.at 900 O) UU tD) ?_))))));rintro u2 ⟨_,y2⟩ ⟨rfl,d5⟩;refine zr8 6 900 0 (E:=fun z:Value × List Value=>.row 72 10 z.1 (acc++preL (l.take i)++[x]++preL x.thn++preL x.els).length z.2) call75 O tK O O iF (fun w hI=>(ih x dc).2 D W0 w _ _ (acc++preL (l.take i)++[x]++preL x.thn) _ dH (hC.keep hI.k0 (fun b hb=>hC.lt hb) (fun b hb hs=>da b hs hb)) d5 (hI.at 900 O) UU tD) ?_;rintro u3 ⟨_,y3⟩ ⟨rfl,dI⟩;refine Vd [7] 0 tK O O O (VD.done tK (Va 6 O tO ?_));rw[dF]at dI;refine zrk 900 O (e':=.row 72 10 u3 (acc++preL (l.take (i+1))).length y3) tD (V.back ⟨i+1,u3,y3⟩ j2 j3 ⟨tO,dI⟩ tD 0 O O)
 obtain rfl:i=l.length:=tO;rw[zsW]at dB;refine zrk 900 O (e':=.row 72 10 u (acc++preL l).length ys) tD (Vs 12 O (zoV results75 O (fun w hI=>⟨_,rfl,⟨(u,ys),⟨rfl,dB⟩,hI.at 900 rfl,hI.k0,fun q hq=>hI.inS 0 900 O O hq⟩⟩)))
def kg (x:Nd) (q:Nat):List Int:=([x.next,x.other].take q).filter fun y=>decide (0<=y)
def jI (x:Nd):List Int:=kg x 2
theorem zeO (x:Nd) (q:Nat):(kg x q).length<=2:=by
 unfold kg;refine zsX (zuP _ _) ?_;rw[ztl];exact Nat.min_le_right _ _
def eds (x:Nd) (q:Nat):Int:=if q=0 then x.next else x.other
theorem zhp (x:Nd) (hq:q<2):kg x (q+1)=kg x q++if 0<=eds x q then [eds x q] else []:=by
 have h:q=0\/q=1:=tO;rcases h with rfl | rfl
 . by_cases h:0<=x.next<;>simp[kg,eds,h]
 by_cases h:0<=x.next<;>by_cases h2:0<=x.other<;>simp[kg,eds,h,h2]
theorem zmy (x:Nd) (hq:q<2):[Value.int .i64 x.next,Value.int .i64 x.other][((q:Int)).toNat]?=some (.int .i64 (eds x q)):=by
 have h:q=0\/q=1:=tO;rcases h with rfl | rfl<;>rfl
theorem mem_succ:y ∈ jI x ↔ 0<=y/\(x.next=y\/x.other=y):=by
 unfold jI kg;simp only[List.take,zv2,zt7,zvf,or_false,decide_eq_true_eq];constructor
 .
  rintro⟨h1 | h1,h2⟩
  . exact⟨h2,.inl h1.symm⟩
  exact⟨h2,.inr h1.symm⟩
 rintro⟨h2,h1 | h1⟩
 . exact⟨.inl h1.symm,h2⟩
 exact⟨.inr h1.symm,h2⟩
theorem zgy (x:Nd) (W:World) :
  Calls prog 76 #[.agg (xM x).toArray] W (Ret fun r w'=>SlR 1 zG (fun b=>W.heap.size<=b) w' r (jI x)/\Ext W w'):=by
 refine zqq func76 O ntmps76 O (V.inn (Vs 2 O (V.box 1 O O (fun b1=>?_))));refine Vs 15 O (zru [Value.int IntKind.i64 0,Value.int IntKind.i64 0] [(0,1),(1,1)] [(0,_),(1,_)] O O (fun _=>tK) (Vs 3 O (zqU 900 3 1 O (Vs 1 O (zrl (σ:=Nat × Value) [10] [] [] O (fun e ⟨q,u⟩=>(11,.int .i64 q)::(3,u)::e) (fun e ⟨q,u⟩=>(900,.row 3 1 u (kg x q).length ((kg x q).map zb))::e) (fun⟨q,u⟩=>q<=2) (fun⟨q,u⟩=>2 - q) (0,.slice none 0 0) j2 j3 j1 j1 j1 (zt6 _) ?_)))));rintro⟨q,u⟩ hq;have hl:=zeO x q;refine Vs 6 O (zoE O (fun lt=>?_) (fun lt=>?_))
 .
  have hC:q<2:=tO;have hY:=zhp x hC;refine Vs 6 O (zqh O (fun w hI=>zrQ tR169 ts3 tg3 O O tO (zmy x hC)) (Vs 9 O (zoE O (fun c=>?_) (fun c=>?_))))
  .
   rw[zt2 c]at hY;refine Vs 3 O (zro 18 [(0,_)] tR27 ts3 tz3 tS O O tK (fun b18=>?_));refine zqV 900 18 tu27 Tryz.el3 O tS O O tO tO (fun u900=>(Va 8 O tO (zrk 900 O (e':=.row 3 1 u900 (kg x (q+1)).length ((kg x (q+1)).map zb)) tD (V.back ⟨q+1,u900⟩ j2 j3 tO tD 0 O O))))
  rw[zt1 c,zu1]at hY;refine zrk 900 O (e':=.row 3 1 u (kg x (q+1)).length ((kg x (q+1)).map zb)) tD (Va 7 O tO (V.back ⟨q+1,u⟩ j2 j3 tO tD 0 O O))
 obtain rfl:q=2:=tO;refine Vs 12 O (zoV results76 O (fun w hI=>⟨_,rfl,zpK zb iA (hI.at 900 O) (fun g hg=>hI.own 900 0 O O g hg),hI.k0⟩))
end Go.Proofs.YtckdhgbepmpgiaaGreat
namespace Go.GL
def zfF (_ n:Nat) (us:List Value):List Value:=(List.replicate n us).flatten
theorem zdE {k n:Nat} (h:us.length=k):(zfF k n us).length=n*k:=by
 unfold zfF;induction n with
 | zero=>simp
 | succ n ih=>rw[zvo,zuu,zsZ,ih,h,zvX];omega
theorem zgz {k n:Nat} (h:us.length=k) (hi:i<n):((zfF k n us).drop (i*k)).take k=us:=by
 unfold zfF;induction n generalizing i with
 | zero=>omega
 | succ n ih =>
  rw[zvo,zuu];cases i with
  | zero=>rw[Nat.zero_mul,List.drop_zero,List.take_left' h]
  | succ i=>rw[zvX,zvG,<- zub,List.drop_left' h];exact ih tO
theorem zmz {k n:Nat} (h:us.length=k) (hj:j<n*k):(zfF k n us)[j]?=us[j % k]?:=by
 have hk:0<k:=tD;have h1:=zgz h (i:=j / k) (n:=n) ((Nat.div_lt_iff_lt_mul hk).2 hj);have h2:us[j % k]?=(((zfF k n us).drop (j / k*k)).take k)[j % k]?:=tD;rw[h2,zuI (Nat.mod_lt _ hk),zuz,Nat.mul_comm,Nat.div_add_mod]
theorem znF {k n:Nat} (hz:z.cells=us.toArray) (h:us.length=k):madeCells z.cells (n*k)=(zfF k n us).toArray:=by
 rw[hz];apply Array.ext
 . simp[madeCells,zdE h]
 intro i h1 h2;have hi:i<n*k:=by simpa[madeCells] using h1
 have:=zmz h (n:=n) hi;rw[zsR tO]at this;have hk:0<k:=tD;rw[zsR tD]at this;simp only[madeCells,List.getElem_toArray,List.size_toArray];have h3:=Option.some.inj this;rw[h3];simp[h,zsR (show i % k<us.length by grind)]
section
variable {n:Fm} {v:Value} {ty:TypeId} {ps:String} {g:Option (Nat × Bool)}
theorem zsb (is k j:Nat) {ts:TypeId} {x y:Operand} {o:Nat} (hY:∀ w,(sizeOf ts).run P w=.ok kk w) (hi:ops[is]?=some ⟨none,.store ts x y,ty,ps,aft,g⟩) (hr:Region.ready .any ops listed=[is])
  (hn:(gd ops env g,hget H k,ev env x,ev env y,L.contains is)=(some true,some (.own b cs e),some (.pointer (some ⟨b,o,none⟩)),some v,true)) (hv:v.cells=us.toArray) (hk:us.length=kk) (h1:∀ u ∈ us,u.oneCell'=true) (hj:o=j) (hl:j+kk<=cs.length)
  (h:VDx P n Q ks ops (VI B0 Hs) L fuel (listed.setIfInBounds is true) env A (hset H k (.own b (cs.take j++us++cs.drop (j+kk)) e)) Bs):VD P n Q ks ops Hs B0 L (fuel+1) listed env A H Bs:=by
 simp only[Prod.mk.injEq]at hn;subst hj;obtain⟨h2,h3,h4,h5,h6⟩:=hn;intro hH hA w hI;have hB:Blk w b cs e:=hI.at k h3;refine zrD is hi hr h2 h6 (zpu hY h4 h5 hv hk h1 hB hl) ?_;rintro w2 ⟨_,hC,da⟩;exact h (hA.set h3) w2 (hI.set h3 da hC trivial (fun _ h=>h) fun q hq=>⟨.inl hq,by have hq:q=b:=hq;rw[hq];exact hC.lt⟩)
end
section
variable {ty:TypeId} {pos:String} {g:Option (Nat × Bool)}
theorem M.bs0 {k:Nat} (hu:∀ w,(underlying t).run P w=.ok (.slice e) w) (hs:∀ w,(sizeOf e).run P w=.ok k w) :
  xd P ⟨dst,.buildSlice t 0 #[],ty,pos,aft,g⟩ env w (fun u w'=>∃ b,u=.slice (some ⟨b,0,none⟩) 0 0/\New w [] e b w'):=by
 refine⟨.slice (some ⟨w.heap.size,0,none⟩) 0 0,w.alloc (.cells #[] e),?_,_,rfl,New.mk w [] e⟩;intro n a ha;have h0:Array.range 0=#[]:=Array.eq_empty_of_size_eq_zero tR;simp[execOp,Instr.buildSlice,hu,hs,newRow,Instr.fill,h0]
end
end Go.GL
namespace Go.Proofs.YtckdhgbepmpgiaaGreat
open Go.GL
theorem zkZ (vs:List Vr) (k:Int) (vv:Value) (D:Nat->Prop) (w:World) (dt:SlR 5 RVr D w vv vs) (dI:vs.length<=1000000):Calls prog 85 #[vv,.int .i64 k] w (Ret fun r w'=>SlR 5 RVr (fun b=>w.heap.size<=b) w' r (zq k vs)/\Ext w w'):=by
 obtain⟨av,nv,rfl⟩:=dt.form;have dw:=dt;have hE:=Keep.refl (fun _=>False) w;refine zqr func85 O ntmps85 O (Gs 7 O (G.mem O O (M.bs0 tR22 ts142) ?_));rintro _ w0 ⟨b0,rfl,dz,dA,db,dc⟩;obtain⟨hE,dt⟩:=Tr2 dc hE dt;have dJ:w0.ownsRow 0 142 5 (.slice (some ⟨b0,0,none⟩) 0 0) 0 []:=zN (k:=5) (n:=0) (cap:=0) db (ztg _) tS rfl;refine Gs 10 O (G.loop (σ:=Nat × Value) (fun⟨i,vl⟩=>[(0,.slice av vs.length nv),(1,.int .i64 k),(5,vl),(6,.int .i64 i)]) (fun⟨i,vl⟩=>fun w'=>i<=vs.length/\w'.ownsRow 0 142 5 vl (zq k (vs.take i)).length ((zq k (vs.take i)).flatMap zgc)/\(∀ q,vl.ownBlock=some q->w.heap.size<=q)/\Ext w w') (fun⟨i,vl⟩=>vs.length - i) (0,.slice (some ⟨b0,0,none⟩) 0 0) j2 ⟨zt6 _,dJ,fun q hq=>by obtain rfl:b0=q:=Option.some.inj hq;omega,hE⟩ ?_);rintro⟨i,vl⟩ w2 ⟨hi,hY,dB,du⟩;have dx:=dw.ext yG du;refine Gs 9 O (zoD O (fun dK=>?_) (fun dK=>?_))
 .
  obtain⟨x,dg,dL⟩:=gE_ vs (i) tO;obtain⟨dM,dS,dT,dh,_,da,dl⟩:=dx.at dg;have dN:=RVr.one dl;obtain rfl:=dl;have dC:dM<_:=zsT _ _ (da 0 _ rfl);have dD:=zbN (k:=k) dg;have dO:=jU k (vs.take i);rw[ztl]at dO;refine Gs 8 O (zqg O O (zph tR22 ts142 O O dh tO) (Gs 1 O (zqk O tg100 (da 1 _ O) (Gs 4 O (zoD O (fun dy=>?_) (fun dy=>?_))))))
  .
   rw[zt2 dy]at dD;refine Gs 4 O (zqg O O (zph tR22 ts142 O O dh tO) (zqm O tg142 ts142 da O (G.mem O O (M.buildSlice (cs:=zgc x) [(0,_)] tR22 ts142 tz142 tS O tK) ?_)));rintro _ w5 ⟨b5,rfl,dE,dF,dm,hC⟩;have dr:=zj hY hC (fun _ _ h=>h);have dG:=du.ext hC;have dU:=dG.size;refine G.mem O O (M.append underlying22 Tryz.el142 O tS O O dr O (Cells.add dm.cells) (zge _) tO tO) ?_;rintro vl' w6 ⟨dH,dQ,dR,_⟩;refine Ga 9 O tO (G.back (i+1,vl') j2 ⟨tO,?_,?_,dG.trans dR (fun q hq h=>tD)⟩ tD)
   . grind
   grind
  rw[zt1 dy,zu1]at dD;refine Ga 8 O tO (G.back (i+1,vl) j2 ⟨tO,tD,dB,du⟩ tD)
 obtain rfl:i=vs.length:=tO;rw[zsW]at hY;refine Gs 12 O (zoU results85 O ⟨_,rfl,zpL tO zgc zgd J4 hY dB,du⟩)
end Go.Proofs.YtckdhgbepmpgiaaGreat
namespace Go.GL
theorem zgA {f:FuncId} {args:Array Value} (k:Nat) {n:Nat} (h:Calls P f args w (Ret fun r w'=>w'.ownsRow 0 t kk r n cs/\(∀ g,r.ownBlock=some g->w.heap.size<=g)/\Ext w w')):Calls P f args w (Ret fun r w'=>∃ x:Value,r=x/\Hands H [] [(k,.row t kk x n cs)] w w'):=by
 refine Calls.mono h ?_;rintro e' w' ⟨r,rfl,h1,h2,h3⟩;refine⟨r,rfl,r,rfl,h3.mono fun q _ hq=>hq.elim,fun y hy=>?_,zvk _ _⟩;rw[zt9]at hy;subst hy;exact UZ
end Go.GL
