/-
  Contracts and the mathematics that the proof needs. Nothing here is a claim.
-/
import Derived.Test.YtckdhgbepmpgiaaGreatKX5
namespace Go.Proofs.YtckdhgbepmpgiaaGreat
open Go.GL
theorem zeY (f:Fl) (v1 v2 v3:Value) (D:Nat->Prop) (w:World) (hf:RFl D w f v1 v2 v3) (dB:ssize f.body<=10000) :
  Calls Tryz.prog 33 #[.agg #[v1,v2,v3]] w (Ret fun r w'=>(∃ nv,r=.agg #[nv]/\SlR 4 RNd (fun b=>w.heap.size<=b) w' nv (zk f))/\Ext w w'):=by
 have dS:=xe f.body
 have dT:=jH f.body 0 1 (1+widL f.body)
 refine znk Tryz.func33 O Tryz.ntmps33 O (Gs 2 O (zmr O O (M.box O O) ?_))
 rintro _ w1 ⟨c,rfl,hc,dU,da,dr⟩
 refine zmr O O (M.alloc (cs:=[.slice none 0 0]) tz36 O) ?_
 rintro _ w2 ⟨r,rfl,hr,dV,hY,dt⟩
 replace da:=dt.blk da (fun h=>h)
 have du:=dr.ext dt
 refine Gs 5 O (zne O tg24 (da.cells 2 _ O) (G.call O tc66 (zaW f.body _ D w2 (hf.body.ext zd du) (by omega)) ?_))
 rintro _ w3 ⟨rfl,dc⟩
 replace da:=dc.blk da (fun h=>h)
 replace hY:=dc.blk hY (fun h=>h)
 have dw:=du.ext dc
 refine Ga 6 O (by omega) (zna O O (R.build (v:=.agg #[.int .i64 0,.int .i64 (-1),.int .i64 1,.int .i64 (-1)]) [(0,_),(1,_),(2,_),(3,_)] O (fun _=>by kernel_rfl)) (zmr O O (M.buildSlice (cs:=qY ⟨0,-1,1,-1⟩) [(0,_)] tR34 ts65 tz65 (by decide) O (by kernel_rfl)) ?_))
 rintro _ w4 ⟨g4,rfl,dW,dX,dC,de⟩
 replace da:=de.blk da (fun h=>h)
 replace hY:=de.blk hY (fun h=>h)
 have dx:=dw.ext de
 have dD:w4.ownsRow 0 65 4 (.slice (some ⟨g4,0,none⟩) 1 1) 1 (qY ⟨0,-1,1,-1⟩):=ye (k:=4) (n:=1) (cap:=1) dC (zpJ _) (by decide) rfl
 have dE:∀ g,Value.ownBlock (.slice (some ⟨g4,0,none⟩) 1 1)=some g->w.heap.size<=g:=fun g hg=>by
  obtain rfl:g4=g:=Option.some.inj hg
  have:=dw.size;omega
 refine Gs 7 O (zne O tg24 (da.cells 2 _ O) (Gs 1 O (G.call O Tryz.call67 (zl0 f.body _ D w4 0 1 (1+widL f.body) (hf.body.ext zd dx) dB (by omega) (by omega)) ?_)))
 rintro r5 w5 ⟨dF,dG,df⟩
 replace hY:=df.blk hY (fun h=>h)
 have dH:=dx.ext df
 have dg:=zm dD df (fun _ _ h=>h)
 refine zmr O O (znu tu34 Tryz.el65 O (by decide) O O dg dF (jt _) (by omega) (by omega)) ?_
 rintro v6 w6 ⟨dI,dJ,dy⟩
 obtain⟨dK,dh⟩:=js dH dE dy dJ dg
 replace hY:=zas dg dy hY (by decide)
 refine Gs 6 O (zna O O (R.build (v:=.agg #[.int .i64 1,.int .i64 (-1),.int .i64 (-1),.int .i64 (-1)]) [(0,_),(1,_),(2,_),(3,_)] O (fun _=>by kernel_rfl)) (zmr O O (M.buildSlice (cs:=qY ⟨1,-1,-1,-1⟩) [(0,_)] tR34 ts65 tz65 (by decide) O (by kernel_rfl)) ?_))
 rintro _ w7 ⟨g7,rfl,dY,dZ,dL,di⟩
 replace hY:=di.blk hY (fun h=>h)
 have dM:=dK.ext di
 have dk:=zm dI di (fun _ _ h=>h)
 refine zmr O O (M.append tu34 Tryz.el65 O (by decide) O O dk O (Cells.add dL.cells) (jC _) (by omega) (by omega)) ?_
 rintro v8 w8 ⟨dl,dN,dz,_⟩
 obtain⟨dO,dm⟩:=js dM dh dz dN dk
 replace hY:=zas dk dz hY (by decide)
 obtain⟨av,cv,rfl⟩:=xa dl
 refine zna O O (R.build (v:=.agg #[.slice av (1+(layL f.body 0 1 (1+widL f.body)).length+1) cv]) [(0,_)] O (fun _=>by kernel_rfl)) (zmw O (zmx ts36 O O O O (by simp[Value.oneCell']) hY (by simp)) ?_)
 rintro wf ⟨_,dQ,dA⟩
 have db:=zm dl dA (fun g hg h=>by
  obtain⟨cs',dR⟩:=yM dl hg
  exact dR.ne hY (by decide) h)
 refine Gs 3 O (zm3 Tryz.results33 O (zn tg36 ts36 O dQ.cells) ?_)
 refine⟨_,rfl,⟨_,rfl,?_⟩,dO.trans dA (fun q hq h=>by have h:q=r:=h;have:=dr.size;omega)⟩
 refine zmN (by decide) qY zY (fun _ _=>rfl) (n:=1+(layL f.body 0 1 (1+widL f.body)).length+1) (e:=65) ?_ dm
 unfold zk
 rw[zqP,zqO,zhA,<- zqy]
 exact db
def InE (ns:List Nd) (n e1 e2:Nat):Prop:=∀ x ∈ ns,∀ to,to=x.next\/to=x.other->to=-1\/to=(e1:Int)\/to=(e2:Int)\/((n:Int)<=to/\to<(n+ns.length:Nat))
structure LoopAt (ns:List Nd) (n j:Nat) (y:Nd) (E:Nat):Prop where
 pos:0<j
 lt:n+j<E
 le:E<=n+ns.length
 out:y.other<((n+j:Nat):Int)\/(E:Int)<=y.other
 only:∀ (i:Nat) x,ns[i]?=some x->∀ to,to=x.next\/to=x.other->((n+j:Nat):Int)<=to->to<(E:Int)->(j<=i/\n+i<E)\/(i+1=j/\x.kind=4/\to=((n+j:Nat):Int))
def Loops (ns:List Nd) (n:Nat):Prop:=∀ (j:Nat) y,ns[j]?=some y->y.kind=5->∃ E,LoopAt ns n j y E
theorem InE.append {A B:List Nd} {n e1 e2 f1 f2 g1 g2:Nat} (hA:InE A n e1 e2) (hB:InE B (n+A.length) f1 f2) (he:∀ e,e=e1\/e=e2->e=g1\/e=g2\/n+A.length<=e/\e<n+A.length+B.length) (hf:∀ e,e=f1\/e=f2->e=g1\/e=g2\/n<=e/\e<n+A.length):InE (A++B) n g1 g2:=by
 intro x hx to h
 rw[zps]
 have p1:=he e1 (.inl rfl)
 have p2:=he e2 (.inr rfl)
 have q1:=hf f1 (.inl rfl)
 have q2:=hf f2 (.inr rfl)
 rcases zpD.1 hx with hx | hx
 .
  have:=hA x hx to h
  omega
 have:=hB x hx to h
 omega
theorem Loops.append {A B:List Nd} {n e1 e2 f1 f2:Nat} (lA:Loops A n) (lB:Loops B (n+A.length)) (hA:InE A n e1 e2) (hB:InE B (n+A.length) f1 f2) (h1:∀ e,e=e1\/e=e2->e<=n+A.length\/n+A.length+B.length<=e) (h2:∀ e,e=f1\/e=f2->e<n\/n+A.length+B.length<=e):Loops (A++B) n:=by
 have p1:=h1 e1 (.inl rfl)
 have p2:=h1 e2 (.inr rfl)
 have q1:=h2 f1 (.inl rfl)
 have q2:=h2 f2 (.inr rfl)
 intro j y hy hk
 by_cases hj:j<A.length
 .
  rw[zpK hj]at hy
  obtain⟨E,p1,p2,p3,p4,p5⟩:=lA j y hy hk
  refine⟨E,p1,p2,by rw[zps];omega,p4,fun i x hx to h hl hu=>?_⟩
  by_cases hi:i<A.length
  .
   rw[zpK hi]at hx
   exact p5 i x hx to h hl hu
  rw[zpL (by omega)]at hx
  have:=hB x (zpl hx) to h
  omega
 rw[zpL (by omega)]at hy
 obtain⟨E,p1,p2,p3,p4,p5⟩:=lB _ y hy hk
 refine⟨E,by omega,by omega,by rw[zps];omega,by omega,fun i x hx to h hl hu=>?_⟩
 by_cases hi:i<A.length
 .
  rw[zpK hi]at hx
  have:=hA x (zpl hx) to h
  omega
 rw[zpL (by omega)]at hx
 rcases p5 _ x hx to h (by omega) hu with h | h
 . exact .inl (by omega)
 exact .inr ⟨by omega,h.2.1,by omega⟩
theorem zp2 {x:Nd} {n:Nat} (h:x.kind ≠ 5):Loops [x] n:=by
 intro j y hy hk
 cases j with
 | zero=>simp at hy;subst hy;exact absurd hk h
 | succ j=>simp at hy
theorem zd7 {l:List St} (h:l.isEmpty=false):1<=widL l:=by
 cases l with
 | nil=>simp at h
 | cons s t=>have:=s.wid_eq;simp only[widL];omega
theorem zhB (l:List St):plainL l=true->∀ a n e:Nat,(e<n\/n+widL l<=e)->InE (layL l a n e) n e e/\Loops (layL l a n e) n:=by
 induction l using znx with
 | h l ih =>
 intro hp
 have key:∀ r:List St,(∀ x ∈ r,x ∈ l)->∀ a n e:Nat,(e<n\/n+widL r<=e)->InE (layL r a n e) n e e/\Loops (layL r a n e) n:=by
  intro r
  induction r with
  | nil=>intro _ a n e _;exact⟨fun x hx=>by simp[layL]at hx,fun j y hy=>by simp[layL]at hy⟩
  | cons s r ihr =>
   intro hm a n e de
   have hs:=yV hp s (hm s (zpo ..))
   have hr:plainL r=true:=zbp fun y hy=>yV hp y (hm y (zpn _ hy))
   have df:=hs
   rw[s.plainB_eq,zpW,zpW]at hs
   have h1:=(ih s (hm s (zpo ..))).1 hs.1.2
   have h2:=(ih s (hm s (zpo ..))).2 hs.2
   have hw:=s.wid_eq
   simp only[widL]at de
   have dc:=zX r hr (a+s.size) (n+s.wid) e
   have hY:(s.lay a n (if r.isEmpty then e else n+s.wid)).length=s.wid:=by
    have h1:=zX [s] (by rw[plainL,df];rfl) a n (if r.isEmpty then e else n+s.wid)
    simpa[layL,widL] using h1
   obtain⟨r1,r2⟩:=ihr (fun y hy=>hm y (zpn _ hy)) (a+s.size) (n+s.wid) e (by omega)
   rw[layL]
   have dg:(if r.isEmpty then e else n+s.wid)=e\/(if r.isEmpty then e else n+s.wid)=n+s.wid/\1<=widL r:=by
    cases hre:r.isEmpty
    . exact .inr ⟨by simp,zd7 hre⟩
    exact .inl (by simp)
   generalize (if r.isEmpty then e else n+s.wid)=e' at hY dg
   have dh:e'<n\/n+s.wid<=e':=by omega
   have hS:InE (s.lay a n e') n e' e'/\Loops (s.lay a n e') n:=by
    rw[s.lay_eq]at hY ⊢
    split
    .
     rename_i a3
     rw[zpv a3]at hY
     rw[zpu (show ¬ s.act=4 by omega)]at hw
     obtain⟨t1,t2⟩:=h1 (a+1) (n+1) e' (by omega)
     obtain⟨u1,u2⟩:=h2 (a+1+ssize s.thn) (n+1+widL s.thn) e' (by omega)
     have da:=zX s.thn hs.1.2 (a+1) (n+1) e'
     have di:=zX s.els hs.2 (a+1+ssize s.thn) (n+1+widL s.thn) e'
     generalize hb:layL s.thn (a+1) (n+1) e'=B at t1 t2 da ⊢
     generalize hc:layL s.els (a+1+ssize s.thn) (n+1+widL s.thn) e'=C at u1 u2 di ⊢
     have hT:∀ m1 m2:Nat,m1=(if s.thn.isEmpty then e' else n+1)->m2=(if s.els.isEmpty then e' else n+1+widL s.thn)->InE [(⟨3,a,if s.thn.isEmpty then (e':Int) else (n+1:Nat),if s.els.isEmpty then (e':Int) else (n+1+widL s.thn:Nat)⟩:Nd)] n m1 m2/\(m1=e'\/m1=n+1/\1<=widL s.thn)/\(m2=e'\/m2=n+1+widL s.thn/\1<=widL s.els):=by
      rintro m1 m2 rfl rfl
      refine⟨fun x hx to h=>?_,?_,?_⟩
      .
       rw[zpC]at hx
       subst hx
       dsimp only at h
       rcases h with rfl | rfl
       . exact .inr (.inl (by split<;>rfl))
       exact .inr (.inr (.inl (by split<;>rfl)))
      .
       cases ht:s.thn.isEmpty
       . exact .inr ⟨by simp,zd7 ht⟩
       exact .inl (by simp)
      cases ht:s.els.isEmpty
      . exact .inr ⟨by simp,zd7 ht⟩
      exact .inl (by simp)
     obtain⟨k1,k2,k3⟩:=hT _ _ rfl rfl
     generalize (if s.thn.isEmpty then e' else n+1)=m1 at k1 k2
     generalize (if s.els.isEmpty then e' else n+1+widL s.thn)=m2 at k1 k3
     generalize dk:(⟨3,a,if s.thn.isEmpty then (e':Int) else (n+1:Nat),if s.els.isEmpty then (e':Int) else (n+1+widL s.thn:Nat)⟩:Nd)=x0 at k1 ⊢
     have k0:x0.kind ≠ 5:=by rw[<- dk];intro h;cases h
     have s1:InE ([x0]++B) n e' m2:=InE.append k1 t1 (by simp only[zpF];omega) (by omega)
     have s2:Loops ([x0]++B) n:=Loops.append (zp2 k0) t2 k1 t1 (by simp only[zpF];omega) (by simp only[zpF];omega)
     have db:([x0]++B).length=1+widL s.thn:=by rw[zps,da];rfl
     have u1':InE C (n+([x0]++B).length) e' e':=by rw[db,show n+(1+widL s.thn)=n+1+widL s.thn by omega];exact u1
     have u2':Loops C (n+([x0]++B).length):=by rw[db,show n+(1+widL s.thn)=n+1+widL s.thn by omega];exact u2
     exact⟨InE.append s1 u1' (by rw[db];omega) (by omega),Loops.append s2 u2' s1 u1' (by rw[db];omega) (by rw[db];omega)⟩
    rename_i a3
    split
    .
     rename_i a4
     rw[zpu a3,zpv a4]at hY
     rw[zpv a4]at hw
     obtain⟨t1,t2⟩:=h1 (a+1) (n+2) (n+1) (by omega)
     have da:=zX s.thn hs.1.2 (a+1) (n+2) (n+1)
     have dl:(if s.thn.isEmpty then ((n+1:Nat):Int) else (n+2:Nat))=(n+1:Nat)\/(if s.thn.isEmpty then ((n+1:Nat):Int) else (n+2:Nat))=(n+2:Nat)/\1<=widL s.thn:=by
      cases ht:s.thn.isEmpty
      . exact .inr ⟨by simp,zd7 ht⟩
      exact .inl (by simp)
     generalize layL s.thn (a+1) (n+2) (n+1)=B at t1 t2 da hY ⊢
     generalize (if s.thn.isEmpty then ((n+1:Nat):Int) else (n+2:Nat))=m at dl ⊢
     refine⟨fun x hx to h=>?_,fun j y hy hk=>?_⟩
     .
      rw[zpN,zpN,da]
      rcases zpA.1 hx with rfl | hx
      . dsimp only at h;omega
      rcases zpA.1 hx with rfl | hx
      . dsimp only at h;omega
      have:=t1 x hx to h;rw[da]at this;omega
     match j with
     | 0=>simp at hy;subst hy;cases hk
     | 1 =>
      simp at hy
      subst hy
      refine⟨n+2+widL s.thn,by omega,by omega,by rw[zpN,zpN,da];omega,by dsimp only;omega,fun i x hx to h hl hu=>?_⟩
      match i with
      | 0=>simp at hx;subst hx;dsimp only at h;exact .inr ⟨rfl,rfl,by omega⟩
      | i+1 =>
       have:=(zpy.1 hx).1
       rw[zpN,zpN,da]at this
       exact .inl (by omega)
     | j+2 =>
      rw[List.getElem?_cons_succ,List.getElem?_cons_succ]at hy
      obtain⟨E,p1,p2,p3,p4,p5⟩:=t2 j y hy hk
      rw[da]at p3
      refine⟨E,by omega,by omega,by rw[zpN,zpN,da];omega,by omega,fun i x hx to h hl hu=>?_⟩
      match i with
      | 0=>simp at hx;subst hx;dsimp only at h;omega
      | 1=>simp at hx;subst hx;dsimp only at h;omega
      | i+2 =>
       rw[List.getElem?_cons_succ,List.getElem?_cons_succ]at hx
       rcases p5 i x hx to h (by omega) hu with h | h
       . exact .inl (by omega)
       exact .inr ⟨by omega,h.2.1,by omega⟩
    rename_i a4
    refine⟨fun x hx to h=>?_,zp2 (fun h=>by cases h)⟩
    rw[zpC]at hx
    subst hx
    dsimp only at h
    omega
   exact⟨InE.append hS.1 (by rw[hY];exact r1) (by rw[hY,dc];omega) (by omega),Loops.append hS.2 (by rw[hY];exact r2) hS.1 (by rw[hY];exact r1) (by rw[hY,dc];omega) (by rw[hY,dc];omega)⟩
 exact key l (fun x h=>h)
theorem zkl (f:Fl) (hs:List Int) (x:Nd) (s:St) (σ:Sg) (rd:Int->Int):(yZ f hs x s σ rd).1=x.next\/(yZ f hs x s σ rd).1=x.other:=by
 unfold yZ
 split
 . exact .inl O
 split
 . exact .inl O
 split
 . exact .inl O
 split
 . exact .inr O
 dsimp only;split
 . exact .inl O
 exact .inr O
structure OnWalk (f:Fl) (r:Ins) (K i:Nat) (n:Nat) (x:Nd):Prop where
 at_:(yR f r i).at_=(n:Int)
 nd:(zk f)[n]?=some x
 go:i<K->yR f r (i+1)=⟨(yZ f (yc f r) x (zW f x.at_) (yR f r i).σ (yR f r i).rd).1,(yZ f (yc f r) x (zW f x.at_) (yR f r i).σ (yR f r i).rd).2.1,(yZ f (yc f r) x (zW f x.at_) (yR f r i).σ (yR f r i).rd).2.2⟩/\(x.kind=0\/x.kind=2\/x.kind=3\/x.kind=4\/x.kind=5)
 fin:i=K->n+1=(zk f).length/\x.kind=1
theorem zhC {f:Fl} {r:Ins} (vd:Valid f) {K:Nat} (hg:GoesAll f r K) {i:Nat} (hi:i<=K):∃ n x,OnWalk f r K i n x:=by
 have hY:=yI f vd.plain
 rcases zrU i K with h | h
 .
  have h3:0<=(yR f r i).at_/\(yR f r i).at_<((zk f).length:Int) - 1:=by
   obtain⟨_,_,h2⟩:=hg
   exact h2 i h
  obtain⟨h4,h5⟩:=vd.node h3.1 h3.2
  refine⟨(yR f r i).at_.toNat,_,by omega,h4,fun _=>⟨?_,h5.kind⟩,fun h'=>by omega⟩
  rw[show yR f r (i+1)=jJ f (yc f r) (zk f) (yR f r i) from zcj _ _ _ _ _]
  rfl
 obtain rfl:i=K:=by omega
 obtain⟨_,h1,_⟩:=hg
 have da:yR f r i=_:=h1
 refine⟨(zk f).length - 1,⟨1,-1,-1,-1⟩,by rw[da];dsimp only;omega,?_,fun h'=>by omega,fun _=>⟨by omega,rfl⟩⟩
 obtain⟨x,hx⟩:∃ x,(zk f)[(zk f).length - 1]?=some x:=⟨_,zpk (by omega)⟩
 rw[hx,(zkg vd hx).1 (by omega)]
theorem zkm {f:Fl} {r:Ins} (vd:Valid f) {K:Nat} (hg:GoesAll f r K):1<=K/\K<=8193:=by
 obtain⟨K',rd',hK,hY⟩:=vd.walk (yc f r) (zg3 f r)
 obtain rfl:=hg.unique ⟨rd',hY⟩
 refine⟨?_,hK⟩
 cases K with
 | zero =>
  obtain⟨_,h1,_⟩:=hg
  have da:yR f r 0=_:=h1
  have h2:(yR f r 0).at_=((zk f).length:Int) - 1:=by rw[da]
  have h3:(yR f r 0).at_=0:=rfl
  have:=yI f vd.plain
  omega
 | succ K=>omega
theorem Valid.away {f:Fl} (V:Valid f) {i:Nat} {x:Nd} (hx:(zk f)[i]?=some x):(∀ to,to=x.next\/to=x.other->to=-1\/1<=to)/\(x.kind=0->i=0):=by
 obtain⟨k1,_⟩:=zhB f.body V.plain 0 1 (1+widL f.body) (.inr (zpJ _))
 unfold zk at hx
 cases i with
 | zero=>simp at hx;subst hx;exact⟨fun to h=>by dsimp only at h;omega,fun _=>rfl⟩
 | succ i =>
  rw[List.getElem?_cons_succ]at hx
  rcases zpD.1 (zpl hx) with hm | hm
  .
   refine⟨fun to h=>by have:=k1 x hm to h;omega,fun h=>?_⟩
   have:=kU _ _ _ _ x hm
   omega
  rw[zpC]at hm
  subst hm
  exact⟨fun to h=>by dsimp only at h;omega,fun h=>by (cases h)⟩
end Go.Proofs.YtckdhgbepmpgiaaGreat
namespace Go.GL
theorem zfG {w:World} {e:TypeId} {k b n:Nat} {xs:List Value} (h:w.ownsRow 0 e k (.slice (some ⟨b,0,none⟩) n n) n xs):Blk w b xs e:=by
 obtain⟨h1,h2⟩:=h
 rcases h2 with⟨h2,_⟩ | ⟨b',cap,cur,hv,_,hg,hc,da,db,hY⟩
 . cases h2
 cases hv
 have:cur.toList=xs:=by rw[<- hY,zrF (by rw[zpS];omega)]
 unfold Blk
 rw[<- this]
 simpa using hg
end Go.GL
namespace Go.Proofs.YtckdhgbepmpgiaaGreat
open Go.GL
theorem zeg {α:Type} {l:List α} {k:Nat} {x y:α} (hx:l[k]?=some x):y ∈ l.take (k+1) ↔ y ∈ l.take k\/y=x:=by
 rw[zrC,hx]
 simp
theorem zhD (l:List Int) (x:Int) (v:Value) (D:Nat->Prop) (W:World) (hv:SlR 1 zC D W v l):Calls Tryz.prog 91 #[v,.int .i64 x] W (Ret fun r w'=>(∃ i:Int,r=.int .i64 i/\(0<=i ↔ x ∈ l))/\Ext W w'):=by
 obtain⟨av,cv,rfl⟩:=hv.form
 have dg:=hv.max
 refine znl Tryz.func91 O Tryz.ntmps91 O (znE (Vs 14 O (zoe (σ:=Nat) [0,1,7] [] [] O (fun e k=>(8,.int .i64 k)::e) (fun e k=>e) (fun k=>k<=l.length/\x ∉ l.take k) (fun k=>l.length - k) (0) (Sub.of O) (Has.of O) (fun _=>rfl) (fun _=>rfl) (fun _=>rfl) (⟨zpz _,by simp⟩) ?_)))
 rintro k ⟨hk,hn⟩
 refine Vs 6 O (zlG O (fun df=>?_) (fun df=>?_))
 .
  refine Vs 15 O ?_
  obtain⟨y,hY,da⟩:=gE_ l (k) (by omega)
  obtain⟨dh,di,dk,db,_,dc,de⟩:=hv.at hY
  obtain rfl:=de
  refine zoa 1000 0 O O dc ?_
  refine znN 1000 tR27 ts3 O db (by omega) (_) (rfl) O (Vs 4 O (zlG O (fun he=>?_) (fun he=>?_)))
  . refine Vs 12 O (zlW Tryz.results91 O (fun w hI=>⟨_,rfl,⟨_,rfl,by rw[he];exact⟨fun _=>da,fun _=>by omega⟩⟩,hI.k0⟩))
  refine Va 7 O (by omega) (V.back (k+1) (Sub.of O) (Has.of O) (⟨by omega,fun h=>((zeg hY).1 h).elim hn he⟩) (by first | omega | (dsimp only;omega)) 0 O O)
 have:k=l.length:=by omega
 subst this
 rw[zpp]at hn
 refine Vs 11 O (zlW Tryz.results91 O (fun w hI=>⟨_,rfl,⟨_,rfl,⟨fun h=>by omega,fun h=>absurd h hn⟩⟩,hI.k0⟩))
theorem zeh (l:List Int) (x:Int) (v:Value) (D:Nat->Prop) (W:World) (hv:SlR 1 zC D W v l):Calls Tryz.prog 77 #[v,.int .i64 x] W (Ret fun r w'=>r=.bool (decide (x ∈ l))/\Ext W w'):=by
 refine znl Tryz.func77 O Tryz.ntmps77 O (znE (Vs 9 O (zo1 Tryz.call91 O (fun w hI=>zhD l x v D w (Tr1 hI.k0 hv)) ?_)))
 rintro r w1 w2 db hY ⟨i,rfl,hi⟩ da
 refine Vs 5 O (zlW Tryz.results77 O (fun w hI=>⟨_,rfl,by simp[hi],hI.k1⟩))
structure PrOk (f:Fl) (g:List Nd):Prop where
 at_:∀ x ∈ g,x.at_<((preL f.body).length:Int)
 to:∀ x ∈ g,∀ y ∈ zee x,y<(g.length:Int)
def zdh (g:List Nd) (i:Nat) (S:List Int) (n:Nat):List Int:=List.map (fun y:Nat=>(y:Int)) (((List.range i).filter fun y:Nat=>decide ((xL g y).next=(n:Int)\/(xL g y).other=(n:Int)))++(if (n:Int) ∈ S then [i] else []))
def zaH (g:List Nd) (i:Nat) (S:List Int):List (List Int):=(List.range g.length).map (zdh g i S)
theorem zaX (g:List Nd) (i:Nat) (S:List Int):(zaH g i S).length=g.length:=by simp[zaH]
theorem zd8 {g:List Nd} {i n:Nat} {S:List Int} (h:n<g.length):(zaH g i S)[n]?=some (zdh g i S n):=by unfold zaH;rw[zpB,List.getElem?_range h];rfl
theorem zj8 (g:List Nd) (i:Nat) (S:List Int) (n:Nat):(zdh g i S n).length<=i+1:=by
 unfold zdh
 rw[zpE,zps]
 refine Nat.add_le_add (zpq (zqZ _ _) (by rw[zr0];exact zpJ _)) ?_
 split<;>simp
theorem zfH (g:List Nd) (i n:Nat):zdh g i [] n=List.map (fun y:Nat=>(y:Int)) ((List.range i).filter fun y:Nat=>decide ((xL g y).next=(n:Int)\/(xL g y).other=(n:Int))):=by
 unfold zdh
 rw[zpu (zrm),zqz]
theorem zj9 {g:List Nd} {i n:Nat} {S:List Int}:(i:Int) ∈ zdh g i S n ↔ (n:Int) ∈ S:=by
 unfold zdh
 rw[zrf]
 constructor
 .
  rintro⟨y,hy,e⟩
  obtain rfl:y=i:=by omega
  rcases zpD.1 hy with hy | hy
  . have:=zrj.1 (zrc.1 hy).1;omega
  split at hy
  . assumption
  cases hy
 intro h
 exact⟨i,zpD.2 (.inr (by rw[zpv h];exact zpC.2 O)),rfl⟩
theorem zja {g:List Nd} {i n:Nat} {S:List Int} (h:(n:Int) ∉ S):zdh g i (S++[(n:Int)]) n=zdh g i S n++[(i:Int)]:=by
 unfold zdh
 rw[zpu h,zpv (by simp),zqz,zr3];rfl
theorem zei {g:List Nd} {i n:Nat} {S:List Int} {t:Int} (h:t ≠ (n:Int)\/t ∈ S):zdh g i (S++[t]) n=zdh g i S n:=by
 have:(n:Int) ∈ S++[t] ↔ (n:Int) ∈ S:=by
  rw[zpD,zpC]
  constructor
  .
   rintro (h1 | h1)
   . exact h1
   rcases h with h | h
   . exact absurd h1.symm h
   rw[h1];exact h
  exact .inl
 unfold zdh
 by_cases h2:(n:Int) ∈ S
 . rw[zpv h2,zpv (this.2 h2)]
 rw[zpu h2,zpu (fun e=>h2 (this.1 e))]
theorem zhE {g:List Nd} {i:Nat} {S:List Int} {t:Int} (h:t ∈ S):zaH g i (S++[t])=zaH g i S:=by
 unfold zaH
 exact zr4 fun n _=>zei (.inr h)
theorem zjb {g:List Nd} {i n:Nat} {S:List Int} (hn:n<g.length) (h:(n:Int) ∉ S):(zaH g i S).set n (zdh g i S n++[(i:Int)])=zaH g i (S++[(n:Int)]):=by
 apply zqK
 intro j
 rw[List.getElem?_set]
 by_cases hj:j<g.length
 .
  rw[zd8 (S:=S++[(n:Int)]) hj]
  by_cases e:n=j
  .
   subst e
   rw[zpv rfl,zpv (by rw[zaX];exact hn),zja h]
  rw[zpu e,zd8 hj,zei (.inl (by omega))]
 rw[zpI (by rw[zaX];omega),zpI (by rw[zaX];omega)]
 split
 . rename_i e;subst e;rw[zpu (by rw[zaX];omega)]
 rfl
theorem zhF {g:List Nd} {i:Nat} {x:Nd} (h:g[i]?=some x):zaH g i (zee x)=zaH g (i+1) []:=by
 unfold zaH
 refine zr4 fun n _=>?_
 rw[zfH,zrs,zqL]
 unfold zdh
 refine congrArg (List.map _) (congrArg (List.append _) ?_)
 have hx:=zbJ h
 have hm:(n:Int) ∈ zee x ↔ (x.next=(n:Int)\/x.other=(n:Int)):=by rw[mem_succ];exact⟨fun h=>h.2,fun h=>⟨by omega,h⟩⟩
 by_cases hs:(n:Int) ∈ zee x
 . rw[zpv hs,zqN (by rw[hx];simpa using hm.1 hs)];rfl
 rw[zpu hs,zqM (by rw[hx];simpa using fun e=>hs (hm.2 e))];rfl
theorem zhG (g:List Nd):zaH g 0 []=List.replicate g.length []:=by
 unfold zaH
 apply zqK
 intro j
 by_cases hj:j<g.length
 . rw[zpB,List.getElem?_range hj,List.getElem?_replicate,zpv hj];simp[zdh]
 rw[zpI (by simp;omega),zpI (by simp;omega)]
theorem zjc (g:List Nd):zaH g g.length []=zeU g:=by
 unfold zaH zeU
 refine zr4 fun n _=>?_
 rw[zfH];rfl
def zeZ (f:Fl) (g:List Nd) (i:Nat):List St:=(g.take i).map (stN f)++List.replicate (g.length - i) zkI
def st0:List Value:=[.int .i64 0,.int .i64 0,.int .i64 0,.int .i64 0,.int .i64 0,.int .i64 0,.slice none 0 0,.slice none 0 0,.slice none 0 0,.slice none 0 0]
theorem zfI {f:Fl} {g:List Nd} {i:Nat} (h:i<=g.length):(zeZ f g i).length=g.length:=by unfold zeZ;rw[zps,zpE,zpO,zr1];omega
theorem zjd {f:Fl} {g:List Nd} {i:Nat} {x:Nd} (h:g[i]?=some x):(zeZ f g i).set i (stN f x)=zeZ f g (i+1):=by
 have hl:=(zpy.1 h).1
 unfold zeZ
 rw[ze h,zrw _ _ (by rw[zpE,zpO];omega),zpE,zpO,show i - min i g.length=0 by omega,show g.length - i=(g.length - (i+1))+1 by omega,zrt]
 simp
theorem zhH {f:Fl} {g:List Nd} {i:Nat} {x:Nd} (h:g[i]?=some x) (hn:x.at_<0):zeZ f g i=zeZ f g (i+1):=by
 have hl:=(zpy.1 h).1
 unfold zeZ
 rw[ze h,show g.length - i=(g.length - (i+1))+1 by omega,zrt]
 have:stN f x=zkI:=by unfold stN;rw[zpu (by omega)]
 simp[this]
theorem EncS.set {D:Nat->Prop} {w:World} {l:List St} {xs us:List Value} {x:St} {i:Nat} (h:EncS D w l xs) (hx:RSt D w x us) (hu:us.length=10) (hi:i<l.length):EncS D w (l.set i x) (xs.take (i*10)++us++xs.drop (i*10+10)):=by
 have h1:=h.1
 refine⟨by simp only[zps,zpO,zqX,zr2];omega,fun j y hy=>?_⟩
 rw[List.getElem?_set]at hy
 have hY:(xs.take (i*10)).length=i*10:=by rw[zpO];omega
 by_cases e:i=j
 .
  subst e
  rw[zpv rfl,zpv hi]at hy
  obtain rfl:=Option.some.inj hy
  rw[zqy,List.drop_left' hY,List.take_left' hu]
  exact hx
 rw[zpu e]at hy
 have da:=h.2 j y hy
 have db:=(zpy.1 hy).1
 have key:((xs.take (i*10)++us++xs.drop (i*10+10)).drop (j*10)).take 10=(xs.drop (j*10)).take 10:=by
  apply zqK
  intro q
  rw[zpQ,zpQ]
  split
  .
   rename_i hq
   rw[List.getElem?_drop,List.getElem?_drop]
   by_cases dc:j<i
   . rw[zqy,zpK (by omega),List.getElem?_take_of_lt (by omega)]
   rw[zpL (by rw[zps];omega),zps,hY,hu,List.getElem?_drop]
   congr 1;omega
  rfl
 rw[key]
 exact da
theorem EncS.zero {D:Nat->Prop} {w:World} (n:Nat):EncS D w (List.replicate n zkI) (zeX 10 n st0):=by
 refine⟨by rw[zaV (k:=10) rfl,zr1],fun i x hx=>?_⟩
 rw[List.getElem?_replicate]at hx
 split at hx
 .
  rename_i hi
  obtain rfl:=Option.some.inj hx
  rw[zfF (k:=10) rfl hi]
  exact RSt.put (s:=zkI) SlR.nil SlR.nil SlR.nil SlR.nil
 cases hx
def zly (D0:Nat->Prop) (W0:World):Rel St:=fun _ _ x cs=>RSt D0 W0 x cs
theorem zgc (D0:Nat->Prop) (W0:World):zR (zly D0 W0):=fun _ _ _ _ _ _ _ _ h=>h
theorem zhI (l:List St) (D:Nat->Prop) (W0 W:World) (v:Value) (hl:SlR 10 RSt D W0 v l) (he:EqD D W0 W) (hs:ssize l<=1000000) :
  Calls Tryz.prog 75 #[v,.slice none 0 0] W (Ret fun r w'=>SlR 10 (zly D W0) (fun q=>W.heap.size<=q) w' r (preL l)/\Ext W w'):=by
 refine Calls.mono (zj6 l D W0 W v (.slice none 0 0) [] [] hl he EncS.nil (jS _ _ _) (fun q _ h=>by cases h) (by simpa using zpq hs (by omega))) ?_
 rintro e w' ⟨r,rfl,⟨u,xs⟩,⟨rfl,hx⟩,ho,hk,hY⟩
 simp only[zrk]at hx ho hY
 refine⟨_,rfl,OwnR.sl (e:=72) (D:=fun _=>False) ⟨xs,ho,hx.2⟩ (by decide) (zgc _ _) (fun q h=>h.elim) (fun g hg=>?_),hk.mono fun q _ h=>by cases h⟩
 exact((hY g hg).1).elim (fun h=>by cases h) id
theorem zje {w:World} {e:TypeId} (n:Nat):RowsOk zc e w (List.replicate n (.slice none 0 0)) (List.replicate n []):=by
 refine⟨by simp,fun i v r hv hr=>?_,fun i j vi vj g _ hi hj h=>?_⟩
 .
  rw[List.getElem?_replicate]at hv hr
  split at hv
  .
   rename_i h
   rw[zpv h]at hr
   obtain rfl:=Option.some.inj hv
   obtain rfl:=Option.some.inj hr
   exact jS _ _ _
  cases hv
 rw[List.getElem?_replicate]at hi
 split at hi
 .
  obtain rfl:=Option.some.inj hi
  cases h
 cases hi
@[simp] theorem zln (n:Nat):(zeX 10 n st0).length=n*10:=zaV rfl
theorem grS {f:Fl} {g:List Nd} {D:Nat->Prop} {W w:World} {b:Nat} {ys:List Value} (_:∀ q,D q->q<W.heap.size) (hy:EncS D W (g.map (stN f)) ys) (hE:Ext W w) (hB:Blk w b ys 72) (hb:W.heap.size<=b) (hN:g.length<=100000):SlR 10 RSt (fun q=>D q\/(W.heap.size<=q/\q<w.heap.size)) w (.slice (some ⟨b,0,none⟩) g.length g.length) (g.map (stN f)):=by
 have hl:=hy.1
 have ho:=ye (k:=10) (n:=g.length) (cap:=g.length) hB (zpJ _) (by omega) (by rw[hl,zpE])
 rw[zrF (by rw[hl,zpE];exact zpJ _)]at ho
 have hO:OwnR 72 10 RSt D w (.slice (some ⟨b,0,none⟩) g.length g.length) (g.map (stN f)):=⟨ys,by rw[zpE];exact ho,fun i x hx=>zd D D W w (fun _ h=>h) (fun q hq hl=>hE.block q hl (fun h=>h)) x _ (hy.2 i x hx)⟩
 exact hO.sl (by decide) zd (fun q h=>.inl h) fun q h=>by cases h;exact .inr ⟨hb,hB.lt⟩
theorem grP {g:List Nd} {D:Nat->Prop} {W w:World} {b:Nat} {rv:List Value} (hY:rv.length=g.length) (hR:RowsOk zc 3 w rv (zeU g)) (hB:Blk w b rv 27) (hb:W.heap.size<=b) (hN:g.length<=100000) (hq:∀ q,(∃ (i:Nat) (v:Value),rv[i]?=some v/\v.ownBlock=some q)->W.heap.size<=q):SlR 1 (RSl 1 zC) (fun q=>D q\/(W.heap.size<=q/\q<w.heap.size)) w (.slice (some ⟨b,0,none⟩) g.length g.length) (zeU g):=by
 have hl:(zeU g).length=g.length:=by simp[zeU]
 have ho:=ye (k:=1) (n:=g.length) (cap:=g.length) hB (zpJ _) (by omega) (by rw[hY,zrY])
 rw[zrF (by rw[hY,zrY];exact zpJ _)]at ho
 exact zbP (by rw[hl];exact ho) hR (fun q h=>by cases h;exact .inr ⟨hb,hB.lt⟩) fun i u q h1 h2=>.inr ⟨hq q ⟨i,u,h1,h2⟩,hR.blk h1 h2⟩
theorem yU (f:Fl) (g:List Nd) (hp:PrOk f g) (hN:g.length<=100000) (en:ssize f.body<=100000) (v1 v2 v3 gv:Value) (D:Nat->Prop) (W:World) (hf:RFl D W f v1 v2 v3) (hg:SlR 4 RNd D W gv g) (hD:∀ q,D q->q<W.heap.size) :
  Calls Tryz.prog 37 #[.agg #[v1,v2,v3],.agg #[gv]] W (Ret fun r w'=>(∃ b,r=.pointer (some ⟨b,0,none⟩)/\GrO (fun q=>D q\/(W.heap.size<=q/\q<w'.heap.size)) w' f g b)/\Ext W w'):=by
 have d7:=hg
 have dA:=hf
 obtain⟨ag,cg,rfl⟩:=hg.form
 have eo:=hg.max
 obtain⟨a1,c1,rfl⟩:=hf.vars.form
 obtain⟨a2,c2,rfl⟩:=hf.hatches.form
 obtain⟨a3,c3,rfl⟩:=hf.body.form
 have ep:=yk f.body
 refine znl Tryz.func37 O Tryz.ntmps37 O (znE (Vs 2 O (V.box 2 O O (fun b2=>?_))))
 refine V.box 3 O O (fun b3=>(Vs 4 O (zof (σ:=Nat × Nat × Nat) [2,3] [2,3] [2,3] O (fun e ⟨b17,b21,b23⟩=>(5,.pointer (some ⟨b23,0,none⟩))::e) (fun e ⟨b17,b21,b23⟩=>(17,.row 72 10 (.slice (some ⟨b17,0,none⟩) g.length g.length) g.length (zeX 10 g.length st0))::(21,.row 27 1 (.slice (some ⟨b21,0,none⟩) g.length g.length) g.length (List.replicate g.length (.slice none 0 0)))::(23,.own b23 [.slice a1 f.vars.length c1,.slice a2 f.hatches.length c2,.slice a3 f.body.length c3,.slice ag g.length cg,.slice (some ⟨b17,0,none⟩) g.length g.length,.slice (some ⟨b21,0,none⟩) g.length g.length] 113)::e) (fun⟨b17,b21,b23⟩=>True) (fun _=>rfl) (fun _=>rfl) ?_ ?_)))
 .
  refine Vw [2,3] [] O (Vd [0,1,2,3,4,5,7,8,9] 0 (by kernel_rfl) O O O (zov 6 10 17 21 0 tu24 Tryz.el72 tu89 Tryz.el27 O (by kernel_rfl) O O O O (⟨by omega,by omega,by omega,by omega⟩) ((by exact zkZ (us:=st0) O O:madeCells _ _=(zeX 10 g.length st0).toArray)) ((by exact qa _ _ O:madeCells _ _=(List.replicate g.length (Value.slice none 0 0)).toArray)) (by simp) (fun b17=>?_) (fun b21=>?_)))
  .
   refine zmA 10 21 0 tu89 Tryz.el27 O (by kernel_rfl) O O (by omega) (by omega) ((by exact qa _ _ O:madeCells _ _=(List.replicate g.length (Value.slice none 0 0)).toArray)) (by simp) (fun b21=>(zom 11 [Value.slice none 0 0,Value.slice none 0 0,Value.slice none 0 0,Value.slice none 0 0,Value.slice none 0 0,Value.slice none 0 0] [(0,3),(3,1),(4,1),(5,1)] [(0,_),(1,_),(2,_),(3,_)] O (by kernel_rfl) O O (fun _=>by kernel_rfl) (znK 12 23 0 O (by kernel_rfl) O O (fun _ _=>M.box O O) (fun b23=>?_))))
   refine Vd [13] 0 (by kernel_rfl) O O O (VD.done (by kernel_rfl) (zlT (⟨b17,b21,b23⟩) (Sub.of O) (Has.of O) (trivial) 0 O O))
  refine zmA 6 17 0 tu24 Tryz.el72 O (by kernel_rfl) O O (by omega) (by omega) ((by exact zkZ (us:=st0) O O:madeCells _ _=(zeX 10 g.length st0).toArray)) (by simp) (fun b17=>(zom 11 [Value.slice none 0 0,Value.slice none 0 0,Value.slice none 0 0,Value.slice none 0 0,Value.slice none 0 0,Value.slice none 0 0] [(0,3),(3,1),(4,1),(5,1)] [(0,_),(1,_),(2,_),(3,_)] O (by kernel_rfl) O O (fun _=>by kernel_rfl) (znK 12 23 0 O (by kernel_rfl) O O (fun _ _=>M.box O O) (fun b23=>?_))))
  refine Vd [13] 0 (by kernel_rfl) O O O (VD.done (by kernel_rfl) (zlT (⟨b17,b21,b23⟩) (Sub.of O) (Has.of O) (trivial) 0 O O))
 rintro⟨b17,b21,b23⟩ _
 show V _ _ _ _ _ ((5,.pointer (some ⟨b23,0,none⟩))::_) _ ((17,.row 72 10 (.slice (some ⟨b17,0,none⟩) g.length g.length) g.length (zeX 10 g.length st0))::(21,.row 27 1 (.slice (some ⟨b21,0,none⟩) g.length g.length) g.length (List.replicate g.length (.slice none 0 0)))::(23,.own b23 [.slice a1 f.vars.length c1,.slice a2 f.hatches.length c2,.slice a3 f.body.length c3,.slice ag g.length cg,.slice (some ⟨b17,0,none⟩) g.length g.length,.slice (some ⟨b21,0,none⟩) g.length g.length] 113)::_) _
 refine znL 5 23 0 O O (zoq 17 (e':=.own b17 (zeX 10 g.length st0) 72) O (fun w hI=>zfG (hI.at 17 O)) (trivial) (fun _ h=>h) (fun q (hq:q=b17)=>by subst hq;rfl) (zoq 21 (e':=.own b21 (List.replicate g.length (.slice none 0 0)) 27) O (fun w hI=>zfG (hI.at 21 O)) (trivial) (fun _ h=>h) (fun q (hq:q=b21)=>by subst hq;rfl) (znR 902 3 1 O (zoq 902 (e':=RowsP zc 3 (List.replicate g.length (.slice none 0 0)) (zaH g 0 [])) O (fun w hI=>by rw[zhG];exact zje _) RowsP.loc (fun _ h=>h) (fun q hq=>by obtain⟨i,u,h,h2⟩:=hq;rw[List.getElem?_replicate]at h;split at h<;>cases h;cases h2) ?_))))
 generalize hL:preL f.body=L at *
 refine Vs 5 O (zo1 Tryz.call75 O (fun w hI=>(hL ▸ zhI f.body D W w _ dA.body (EqD.keep (EqD.refl hD) hI.k0 hD (fun _ _ h=>h)) (by omega))) ?_)
 rintro rr w1 w2 er d8 dC dD
 obtain⟨ast,cst,rfl⟩:=dC.form
 have d9:=dC.max
 refine Vs 13 O (zoe (σ:=Nat × List Value × List Value) [5,6,28,29] [23] [5] O (fun e ⟨i,ys,rv⟩=>(30,.int .i64 i)::e) (fun e ⟨i,ys,rv⟩=>(17,.own b17 ys 72)::(21,.own b21 rv 27)::(902,RowsP zc 3 rv (zaH g i []))::e) (fun⟨i,ys,rv⟩=>i<=g.length/\EncS D W (zeZ f g i) ys/\rv.length=g.length) (fun⟨i,ys,rv⟩=>g.length - i) ((0,zeX 10 g.length st0,List.replicate g.length (.slice none 0 0))) (Sub.of O) (Has.of O) (fun _=>rfl) (fun _=>rfl) (fun _=>rfl) (⟨zpz _,by simp only[zeZ,zrI,zr7,zrk,Nat.sub_zero];exact EncS.zero _,by simp⟩) ?_)
 rintro⟨i,ys,rv⟩ ⟨hi,dr,dm⟩
 show V _ _ _ _ _ ((30,.int .i64 i)::_) _ ((17,.own b17 ys 72)::(21,.own b21 rv 27)::(902,RowsP zc 3 rv (zaH g i []))::_) _
 refine Vs 6 O (zlG O (fun lt=>?_) (fun lt=>?_))
 .
  refine Vs 7 O ?_
  obtain⟨x,hY,dt⟩:=gE_ g (i) (by omega)
  obtain⟨eu,ew,ey,dE,_,dF,dG⟩:=hg.at hY
  obtain rfl:=dG
  refine zoa 1000 1 O O dF ?_
  refine znN 1000 tR34 ts65 O dE (by omega) (_) (rfl) O ?_
  have ea:=hp.at_ x dt
  rw[hL]at ea
  have dH:=dr.1
  rw[zfI hi]at dH
  refine Vs 1 O (V.alloc 8 tz65 O O (fun b8=>?_))
  refine Vs 5 O (zof (σ:=List Value) [5,6,7,8,28,29,30] [8,23,902] [5,8] O (fun e ys=>e) (fun e ys=>(17,.own b17 ys 72)::(21,.own b21 rv 27)::e) (fun ys=>EncS D W (zeZ f g (i+1)) ys) (fun _=>rfl) (fun _=>rfl) ?_ ?_)
  .
   refine Vs 7 O (zlG O (fun c0=>?_) (fun c0=>?_))
   .
    have dZ:0<=x.at_:=c0
    obtain⟨k,hk⟩:∃ k:Nat,x.at_=(k:Int):=⟨x.at_.toNat,by omega⟩
    obtain⟨s,du,eb⟩:=gE_ L (k) (by omega)
    obtain⟨ez,eA,eC,dI,dJ,dK,da⟩:=dC.atD du
    obtain⟨ec,ed,ee,ef,rfl,dL,dM,dN,dO⟩:=da.get
    obtain⟨db,dc,rfl⟩:=dL.form
    obtain⟨de,df,rfl⟩:=dM.form
    obtain⟨dg,dh,rfl⟩:=dN.form
    obtain⟨di,dk,rfl⟩:=dO.form
    refine zob 2000 0 O O (fun h_=>by have dQ:=dD _ h_;have dR:=dJ;first | omega | exact dQ dR) dK (Vw [23,17,21,1000,8,2000] [11] O (Vd [0,1,2,3,4,5,6,7] 0 (by kernel_rfl) O O O (znO 8 2000 tR24 ts72 O (by kernel_rfl) O dI (by omega) (k) (by omega) O (Vd [9] 0 (by kernel_rfl) O O O (zon 10 O (by kernel_rfl) O (fun w=>zmh tR24 ts72 O O O (by omega)) (zp0 11 17 (i*10) (us:=[.int .i64 s.act,.int .i64 s.cost,.int .i64 s.var,.int .i64 s.n,.int .i64 s.term.op,.int .i64 s.term.n,.slice db s.term.kids.length dc,.slice de s.thn.length df,.slice dg s.els.length dh,.slice di s.bounds.length dk]) ts72 O (by kernel_rfl) O (rfl) O (RSt.one da) (by omega) (by omega) ?_))))))
    have eg:stN f x=s:=by unfold stN;rw[zpv dZ,hk];exact zh1 (hL ▸ du)
    have dS:EncS D W (zeZ f g (i+1)) (ys.take (i*10)++[.int .i64 s.act,.int .i64 s.cost,.int .i64 s.var,.int .i64 s.n,.int .i64 s.term.op,.int .i64 s.term.n,.slice db s.term.kids.length dc,.slice de s.thn.length df,.slice dg s.els.length dh,.slice di s.bounds.length dk]++ys.drop (i*10+10)):=by
     rw[<- zjd hY,eg]
     exact dr.set da O (by rw[zfI hi];omega)
    refine VDx.done (by kernel_rfl) (zlT (ys.take (i*10)++[.int .i64 s.act,.int .i64 s.cost,.int .i64 s.var,.int .i64 s.n,.int .i64 s.term.op,.int .i64 s.term.n,.slice db s.term.kids.length dc,.slice de s.thn.length df,.slice dg s.els.length dh,.slice di s.bounds.length dk]++ys.drop (i*10+10)) (Sub.of O) (Has.of O) (dS) 0 O O)
   have dZ:¬ 0<=x.at_:=c0
   have dS:EncS D W (zeZ f g (i+1)) ys:=by rw[<- zhH hY (by omega)];exact dr
   refine Vs 1 O (zlT (ys) (Sub.of O) (Has.of O) (dS) 0 O O)
  rintro ys dT
  generalize hS:zee x=S
  have eD:S.length<=2:=by rw[<- hS];exact zef x 2
  have eh:∀ y ∈ S,0<=y/\y<(g.length:Int):=fun y hy=>by
   rw[<- hS]at hy
   exact⟨(mem_succ.1 hy).1,hp.to x dt y hy⟩
  refine Vs 4 O (zo1 Tryz.call76 O (fun w hI=>zj7 x w) ?_)
  rintro rs w3 w4 eE ei dB dw
  rw[hS]at dB
  obtain⟨asu,csu,rfl⟩:=dB.form
  have ej:=dB.max
  refine Vs 4 O (zod 902 O (e':=RowsP zc 3 rv (zaH g i (S.take 0))) (by rw[zrI]) (Vs 1 O (zoe (σ:=Nat × List Value) [5,6,7,28,29,30,50,51] [23] [5] O (fun e ⟨q,rv⟩=>(52,.int .i64 q)::e) (fun e ⟨q,rv⟩=>(17,.own b17 ys 72)::(21,.own b21 rv 27)::(902,RowsP zc 3 rv (zaH g i (S.take q)))::e) (fun⟨q,rv⟩=>q<=S.length/\rv.length=g.length) (fun⟨q,rv⟩=>S.length - q) ((0,rv)) (Sub.of O) (Has.of O) (fun _=>rfl) (fun _=>rfl) (fun _=>rfl) (⟨zpz _,dm⟩) ?_)))
  rintro⟨q,rv⟩ ⟨hq,dm⟩
  show V _ _ _ _ _ ((52,.int .i64 q)::_) _ ((17,.own b17 ys 72)::(21,.own b21 rv 27)::(902,RowsP zc 3 rv (zaH g i (S.take q)))::_) _
  refine Vs 6 O (zlG O (fun lq=>?_) (fun lq=>?_))
  .
   refine Vs 6 O ?_
   obtain⟨y,dx,dU⟩:=gE_ S (q) (by omega)
   obtain⟨eF,eG,eH,dV,dW,dX,dY⟩:=dB.atD dx
   obtain rfl:=dY
   refine zob 3000 0 O O (fun h_=>by have dQ:=dw _ h_;have dR:=dW;first | omega | exact dQ dR) dX ?_
   refine znN 3000 tR27 ts3 O dV (by omega) (_) (rfl) O ?_
   obtain⟨ek,eI⟩:=eh y dU
   obtain⟨n,rfl⟩:=zqg ek
   have d5:n<g.length:=by omega
   have d6:=ze dx
   obtain⟨u,hu⟩:∃ u,rv[n]?=some u:=⟨_,zpk (by omega)⟩
   have dy:=zd8 (i:=i) (S:=S.take q) d5
   have em:=zj8 g i (S.take q) n
   have dz:=zj9 (g:=g) (i:=i) (n:=n) (S:=S.take q)
   refine Vs 11 O (znb O (fun w hI=>zmh tR89 ts27 O O O (by omega)) (znb O (fun w hI=>R.load tg27 O (znP (hI.at 21 O) hu)) (Vs 1 O (znZ Tryz.call77 O (fun w hI=>zeh (zdh g i (S.take q) n) i _ (fun _=>True) w (zj4 (hI.at 902 O) hu dy)) (znb O (fun w hI=>zmT O (by first | exact za | rfl)) (Vs 2 O (zlG O (fun m=>?_) (fun m=>?_))))))))
   .
    refine Vw [23,17,21,3000] [16] O (Vd [0,1,2,3,4,5,6,7,8,9,12] 0 (by kernel_rfl) O O O (zon 10 O (by kernel_rfl) O (fun w=>zmh tR89 ts27 O O O (by omega)) (zor 11 O (by kernel_rfl) O 0 O O (fun w hI=>R.load tg27 O (znP (hI.at 21 O) hu)) (VD.bs 13 79 0 [(0,_)] tR27 ts3 tz3 (by decide) O (by kernel_rfl) O O (by kernel_rfl) (fun b79=>?_)))))
    refine zot 14 902 79 0 (n) tu27 Tryz.el3 O O (by kernel_rfl) O O (hu) (dy) (by omega) (fun u902 dl=>(zon 15 O (by kernel_rfl) O (fun w=>zmh tR89 ts27 O O O (by omega)) (zou 16 21 (n) ts27 O (by kernel_rfl) O (dl) (by omega) (by omega) (VDx.done (by kernel_rfl) (Vs 2 O (zod 902 O (e':=RowsP zc 3 (rv.set n u902) (zaH g i (S.take (q+1)))) (by rw[d6,<- zjb d5 (fun h=>m (dz.2 h))]) (Va 4 O (by omega) (V.back (⟨q+1,rv.set n u902⟩) (Sub.of O) (Has.of O) (⟨by omega,by rw[zr2];exact dm⟩) (by first | omega | (dsimp only;omega)) 0 O O))))))))
   have m:=zpt.1 m
   refine zod 902 O (e':=RowsP zc 3 rv (zaH g i (S.take (q+1)))) (by rw[d6,zhE (dz.1 m)]) (Va 7 O (by omega) (V.back (⟨q+1,rv⟩) (Sub.of O) (Has.of O) (⟨by omega,dm⟩) (by first | omega | (dsimp only;omega)) 0 O O))
  obtain rfl:q=S.length:=by omega
  refine zod 902 O (e':=RowsP zc 3 rv (zaH g (i+1) [])) (by rw[zpp,<- hS,zhF hY]) (Va 10 O (by omega) (V.back (⟨i+1,ys,rv⟩) (Sub.of O) (Has.of O) (⟨by omega,dT,dm⟩) (by first | omega | (dsimp only;omega)) 1 O O))
 obtain rfl:i=g.length:=by omega
 rw[show zeZ f g g.length=g.map (stN f) by simp[zeZ]]at dr
 refine Vs 12 O (zlW Tryz.results37 O (fun w hI=>⟨_,rfl,⟨b23,rfl,_,_,_,_,_,_,.inr ⟨hI.own 23 1 O O b23 rfl,(show Blk _ _ _ _ from hI.at 23 O).lt⟩,Blk.cells (hI.at 23 O),⟨(dA.vars.keep xD hI.k1 (fun _ _ _ h=>h)).wide xD (fun _ h=>.inl h),(dA.hatches.keep xE hI.k1 (fun _ _ _ h=>h)).wide xE (fun _ h=>.inl h),(dA.body.keep zd hI.k1 (fun _ _ _ h=>h)).wide zd (fun _ h=>.inl h)⟩,(d7.keep zH hI.k1 (fun _ _ _ h=>h)).wide zH (fun _ h=>.inl h),grS hD dr hI.k1 (hI.at 17 O) (hI.own 17 1 O O b17 O) hN,grP dm (zjc g ▸ hI.at 902 O) (hI.at 21 O) (hI.own 21 1 O O b21 O) hN (fun q hq=>hI.own 902 1 O O q hq)⟩,hI.k1⟩))
theorem Valid.ends {f:Fl} (V:Valid f) {i:Nat} {x:Nd} (hx:(zk f)[i]?=some x):(x.at_<0->x.kind=0\/x.kind=1)/\(0<=x.at_->x.at_<((preL f.body).length:Int)):=by
 have hY:=yI f V.plain
 have hi:=(zpy.1 hx).1
 by_cases hl:i<(zk f).length - 1
 .
  obtain⟨h1,h2⟩:=V.node (k:=(i:Int)) (by omega) (by omega)
  rw[zpG,hx]at h1
  have e:=Option.some.inj h1
  rw[<- e]at h2
  by_cases k0:x.kind=0
  .
   obtain rfl:=(V.away hx).2 k0
   unfold zk at hx
   rw[List.getElem?_cons_zero]at hx
   obtain rfl:=Option.some.inj hx
   exact⟨fun _=>.inl rfl,fun h=>by simp at h⟩
  obtain⟨h3,h4,_⟩:=h2.step k0
  have:=(zpy.1 h4).1
  exact⟨fun h=>by omega,fun _=>by omega⟩
 obtain rfl:i=(zk f).length - 1:=by omega
 have da:=zX f.body V.plain 0 1 (1+widL f.body)
 unfold zk at hx
 rw[zpN,zps,zpF,Nat.add_sub_cancel,List.getElem?_cons_succ,zpL (zpJ _),zs0]at hx
 obtain rfl:(⟨1,-1,-1,-1⟩:Nd)=x:=by simpa using hx
 exact⟨fun _=>.inr rfl,fun h=>by simp at h⟩
theorem Valid.prOk {f:Fl} (V:Valid f):PrOk f (zk f):=by
 refine⟨fun x hx=>?_,fun x hx y hy=>?_⟩
 .
  obtain⟨i,hi⟩:=zre.1 hx
  have:=(V.ends hi).2
  by_cases h:0<=x.at_
  . exact this h
  omega
 obtain⟨i,hi⟩:=zre.1 hx
 obtain⟨h0,h1⟩:=mem_succ.1 hy
 exact((V.edge hi).1 y (h1.elim (fun e=>.inl e.symm) (fun e=>.inr e.symm))).2
theorem zgd {l:List Tm} (h:∀ k ∈ l,(yz k).length<=k.nodes):(mentL l).length<=tnodes l:=by
 induction l with
 | nil=>simp[mentL]
 | cons k r ih =>
  have h1:=h k (zpo ..)
  have h2:=ih fun x hx=>h x (zpn _ hx)
  rw[mentL,zps,tnodes];omega
theorem zge (t:Tm):(yz t).length<=t.nodes:=by
 induction t using znv with
 | h t ih =>
  rw[zaS,zps,t.nodes_eq]
  have:=zgd ih
  have h2:(if t.op=24 then [t.n] else []).length<=1:=by split<;>simp
  omega
theorem Valid.gOk {f:Fl} (V:Valid f):GOk f (zk f):=fun i x hx=>by
 obtain⟨h1,h2⟩:=V.ends hx
 refine⟨h1,fun h=>⟨h2 h,?_⟩⟩
 have hg:=jG h (h2 h)
 have hn:=zdT f.body _ (zpl hg)
 have hs:=V.size
 have ht:=zge (zW f x.at_).term
 rw[St.nodes_eq]at hn
 omega
noncomputable def yq (f:Fl) (g:List Nd) (s:Sf):Int:=by
 classical
 exact if yD f g ≠ 0 then yD f g else if RightF f g s (rdV f g) then 0 else 13
section
variable {f:Fl} {g:List Nd} {s:Sf}
theorem sc_g (h:yD f g ≠ 0):yq f g s=yD f g:=by unfold yq;rw[zpv h]
theorem zf0 (h:¬ yD f g ≠ 0) (hr:¬ RightF f g s (rdV f g)):yq f g s=13:=by unfold yq;rw[zpu h,zpu hr]
theorem zhJ (h:¬ yD f g ≠ 0) (hr:RightF f g s (rdV f g)):yq f g s=0:=by unfold yq;rw[zpu h,zpv hr]
theorem zhK (h:yq f g s=0):yD f g=0/\RightF f g s (rdV f g):=by
 unfold yq at h
 split at h
 . contradiction
 rename_i h0
 split at h
 . rename_i h1;exact⟨zpt.1 h0,h1⟩
 cases h
theorem ki (h:¬ yD f g ≠ 0):yj f=0/\g=zk f:=by
 unfold yD at h
 split at h
 . contradiction
 rename_i h0
 split at h
 . rename_i h1;exact⟨zpt.1 h0,h1.symm⟩
 exact absurd (by decide) h
theorem zhL (da:OfF f s) (hY:s.nodes.length=g.length) (hn:∀ (n:Nat) x,s.nodes[n]?=some x->NodF f g s (rdV f g) n x) (h1:∀ k:Nat,f.vars.length<=k->k<s.of_.length->(qy f g s).count (k:Int)=1) (hu:jR f g s):RightF f g s (rdV f g):=⟨⟨da,hY,hn,h1⟩,hu.1,hu.2⟩
end
theorem zjf {P:Prop} {q:Bool} (h:q=true ↔ P):q=@decide P (Classical.propDecidable P):=by
 by_cases hp:P
 . rw[@zpw P (Classical.propDecidable P) hp];exact h.2 hp
 rw[@zpx P (Classical.propDecidable P) hp]
 cases q with
 | true=>exact absurd (h.1 rfl) hp
 | false=>rfl
theorem za2 {p:Program} {n:FuncId} {a:Array Value} {W:World} {P:Prop} (h:Calls p n a W (Ret fun r w'=>(∃ q:Bool,r=.bool q/\(q=true ↔ P))/\Ext W w')):Calls p n a W (Ret fun r w'=>r=.bool (@decide P (Classical.propDecidable P))/\Ext W w'):=by
 refine Calls.mono h ?_
 rintro e w' ⟨r,rfl,⟨q,rfl,hq⟩,hE⟩
 exact⟨_,rfl,by rw[zjf hq],hE⟩
end Go.Proofs.YtckdhgbepmpgiaaGreat
namespace Go.GL
theorem zl1 {P:Program} {f:FuncId} {args:Array Value} {w:World} {H:Hp} {k:Nat} {e:HE} {α:Type} {E:α->HE} {Φ:Value->α->Prop} (hg:hget H k=some e) (hE:∀ x,(E x).loc/\∀ b,¬ (E x).fz b) (h:Calls P f args w (Ret fun r w'=>∃ x,Φ r x/\(E x).holds w'/\Keep e.S w w'/\∀ q,(E x).S q->(e.S q\/w.heap.size<=q)/\q<w'.heap.size)):Calls P f args w (Ret fun r w'=>∃ x,Φ r x/\Hands H [k] [(k,E x)] w w'):=by
 refine Calls.mono h ?_
 rintro e' w' ⟨r,rfl,x,h1,h2,h3,h4⟩
 have hY:∀ q,e.S q->InS H [k] q:=fun q hq=>⟨(k,e),zr hg,by simp[zfS,],hq⟩
 refine⟨r,rfl,x,h1,h3.mono fun q _ hq=>hY q hq,fun y hy=>?_,zrq _ _⟩
 rw[zpC]at hy
 subst hy
 exact⟨h2,(hE x).1,(hE x).2,fun q hq=>⟨(h4 q hq).1.imp (hY q) id,(h4 q hq).2⟩⟩
end Go.GL
namespace Go.Proofs.YtckdhgbepmpgiaaGreat
open Go.GL
attribute [local instance 1] Classical.propDecidable
theorem za3 (f:Fl) (g:List Nd) (s:Sf) (dm:snodes f.body+zA f.hatches<=1024) (dr:sbulk f.body<=1000000) (dg:s.of_.length<=1000000/\(LP s g.length).length<=1000000) (v1 v2 v3 gv ofv nodv:Value) (D:Nat->Prop) (W:World) (hf:RFl D W f v1 v2 v3) (hg:SlR 4 RNd D W gv g) (hS:RSf D W s ofv nodv) (hD:∀ q,D q->q<W.heap.size) :
  Calls Tryz.prog 16 #[.agg #[v1,v2,v3],.agg #[gv],.agg #[ofv,nodv]] W (Ret fun r w'=>r=.int .i64 (yq f g s)/\Ext W w'):=by
 have dt:=hf
 have du:=hg
 have df:=hS
 obtain⟨ag,cg,rfl⟩:=hg.form
 obtain⟨an,cn,rfl⟩:=hS.nodes.form
 obtain⟨ao,co,rfl⟩:=hS.of_.form
 have dA:=hS.nodes.max
 have dB:=hg.max
 refine znm Tryz.func16 O Tryz.ntmps16 O (znE (Vs 2 O (V.box 3 O O (fun b3=>?_))))
 refine V.box 4 O O (fun b4=>(V.box 5 O O (fun b5=>?_)))
 refine Vs 8 O (znZ Tryz.call36 O (fun w hI=>zeN f g _ _ _ _ D D w (Tr1 hI.k0 dt) (Tr1 hI.k0 du) dm dr) (Vs 9 O (zlG O (fun c0=>?_) (fun c0=>?_))))
 . refine Vs 8 O (zlW tr16 O (fun w hI=>⟨_,rfl,by rw[sc_g c0],hI.k0⟩))
 obtain⟨dy,dh⟩:=ki c0
 have vd:Valid f:=⟨dy,dm,dr⟩
 have hk:GOk f g:=by rw[dh];exact vd.gOk
 have hp:PrOk f g:=by rw[dh];exact vd.prOk
 have dw:=vd.lens
 have dC:=vd.ssize
 have di:1<=g.length/\g.length<=8000:=by
  have h1:=yI f vd.plain
  have h2:=xe f.body
  rw[dh];omega
 refine Vs 3 O (Vw [3,4,5] [] O (Vd [0,1,3] 0 (by kernel_rfl) O O O (zo2 2 0 tc37 O (by kernel_rfl) O O (fun w hI=>yU f g hp (by omega) (by omega) _ _ _ _ D w (Tr1 hI.k0 dt) (Tr1 hI.k0 du) (fun q hq=>zrT (hD q hq) (Keep.size hI.k0))) ?_)))
 rintro gp w1 w2 dc dk ⟨gb,rfl,hG⟩ hY
 have dx:∀ q,(D q\/(w1.heap.size<=q/\q<w2.heap.size))->q<w2.heap.size:=fun q hq=>by
  have h1:w1.heap.size<=w2.heap.size:=dk.size
  have h2:W.heap.size<=w1.heap.size:=dc.k0.size
  rcases hq with hq | hq
  . have:=hD q hq;omega
  omega
 refine zom 4 [Value.pointer none,Value.slice none 0 0,Value.slice none 0 0,Value.slice none 0 0,Value.slice none 0 0] [(0,1),(1,2),(3,1),(4,1)] [(0,_),(1,_)] O (by kernel_rfl) O O (fun _=>by kernel_rfl) (znK 5 20 1 O (by kernel_rfl) O O (fun _ _=>M.box O O) (fun b20=>?_))
 refine Vd [6] 1 (by kernel_rfl) O O O (VD.done (by kernel_rfl) (Vs 5 O (znZ Tryz.call38 O (fun w hI=>za2 (ze9 f g s b20 gb _ _ _ _ D (fun q=>D q\/(w1.heap.size<=q/\q<w2.heap.size)) w (Blk.cells (hI.at 20 O)) (Tr1 hI.k1 df.of_) (hG.keep hI.k0 (fun q hq _ hs=>by have h1:=hY q hs;have h2:=dc.hsE 0 O hs;rcases hq with hq | hq;(· have:=hD q hq;omega);omega)))) (znb O (fun w hI=>zmT O (by first | exact za | rfl)) (Vs 1 O (V.sp 24 O (fun n1=>?_) (fun n1=>?_)))))))
 .
  have hb:¬ RightF f g s (rdV f g):=fun h=>n1 h.of_
  refine Vs 33 O (zlW tr16 O (fun w hI=>⟨_,rfl,by rw[zf0 c0 hb],hI.k1⟩))
 have dl:OfF f s:=Classical.not_not.1 n1
 refine Vs 9 O (V.sp 33 O (fun n2=>?_) (fun n2=>?_))
 .
  have hb:¬ RightF f g s (rdV f g):=fun h=>by have:=h.len;omega
  refine Vs 24 O (zlW tr16 O (fun w hI=>⟨_,rfl,by rw[zf0 c0 hb],hI.k1⟩))
 have da:s.nodes.length=g.length:=by omega
 refine Vs 1 O (znZ Tryz.call39 O (fun w hI=>za2 (zga f g s hk da b20 gb _ _ _ _ D (fun q=>D q\/(w1.heap.size<=q/\q<w2.heap.size)) w (Blk.cells (hI.at 20 O)) (Tr1 hI.k1 df) (hG.keep hI.k0 (fun q hq _ hs=>by have h1:=hY q hs;have h2:=dc.hsE 0 O hs;rcases hq with hq | hq;(· have:=hD q hq;omega);omega)))) (znb O (fun w hI=>zmT O (by first | exact za | rfl)) (Vs 2 O (V.sp 38 O (fun n3=>?_) (fun n3=>?_)))))
 .
  have hb:¬ RightF f g s (rdV f g):=fun h=>n3 h.nod
  refine Vs 19 O (zlW tr16 O (fun w hI=>⟨_,rfl,by rw[zf0 c0 hb],hI.k1⟩))
 have db:=Classical.not_not.1 n3
 refine Vs 1 O (znZ Tryz.call40 O (fun w hI=>za2 (ziZ f g s (rdV f g) da db dl.len dg b20 gb _ _ _ _ D (fun q=>D q\/(w1.heap.size<=q/\q<w2.heap.size)) w (Blk.cells (hI.at 20 O)) (Tr1 hI.k1 df) (hG.keep hI.k0 (fun q hq _ hs=>by have h1:=hY q hs;have h2:=dc.hsE 0 O hs;rcases hq with hq | hq;(· have:=hD q hq;omega);omega)))) (znb O (fun w hI=>zmT O (by first | exact za | rfl)) (Vs 2 O (V.sp 43 O (fun n4=>?_) (fun n4=>?_)))))
 .
  have hb:¬ RightF f g s (rdV f g):=fun h=>n4 h.one
  refine Vs 14 O (zlW tr16 O (fun w hI=>⟨_,rfl,by rw[zf0 c0 hb],hI.k1⟩))
 have de:=Classical.not_not.1 n4
 have dz:FormF f g s (rdV f g):=⟨dl,da,db,de⟩
 refine Vs 1 O (zoz [20] (Hn:=fun x:Value × Bool=>[(20,.own b20 (chk gb (.slice ao s.of_.length co) (.slice an s.nodes.length cn) x.1 (.slice none 0 0)) 97)]) [(3,some (3,0)),(4,some (4,0)),(5,some (5,0)),(8,some (20,0)),(20,some (20,0)),(21,some (20,0)),(25,some (5,1)),(28,some (4,0)),(34,some (20,0)),(39,some (20,0)),(44,some (20,0))] Tryz.call41 O (fun _ _=>rfl) (fun _=>rfl) (fun w hI=>zl1 (k:=20) O (fun _=>⟨trivial,fun _ h=>h⟩) (zhz f g s hk dz di.1 (by omega) (by omega) b20 gb _ _ _ (fun q=>D q\/(w1.heap.size<=q/\q<w2.heap.size)) w (hI.at 20 O) (fun q hq=>⟨zrT (dx q hq) (Keep.size hI.k0),by exact hI.offD 0 20 O O (dx q hq) (fun hs=>by have h1:=hY q hs;have h2:=dc.hsE 0 O hs;rcases hq with hq | hq;(· have:=hD q hq;omega);omega)⟩) ((Tr1 hI.k1 df).wide (fun q h=>.inl h)) (hG.keep hI.k0 (fun q hq _ hs=>by have h1:=hY q hs;have h2:=dc.hsE 0 O hs;rcases hq with hq | hq;(· have:=hD q hq;omega);omega)))) ?_)
 rintro _ ⟨u,q⟩ ⟨rfl,hq⟩
 refine znb O (fun w hI=>zmT O (by first | exact za | rfl)) (Vs 3 O (V.bool O (fun n5=>?_) (fun n5=>?_)))
 .
  have hb:¬ RightF f g s (rdV f g):=fun h=>by
   have:q=true:=hq.2 ⟨h.use,h.arg⟩
   rw[this]at n5;cases n5
  refine Vs 7 O (zlW tr16 O (fun w hI=>⟨_,rfl,by rw[zf0 c0 hb],hI.k1⟩))
 have hr:RightF f g s (rdV f g):=zhL dl da db de (hq.1 (by cases q;(· cases n5);rfl))
 refine Vs 8 O (zlW tr16 O (fun w hI=>⟨_,rfl,by rw[zhJ c0 hr],hI.k1⟩))
theorem zej (a b c:Int) (w:World) (hY:b<=c):Calls Tryz.prog 46 #[.int .i64 a,.int .i64 b,.int .i64 c] w (Ret fun r w'=>r=.int .i64 (yB a b c)/\Ext w w'):=by
 refine znm Tryz.func46 O Tryz.ntmps46 O (Gs 16 O (zlV Tryz.results46 O ⟨_,rfl,?_,Keep.refl _ _⟩))
 congr 1
 unfold yB
 split
 . omega
 split<;>omega
def rnr (gb:Nat) (ofv nodv vv hv rv ov tv:Value):List Value:=[.pointer (some ⟨gb,0,none⟩),ofv,nodv,vv,hv,rv,ov,tv]
structure TlOk (f:Fl) (vals:List Int) (l:List (Int × Int)) (tl:List Int):Prop where
 inv:InV f.vars tl
 eq:∀ u ∈ l,lki tl u.1.toNat=lki vals u.1.toNat
def zgf (f:Fl):List Int:=f.vars.map fun v=>v.low
theorem za4 (f:Fl):(zgf f).length=f.vars.length:=zpE _
theorem TlOk.start {f:Fl} {vals:List Int} (hg:∀ v ∈ f.vars,yr (v.low,v.high)):TlOk f vals [] (zgf f):=by
 refine⟨⟨za4 f,fun i v hv=>?_⟩,fun u hu=>by cases hu⟩
 have:lki (zgf f) i=v.low:=zfm (by unfold zgf;rw[zpB,hv];rfl)
 have h2:=(hg v (zpl hv))
 unfold yr at h2
 rw[this]
 simp at h2
 omega
theorem zhM {l:List Int} {i j:Nat} {x:Int} (h:i<l.length):lki (l.set i x) j=if j=i then x else lki l j:=by
 unfold lki
 by_cases e:j=i
 . subst e;rw[zpv rfl,List.getElem?_set_self h];rfl
 rw[zpu e,List.getElem?_set_ne (fun h=>e h.symm)]
theorem TlOk.next {f:Fl} {vals tl:List Int} {l:List (Int × Int)} (h:TlOk f vals l tl) (hV:InV f.vars vals) {u:Int × Int} {v:Nat} (hu:u.1=(v:Int)) (hv:v<f.vars.length):TlOk f vals (l++[u]) (tl.set v (lki vals v)):=by
 have hl:=h.inv.len
 refine⟨⟨by rw[zr2,hl],fun i x hx=>?_⟩,fun w hw=>?_⟩
 .
  rw[zhM (by omega)]
  split
  . rename_i e;subst e;exact hV.at_ i x hx
  exact h.inv.at_ i x hx
 rw[zhM (by omega)]
 split
 . rename_i e;rw[e]
 rename_i e
 rcases zpD.1 hw with hw | hw
 . exact h.eq w hw
 rw[zpC]at hw
 subst hw
 exact absurd (by omega) e
theorem zfJ (f:Fl) (g:List Nd) (s:Sf) (dc:∀ v ∈ f.vars,yr (v.low,v.high)) (hR:RightF f g s (rdV f g)) (n:Nat) (hn:n<g.length) (dK:StepOk f (stN f (xL g n))) (eu:0<=(xL g n).at_) (ew:rdB f (xL g n)=true) (eO:f.vars.length<=1000) (_:g.length<=100000) (vl vals:List Int) (hV:InV f.vars vals) (dL:InvV f g s n vl vals) (b gb:Nat) (ofv nodv vv hv rv ov tv:Value) (D Dg Dv:Nat->Prop) (W:World) (hc:Cells W b 0 (rnr gb ofv nodv vv hv rv ov tv)) (hS:RSf D W s ofv nodv) (hG:GrO Dg W f g gb) (dM:SlR 1 zC Dv W vv vl) :
  Calls Tryz.prog 92 #[.pointer (some ⟨b,0,none⟩),.int .i64 n] W (Ret fun r w'=>r=.int .i64 (xt vals (stN f (xL g n)).term)/\Ext W w'):=by
 have ey:=hG
 obtain⟨v1,v2,v3,gv,sv,pv,hD,dl,hf,hg,hs,eQ⟩:=ey
 have dN:=hf.vars
 obtain⟨a1,c1,rfl⟩:=dN.form
 obtain⟨as1,cs1,rfl⟩:=hs.form
 have dO:=hS.nodes
 obtain⟨an,cn,rfl⟩:=dO.form
 obtain⟨av,cv,rfl⟩:=dM.form
 have eR:=dO.max
 have eS:=dM.max
 have eT:(g.map (stN f)).length=g.length:=zpE _
 have ez:=hR.len
 obtain⟨x,dm⟩:∃ x,s.nodes[n]?=some x:=⟨_,zpk (by omega)⟩
 have di:=hR.nod n x dm
 have dQ:(g.map (stN f))[n]?=some (stN f (xL g n)):=by
  have e:=zpk hn
  rw[zpB,e,yQ e];rfl
 generalize eU:g.map (stN f)=gm at *
 refine znl Tryz.func92 O Tryz.ntmps92 O (znE (zob 900 0 O O (fun h=>h) hc (zob 901 0 O O (fun h=>h) dl (znL 0 900 0 O O (Vs 11 O (znL 15 901 0 O O (Vs 5 O (zmz 21 tu27 Tryz.el3 O (by omega) (by omega) (zs:=List.replicate f.vars.length (.int .i64 0)) (qa _ _ O) (by simp) (fun b21=>?_)))))))))
 refine zod 21 O (e':=.row 3 1 (.slice (some ⟨b21,0,none⟩) f.vars.length f.vars.length) f.vars.length (((zgf f).take 0++List.replicate (f.vars.length - 0) 0).map zc)) (by simp[zc]) (Vs 10 O (znL 25 901 0 O O (Vs 9 O (zoe (σ:=Nat) [0,1,5,29,30] [900,901] [0] O (fun e i=>(31,.int .i64 i)::e) (fun e i=>(21,.row 3 1 (.slice (some ⟨b21,0,none⟩) f.vars.length f.vars.length) f.vars.length (((zgf f).take i++List.replicate (f.vars.length - i) 0).map zc))::e) (fun i=>i<=f.vars.length) (fun i=>f.vars.length - i) (0) (Sub.of O) (Has.of O) (fun _=>rfl) (fun _=>rfl) (fun _=>rfl) (zpz _) ?_))))
 rintro i hi
 refine Vs 6 O (zlG O (fun lt=>?_) (fun lt=>?_))
 .
  refine Vs 7 O ?_
  obtain⟨vr,de,d5⟩:=gE_ f.vars (i) (by omega)
  obtain⟨eA,eC,eD,dr,_,dt,du⟩:=dN.at de
  obtain rfl:=du
  refine zoa 1000 0 O O dt ?_
  refine znN 1000 tR22 ts142 O dr (by omega) (_) (rfl) O ?_
  have eE:(zgf f)[i]?=some vr.low:=by unfold zgf;rw[zpB,de];rfl
  have dR:((zgf f).take i++List.replicate (f.vars.length - i) 0).set i vr.low=(zgf f).take (i+1)++List.replicate (f.vars.length - (i+1)) 0:=by
   rw[ze eE,zrw _ _ (by rw[zpO,za4];omega),zpO,za4,show i - min i f.vars.length=0 by omega,show f.vars.length - i=(f.vars.length - (i+1))+1 by omega,zrt]
   simp
  refine Vs 1 O (V.alloc 7 tz142 O O (fun b7=>?_))
  refine Va 10 O (by omega) (znX 21 (i) ts3 O (by omega) (by simp[za4];omega) (zod 21 O (e':=.row 3 1 (.slice (some ⟨b21,0,none⟩) f.vars.length f.vars.length) f.vars.length (((zgf f).take (i+1)++List.replicate (f.vars.length - (i+1)) 0).map zc)) (by rw[<- dR,zr9]) (Va 7 O (by omega) (V.back (i+1) (Sub.of O) (Has.of O) (by omega) (by first | omega | (dsimp only;omega)) 0 O O))))
 obtain rfl:i=f.vars.length:=by omega
 refine zod 21 O (e':=.row 3 1 (.slice (some ⟨b21,0,none⟩) f.vars.length f.vars.length) f.vars.length ((zgf f).map zc)) (by rw[zrF (by rw[za4];omega),zs0,zru,zqz]) (Vs 14 O ?_)
 obtain⟨x2,hY,d6⟩:=gE_ s.nodes (n) (by omega)
 obtain⟨eF,eG,eH,dw,_,dx,dy⟩:=dO.at hY
 obtain⟨d7,d8,rfl,dz,da⟩:=dy
 obtain⟨d9,ea,rfl⟩:=dz.form
 obtain⟨eb,ec,rfl⟩:=da.form
 refine zoa 2000 0 O O dx ?_
 refine znN 2000 tR28 ts59 O dw (by omega) (_) (rfl) O ?_
 obtain rfl:x2=x:=Option.some.inj (hY.symm.trans dm)
 have eV:=da.max
 refine Vs 7 O (zoe (σ:=Nat × List Int) [0,1,5,50,51] [900,901] [0] O (fun e ⟨k,tl⟩=>(52,.int .i64 k)::e) (fun e ⟨k,tl⟩=>(21,.row 3 1 (.slice (some ⟨b21,0,none⟩) f.vars.length f.vars.length) f.vars.length (tl.map zc))::e) (fun⟨k,tl⟩=>k<=x2.uses.length/\TlOk f vals (x2.uses.take k) tl) (fun⟨k,tl⟩=>x2.uses.length - k) ((0,zgf f)) (Sub.of O) (Has.of O) (fun _=>rfl) (fun _=>rfl) (fun _=>rfl) (⟨zpz _,TlOk.start dc⟩) ?_)
 rintro⟨k,tl⟩ ⟨hk,dA⟩
 show V _ _ _ _ _ ((52,.int .i64 k)::_) _ ((21,.row 3 1 (.slice (some ⟨b21,0,none⟩) f.vars.length f.vars.length) f.vars.length (tl.map zc))::_) _
 have dS:=dA.inv.len
 refine Vs 6 O (zlG O (fun lk=>?_) (fun lk=>?_))
 .
  refine Vs 6 O ?_
  obtain⟨u,dB,dk⟩:=gE_ x2.uses (k) (by omega)
  obtain⟨eW,eX,eY,dT,_,dU,dV⟩:=da.at dB
  obtain rfl:=dV
  refine zoa 3000 0 O O dU ?_
  refine znN 3000 tR57 ts85 O dT (by omega) (_) (rfl) O ?_
  have eZ:=za1 hR.of_ (di.ver u dk)
  have eI:=(di.ver u dk).1
  have dC:=hR.use n x2 hY u dk
  obtain⟨v,hv⟩:∃ v:Nat,u.1=(v:Int):=⟨u.1.toNat,by omega⟩
  obtain⟨q,hq⟩:∃ q:Nat,u.2=(q:Int):=⟨u.2.toNat,by omega⟩
  have dW:v<f.vars.length:=by omega
  have db:=(dL v dW).2 (by rw[<- hv,dC];exact eI)
  rw[<- hv,dC,hq,zpG]at db
  have df:=zbE (l:=vals) (i:=v) (by rw[hV.len];exact dW)
  have e8:q<vl.length:=(zpy.1 (db.trans df)).1
  have eJ:=dA.next hV hv dW
  obtain⟨z,dD,eK⟩:=gE_ vl (q) (by omega)
  obtain⟨e9,fa,fb,dX,_,dY,dZ⟩:=dM.at dD
  obtain rfl:=dZ
  refine zoa 4000 0 O O dY ?_
  have hz:z=lki vals v:=Option.some.inj (dD.symm.trans (db.trans df))
  refine Vs 1 O (V.alloc 9 tz85 O O (fun b9=>?_))
  refine Vs 3 O (Vw [900,901,3000,4000,9] [] O (Vd [0,1,2,3,4,5,6,7,8] 0 (by kernel_rfl) O O O (znO 9 4000 tR27 ts3 O (by kernel_rfl) O dX (by omega) (q) (by omega) O (Vb [10,11] 0 (by kernel_rfl) O O O (by omega) (znY 12 21 0 (v) ts3 O (by kernel_rfl) O O (by omega) (by rw[zpE];omega) (VD.done (by kernel_rfl) (Vs 2 O (zod 21 O (e':=.row 3 1 (.slice (some ⟨b21,0,none⟩) f.vars.length f.vars.length) f.vars.length ((tl.set v (lki vals v)).map zc)) (by rw[hz,zr9]) (Va 4 O (by omega) ?_)))))))))
  refine V.back (⟨k+1,tl.set v (lki vals v)⟩) (Sub.of O) (Has.of O) (⟨by omega,by rw[ze dB];exact eJ⟩) (by first | omega | (dsimp only;omega)) 0 O O
 obtain rfl:k=x2.uses.length:=by omega
 rw[zpp]at dA
 obtain⟨st,dg,ed⟩:=gE_ gm (n) (by omega)
 obtain⟨eL,eM,eN,dE,_,dF,dG⟩:=hs.at dg
 obtain⟨ee,ef,eg,eh,rfl,dh,dH,dI,dJ⟩:=dG.get
 obtain⟨ei,ej,rfl⟩:=dh.form
 obtain⟨ek,em,rfl⟩:=dH.form
 obtain⟨en,eo,rfl⟩:=dI.form
 obtain⟨ep,er,rfl⟩:=dJ.form
 refine zoa 5000 0 O O dF ?_
 obtain rfl:st=stN f (xL g n):=Option.some.inj (dg.symm.trans dQ)
 have db:xt tl (stN f (xL g n)).term=xt vals (stN f (xL g n)).term:=ziU _ fun v hv=>by
  have dR:stN f (xL g n)=zW f (xL g n).at_:=by unfold stN;rw[zpv eu]
  rw[dR]at hv
  have hm:=(zkV ew).2 hv
  rw[show rdN f (xL g n)=x2.uses.map (·.1) from di.use.symm]at hm
  obtain⟨u,hu,rfl⟩:=zrf.1 hm
  exact dA.eq u hu
 refine Vs 6 O (Vw [900,901,5000] [] O (Vd [0,1,2,3] 0 (by kernel_rfl) O O O (znM 73 901 0 O O (Vd [4,5,6,7,8,9,10,11,12] 0 (by kernel_rfl) O O O (znM 82 901 0 O O (Vd [13,14,15,16] 0 (by kernel_rfl) O O O (znO 17 5000 tR24 ts72 O (by kernel_rfl) O dE (by omega) (n) (by omega) O (Vd [18,19] 0 (by kernel_rfl) O O O (zo0 20 0 Tryz.call45 O (by kernel_rfl) O O (fun w hI=>zbG dc dA.inv (stN f (xL g n)).term dK.formed dK.ranged dK.small _ _ _ (fun _=>True) w _ _ (Tr1 hI.k0 dN) (zmM zc (fun _ _=>rfl) (show w.ownsRow 0 3 1 _ tl.length _ from dS ▸ hI.at 21 O) (fun _ _=>trivial)) (RTm.put (Tr1 hI.k0 dh))) ?_)))))))))
 refine Vd [21,22,23,24,25] 0 (by kernel_rfl) O O O (VD.done (by kernel_rfl) (Vs 8 O (zlW Tryz.results92 O (fun w hI=>⟨_,rfl,by rw[db],hI.k0⟩))))
theorem zgg {L L':List Int} {m:Nat} (h:∀ a,L.count a=L'.count a):jP L m=jP L' m:=by
 unfold jP
 exact zr4 fun k _=>by rw[h]
theorem zkn {s:Sf} {j N:Nat} (hj:j<=N):(LP s j).length<=(LP s N).length:=by
 have:LP s N=LP s j++(List.range' j (N - j)).flatMap fun i=>dP (zj s i)++(zj s i).phis.map (·.ver):=by
  unfold LP
  rw[<- zqO,zrr,zrr]
  congr 1
  rw[show N=j+(N - j) by omega,<- List.range'_append_1]
  simp
 rw[this,zps]
 omega
theorem zgh (f:Fl) (g:List Nd) (s:Sf) (hk:GOk f g) (hz:ssize f.body<=10000) (eJ:g.length<=1000000) (eT:s.of_.length<=1000000/\(LP s s.nodes.length).length<=1000000) (v1 v2 v3 gv ofv nodv:Value) (D:Nat->Prop) (W:World) (hf:RFl D W f v1 v2 v3) (hg:SlR 4 RNd D W gv g) (hS:RSf D W s ofv nodv) :
  Calls Tryz.prog 34 #[.agg #[v1,v2,v3],.agg #[gv],.agg #[ofv,nodv]] W (Ret fun r w'=>(∃ q:Bool,r=.bool q/\(q=true ↔ FormF f g s (rdV f g)))/\Ext W w'):=by
 have dx:=hf
 have dX:=hg
 have dE:=hS
 have eK:=hf.vars
 have dY:=hS.of_
 have dZ:=hS.nodes
 obtain⟨ag,cg,rfl⟩:=hg.form
 obtain⟨an,cn,rfl⟩:=dZ.form
 obtain⟨ao,co,rfl⟩:=dY.form
 obtain⟨a1,c1,rfl⟩:=eK.form
 have fM:=dZ.max
 have fN:=hg.max
 have fO:=dY.max
 have eL:∀ (L:List Int) (k:Int),L.count k<=L.length:=fun L k=>List.count_le_length
 have hY:¬ FormF f g s (rdV f g)->((false:Bool)=true ↔ FormF f g s (rdV f g)):=fun hb=>⟨fun h=>(by cases h),fun h=>absurd h hb⟩
 refine znm Tryz.func34 O Tryz.ntmps34 O (znE (Vs 2 O (V.box 3 O O (fun b3=>?_))))
 refine V.box 4 O O (fun b4=>(V.box 5 O O (fun b5=>?_)))
 refine Vs 4 O (zof (σ:=Unit) [3,4,5] [3,4,5] [3,4,5] O (fun e u=>e) (fun e u=>e) (fun u=>f.vars.length<=s.of_.length/\s.nodes.length=g.length) (fun _=>rfl) (fun _=>rfl) ?_ ?_)
 .
  refine Vs 10 O (V.sp 28 O (fun l0=>?_) (fun l0=>?_))
  . refine Vs 19 O (zlW tr34 O (fun w hI=>⟨_,rfl,⟨_,rfl,hY fun h=>by have:=h.of_.len;omega⟩,hI.k0⟩))
  refine Vs 10 O (zlG O (fun l1=>?_) (fun l1=>?_))
  . refine Vs 8 O (zlW tr34 O (fun w hI=>⟨_,rfl,⟨_,rfl,hY fun h=>by have:=h.len;omega⟩,hI.k0⟩))
  refine Vs 1 O (zlT (()) (Sub.of O) (Has.of O) (⟨by omega,by omega⟩) 0 O O)
 rintro u ⟨eU,dy⟩
 have di:∀ (j:Nat) v,s.of_[j]?=some v->¬ VOk f j v->¬ FormF f g s (rdV f g):=fun j v hv hn h=>hn ((ofF_iff.1 h.of_).2 j v hv)
 refine Vs 11 O (zoe (σ:=Nat) [3,4,5,38,39] [3,4,5] [3,4,5] O (fun e i=>(40,.int .i64 i)::e) (fun e i=>e) (fun i=>i<=s.of_.length/\∀ (j:Nat) v,j<i->s.of_[j]?=some v->VOk f j v) (fun i=>s.of_.length - i) (0) (Sub.of O) (Has.of O) (fun _=>rfl) (fun _=>rfl) (fun _=>rfl) (⟨zpz _,fun j v h=>absurd h (zrZ _)⟩) ?_)
 rintro i ⟨hi,dF⟩
 refine Vs 6 O (zlG O (fun lt=>?_) (fun lt=>?_))
 .
  refine Vs 7 O ?_
  obtain⟨v,dc,eV⟩:=gE_ s.of_ (i) (by omega)
  obtain⟨fP,fQ,fR,d5,_,d6,d7⟩:=dY.at dc
  obtain rfl:=d7
  refine zoa 1000 0 O O d6 ?_
  refine znN 1000 tR27 ts3 O d5 (by omega) (_) (rfl) O (Vs 5 O (zof (σ:=Unit) [3,4,5,38,39,40] [3,4,5] [3,4,5] O (fun e u=>e) (fun e u=>e) (fun u=>VOk f i v) (fun _=>rfl) (fun _=>rfl) ?_ ?_))
  .
   refine Vs 8 O (V.sp 50 O (fun a1=>?_) (fun a1=>?_))
   .
    refine Vs 5 O (V.sp 55 O (fun a2=>?_) (fun a2=>?_))
    . refine Vs 41 O (zlW tr34 O (fun w hI=>⟨_,rfl,⟨_,rfl,hY (di i v dc fun h=>a2 (h.1 (by omega)))⟩,hI.k0⟩))
    refine Vs 6 O (V.sp 61 O (fun b1=>?_) (fun b1=>?_))
    . omega
    refine Vs 24 O (zlT (()) (Sub.of O) (Has.of O) (⟨fun _=>zpt.1 a2,fun h=>by omega⟩) 0 O O)
   refine Vs 11 O (V.sp 61 O (fun b1=>?_) (fun b1=>?_))
   .
    refine Vs 3 O (V.sp 64 O (fun b2=>?_) (fun b2=>?_))
    . refine Vs 32 O (zlW tr34 O (fun w hI=>⟨_,rfl,⟨_,rfl,hY (di i v dc fun h=>by have:=(h.2 (by omega)).1;omega)⟩,hI.k0⟩))
    obtain⟨m,rfl⟩:=zqg (show 0<=v by omega)
    refine Vs 7 O (V.sp 71 O (fun b3=>?_) (fun b3=>?_))
    .
     refine Vs 25 O ?_
     have hb:¬ VOk f i (m:Int):=fun h=>by
      obtain⟨_,x,hx,_⟩:=h.2 (by omega)
      have:=(zpy.1 hx).1
      omega
     refine zlW tr34 O (fun w hI=>⟨_,rfl,⟨_,rfl,hY (di i m dc hb)⟩,hI.k0⟩)
    refine Vs 3 O ?_
    obtain⟨vr,de,eM⟩:=gE_ f.vars (m) (by omega)
    obtain⟨eW,eX,eY,dG,_,dH,dI⟩:=eK.at de
    obtain rfl:=dI
    refine zoa 2000 0 O O dH ?_
    refine znN 2000 tR22 ts142 O dG (by omega) (_) (rfl) O (Vs 8 O (zlG O (fun b4=>?_) (fun b4=>?_)))
    .
     have hb:¬ VOk f i (m:Int):=fun h=>by
      obtain⟨_,x,hx,h0⟩:=h.2 (by omega)
      rw[zpG,de]at hx
      cases hx
      exact b4 h0
     refine Vs 12 O (zlW tr34 O (fun w hI=>⟨_,rfl,⟨_,rfl,hY (di i m dc hb)⟩,hI.k0⟩))
    refine Vs 1 O (zlT (()) (Sub.of O) (Has.of O) (⟨fun h=>by omega,fun _=>⟨by omega,vr,de,zpt.1 b4⟩⟩) 0 O O)
   omega
  rintro u eZ
  have df:=yd dF dc eZ
  refine Va 6 O (by omega) (V.back (i+1) (Sub.of O) (Has.of O) (⟨by omega,df⟩) (by first | omega | (dsimp only;omega)) 0 O O)
 obtain rfl:i=s.of_.length:=by omega
 have e8:OfF f s:=ofF_iff.2 ⟨eU,xP dF⟩
 generalize hm:s.of_.length=m at *
 refine Vs 10 O (zmz 86 tu27 Tryz.el3 O (by omega) (by omega) (zs:=List.replicate m (.int .i64 0)) (qa _ _ O) (by simp) (fun b86=>?_))
 refine zod 86 O (e':=.row 3 1 (.slice (some ⟨b86,0,none⟩) m m) m ((jP (LP s 0) m).map zc)) (by rw[show LP s 0=[] from rfl,zfA,zr8]) (Vs 13 O (zoe (σ:=Nat) [3,4,5,9,88,89] [3,4,5] [3,4,5] O (fun e n=>(90,.int .i64 n)::e) (fun e n=>(86,.row 3 1 (.slice (some ⟨b86,0,none⟩) m m) m ((jP (LP s n) m).map zc))::e) (fun n=>n<=s.nodes.length/\∀ (j:Nat) x,j<n->s.nodes[j]?=some x->NodF f g s (rdV f g) j x) (fun n=>s.nodes.length - n) (0) (Sub.of O) (Has.of O) (fun _=>rfl) (fun _=>rfl) (fun _=>rfl) (⟨zpz _,fun j x h=>absurd h (zrZ _)⟩) ?_))
 rintro n ⟨hn,dJ⟩
 refine Vs 6 O (zlG O (fun lt=>?_) (fun lt=>?_))
 .
  refine Vs 7 O ?_
  obtain⟨x,dk,e9⟩:=gE_ s.nodes (n) (by omega)
  obtain⟨fS,fT,fU,d8,_,d9,ea⟩:=dZ.at dk
  obtain⟨fa,fb,rfl,dl,dz⟩:=ea
  obtain⟨fc,fe,rfl⟩:=dl.form
  obtain⟨fg,fh,rfl⟩:=dz.form
  refine zoa 3000 0 O O d9 ?_
  refine znN 3000 tR28 ts59 O d8 (by omega) (_) (rfl) O ?_
  have da:¬ NodF f g s (rdV f g) n x->¬ FormF f g s (rdV f g):=fun hb h=>hb (h.nod n x dk)
  have eN:n<g.length:=by omega
  have fV:=dz.max
  have fW:=dl.max
  have dK:=zd6 dk
  have eb:=zkn (s:=s) (j:=n+1) (N:=s.nodes.length) (by omega)
  rw[dK,zps,zps,zpE]at eb
  refine Vs 1 O (V.alloc 11 tz59 O O (fun b11=>?_))
  refine Vs 5 O (zof (σ:=Unit) [3,4,5,9,10,11,88,89,90] [3,4,5,11,86] [3,4,5,11] O (fun e u=>e) (fun e u=>e) (fun u=>n=0->x.phis=[]) (fun _=>rfl) (fun _=>rfl) ?_ ?_)
  .
   refine Vs 5 O (V.sp 97 O (fun z1=>?_) (fun z1=>?_))
   .
    refine Vs 7 O (zlG O (fun z2=>?_) (fun z2=>?_))
    .
     have hb:=da fun h=>absurd (h.phi.zero (by omega)) (fun e=>by rw[e]at z2;simp at z2)
     refine Vs 13 O (zlW tr34 O (fun w hI=>⟨_,rfl,⟨_,rfl,hY hb⟩,hI.k0⟩))
    refine Vs 1 O (zlT (()) (Sub.of O) (Has.of O) (fun _=>zqY.1 (by omega)) 0 O O)
   refine Vs 9 O (zlT (()) (Sub.of O) (Has.of O) (fun e=>absurd (by rw[e];rfl) z1) 0 O O)
  rintro u h0
  refine Vs 10 O (zod 86 O (e':=.row 3 1 (.slice (some ⟨b86,0,none⟩) m m) m ((jP (LP s n++(x.phis.take 0).map (·.ver)) m).map zc)) (by rw[zrI,zr7,zqz]) (Vs 1 O (zoe (σ:=Nat) [3,4,5,9,10,11,88,89,90,104,105] [3,4,5,11] [3,4,5,11] O (fun e i=>(106,.int .i64 i)::e) (fun e i=>(86,.row 3 1 (.slice (some ⟨b86,0,none⟩) m m) m ((jP (LP s n++(x.phis.take i).map (·.ver)) m).map zc))::e) (fun i=>i<=x.phis.length/\PhTo f g s n x.phis i) (fun i=>x.phis.length - i) (0) (Sub.of O) (Has.of O) (fun _=>rfl) (fun _=>rfl) (fun _=>rfl) (⟨zpz _,PhTo.start⟩) ?_)))
  rintro i ⟨hi,eO⟩
  refine Vs 6 O (zlG O (fun lp=>?_) (fun lp=>?_))
  .
   refine Vs 7 O ?_
   obtain⟨p,dg,ec⟩:=gE_ x.phis (i) (by omega)
   obtain⟨fX,fY,fZ,ed,_,ee,ef⟩:=dl.at dg
   obtain⟨fi,fj,rfl,dm,dA⟩:=ef
   obtain⟨fk,fm,rfl⟩:=dm.form
   obtain⟨fp,fq,rfl⟩:=dA.form
   refine zoa 4000 0 O O ee ?_
   refine znN 4000 tR56 ts88 O ed (by omega) (_) (rfl) O ?_
   have ft:=dA.max
   have fu:=dm.max
   have db:¬ PhOne f g s n p->¬ FormF f g s (rdV f g):=fun hb=>da fun h=>hb (h.phi.bad ec)
   refine Vs 1 O (V.alloc 13 tz88 O O (fun b13=>?_))
   refine Vs 5 O (zof (σ:=Unit) [3,4,5,9,10,11,13,88,89,90,104,105,106] [3,4,5,11,13,86] [3,4,5,11,13] O (fun e u=>e) (fun e u=>e) (fun u=>(0<i->∃ q,x.phis[i - 1]?=some q/\q.var<p.var)/\kn f s p.ver p.var true/\p.frm=qU g n/\p.args.length=p.frm.length) (fun _=>rfl) (fun _=>rfl) ?_ ?_)
   .
    refine znF (p:=0<i) (fun ci=>?_) (fun ci=>?_)
    .
     obtain⟨q,dr,fv⟩:=gE_ x.phis ((i-1)) (by omega)
     obtain⟨f0,f5,f6,eg,_,eh,ei⟩:=dl.at dr
     obtain⟨fw,fy,rfl,ej,ek⟩:=ei
     obtain⟨fA,fB,rfl⟩:=ej.form
     obtain⟨fC,fD,rfl⟩:=ek.form
     refine zoa 5000 0 O O eh (Vs 1 O (Vw [3,4,5,11,4000,13,5000] [] O (Vd [0,1,2] 0 (by kernel_rfl) O O O (VD.sp 113 O (fun c1=>?_) (fun c1=>?_)))))
     .
      refine Vb [3,4,5,6,10,11] 0 (by kernel_rfl) O O O (by omega) (znO 7 5000 tR56 ts88 O (by kernel_rfl) O eg (by omega) (i - 1) (by omega) O (Vd [8,9,12,13,14] 0 (by kernel_rfl) O O O (VD.sp 125 O (fun c2=>?_) (fun c2=>?_))))
      .
       have em:=da fun h=>by
        have:=zrp.1 h.phi.asc (i - 1) i (zpy.1 dr).1 (zpy.1 dg).1 (by omega)
        rw[(zpy.1 dr).2,(zpy.1 dg).2]at this
        omega
       refine Vd [15,16,17,18,19,20] 0 (by kernel_rfl) O O O (VD.skip 21 0 O (by kernel_rfl) O O (Vd [22,23,24,25,26,27,28] 0 (by kernel_rfl) O O O (VD.skip 29 0 O (by kernel_rfl) O O (VD.skip 30 0 O (by kernel_rfl) O O (Vd [31,32,33,34,35,36,37,38,39,40,41] 0 (by kernel_rfl) O O O (VD.done (by kernel_rfl) (Vs 20 O (zlW tr34 O (fun w hI=>⟨_,rfl,⟨_,rfl,hY (em)⟩,hI.k0⟩)))))))))
      have dL:0<i->∃ q,x.phis[i - 1]?=some q/\q.var<p.var:=fun _=>⟨q,dr,by omega⟩
      refine Vd [15,16,17,18,19,20] 0 (by kernel_rfl) O O O (zo0 21 0 tc68 O (by kernel_rfl) O O (fun w hI=>qh f s p.ver p.var true _ _ _ _ _ D D w (Tr1 hI.k0 dx) (Tr1 hI.k0 dE.of_)) (znc 22 0 O (by kernel_rfl) O O (fun w hI=>zmT O za) (Vd [23,24] 0 (by kernel_rfl) O O O (VD.sp 135 O (fun c3=>?_) (fun c3=>?_)))))
      .
       have hb:=db fun h=>c3 h.ver
       refine Vd [25,26,27,28] 0 (by kernel_rfl) O O O (VD.skip 29 0 O (by kernel_rfl) O O (VD.skip 30 0 O (by kernel_rfl) O O (Vd [31,32,33,34,35,36,37,38,39,40,41] 0 (by kernel_rfl) O O O (VD.done (by kernel_rfl) (Vs 20 O (zlW tr34 O (fun w hI=>⟨_,rfl,⟨_,rfl,hY (hb)⟩,hI.k0⟩)))))))
      have c3:=zpt.1 c3
      refine Vd [25,26,27,28] 0 (by kernel_rfl) O O O (zo2 29 0 Tryz.call70 O (by kernel_rfl) O O (fun w hI=>zar g eJ n _ D w (Tr1 hI.k0 dX)) ?_)
      rintro pr w1 w2 fE en eo dB
      refine zo0 30 1 Tryz.call69 O (by kernel_rfl) O O (fun w hI=>zaT p.frm (qU g n) _ _ _ _ w (Tr1 hI.k1 dm) (eo.keep zb hI.k0 (fun b hb _ hs=>by have:=dB b hs;omega))) (znc 31 1 O (by kernel_rfl) O O (fun w hI=>zmT O za) (Vd [32,33] 1 (by kernel_rfl) O O O (VD.sp 144 O (fun c4=>?_) (fun c4=>?_))))
      .
       have hb:=db fun h=>c4 h.frm
       refine Vd [34,35,36,37,38,39,40,41] 1 (by kernel_rfl) O O O (VD.done (by kernel_rfl) (Vs 20 O (zlW tr34 O (fun w hI=>⟨_,rfl,⟨_,rfl,hY (hb)⟩,hI.k1⟩))))
      have c4:=zpt.1 c4
      refine Vd [34,35,36,37,38,39,40,41] 1 (by kernel_rfl) O O O (VD.done (by kernel_rfl) (Vs 1 O (zlG O (fun c5=>?_) (fun c5=>?_))))
      .
       have hb:=db fun h=>c5 (by have:=h.len;omega)
       refine Vs 18 O (zlW tr34 O (fun w hI=>⟨_,rfl,⟨_,rfl,hY (hb)⟩,hI.k1⟩))
      refine Vs 1 O (zlT (()) (Sub.of O) (Has.of O) (⟨dL,c3,c4,by omega⟩) 1 O O)
     omega
    refine Vs 1 O (Vw [3,4,5,11,4000,13] [] O (Vd [0,1,2] 0 (by kernel_rfl) O O O (VD.sp 113 O (fun c1=>?_) (fun c1=>?_))))
    . omega
    have dL:0<i->∃ q,x.phis[i - 1]?=some q/\q.var<p.var:=fun h=>by omega
    refine Vd [3,4,5,6,7,8,9,10,11,12,13,14,15,16,17,18,19,20] 0 (by kernel_rfl) O O O (zo0 21 0 tc68 O (by kernel_rfl) O O (fun w hI=>qh f s p.ver p.var true _ _ _ _ _ D D w (Tr1 hI.k0 dx) (Tr1 hI.k0 dE.of_)) (znc 22 0 O (by kernel_rfl) O O (fun w hI=>zmT O za) (Vd [23,24] 0 (by kernel_rfl) O O O (VD.sp 135 O (fun c3=>?_) (fun c3=>?_)))))
    .
     have hb:=db fun h=>c3 h.ver
     refine Vd [25,26,27,28] 0 (by kernel_rfl) O O O (VD.skip 29 0 O (by kernel_rfl) O O (VD.skip 30 0 O (by kernel_rfl) O O (Vd [31,32,33,34,35,36,37,38,39,40,41] 0 (by kernel_rfl) O O O (VD.done (by kernel_rfl) (Vs 20 O (zlW tr34 O (fun w hI=>⟨_,rfl,⟨_,rfl,hY (hb)⟩,hI.k0⟩)))))))
    have c3:=zpt.1 c3
    refine Vd [25,26,27,28] 0 (by kernel_rfl) O O O (zo2 29 0 Tryz.call70 O (by kernel_rfl) O O (fun w hI=>zar g eJ n _ D w (Tr1 hI.k0 dX)) ?_)
    rintro pr w1 w2 fE en eo dB
    refine zo0 30 1 Tryz.call69 O (by kernel_rfl) O O (fun w hI=>zaT p.frm (qU g n) _ _ _ _ w (Tr1 hI.k1 dm) (eo.keep zb hI.k0 (fun b hb _ hs=>by have:=dB b hs;omega))) (znc 31 1 O (by kernel_rfl) O O (fun w hI=>zmT O za) (Vd [32,33] 1 (by kernel_rfl) O O O (VD.sp 144 O (fun c4=>?_) (fun c4=>?_))))
    .
     have hb:=db fun h=>c4 h.frm
     refine Vd [34,35,36,37,38,39,40,41] 1 (by kernel_rfl) O O O (VD.done (by kernel_rfl) (Vs 20 O (zlW tr34 O (fun w hI=>⟨_,rfl,⟨_,rfl,hY (hb)⟩,hI.k1⟩))))
    have c4:=zpt.1 c4
    refine Vd [34,35,36,37,38,39,40,41] 1 (by kernel_rfl) O O O (VD.done (by kernel_rfl) (Vs 1 O (zlG O (fun c5=>?_) (fun c5=>?_))))
    .
     have hb:=db fun h=>c5 (by have:=h.len;omega)
     refine Vs 18 O (zlW tr34 O (fun w hI=>⟨_,rfl,⟨_,rfl,hY (hb)⟩,hI.k1⟩))
    refine Vs 1 O (zlT (()) (Sub.of O) (Has.of O) (⟨dL,c3,c4,by omega⟩) 1 O O)
   rintro u ⟨dL,c3,c4,c5⟩
   obtain⟨k,ep,dC⟩:=qF c3
   rw[hm]at dC
   have er:=eL (LP s n++(x.phis.take i).map (·.ver)) (k:Int)
   simp only[zps,zpE,zpO]at er
   refine Va 7 O (by omega) (znW 86 (k) tg3 O (by omega) (show _=some (Value.int .i64 (((LP s n++(x.phis.take i).map (·.ver)).count (k:Int):Nat):Int)) by rw[zpB,qu dC];rfl) ?_)
   refine Va 2 O (by omega) (znX 86 (k) ts3 O (by omega) (by simp[xV];omega) (zod 86 O (e':=.row 3 1 (.slice (some ⟨b86,0,none⟩) m m) m ((jP (LP s n++(x.phis.take (i+1)).map (·.ver)) m).map zc)) (by rw[ze dg,zr3,<- zqy,show [p].map (·.ver)=[(k:Int)] by rw[<- ep];rfl,<- kY dC,zr9]) (Vs 11 O (zoe (σ:=Nat) [3,4,5,9,10,11,13,88,89,90,104,105,106,161,162] [3,4,5,11,13,86] [3,4,5,11,13] O (fun e j=>(163,.int .i64 j)::e) (fun e j=>e) (fun j=>j<=p.args.length/\∀ (q:Nat) a,q<j->p.args[q]?=some a->kn f s a p.var false) (fun j=>p.args.length - j) (0) (Sub.of O) (Has.of O) (fun _=>rfl) (fun _=>rfl) (fun _=>rfl) (⟨zpz _,fun q a h=>absurd h (zrZ _)⟩) ?_))))
   rintro j ⟨hj,dt⟩
   refine Vs 6 O (zlG O (fun lj=>?_) (fun lj=>?_))
   .
    refine Vs 6 O ?_
    obtain⟨a,dM,eu⟩:=gE_ p.args (j) (by omega)
    obtain⟨f7,f8,f9,ew,_,ey,ez⟩:=dA.at dM
    obtain rfl:=ez
    refine zoa 6000 0 O O ey ?_
    refine znN 6000 tR27 ts3 O ew (by omega) (_) (rfl) O (Vs 11 O (znZ tc68 O (fun w hI=>qh f s a p.var false _ _ _ _ _ D D w (Tr1 hI.k0 dx) (Tr1 hI.k0 dE.of_)) (znb O (fun w hI=>zmT O (by first | exact za | rfl)) (Vs 2 O (zlG O (fun c6=>?_) (fun c6=>?_))))))
    .
     have hb:=db fun h=>c6 (h.args a eu)
     refine Vs 20 O (zlW tr34 O (fun w hI=>⟨_,rfl,⟨_,rfl,hY hb⟩,hI.k0⟩))
    have df:=yd dt dM (zpt.1 c6)
    refine Va 7 O (by omega) (V.back (j+1) (Sub.of O) (Has.of O) (⟨by omega,df⟩) (by first | omega | (dsimp only;omega)) 0 O O)
   obtain rfl:j=p.args.length:=by omega
   have h1:PhOne f g s n p:=⟨c3,c4,by omega,fun a ha=>by obtain⟨q,hq⟩:=zre.1 ha;exact xP dt q a hq⟩
   have df:=eO.next dg dL h1
   refine Va 10 O (by omega) (V.back (i+1) (Sub.of O) (Has.of O) (⟨by omega,df⟩) (by first | omega | (dsimp only;omega)) 0 O O)
  obtain rfl:i=x.phis.length:=by omega
  have eA:=eO.done h0
  refine zod 86 O (e':=.row 3 1 (.slice (some ⟨b86,0,none⟩) m m) m ((jP (LP s n++x.phis.map (·.ver)) m).map zc)) (by rw[zpp]) (Vs 10 O (znZ Tryz.call23 O (fun w hI=>zbN f g hk hz n eN _ _ _ _ D D w (Tr1 hI.k0 dx) (Tr1 hI.k0 dX)) (Vs 4 O (zof (σ:=Unit) [3,4,5,9,10,11,16,88,89,90] [3,4,5,11,86] [3,4,5,11] O (fun e u=>e) (fun e u=>e) (fun u=>(xX f g n<0->x.dfn=-1)/\(0<=xX f g n->kn f s x.dfn (xX f g n) true)) (fun _=>rfl) (fun _=>rfl) ?_ ?_))))
  .
   refine Vs 5 O (V.sp 182 O (fun d1=>?_) (fun d1=>?_))
   .
    refine Vs 5 O (V.sp 187 O (fun d2=>?_) (fun d2=>?_))
    .
     have hb:=da fun h=>d2 (h.no d1)
     refine Vs 28 O (zlW tr34 O (fun w hI=>⟨_,rfl,⟨_,rfl,hY hb⟩,hI.k0⟩))
    refine Vs 3 O (V.sp 190 O (fun d3=>?_) (fun d3=>?_))
    . omega
    refine Vs 13 O (zlT (()) (Sub.of O) (Has.of O) (⟨fun _=>zpt.1 d2,fun h=>by omega⟩) 0 O O)
   refine Vs 8 O (V.sp 190 O (fun d3=>?_) (fun d3=>?_))
   .
    refine Vs 5 O (znZ tc68 O (fun w hI=>qh f s x.dfn (xX f g n) true _ _ _ _ _ D D w (Tr1 hI.k0 dx) (Tr1 hI.k0 dE.of_)) (znb O (fun w hI=>zmT O (by first | exact za | rfl)) (Vs 4 O (zlG O (fun d4=>?_) (fun d4=>?_)))))
    .
     have hb:=da fun h=>d4 (h.yes d3)
     refine Vs 13 O (zlW tr34 O (fun w hI=>⟨_,rfl,⟨_,rfl,hY hb⟩,hI.k0⟩))
    refine Vs 1 O (zlT (()) (Sub.of O) (Has.of O) (⟨fun h=>by omega,fun _=>zpt.1 d4⟩) 0 O O)
   omega
  rintro u ⟨eP,eQ⟩
  refine Vs 2 O (zof (σ:=Unit) [3,4,5,9,10,11,88,89,90] [3,4,5,11] [3,4,5,11] O (fun e u=>e) (fun e u=>(86,.row 3 1 (.slice (some ⟨b86,0,none⟩) m m) m ((jP (LP s (n+1)) m).map zc))::e) (fun u=>True) (fun _=>rfl) (fun _=>rfl) ?_ ?_)
  .
   refine Vs 6 O (zlG O (fun d0=>?_) (fun d0=>?_))
   .
    obtain⟨k,ep,dC⟩:=qF (eQ d0)
    rw[hm]at dC
    have eC:dP x=[(k:Int)]:=by unfold dP;rw[zpv (by omega),ep]
    rw[eC]at eb dK
    simp only[zpF]at eb
    have er:=eL (LP s n++x.phis.map (·.ver)) (k:Int)
    simp only[zps,zpE]at er
    refine Va 5 O (by omega) (znW 86 (k) tg3 O (by omega) (show _=some (Value.int .i64 (((LP s n++x.phis.map (·.ver)).count (k:Int):Nat):Int)) by rw[zpB,qu dC];rfl) ?_)
    refine Va 2 O (by omega) (znX 86 (k) ts3 O (by omega) (by simp[xV];omega) (zod 86 O (e':=.row 3 1 (.slice (some ⟨b86,0,none⟩) m m) m ((jP (LP s (n+1)) m).map zc)) (by rw[dK,zgg (L:=LP s n++[(k:Int)]++x.phis.map (·.ver)) (L':=LP s n++x.phis.map (·.ver)++[(k:Int)]) (fun a=>by simp only[zqB];omega),<- kY dC,zr9]) (Vs 1 O (zlT (()) (Sub.of O) (Has.of O) (True.intro) 0 O O))))
   have eC:dP x=[]:=by have:=eP (by omega);unfold dP;rw[zpu (by omega)]
   rw[eC,zqz]at dK
   refine zod 86 O (e':=.row 3 1 (.slice (some ⟨b86,0,none⟩) m m) m ((jP (LP s (n+1)) m).map zc)) (by rw[dK]) (Vs 1 O (zlT (()) (Sub.of O) (Has.of O) (True.intro) 0 O O))
  rintro u -
  refine Vs 6 O (zo1 Tryz.call71 O (fun w hI=>zht f g hk hz n eN _ _ _ _ D D w (Tr1 hI.k0 dx) (Tr1 hI.k0 dX)) ?_)
  rintro r2 w3 w4 ga fF eD dN
  obtain⟨ar,cr,rfl⟩:=eD.form
  have gc:=eD.max
  refine Vs 14 O (zlG O (fun e0=>?_) (fun e0=>?_))
  .
   have hb:=da fun h=>e0 (by rw[<- h.use,zpE])
   refine Vs 12 O (zlW tr34 O (fun w hI=>⟨_,rfl,⟨_,rfl,hY hb⟩,hI.k1⟩))
  refine Vs 11 O (zoe (σ:=Nat) [3,4,5,9,17,88,89,90,220,221] [3,4,5,86] [3,4,5] O (fun e k=>(222,.int .i64 k)::e) (fun e k=>e) (fun k=>k<=x.uses.length/\∀ (q:Nat) u,q<k->x.uses[q]?=some u->(rdV f g n)[q]?=some u.1/\kn f s u.2 u.1 false) (fun k=>x.uses.length - k) (0) (Sub.of O) (Has.of O) (fun _=>rfl) (fun _=>rfl) (fun _=>rfl) (⟨zpz _,fun q u h=>absurd h (zrZ _)⟩) ?_)
  rintro k ⟨gf,du⟩
  refine Vs 6 O (zlG O (fun lk=>?_) (fun lk=>?_))
  .
   refine Vs 7 O ?_
   obtain⟨u,dD,eE⟩:=gE_ x.uses (k) (by omega)
   obtain⟨gh,gi,gj,eF,_,eG,eH⟩:=dz.at dD
   obtain rfl:=eH
   refine zoa 7000 1 O O eG ?_
   refine znN 7000 tR57 ts85 O eF (by omega) (_) (rfl) O ?_
   obtain⟨rk,dh,eR⟩:=gE_ (rdV f g n) (k) (by omega)
   obtain⟨fG,fH,fI,dO,dQ,dR,dS⟩:=eD.atD dh
   obtain rfl:=dS
   refine zob 8000 0 O O (fun h_=>by have fJ:=dN _ h_;have fK:=dQ;first | omega | exact fJ fK) dR (Vs 1 O (V.alloc 19 tz85 O O (fun b19=>?_)))
   refine Vs 5 O (Vw [3,4,5,7000,8000,19] [] O (Vd [0,1,2,3] 0 (by kernel_rfl) O O O (znO 4 8000 tR27 ts3 O (by kernel_rfl) O dO (by omega) (k) (by omega) O (Vd [5,6,7] 0 (by kernel_rfl) O O O (VD.sp 234 O (fun e1=>?_) (fun e1=>?_))))))
   .
    have hb:=da fun h=>e1 (by
     have:=congrArg (fun l:List Int=>l[k]?) h.use
     rw[zpB,dD,dh]at this
     exact Option.some.inj this)
    refine Vd [8,9,10,11,12,13] 0 (by kernel_rfl) O O O (VD.skip 14 0 O (by kernel_rfl) O O (Vd [15,16] 0 (by kernel_rfl) O O O (VD.done (by kernel_rfl) (Vs 17 O (zlW tr34 O (fun w hI=>⟨_,rfl,⟨_,rfl,hY hb⟩,hI.k1⟩))))))
   have e1:=zpt.1 e1
   refine Vd [8,9,10,11,12,13] 0 (by kernel_rfl) O O O (zo0 14 0 tc68 O (by kernel_rfl) O O (fun w hI=>qh f s u.2 u.1 false _ _ _ _ _ D D w (Tr1 hI.k1 dx) (Tr1 hI.k1 dE.of_)) (znc 15 0 O (by kernel_rfl) O O (fun w hI=>zmT O za) (Vd [16] 0 (by kernel_rfl) O O O (VD.done (by kernel_rfl) (Vs 1 O (zlG O (fun e2=>?_) (fun e2=>?_)))))))
   .
    have hb:=da fun h=>e2 (h.ver u eE)
    refine Vs 15 O (zlW tr34 O (fun w hI=>⟨_,rfl,⟨_,rfl,hY hb⟩,hI.k1⟩))
   have df:=yd du dD ⟨by rw[dh,e1],zpt.1 e2⟩
   refine Va 7 O (by omega) (V.back (k+1) (Sub.of O) (Has.of O) (⟨by omega,df⟩) (by first | omega | (dsimp only;omega)) 0 O O)
  obtain rfl:k=x.uses.length:=by omega
  have dw:=xP du
  have eI:x.uses.map (·.1)=rdV f g n:=by
   apply zqK
   intro q
   rw[zpB]
   by_cases eS:q<x.uses.length
   . rw[(dw q _ (zpk eS)).1,zpk eS];rfl
   rw[zpI (by omega),zpI (by omega)];rfl
  have dT:NodF f g s (rdV f g) n x:=⟨eA,eP,eQ,eI,fun u hu=>by obtain⟨q,hq⟩:=zre.1 hu;exact(dw q u hq).2⟩
  have df:=yd dJ dk dT
  refine Va 10 O (by omega) (V.back (n+1) (Sub.of O) (Has.of O) (⟨by omega,df⟩) (by first | omega | (dsimp only;omega)) 1 O O)
 obtain rfl:n=s.nodes.length:=by omega
 have dU:=xP dJ
 have dV:∀ a,(LP s s.nodes.length).count a=(qy f g s).count a:=fun a=>by rw[dy];exact zfB dy dU a
 refine Vs 15 O (zoe (σ:=Nat) [9] [] [] O (fun e k=>(20,.int .i64 k)::e) (fun e k=>(86,.row 3 1 (.slice (some ⟨b86,0,none⟩) m m) m ((jP (LP s s.nodes.length) m).map zc))::e) (fun k=>f.vars.length<=k/\∀ j:Nat,f.vars.length<=j->j<k->(qy f g s).count (j:Int)=1) (fun k=>m - k) (f.vars.length) (Sub.of O) (Has.of O) (fun _=>rfl) (fun _=>rfl) (fun _=>rfl) (⟨zpJ _,fun j h1 h2=>by omega⟩) ?_)
 rintro k ⟨fL,dW⟩
 refine Vs 9 O (zlG O (fun lk=>?_) (fun lk=>?_))
 .
  refine Va 9 O (by omega) (znW 86 (k) tg3 O (by omega) (show _=some (Value.int .i64 (((LP s s.nodes.length).count (k:Int):Nat):Int)) by rw[zpB,qu (by omega)];rfl) ?_)
  refine Vs 3 O (zlG O (fun e1=>?_) (fun e1=>?_))
  .
   have hb:¬ FormF f g s (rdV f g):=fun h=>e1 (by rw[dV,h.one k fL (by omega)];rfl)
   refine Vs 11 O (zlW tr34 O (fun w hI=>⟨_,rfl,⟨_,rfl,hY hb⟩,hI.k0⟩))
  have df:∀ j:Nat,f.vars.length<=j->j<k+1->(qy f g s).count (j:Int)=1:=fun j h1 h2=>by
   by_cases e:j=k
   . subst e;rw[<- dV];omega
   exact dW j h1 (by omega)
  refine Va 8 O (by omega) (V.back (k+1) (Sub.of O) (Has.of O) (⟨by omega,df⟩) (by first | omega | (dsimp only;omega)) 0 O O)
 have hF:FormF f g s (rdV f g):=⟨e8,dy,dU,fun j h1 h2=>dW j h1 (by omega)⟩
 refine Vs 11 O (zlW tr34 O (fun w hI=>⟨_,rfl,⟨_,rfl,⟨fun _=>hF,fun _=>rfl⟩⟩,hI.k0⟩))
end Go.Proofs.YtckdhgbepmpgiaaGreat
namespace Go.GL
open Go.RowKit Go.ChangeMaps
section
variable {κ:Type} [DecidableEq κ]
variable {ke:κ->Value}
omit [DecidableEq κ] in
section
variable {P:Program} {env:Env} {w:World} {dst:Option Tmp} {ty:TypeId} {pos:String} {aft:Array Edge} {g:Option (Nat × Bool)} {t kt et:TypeId} {m:Nat} {l:List (κ × Value)}
omit [DecidableEq κ] in
end
end
open Go.RowKit Go.ChangeMaps
section
variable {κ:Type} [DecidableEq κ] {ke:κ->Value}
section
variable {P:Program} {env:Env} {w:World} {dst:Option Tmp} {ty:TypeId} {pos:String} {aft:Array Edge} {g:Option (Nat × Bool)} {t kt et:TypeId} {m:Nat} {l:List (κ × Value)}
omit [DecidableEq κ] in
end
end
section
variable {P:Program} {n:Nat} {Q:Exit->Act->World->Prop} {ks:List Fr} {env:Env} {A:Tgs} {H Hs:Hp} {Bs B0:zF} {ops:Array Oper} {L:List Nat} {fuel:Nat} {listed:Array Bool}
variable {d d2:Nat} {op op2:Op} {ty ty2:TypeId} {ps ps2:String} {aft aft2:Array Edge} {g:Option (Nat × Bool)} {v:Value}
theorem zp3 (i k j:Nat) {β:Type} {e:HE} {E':β->HE} {r:β->Value} (hi:ops[i]?=some ⟨some d,op,ty,ps,aft,g⟩) (hr:Region.ready .any ops listed=[i]) (hn:(Nat.blt d n,gd ops env g,hget H k,qH H k,qA (Hs.map (·.1)),qn k (Hs.map (·.1)))=(true,some true,some e,none,true,true)) (hB:Bs.drop j=B0)
  (hE:∀ x,(E' x).loc/\∀ b,¬ (E' x).fz b) (hm:∀ w,VI Bs H w->yH P ⟨some d,op,ty,ps,aft,g⟩ env w (fun u w'=>∃ x,u=r x/\(E' x).holds w'/\Keep e.S w w'/\∀ q,(E' x).S q->(e.S q\/w.heap.size<=q)/\q<w'.heap.size))
  (h:∀ x,VD P n Q ks ops Hs B0 L fuel (listed.setIfInBounds i true) ((d,r x)::env) ((d,none)::A) (yx H k (E' x)) Bs):VD P n Q ks ops Hs B0 L (fuel+1) listed env A H Bs:=by
 simp only[Prod.mk.injEq]at hn
 subst hB
 obtain⟨h1,h2,h3,h4,h5,h6⟩:=hn
 refine fun hH hA w hI=>zo6 i hi hr h1 h2 (.inl (hm w hI)) ?_
 rintro _ w' ⟨x,rfl,hh,hk,hS⟩
 have hY:=hI.set h3 hk hh (hE x).1 (hE x).2 hS
 have da:Has Hs (yx H k (E' x)):=hH.set h3 h6
 exact⟨(hY.drop j).pick da h5,h x da (TgOk.none (hA.res h3 h4)) w' hY⟩
theorem zoM (i k j:Nat) {e e':HE} (hi:ops[i]?=some ⟨none,op,ty,ps,aft,g⟩) (hr:Region.ready .any ops listed=[i]) (hn:(gd ops env g,hget H k,qH H k,qA (Hs.map (·.1)),qn k (Hs.map (·.1)))=(some true,some e,none,true,true)) (hB:Bs.drop j=B0) (hl:e'.loc) (hz:∀ b,¬ e'.fz b)
  (hm:∀ w,VI Bs H w->xZ P ⟨none,op,ty,ps,aft,g⟩ env w (fun w'=>e'.holds w'/\Keep e.S w w'/\∀ q,e'.S q->(e.S q\/w.heap.size<=q)/\q<w'.heap.size))
  (h:VD P n Q ks ops Hs B0 L fuel (listed.setIfInBounds i true) env A (yx H k e') Bs):VD P n Q ks ops Hs B0 L (fuel+1) listed env A H Bs:=by
 simp only[Prod.mk.injEq]at hn
 subst hB
 obtain⟨h1,h3,h4,h5,h6⟩:=hn
 refine fun hH hA w hI=>zo8 i hi hr h1 (hm w hI) ?_
 rintro w' ⟨hh,hk,hS⟩
 have hY:=hI.set h3 hk hh hl hz hS
 have da:Has Hs (yx H k e'):=hH.set h3 h6
 exact⟨(hY.drop j).pick da h5,h da (hA.res h3 h4) w' hY⟩
end
end Go.GL
namespace Go.Proofs.YtckdhgbepmpgiaaGreat
open Go.GL
theorem zko {nv k:Nat} (h:k<nv):(List.replicate k (-1:Int)++List.replicate (nv - k) 0).set k (-1)=List.replicate (k+1) (-1)++List.replicate (nv - (k+1)) 0:=by
 rw[zrw _ _ (by rw[zr1];exact zpJ _),zr1,zs0,show nv - k=(nv - (k+1))+1 by omega,zrt,List.set_cons_zero,List.replicate_succ',zqy]
 rfl
def km (nv i:Nat):List (List Int):=List.replicate i (List.replicate nv (-1))
theorem zcr (nv i:Nat):km nv (i+1)=km nv i++[List.replicate nv (-1)]:=List.replicate_succ'
theorem zhN (nv N:Nat):Shp (km nv N) N nv:=⟨by simp[km],fun r hr=>by rw[(List.mem_replicate.1 hr).2];simp⟩
theorem zfK {nv N i:Nat} {v:Int}:bfV (km nv N) i v=-1:=by
 unfold bfV km
 rw[List.getElem?_replicate]
 split
 .
  rw[zs6,List.getElem?_replicate]
  split<;>rfl
 rfl
theorem jI {w:World} {e:TypeId} {b n c i:Nat} {xs:List Value} {v:Value} (h:w.ownsRow 0 e 1 (.slice (some ⟨b,0,none⟩) n c) n xs) (hv:xs[i]?=some v):w.cell? ⟨b,0+(i:Int).toNat*1,none⟩=some v:=by
 have:=(jx h).2.2 i v hv
 simpa using this
def xPh (l:List Phn) (b v:Int):Int:=(ze3 l v).getD b
theorem zek {l:List Phn} {p:Phn} {v:Int} (h:p.var ≠ v):ze3 (l++[p]) v=ze3 l v:=by
 unfold ze3
 rw[List.find?_append,List.find?_cons_of_neg (by simpa using h),List.find?_nil,Option.or_none]
theorem zl2 {x:Sn} {k:Nat} {p:Phn} {b v:Int} (hp:x.phis[k]?=some p) (h:p.var ≠ v):xPh (x.phis.take (k+1)) b v=xPh (x.phis.take k) b v:=by
 unfold xPh
 rw[ze hp,zek h]
theorem zkp {x:Sn} (ha:x.phis.Pairwise fun p q=>p.var<q.var) {k:Nat} {p:Phn} {b v:Int} (hp:x.phis[k]?=some p) (h:p.var=v):xPh (x.phis.take (k+1)) b v=p.ver:=by
 have hm:p ∈ x.phis.take (k+1):=by rw[ze hp];simp
 have ht:(x.phis.take (k+1)).Pairwise fun p q=>p.var<q.var:=ha.sublist (List.take_sublist _ _)
 unfold xPh
 rw[<- h,ziP ht hm];rfl
theorem zkq {g:List Nd} {s:Sf} {O:Nat->Int->Int} {n:Nat} {x:Sn} {v:Int} (hx:zj s n=x) (h0:n=0->x.phis=[]):xPh x.phis (if n=0 then v else ja ((xj g n).map fun y:Nat=>O y v)) v=eqV g s O n v:=by
 unfold xPh eqV zg6
 rw[hx]
 by_cases e:n=0
 . rw[zpv e,zpv e,h0 e];rfl
 rw[zpu e,zpu e]
 cases ze3 x.phis v<;>rfl
theorem zjg (f:Fl) (g:List Nd) (s:Sf) (hk:GOk f g) (hF:FormF f g s (rdV f g)) (hz:ssize f.body<=10000) (fH:1<=g.length) (eN:g.length<=100000) (fI:f.vars.length<=1000) (v1 v2 v3 gv ofv nodv:Value) (D:Nat->Prop) (W:World) (hf:RFl D W f v1 v2 v3) (hg:SlR 4 RNd D W gv g) (hS:RSf D W s ofv nodv) :
  Calls Tryz.prog 35 #[.agg #[v1,v2,v3],.agg #[gv],.agg #[ofv,nodv]] W (Ret fun r w'=>(∃ u1 u2 ins outs,r=.tuple #[u1,u2]/\Shp ins g.length f.vars.length/\Shp outs g.length f.vars.length/\SolV f g s f.vars.length (bfV ins)/\(∀ i,i<g.length->∀ v:Int,0<=v->v<(f.vars.length:Int)->bfV outs i v=yG f g s (bfV ins) i v)/\SlR 1 (RSl 1 zC) (fun q=>W.heap.size<=q) w' u1 ins/\SlR 1 (RSl 1 zC) (fun q=>W.heap.size<=q) w' u2 outs)/\Ext W w'):=by
 have eO:=hf
 have eo:=hg
 have fJ:=hS
 have eP:=hf.vars
 have dR:=hS.nodes
 obtain⟨ag,cg,rfl⟩:=hg.form
 obtain⟨an,cn,rfl⟩:=dR.form
 obtain⟨a1,c1,rfl⟩:=eP.form
 have fK:=dR.max
 have fL:=hg.max
 have eQ:=hF.len
 have ep:=hF.nn
 have fM:g.length*(f.vars.length*2)<=100000*(1000*2):=zrW eN (by omega)
 generalize fN:f.vars.length=nv at *
 generalize hN:g.length=N at *
 refine znm Tryz.func35 O Tryz.ntmps35 O (znE (Vs 2 O (V.box 3 O O (fun b3=>?_))))
 refine V.box 4 O O (fun b4=>(V.box 5 O O (fun b5=>?_)))
 refine Vs 6 O (znR 903 27 1 O (znR 905 27 1 O (znR 902 3 1 O (zoq 902 (e':=RowsP zc 3 [] []) O (fun w hI=>RowsOk.nil) RowsP.loc (fun _ h=>h) (fun q hq=>by obtain⟨i,u,h,_⟩:=hq;simp at h) (znR 904 3 1 O (zoq 904 (e':=RowsP zc 3 [] []) O (fun w hI=>RowsOk.nil) RowsP.loc (fun _ h=>h) (fun q hq=>by obtain⟨i,u,h,_⟩:=hq;simp at h) (Vs 8 O (zoe (σ:=Nat × Value × Value × List Value × List Value) [3,4,5,22] [3,4,5] [3,4,5] O (fun e ⟨i,ui,uo,hi,ho⟩=>(23,.int .i64 i)::(6,ui)::(7,uo)::e) (fun e ⟨i,ui,uo,hi,ho⟩=>(903,.row 27 1 ui i hi)::(902,RowsP zc 3 hi (km nv i))::(905,.row 27 1 uo i ho)::(904,RowsP zc 3 ho (km nv i))::e) (fun⟨i,ui,uo,hi,ho⟩=>i<=N/\hi.length=i/\ho.length=i) (fun⟨i,ui,uo,hi,ho⟩=>N - i) ((0,.slice none 0 0,.slice none 0 0,[],[])) (Sub.of O) (Has.of O) (fun _=>rfl) (fun _=>rfl) (fun _=>rfl) (⟨zpz _,rfl,rfl⟩) ?_))))))))
 rintro⟨i,ui,uo,hi,ho⟩ ⟨fO,eR,eS⟩
 show V _ _ _ _ _ ((23,.int .i64 i)::(6,ui)::(7,uo)::_) _ ((903,.row 27 1 ui i hi)::(902,RowsP zc 3 hi (km nv i))::(905,.row 27 1 uo i ho)::(904,RowsP zc 3 ho (km nv i))::_) _
 refine Vs 6 O (zlG O (fun lt=>?_) (fun lt=>?_))
 .
  refine Vs 5 O (zof (σ:=Nat × Nat) [3,4,5,6,7,22,23] [3,4,5,902,903,904,905] [3,4,5] O (fun e ⟨b28,b32⟩=>(8,.slice (some ⟨b28,0,none⟩) nv nv)::(9,.slice (some ⟨b32,0,none⟩) nv nv)::e) (fun e ⟨b28,b32⟩=>(28,.row 3 1 (.slice (some ⟨b28,0,none⟩) nv nv) nv (List.replicate nv (Value.int .i64 0)))::(32,.row 3 1 (.slice (some ⟨b32,0,none⟩) nv nv) nv (List.replicate nv (Value.int .i64 0)))::e) (fun⟨b28,b32⟩=>True) (fun _=>rfl) (fun _=>rfl) ?_ ?_)
  .
   refine Vw [3,4,5] [] O (Vd [0,1,2,4,5,6] 0 (by kernel_rfl) O O O (zov 3 7 28 32 0 tu27 Tryz.el3 tu27 Tryz.el3 O (by kernel_rfl) O O O O (⟨by omega,by omega,by omega,by omega⟩) ((by exact qa _ _ O:madeCells _ _=(List.replicate nv (Value.int .i64 0)).toArray)) ((by exact qa _ _ O:madeCells _ _=(List.replicate nv (Value.int .i64 0)).toArray)) (by simp) (fun b28=>?_) (fun b32=>?_)))
   .
    refine Vd [8] 0 (by kernel_rfl) O O O (zmA 7 32 0 tu27 Tryz.el3 O (by kernel_rfl) O O (by omega) (by omega) ((by exact qa _ _ O:madeCells _ _=(List.replicate nv (Value.int .i64 0)).toArray)) (by simp) (fun b32=>?_))
    refine Vd [9] 0 (by kernel_rfl) O O O (VD.done (by kernel_rfl) (zlT (⟨b28,b32⟩) (Sub.of O) (Has.of O) (trivial) 0 O O))
   refine zmA 3 28 0 tu27 Tryz.el3 O (by kernel_rfl) O O (by omega) (by omega) ((by exact qa _ _ O:madeCells _ _=(List.replicate nv (Value.int .i64 0)).toArray)) (by simp) (fun b28=>(Vd [8,9] 0 (by kernel_rfl) O O O (VD.done (by kernel_rfl) (zlT (⟨b28,b32⟩) (Sub.of O) (Has.of O) (trivial) 0 O O))))
  rintro⟨b28,b32⟩ _
  show V _ _ _ _ _ ((8,.slice (some ⟨b28,0,none⟩) nv nv)::(9,.slice (some ⟨b32,0,none⟩) nv nv)::_) _ ((28,.row 3 1 (.slice (some ⟨b28,0,none⟩) nv nv) nv (List.replicate nv (Value.int .i64 0)))::(32,.row 3 1 (.slice (some ⟨b32,0,none⟩) nv nv) nv (List.replicate nv (Value.int .i64 0)))::_) _
  refine Vs 9 O (zod 28 O (e':=.row 3 1 (.slice (some ⟨b28,0,none⟩) nv nv) nv ((List.replicate 0 (-1)++List.replicate (nv - 0) 0).map zc)) (by simp[zc]) (zod 32 O (e':=.row 3 1 (.slice (some ⟨b32,0,none⟩) nv nv) nv ((List.replicate 0 (-1)++List.replicate (nv - 0) 0).map zc)) (by simp[zc]) (Vs 1 O (zoe (σ:=Nat) [3,4,5,6,7,8,9,22,23,34] [3,4,5,902,903,904,905] [3,4,5] O (fun e k=>(35,.int .i64 k)::e) (fun e k=>(28,.row 3 1 (.slice (some ⟨b28,0,none⟩) nv nv) nv ((List.replicate k (-1)++List.replicate (nv - k) 0).map zc))::(32,.row 3 1 (.slice (some ⟨b32,0,none⟩) nv nv) nv ((List.replicate k (-1)++List.replicate (nv - k) 0).map zc))::e) (fun k=>k<=nv) (fun k=>nv - k) (0) (Sub.of O) (Has.of O) (fun _=>rfl) (fun _=>rfl) (fun _=>rfl) (zpz _) ?_))))
  rintro k eT
  refine Vs 6 O (zlG O (fun lk=>?_) (fun lk=>?_))
  .
   have dS:=zko (show k<nv by omega)
   refine Va 16 O (by omega) (znX 28 (k) ts3 O (by omega) (by simp;omega) (Va 1 O (by omega) (znX 32 (k) ts3 O (by omega) (by simp;omega) (zod 28 O (e':=.row 3 1 (.slice (some ⟨b28,0,none⟩) nv nv) nv ((List.replicate (k+1) (-1)++List.replicate (nv - (k+1)) 0).map zc)) (by rw[<- dS,zr9]) (zod 32 O (e':=.row 3 1 (.slice (some ⟨b32,0,none⟩) nv nv) nv ((List.replicate (k+1) (-1)++List.replicate (nv - (k+1)) 0).map zc)) (by rw[<- dS,zr9]) (Va 7 O (by omega) (V.back (k+1) (Sub.of O) (Has.of O) (by omega) (by first | omega | (dsimp only;omega)) 0 O O)))))))
  obtain rfl:k=nv:=by omega
  refine zod 28 O (e':=.row 3 1 (.slice (some ⟨b28,0,none⟩) k k) (List.replicate k (-1:Int)).length ((List.replicate k (-1:Int)).map zc)) (by rw[zs0,zru,zqz,zr1]) (zod 32 O (e':=.row 3 1 (.slice (some ⟨b32,0,none⟩) k k) (List.replicate k (-1:Int)).length ((List.replicate k (-1:Int)).map zc)) (by rw[zs0,zru,zqz,zr1]) (Vs 8 O (V.bs 47 [(0,_)] tR89 ts27 tz27 (by decide) O O (by kernel_rfl) (fun b47=>?_))))
  refine znS 903 47 tu89 Tryz.el27 O (by decide) O O (by omega) (by omega) (fun u903=>(Vs 2 O (V.bs 51 [(0,_)] tR89 ts27 tz27 (by decide) O O (by kernel_rfl) (fun b51=>?_))))
  refine znS 905 51 tu89 Tryz.el27 O (by decide) O O (by omega) (by omega) (fun u905=>(Va 9 O (by omega) (zoP 902 28 (e':=RowsP zc 3 (hi++[Value.slice (some ⟨b28,0,none⟩) k k]) (km k (i+1))) [(3,some (3,0)),(4,some (4,0)),(5,some (5,0))] O O O (fun w hI=>(by rw[zcr];exact(show RowsOk _ _ _ _ _ from hI.at 902 O).add (hI.at 28 O) (fun g hg i v hv dX=>hI.sep (k:=902) (k2:=28) O O (by decide) ⟨i,v,hv,dX⟩ hg))) (RowsP.loc) (fun _ h=>h) (fun q (hq:∃ (i:Nat) (v:Value),(hi++[Value.slice (some ⟨b28,0,none⟩) k k])[i]?=some v/\v.ownBlock=some q)=>zhw hq) ?_)))
  refine zoP 904 32 (e':=RowsP zc 3 (ho++[Value.slice (some ⟨b32,0,none⟩) k k]) (km k (i+1))) [(3,some (3,0)),(4,some (4,0)),(5,some (5,0))] O O O (fun w hI=>(by rw[zcr];exact(show RowsOk _ _ _ _ _ from hI.at 904 O).add (hI.at 32 O) (fun g hg i v hv dX=>hI.sep (k:=904) (k2:=32) O O (by decide) ⟨i,v,hv,dX⟩ hg))) (RowsP.loc) (fun _ h=>h) (fun q (hq:∃ (i:Nat) (v:Value),(ho++[Value.slice (some ⟨b32,0,none⟩) k k])[i]?=some v/\v.ownBlock=some q)=>zhw hq) (V.back (⟨i+1,u903,u905,hi++[.slice (some ⟨b28,0,none⟩) k k],ho++[.slice (some ⟨b32,0,none⟩) k k]⟩) (Sub.of O) (Has.of O) (⟨by omega,by rw[zps,eR];rfl,by rw[zps,eS];rfl⟩) (by first | omega | (dsimp only;omega)) 0 O O)
 obtain rfl:i=N:=by omega
 have er:Shp (km nv i) g.length nv:=by rw[hN];exact zhN nv i
 refine znU 903 O (by omega) ?_
 rintro oi ci rfl dz
 refine znU 905 O (by omega) ?_
 rintro oo cu rfl dA
 refine Vs 12 O (zoe (σ:=Bool × List (List Int) × List (List Int)) [3,4,5,6,7] [3,4,5,903,905] [3,4,5] O (fun e ⟨ch,ri,ro⟩=>(11,.bool ch)::e) (fun e ⟨ch,ri,ro⟩=>(902,RowsP zc 3 hi ri)::(904,RowsP zc 3 ho ro)::e) (fun⟨ch,ri,ro⟩=>Shp ri g.length nv/\Shp ro g.length nv/\FlwV f g s nv (bfV ri) (bfV ro)/\(ch=false->SolV f g s nv (bfV ri)/\∀ j,j<g.length->∀ v:Int,0<=v->v<(nv:Int)->bfV ro j v=yG f g s (bfV ri) j v)) (fun⟨ch,ri,ro⟩=>(2*(g.length*(nv*2)) - (rkT ri+rkT ro))*2+ch.toNat) ((true,km nv i,km nv i)) (Sub.of O) (Has.of O) (fun _=>rfl) (fun _=>rfl) (fun _=>rfl) (⟨er,er,FlwV.start (fun _ _=>zfK) (fun _ _=>zfK),fun h=>by cases h⟩) ?_)
 rintro⟨ch,ri,ro⟩ ⟨dT,dU,dY,dZ⟩
 show V _ _ _ _ _ ((11,.bool ch)::_) _ ((902,RowsP zc 3 hi ri)::(904,RowsP zc 3 ho ro)::_) _
 refine Vs 6 O (V.bool O (fun c1=>?_) (fun c1=>?_))
 .
  subst c1
  refine Vs 17 O (zoe (σ:=Nat × Bool × List (List Int) × List (List Int)) [3,4,5,6,7,57] [3,4,5,903,905] [3,4,5] O (fun e ⟨n,c2,qi,qo⟩=>(58,.int .i64 n)::(11,.bool c2)::e) (fun e ⟨n,c2,qi,qo⟩=>(902,RowsP zc 3 hi qi)::(904,RowsP zc 3 ho qo)::e) (fun⟨n,c2,qi,qo⟩=>n<=i/\PasF f g s nv ri ro qi qo c2 (fun a u=>a<n/\u<nv)) (fun⟨n,c2,qi,qo⟩=>i - n) ((0,false,ri,ro)) (Sub.of O) (Has.of O) (fun _=>rfl) (fun _=>rfl) (fun _=>rfl) (⟨zpz _,PasF.start dT dU dY (fun a u h=>by omega)⟩) ?_)
  rintro⟨n,c2,qi,qo⟩ ⟨hn,dh⟩
  show V _ _ _ _ _ ((58,.int .i64 n)::(11,.bool c2)::_) _ ((902,RowsP zc 3 hi qi)::(904,RowsP zc 3 ho qo)::_) _
  refine Vs 6 O (zlG O (fun ln=>?_) (fun ln=>?_))
  .
   have dx:n<g.length:=by omega
   obtain⟨x,dk⟩:∃ x,s.nodes[n]?=some x:=⟨_,zpk (by omega)⟩
   have dB:=hF.nod n x dk
   have dy:zj s n=x:=yP dk
   refine Vs 19 O (zoe (σ:=Nat × Bool × List (List Int) × List (List Int)) [3,4,5,6,7,12,57,58,63] [3,4,5,903,905] [3,4,5] O (fun e ⟨v,c3,ti,to⟩=>(64,.int .i64 v)::(11,.bool c3)::e) (fun e ⟨v,c3,ti,to⟩=>(902,RowsP zc 3 hi ti)::(904,RowsP zc 3 ho to)::e) (fun⟨v,c3,ti,to⟩=>v<=nv/\PasF f g s nv ri ro ti to c3 (fun a u=>(a<n/\u<nv)\/(a=n/\u<v))) (fun⟨v,c3,ti,to⟩=>nv - v) ((0,c2,qi,qo)) (Sub.of O) (Has.of O) (fun _=>rfl) (fun _=>rfl) (fun _=>rfl) (⟨zpz _,dh.imp (fun a u h=>by omega)⟩) ?_)
   rintro⟨v,c3,ti,to⟩ ⟨fP,dg⟩
   show V _ _ _ _ _ ((64,.int .i64 v)::(11,.bool c3)::_) _ ((902,RowsP zc 3 hi ti)::(904,RowsP zc 3 ho to)::_) _
   refine Vs 6 O (zlG O (fun lv=>?_) (fun lv=>?_))
   .
    have fQ:to.length=i:=by have:=dg.sho.len;omega
    have fR:ti.length=i:=by have:=dg.shi.len;omega
    refine Vs 20 O (zo1 Tryz.call70 O (fun w hI=>zar g (by omega) n _ D w (Tr1 hI.k0 eo)) ?_)
    rintro pr w1 w2 fS eU d5 d6
    obtain⟨apr,cpr,rfl⟩:=d5.form
    have eV:=d5.max
    have eW:(qU g n).length=(xj g n).length:=by simp[qU]
    generalize eX:qU g n=pI at *
    refine Vs 5 O (zoe (σ:=Nat) [3,4,5,6,7,11,12,13,57,58,63,64,69,70] [3,4,5,902,903,904,905] [3,4,5] O (fun e j=>(71,.int .i64 j)::(14,.int .i64 (ja (((xj g n).take j).map fun y:Nat=>bfV to y v)))::e) (fun e j=>e) (fun j=>j<=pI.length) (fun j=>pI.length - j) (0) (Sub.of O) (Has.of O) (fun _=>rfl) (fun _=>rfl) (fun _=>rfl) (zpz _) ?_)
    rintro j hj
    refine Vs 6 O (zlG O (fun lj=>?_) (fun lj=>?_))
    .
     refine Vs 6 O ?_
     obtain⟨y,dC,eY⟩:=gE_ pI (j) (by omega)
     obtain⟨fT,fU,fV,d7,d8,d9,ea⟩:=d5.atD dC
     obtain rfl:=ea
     refine zob 1000 0 O O (fun h_=>by have eZ:=d6 _ h_;have e8:=d8;first | omega | exact eZ e8) d9 ?_
     refine znN 1000 tR27 ts3 O d7 (by omega) (_) (rfl) O ?_
     obtain⟨m,rfl,e9,fa⟩:=kZ (show (qU g n)[j]?=some y by rw[eX];exact dC)
     have eu:ja (((xj g n).take (j+1)).map fun y:Nat=>bfV to y v)=xk (ja (((xj g n).take j).map fun y:Nat=>bfV to y v)) (bfV to m v):=by rw[ze e9,zr3,List.map_singleton,ze2]
     obtain⟨r,dD,fW⟩:=dg.sho.at fa
     obtain⟨o,dV⟩:∃ z,r[v]?=some z:=⟨_,zpk (by omega)⟩
     rw[zaG dD dV]at eu
     obtain⟨hu,dl⟩:∃ z,ho[m]?=some z:=⟨_,zpk (by omega)⟩
     refine znG (p:=∃ ao ch,hu=.slice ao r.length ch/\(0<r.length->∃ g,ao=some ⟨g,0,none⟩)) (fun w hI=>za0 (show RowsOk _ _ _ _ _ from hI.at 904 O) dl dD) (fun fb=>?_)
     obtain⟨ao,cu2,rfl,eb⟩:=fb
     obtain⟨gu,rfl⟩:=eb (by omega)
     generalize ja (((xj g n).take j).map fun y:Nat=>bfV to y v)=ac at *
     refine Vs 4 O (zof (σ:=Unit) [3,4,5,6,7,11,12,13,57,58,63,64,69,70,71] [3,4,5,902,903,904,905] [3,4,5] O (fun e u=>(14,.int .i64 (xk ac o))::e) (fun e u=>e) (fun u=>True) (fun _=>rfl) (fun _=>rfl) ?_ ?_)
     .
      refine Va 6 O (by omega) (znW 905 (m) tg27 O (by omega) (dl) (Vs 1 O (znb O (fun w hI=>zmh tR27 ts3 O O O (by omega)) (znb O (fun w hI=>R.load tg3 O (qj (hI.at 904 O) dl dD dV)) (Vs 2 O (V.sp 84 O (fun e1=>?_) (fun e1=>?_)))))))
      . refine Vs 16 O (zlT (()) (Sub.cons (by unfold xk;rw[zpv (.inl e1)];rfl) (Sub.of O)) (Has.of O) (True.intro) 0 O O)
      refine Va 3 O (by omega) (znW 905 (m) tg27 O (by omega) (dl) (Vs 1 O (znb O (fun w hI=>zmh tR27 ts3 O O O (by omega)) (znb O (fun w hI=>R.load tg3 O (qj (hI.at 904 O) dl dD dV)) (Vs 6 O (zlG O (fun e2=>?_) (fun e2=>?_)))))))
      . refine Vs 2 O (zlT (()) (Sub.cons (by unfold xk;rw[zpv (.inr e2)];rfl) (Sub.of O)) (Has.of O) (True.intro) 0 O O)
      refine Vs 7 O (zlG O (fun e3=>?_) (fun e3=>?_))
      . refine Va 4 O (by omega) (znW 905 (m) tg27 O (by omega) (dl) (Vs 1 O (znb O (fun w hI=>zmh tR27 ts3 O O O (by omega)) (znb O (fun w hI=>R.load tg3 O (qj (hI.at 904 O) dl dD dV)) (Vs 3 O (zlT (()) (Sub.cons (by unfold xk;rw[zpu (fun h=>h.elim e1 e2),zpv e3];rfl) (Sub.of O)) (Has.of O) (True.intro) 0 O O))))))
      refine Vs 4 O (zlT (()) (Sub.cons (by unfold xk;rw[zpu (fun h=>h.elim e1 e2),zpu e3];rfl) (Sub.of O)) (Has.of O) (True.intro) 0 O O)
     rintro u -
     refine Va 6 O (by omega) (V.back (j+1) (Sub.cons (rfl) (Sub.cons (by rw[eu];rfl) (Sub.of O))) (Has.of O) (by omega) (by omega) 0 O O)
    obtain rfl:j=pI.length:=by omega
    have fc:((xj g n).take pI.length)=xj g n:=zrF (by omega)
    have dm:=zkq (g:=g) (O:=bfV to) (v:=(v:Int)) dy (fun e=>dB.phi.zero e)
    generalize ew:(if n=0 then (v:Int) else ja ((xj g n).map fun y:Nat=>bfV to y v))=bs at dm
    refine Vs 6 O (zof (σ:=Unit) [3,4,5,6,7,11,12,13,57,58,63,64] [3,4,5,902,903,904,905] [3,4,5] O (fun e u=>(14,.int .i64 bs)::e) (fun e u=>e) (fun u=>True) (fun _=>rfl) (fun _=>rfl) ?_ ?_)
    .
     refine Vs 6 O (zlG O (fun z0=>?_) (fun z0=>?_))
     . refine Vs 4 O (zlT (()) (Sub.cons (by rw[<- ew,zpv (by omega)];rfl) (Sub.of O)) (Has.of O) (True.intro) 0 O O)
     refine Vs 1 O (zlT (()) (Sub.cons (by rw[<- ew,zpu (by omega),fc];rfl) (Sub.of O)) (Has.of O) (True.intro) 0 O O)
    rintro u -
    refine Vs 7 O ?_
    obtain⟨x2,de,ey⟩:=gE_ s.nodes (n) (by omega)
    obtain⟨fe,fg,fh,dE,_,dF,dG⟩:=dR.at de
    obtain⟨ez,eA,rfl,df,dH⟩:=dG
    obtain⟨eC,eD,rfl⟩:=df.form
    obtain⟨eE,eF,rfl⟩:=dH.form
    refine zoa 2000 1 O O dF ?_
    refine znN 2000 tR28 ts59 O dE (by omega) (_) (rfl) O ?_
    obtain rfl:x2=x:=Option.some.inj (de.symm.trans dk)
    have fX:=df.max
    refine Vs 7 O (zoe (σ:=Nat) [3,4,5,6,7,11,12,13,57,58,63,64,114,115] [3,4,5,902,903,904,905] [3,4,5] O (fun e k=>(116,.int .i64 k)::(14,.int .i64 (xPh (x2.phis.take k) bs v))::e) (fun e k=>e) (fun k=>k<=x2.phis.length) (fun k=>x2.phis.length - k) (0) (Sub.of O) (Has.of O) (fun _=>rfl) (fun _=>rfl) (fun _=>rfl) (zpz _) ?_)
    rintro k eT
    refine Vs 6 O (zlG O (fun lk=>?_) (fun lk=>?_))
    .
     refine Vs 6 O ?_
     obtain⟨p,dr,fi⟩:=gE_ x2.phis (k) (by omega)
     obtain⟨fY,fZ,f0,ec,_,ed,ee⟩:=df.at dr
     obtain⟨fj,fk,rfl,ef,eg⟩:=ee
     obtain⟨fm,fp,rfl⟩:=ef.form
     obtain⟨fq,ft,rfl⟩:=eg.form
     refine zoa 3000 1 O O ed ?_
     refine znN 3000 tR56 ts88 O ec (by omega) (_) (rfl) O (Vs 1 O (V.alloc 18 tz88 O O (fun b18=>?_)))
     refine Vs 11 O (zlG O (fun e1=>?_) (fun e1=>?_))
     . refine Va 11 O (by omega) (V.back (k+1) (Sub.cons (rfl) (Sub.cons (by rw[zkp dB.phi.asc dr e1];rfl) (Sub.of O))) (Has.of O) (by omega) (by omega) 0 O O)
     refine Va 7 O (by omega) (V.back (k+1) (Sub.cons (rfl) (Sub.cons (by rw[zl2 dr e1];rfl) (Sub.of O))) (Has.of O) (by omega) (by omega) 0 O O)
    obtain rfl:k=x2.phis.length:=by omega
    generalize dt:eqV g s (bfV to) n v=ex at dm
    refine V.eq 14 (v:=.int .i64 ex) O (by rw[zpp,dm]) ?_
    obtain⟨r1,da,fu⟩:=dg.shi.at dx
    obtain⟨o1,du⟩:∃ z,r1[v]?=some z:=⟨_,zpk (by omega)⟩
    obtain⟨r2,db,fv⟩:=dg.sho.at dx
    obtain⟨o2,dI⟩:∃ z,r2[v]?=some z:=⟨_,zpk (by omega)⟩
    have dW:=zaG da du
    have eh:=zaG db dI
    obtain⟨fw,hY⟩:∃ z,hi[n]?=some z:=⟨_,zpk (by omega)⟩
    refine znG (p:=∃ ao ch,fw=.slice ao r1.length ch/\(0<r1.length->∃ g,ao=some ⟨g,0,none⟩)) (fun w hI=>za0 (show RowsOk _ _ _ _ _ from hI.at 902 O) hY da) (fun fy=>?_)
    obtain⟨ao1,cu1,rfl,ei⟩:=fy
    obtain⟨gu1,rfl⟩:=ei (by omega)
    obtain⟨fA,dc⟩:∃ z,ho[n]?=some z:=⟨_,zpk (by omega)⟩
    refine znG (p:=∃ ao ch,fA=.slice ao r2.length ch/\(0<r2.length->∃ g,ao=some ⟨g,0,none⟩)) (fun w hI=>za0 (show RowsOk _ _ _ _ _ from hI.at 904 O) dc db) (fun fB=>?_)
    obtain⟨ao2,cu2,rfl,ej⟩:=fB
    obtain⟨gu2,rfl⟩:=ej (by omega)
    have dS:o1=-2 -> -2=ex:=fun e=>by
     have:=dg.run.stay dx (v:=(v:Int)) (by omega) (by omega)
     rw[dW,zpv e,dt]at this
     exact this
    refine Vs 6 O (zof (σ:=Unit) [3,4,5,6,7,11,12,13,57,58,63,64] [3,4,5,902,903,904,905] [3,4,5] O (fun e u=>(14,.int .i64 ex)::e) (fun e u=>e) (fun u=>True) (fun _=>rfl) (fun _=>rfl) ?_ ?_)
    .
     refine Va 5 O (by omega) (znW 903 (n) tg27 O (by omega) (hY) (Vs 1 O (znb O (fun w hI=>zmh tR27 ts3 O O O (by omega)) (znb O (fun w hI=>R.load tg3 O (qj (hI.at 902 O) hY da du)) (Vs 3 O (zlG O (fun e1=>?_) (fun e1=>?_)))))))
     . refine Vs 3 O (zlT (()) (Sub.cons (by rw[<- dS e1];rfl) (Sub.of O)) (Has.of O) (True.intro) 0 O O)
     refine Vs 1 O (zlT (()) (Sub.of O) (Has.of O) (True.intro) 0 O O)
    rintro u -
    generalize dw:(if xX f g n=(v:Int) then x2.dfn else ex)=yv
    refine Vs 8 O (zof (σ:=Unit) [3,4,5,6,7,11,12,13,14,57,58,63,64] [3,4,5,902,903,904,905] [3,4,5] O (fun e u=>(19,.int .i64 yv)::e) (fun e u=>e) (fun u=>True) (fun _=>rfl) (fun _=>rfl) ?_ ?_)
    .
     refine Vs 5 O (znZ Tryz.call23 O (fun w hI=>zbN f g hk hz n dx _ _ _ _ D D w (Tr1 hI.k1 eO) (Tr1 hI.k1 eo)) (Vs 4 O (zlG O (fun d=>?_) (fun d=>?_))))
     .
      refine Vs 4 O ?_
      obtain⟨x3,di,eG⟩:=gE_ s.nodes (n) (by omega)
      obtain⟨fC,fD,fE,dJ,_,dK,dL⟩:=dR.at di
      obtain⟨eH,eI,rfl,dM,dN⟩:=dL
      obtain⟨eJ,eK,rfl⟩:=dM.form
      obtain⟨eL,eM,rfl⟩:=dN.form
      refine zoa 4000 1 O O dK ?_
      refine znN 4000 tR28 ts59 O dJ (by omega) (_) (rfl) O ?_
      obtain rfl:x3=x2:=Option.some.inj (di.symm.trans de)
      refine Vs 4 O (zlT (()) (Sub.cons (by rw[<- dw,zpv d];rfl) (Sub.of O)) (Has.of O) (True.intro) 0 O O)
     refine Vs 1 O (zlT (()) (Sub.cons (by rw[<- dw,zpu d];rfl) (Sub.of O)) (Has.of O) (True.intro) 0 O O)
    rintro u -
    refine Vs 1 O (zof (σ:=Bool × List (List Int) × List (List Int)) [3,4,5,6,7,12,57,58,63,64] [3,4,5,903,905] [3,4,5] O (fun e ⟨c3,ti,to⟩=>(11,.bool c3)::e) (fun e ⟨c3,ti,to⟩=>(902,RowsP zc 3 hi ti)::(904,RowsP zc 3 ho to)::e) (fun⟨c3,ti,to⟩=>PasF f g s nv ri ro ti to c3 (fun a u=>(a<n/\u<nv)\/(a=n/\u<v+1))) (fun _=>rfl) (fun _=>rfl) ?_ ?_)
    .
     refine Va 5 O (by omega) (znW 903 (n) tg27 O (by omega) (hY) (Vs 1 O (znb O (fun w hI=>zmh tR27 ts3 O O O (by omega)) (znb O (fun w hI=>R.load tg3 O (qj (hI.at 902 O) hY da du)) (Vs 3 O (V.sp 157 O (fun m1=>?_) (fun m1=>?_)))))))
     .
      have yx:PasF f g s nv ri ro (jQ ti n v ex) (jQ to n v yv) true (fun a u=>(a<n/\u<nv)\/(a=n/\u<v+1)):=by
       have:=dg.set (dn':=fun a u=>(a<n/\u<nv)\/(a=n/\u<v+1)) ep dx (v:=v) (by omega) (by rw[dW,eh,dt,dy,dw];exact fun h=>m1 h.1)
       rw[dt,dy,dw]at this
       exact this
      refine Vs 13 O (Vw [3,4,5,903,905] [13,15] O (Vb [0,1,2,4,5,6,7,9,10,11] 0 (by kernel_rfl) O O O (by omega) (zor 3 O (by kernel_rfl) O 0 O O (fun w hI=>R.load tg27 O (jI (hI.at 903 O) hY)) (zor 8 O (by kernel_rfl) O 0 O O (fun w hI=>R.load tg27 O (jI (hI.at 905 O) dc)) (zon 12 O (by kernel_rfl) O (fun w=>zmh tR27 ts3 O O O (by omega)) (zoM 13 902 0 (e':=RowsP zc 3 hi (ti.set n (r1.set v ex))) O (by kernel_rfl) O O (RowsP.loc) (fun _ h=>h) (fun w hI=>zoZ ts3 (hI.at 902 O) hY da (by omega) O O O) ?_))))))
      refine zon 14 O (by kernel_rfl) O (fun w=>zmh tR27 ts3 O O O (by omega)) (zoM 15 904 0 (e':=RowsP zc 3 ho (to.set n (r2.set v yv))) O (by kernel_rfl) O O (RowsP.loc) (fun _ h=>h) (fun w hI=>zoZ ts3 (hI.at 904 O) dc db (by omega) O O O) (Vd [16] 0 (by kernel_rfl) O O O (VD.done (by kernel_rfl) (zod 902 O (e':=RowsP zc 3 hi (jQ ti n v ex)) (by unfold jQ;rw[da];rfl) (zod 904 O (e':=RowsP zc 3 ho (jQ to n v yv)) (by unfold jQ;rw[db];rfl) (zlT ((true,jQ ti n v ex,jQ to n v yv)) (Sub.of O) (Has.of O) (yx) 0 O O))))))
     refine Va 3 O (by omega) (znW 905 (n) tg27 O (by omega) (dc) (Vs 1 O (znb O (fun w hI=>zmh tR27 ts3 O O O (by omega)) (znb O (fun w hI=>R.load tg3 O (qj (hI.at 904 O) dc db dI)) (Vs 5 O (zlG O (fun m2=>?_) (fun m2=>?_)))))))
     .
      have yx:PasF f g s nv ri ro (jQ ti n v ex) (jQ to n v yv) true (fun a u=>(a<n/\u<nv)\/(a=n/\u<v+1)):=by
       have:=dg.set (dn':=fun a u=>(a<n/\u<nv)\/(a=n/\u<v+1)) ep dx (v:=v) (by omega) (by rw[dW,eh,dt,dy,dw];exact fun h=>m2 h.2)
       rw[dt,dy,dw]at this
       exact this
      refine Vw [3,4,5,903,905] [13,15] O (Vb [0,1,2,4,5,6,7,9,10,11] 0 (by kernel_rfl) O O O (by omega) (zor 3 O (by kernel_rfl) O 0 O O (fun w hI=>R.load tg27 O (jI (hI.at 903 O) hY)) (zor 8 O (by kernel_rfl) O 0 O O (fun w hI=>R.load tg27 O (jI (hI.at 905 O) dc)) (zon 12 O (by kernel_rfl) O (fun w=>zmh tR27 ts3 O O O (by omega)) (zoM 13 902 0 (e':=RowsP zc 3 hi (ti.set n (r1.set v ex))) O (by kernel_rfl) O O (RowsP.loc) (fun _ h=>h) (fun w hI=>zoZ ts3 (hI.at 902 O) hY da (by omega) O O O) ?_)))))
      refine zon 14 O (by kernel_rfl) O (fun w=>zmh tR27 ts3 O O O (by omega)) (zoM 15 904 0 (e':=RowsP zc 3 ho (to.set n (r2.set v yv))) O (by kernel_rfl) O O (RowsP.loc) (fun _ h=>h) (fun w hI=>zoZ ts3 (hI.at 904 O) dc db (by omega) O O O) (Vd [16] 0 (by kernel_rfl) O O O (VD.done (by kernel_rfl) (zod 902 O (e':=RowsP zc 3 hi (jQ ti n v ex)) (by unfold jQ;rw[da];rfl) (zod 904 O (e':=RowsP zc 3 ho (jQ to n v yv)) (by unfold jQ;rw[db];rfl) (zlT ((true,jQ ti n v ex,jQ to n v yv)) (Sub.of O) (Has.of O) (yx) 0 O O))))))
     have fF:PasF f g s nv ri ro ti to c3 (fun a u=>(a<n/\u<nv)\/(a=n/\u<v+1)):=dg.skip (i:=n) (v:=v) (by rw[dW,dt];omega) (by rw[eh,dt,dy,dw];omega) (fun a u h=>by omega)
     refine Vs 1 O (zlT ((c3,ti,to)) (Sub.of O) (Has.of O) (fF) 0 O O)
    rintro⟨c3,ti,to⟩ fG
    show V _ _ _ _ _ ((11,.bool c3)::_) _ ((902,RowsP zc 3 hi ti)::(904,RowsP zc 3 ho to)::_) _
    refine Va 6 O (by omega) (V.back (⟨v+1,c3,ti,to⟩) (Sub.of O) (Has.of O) (⟨by omega,fG⟩) (by first | omega | (dsimp only;omega)) 1 O O)
   refine Va 10 O (by omega) (V.back (⟨n+1,c3,ti,to⟩) (Sub.of O) (Has.of O) (⟨by omega,dg.imp (fun a u h=>by omega)⟩) (by first | omega | (dsimp only;omega)) 0 O O)
  have f5:(2*(g.length*(nv*2)) - (rkT qi+rkT qo))*2+c2.toNat<(2*(g.length*(nv*2)) - (rkT ri+rkT ro))*2+true.toNat:=by
   have h1:=zkh dh.shi
   have h2:=zkh dh.sho
   cases c2 with
   | true=>have:=dh.yes rfl;simp only[zqb];omega
   | false=>obtain⟨⟨e1,e2⟩,_⟩:=dh.no rfl;rw[e1,e2];simp only[zqb,Bool.toNat_false];omega
  have dO:c2=false->SolV f g s nv (bfV qi)/\∀ j,j<g.length->∀ v:Int,0<=v->v<(nv:Int)->bfV qo j v=yG f g s (bfV qi) j v:=fun e=>by
   subst e
   exact dh.done (fun a u h1 h2=>by omega)
  refine Vs 5 O (V.back (⟨c2,qi,qo⟩) (Sub.of O) (Has.of O) (⟨dh.shi,dh.sho,dh.run,dO⟩) (by first | omega | (dsimp only;omega)) 0 O O)
 subst c1
 obtain⟨ek,dQ⟩:=dZ rfl
 have em:ri.length=i:=by have:=dT.len;omega
 have en:ro.length=i:=by have:=dU.len;omega
 rw[hN]at dT dU dQ
 refine Vs 14 O (zlZ Tryz.results35 O O (fun w hI=>⟨_,rfl,⟨_,_,ri,ro,rfl,dT,dU,ek,dQ,zbP (show w.ownsRow 0 _ 1 _ _ _ from em ▸ hI.at 903 O) (hI.at 902 O) (fun g hg=>hI.own 903 0 O O g hg) (fun k u g h1 h2=>hI.own 902 0 O O g ⟨k,u,h1,h2⟩),zbP (show w.ownsRow 0 _ 1 _ _ _ from en ▸ hI.at 905 O) (hI.at 904 O) (fun g hg=>hI.own 905 0 O O g hg) (fun k u g h1 h2=>hI.own 904 0 O O g ⟨k,u,h1,h2⟩)⟩,hI.k0⟩))
theorem zhO {l:List Int} {x:Int} {k:Nat} (h:l[k]?=some x) (hn:x ∉ l.take k):l.idxOf x=k:=by
 induction l generalizing k with
 | nil=>simp at h
 | cons y l ih =>
  cases k with
  | zero=>simp at h;subst h;simp
  | succ k =>
   rw[List.take_succ_cons,zpA]at hn
   have hY:(y == x)=false:=by simpa using fun e:y=x=>hn (.inl e.symm)
   rw[List.idxOf_cons,hY,cond_false,ih (by simpa using h) (fun e=>hn (.inr e))]
theorem zgi (l:List Int) (x:Int) (v:Value) (D:Nat->Prop) (W:World) (hv:SlR 1 zC D W v l) (hx:x ∈ l):Calls Tryz.prog 91 #[v,.int .i64 x] W (Ret fun r w'=>r=.int .i64 ((l.idxOf x:Nat):Int)/\Ext W w'):=by
 obtain⟨av,cv,rfl⟩:=hv.form
 have dg:=hv.max
 refine znl Tryz.func91 O Tryz.ntmps91 O (znE (Vs 14 O (zoe (σ:=Nat) [0,1,7] [] [] O (fun e k=>(8,.int .i64 k)::e) (fun e k=>e) (fun k=>k<=l.length/\x ∉ l.take k) (fun k=>l.length - k) (0) (Sub.of O) (Has.of O) (fun _=>rfl) (fun _=>rfl) (fun _=>rfl) (⟨zpz _,by simp⟩) ?_)))
 rintro k ⟨hk,hn⟩
 refine Vs 6 O (zlG O (fun de=>?_) (fun de=>?_))
 .
  refine Vs 15 O ?_
  obtain⟨y,hY,df⟩:=gE_ l (k) (by omega)
  obtain⟨dh,di,dk,da,_,db,dc⟩:=hv.at hY
  obtain rfl:=dc
  refine zoa 1000 0 O O db ?_
  refine znN 1000 tR27 ts3 O da (by omega) (_) (rfl) O (Vs 4 O (zlG O (fun he=>?_) (fun he=>?_)))
  . refine Vs 12 O (zlW Tryz.results91 O (fun w hI=>⟨_,rfl,by rw[zhO (he ▸ hY) hn],hI.k0⟩))
  refine Va 7 O (by omega) (V.back (k+1) (Sub.of O) (Has.of O) (⟨by omega,fun h=>((zeg hY).1 h).elim hn he⟩) (by first | omega | (dsimp only;omega)) 0 O O)
 have:k=l.length:=by omega
 subst this
 rw[zpp]at hn
 exact absurd hx hn
noncomputable def phV (f:Fl) (g:List Nd) (s:Sf) (y:Nat) (vl:List Int) (p:Phn):Int:=lki vl (zap f g s y p.var).toNat
noncomputable def qW (f:Fl) (g:List Nd) (s:Sf) (y:Nat) (vl:List Int) (l:List Phn):List Int:=l.foldl (fun t p=>t.set p.ver.toNat (phV f g s y vl p)) vl
theorem zgj {f:Fl} {g:List Nd} {s:Sf} {y:Nat} {vl:List Int} {l:List Phn} {i:Nat} {p:Phn} (h:l[i]?=some p):qW f g s y vl (l.take (i+1))=(qW f g s y vl (l.take i)).set p.ver.toNat (phV f g s y vl p):=by
 unfold qW
 rw[ze h,zqT];rfl
theorem zbS {f:Fl} {g:List Nd} {s:Sf} {y:Nat} {vl:List Int} (l:List Phn):(qW f g s y vl l).length=vl.length:=by
 unfold qW
 suffices ∀ t:List Int,(l.foldl (fun t p=>t.set p.ver.toNat (phV f g s y vl p)) t).length=t.length from this vl
 induction l with
 | nil=>intro t;rfl
 | cons p l ih=>intro t;rw[zqU,ih,zr2]
theorem zjh (f:Fl) (g:List Nd) (s:Sf) (hR:RightF f g s (rdV f g)) (n:Nat) (hn:n<g.length) (y:Nat) (hy:(zj s n).phis ≠ []->y ∈ xj g n) (_:g.length<=100000) (d8:(zj s n).phis.length<=1000000) (vl:List Int) (d9:vl.length=s.of_.length) (_:vl.length<=1000000) (b gb bv cv:Nat) (ofv nodv hv rv ov tv:Value) (D:Nat->Prop) (W:World) (hc:Cells W b 0 (rnr gb ofv nodv (.slice (some ⟨bv,0,none⟩) vl.length cv) hv rv ov tv)) (hS:RSf D W s ofv nodv) (du:(xO (.slice (some ⟨bv,0,none⟩) vl.length cv) vl).holds W) (ea:∀ q,D q->bv ≠ q) (dF:bv ≠ b) :
  Calls Tryz.prog 47 #[.pointer (some ⟨b,0,none⟩),.int .i64 y,.int .i64 n] W (Ret fun r w'=>∃ _x:Unit,r=.tuple #[]/\(xO (.slice (some ⟨bv,0,none⟩) vl.length cv) (qW f g s y vl (zj s n).phis)).holds w'/\Keep (xO (.slice (some ⟨bv,0,none⟩) vl.length cv) vl).S W w'/\∀ q,(xO (.slice (some ⟨bv,0,none⟩) vl.length cv) (qW f g s y vl (zj s n).phis)).S q->((xO (.slice (some ⟨bv,0,none⟩) vl.length cv) vl).S q\/W.heap.size<=q)/\q<w'.heap.size):=by
 have dG:=hS.nodes
 obtain⟨an,cn,rfl⟩:=dG.form
 have eu:=dG.max
 have eb:=hR.len
 obtain⟨x,dh⟩:∃ x,s.nodes[n]?=some x:=⟨_,zpk (by omega)⟩
 have de:=hR.nod n x dh
 have ec:zj s n=x:=yP dh
 rw[ec]at d8 hy ⊢
 have dw:∀ q,(xO (.slice (some ⟨bv,0,none⟩) vl.length cv) vl).S q->¬ D q:=fun q h hd=>ea q hd (by cases h;rfl)
 have dH:∀ p ∈ x.phis,∃ q:Nat,p.ver=(q:Int)/\q<vl.length:=fun p hp=>by
  obtain⟨q,h1,h2⟩:=qF (de.phi.ver p hp)
  exact⟨q,h1,by omega⟩
 refine znm Tryz.func47 O Tryz.ntmps47 O (zop 900 (.row 3 1 (.slice (some ⟨bv,0,none⟩) vl.length cv) vl.length (vl.map zc)) (du) trivial (fun _ h=>h) (fun q hq=>xB du hq) (zob 901 0 O O (fun h=>dF (by cases h;rfl)) hc (znL 0 901 0 O O (Vs 8 O ?_))))
 obtain⟨x2,dc,dU⟩:=gE_ s.nodes (n) (by omega)
 obtain⟨ed,ee,ef,dx,dy,dz,dA⟩:=dG.atD dc
 obtain⟨dV,dW,rfl,da,dB⟩:=dA
 obtain⟨dX,dY,rfl⟩:=da.form
 obtain⟨dZ,d5,rfl⟩:=dB.form
 refine zob 1000 0 O O (fun h_=>by have di:=dw _ h_;have dk:=dy;first | omega | exact di dk) dz ?_
 refine znN 1000 tR28 ts59 O dx (by omega) (_) (rfl) O ?_
 obtain rfl:x2=x:=Option.some.inj (dc.symm.trans dh)
 refine Vs 9 O (zmz 23 tu27 Tryz.el3 O (by omega) (by omega) (zs:=List.replicate x2.phis.length (.int .i64 0)) (qa _ _ O) (by simp) (fun b23=>?_))
 generalize hm:x2.phis.length=m at *
 have eg:=da.max
 refine Vs 11 O (zod 23 O (e':=.row 3 1 (.slice (some ⟨b23,0,none⟩) m m) m (((x2.phis.take 0).map (phV f g s y vl)++List.replicate (m - 0) 0).map zc)) (by simp[zc]) (Vs 1 O (zoe (σ:=Nat) [0,1,6,7,24,25] [901] [0] O (fun e i=>(26,.int .i64 i)::e) (fun e i=>(23,.row 3 1 (.slice (some ⟨b23,0,none⟩) m m) m (((x2.phis.take i).map (phV f g s y vl)++List.replicate (m - i) 0).map zc))::(900,.row 3 1 (.slice (some ⟨bv,0,none⟩) vl.length cv) vl.length (vl.map zc))::e) (fun i=>i<=m) (fun i=>m - i) (0) (Sub.of O) (Has.of O) (fun _=>rfl) (fun _=>rfl) (fun _=>rfl) (zpz _) ?_)))
 rintro i hi
 refine Vs 6 O (zlG O (fun li=>?_) (fun li=>?_))
 .
  refine Vs 7 O ?_
  obtain⟨p,db,hY⟩:=gE_ x2.phis (i) (by omega)
  obtain⟨eh,ei,ej,dl,dm,dr,dt⟩:=da.atD db
  obtain⟨dI,dJ,rfl,df,dg⟩:=dt
  obtain⟨dK,dL,rfl⟩:=df.form
  obtain⟨dM,dN,rfl⟩:=dg.form
  refine zob 2000 0 O O (fun h_=>by have di:=dw _ h_;have dk:=dm;first | omega | exact di dk) dr ?_
  refine znN 2000 tR56 ts88 O dl (by omega) (_) (rfl) O ?_
  have ek:=de.phi.frm p hY
  have ew:=de.phi.len p hY
  have dC:(y:Int) ∈ p.frm:=by rw[ek];exact zrf.2 ⟨y,hy (fun e=>by rw[e]at hY;cases hY),rfl⟩
  generalize hj:p.frm.idxOf (y:Int)=j
  have dE:j<p.frm.length:=by rw[<- hj];exact List.idxOf_lt_length_iff.2 dC
  obtain⟨a,dD,dO⟩:=gE_ p.args (j) (by omega)
  obtain⟨ey,ez,eA,dQ,dR,dS,dT⟩:=dg.atD dD
  obtain rfl:=dT
  refine zob 3000 0 O O (fun h_=>by have di:=dw _ h_;have dk:=dR;first | omega | exact di dk) dS ?_
  have em:p.frm[j]?=some (y:Int):=by rw[zpk dE];congr 1;subst hj;exact List.getElem_idxOf dE
  have d6:=hR.arg n x2 dc p hY j _ a em dD
  rw[zpG]at d6
  obtain⟨q,hq,d7⟩:=qF (de.phi.args p hY a dO)
  subst hq
  have en:phV f g s y vl p=lki vl q:=by unfold phV;rw[d6,zpG]
  refine Vs 1 O (V.alloc 9 tz88 O O (fun b9=>?_))
  refine Vs 4 O (Vw [901,900,2000,3000,9] [17] O (Vd [0,1,2,3,4,5,6,7,8,9,10] 0 (by kernel_rfl) O O O (zo0 11 0 Tryz.call91 O (by kernel_rfl) O O (fun w hI=>zgi p.frm y _ _ w (df.keep zb hI.k0 fun q hd _ h=>dw q h hd) dC) (znO 12 3000 tR27 ts3 O (by kernel_rfl) O dQ (by omega) (j) (by rw[hj]) O (Vd [13] 0 (by kernel_rfl) O O O (zon 14 O (by kernel_rfl) O (fun w=>zmh tR27 ts3 O O O (by omega)) (zor 15 O (by kernel_rfl) O 0 O O (fun w hI=>R.load tg3 O (jI (show w.ownsRow 0 3 1 (.slice (some ⟨bv,0,none⟩) vl.length cv) vl.length (vl.map zc) from hI.at 900 O) (show (vl.map zc)[q]?=some (zc (lki vl q)) by rw[zpB,zbE (by omega)];rfl))) ?_)))))))
  have eo:(((x2.phis.take i).map (phV f g s y vl))++List.replicate (m - i) 0).set i (phV f g s y vl p)=((x2.phis.take (i+1)).map (phV f g s y vl))++List.replicate (m - (i+1)) 0:=by
   rw[ze db,zr3,zrw _ _ (by rw[zpE,zpO];omega),zpE,zpO,show i - min i x2.phis.length=0 by omega,show m - i=(m - (i+1))+1 by omega,zrt]
   simp
  refine Vb [16] 0 (by kernel_rfl) O O O (by omega) (znY 17 23 0 (i) ts3 O (by kernel_rfl) O O (by omega) (by simp;omega) (VD.done (by kernel_rfl) (Vs 2 O (zod 23 O (e':=.row 3 1 (.slice (some ⟨b23,0,none⟩) m m) m (((x2.phis.take (i+1)).map (phV f g s y vl)++List.replicate (m - (i+1)) 0).map zc)) (by rw[<- eo,zr9,en]) (Va 4 O (by omega) (V.back (i+1) (Sub.of O) (Has.of O) (by omega) (by first | omega | (dsimp only;omega)) 0 O O))))))
 obtain rfl:i=m:=by omega
 refine zod 23 O (e':=.row 3 1 (.slice (some ⟨b23,0,none⟩) i i) i ((x2.phis.map (phV f g s y vl)).map zc)) (by rw[zrF (by omega),zs0,zru,zqz]) (Vs 12 O (zod 900 O (e':=.row 3 1 (.slice (some ⟨bv,0,none⟩) vl.length cv) vl.length ((qW f g s y vl (x2.phis.take 0)).map zc)) (by rfl) (Vs 1 O (zoe (σ:=Nat) [0,7,49,50] [23,901] [0] O (fun e k=>(51,.int .i64 k)::e) (fun e k=>(900,.row 3 1 (.slice (some ⟨bv,0,none⟩) vl.length cv) vl.length ((qW f g s y vl (x2.phis.take k)).map zc))::e) (fun k=>k<=i) (fun k=>i - k) (0) (Sub.of O) (Has.of O) (fun _=>rfl) (fun _=>rfl) (fun _=>rfl) (zpz _) ?_))))
 rintro k hk
 refine Vs 6 O (zlG O (fun lk=>?_) (fun lk=>?_))
 .
  refine Vs 7 O ?_
  obtain⟨p,db,hY⟩:=gE_ x2.phis (k) (by omega)
  obtain⟨eh,ei,ej,dl,dm,dr,dt⟩:=da.atD db
  obtain⟨dI,dJ,rfl,df,dg⟩:=dt
  obtain⟨dK,dL,rfl⟩:=df.form
  obtain⟨dM,dN,rfl⟩:=dg.form
  refine zob 4000 0 O O (fun h_=>by have di:=dw _ h_;have dk:=dm;first | omega | exact di dk) dr ?_
  refine znN 4000 tR56 ts88 O dl (by omega) (_) (rfl) O ?_
  obtain⟨q,hq,d7⟩:=dH p hY
  have dE:=zbS (f:=f) (g:=g) (s:=s) (y:=y) (vl:=vl) (x2.phis.take k)
  refine Vs 1 O (V.alloc 11 tz88 O O (fun b11=>?_))
  refine Vs 4 O (Vw [23,901,4000,11] [11] O (Vb [0,1,2,3,4,5,6,7,8] 0 (by kernel_rfl) O O O (by omega) (zor 9 O (by kernel_rfl) O 0 O O (fun w hI=>R.load tg3 O (jI (show w.ownsRow 0 3 1 (.slice (some ⟨b23,0,none⟩) i i) i _ from hI.at 23 O) (show ((x2.phis.map (phV f g s y vl)).map zc)[k]?=some (zc (phV f g s y vl p)) by rw[zpB,zpB,db];rfl))) ?_)))
  refine zon 10 O (by kernel_rfl) O (fun w=>zmh tR27 ts3 O O O (by omega)) (zow 11 900 (q) ts3 O (by kernel_rfl) O (by omega) (by rw[zpE,dE];exact d7) (VDx.done (by kernel_rfl) (Vs 2 O (zod 900 O (e':=.row 3 1 (.slice (some ⟨bv,0,none⟩) vl.length cv) vl.length ((qW f g s y vl (x2.phis.take (k+1))).map zc)) (by rw[zgj db,hq,zpG,zr9]) (Va 4 O (by omega) (V.back (k+1) (Sub.of O) (Has.of O) (by omega) (by first | omega | (dsimp only;omega)) 0 O O))))))
 obtain rfl:k=i:=by omega
 refine zod 900 O (e':=xO (.slice (some ⟨bv,0,none⟩) vl.length cv) (qW f g s y vl x2.phis)) (by rw[zrF (by omega)];unfold xO;rw[zbS]) (Vs 4 O (zma Tryz.results47 (fun w hI=>⟨_,rfl,(),rfl,hI.at 900 rfl,hI.k0,fun q hq=>hI.inS 0 900 O O hq⟩)))
theorem zhP {F:Phn->Int} {k:Nat} {l:List Phn} (h:∀ p ∈ l,p.ver.toNat ≠ k):∀ t:List Int,(l.foldl (fun t p=>t.set p.ver.toNat (F p)) t)[k]?=t[k]?:=by
 induction l with
 | nil=>exact fun _=>rfl
 | cons q l ih =>
  intro t
  rw[zqU,ih fun p hp=>h p (zpn _ hp),List.getElem?_set_ne (h q (zpo ..))]
theorem zji {F:Phn->Int} {l:List Phn} (hY:(l.map fun p=>p.ver.toNat).Nodup) {p:Phn} (hp:p ∈ l):∀ t:List Int,p.ver.toNat<t.length->(l.foldl (fun t p=>t.set p.ver.toNat (F p)) t)[p.ver.toNat]?=some (F p):=by
 induction l with
 | nil=>cases hp
 | cons q l ih =>
  intro t ht
  rw[zr5,zrl]at hY
  rw[zqU]
  rcases zpA.1 hp with rfl | hp
  . rw[zhP fun r hr e=>hY.1 (zrf.2 ⟨r,hr,e⟩),List.getElem?_set_self ht]
  exact ih hY.2 hp _ (by rw[zr2];exact ht)
theorem zgk {f:Fl} {g:List Nd} {s:Sf} {rd:Nat->List Int} (h:FormF f g s rd) {n:Nat} (hn:n<g.length):((zj s n).phis.map fun p=>p.ver.toNat).Nodup:=by
 have da:=(h.at hn).phi
 have h1:((zj s n).phis.map (·.ver)).Nodup:=by
  rw[List.nodup_iff_count]
  intro a
  have db:((zj s n).phis.map (·.ver)).count a<=(dfL f g s n).count a:=by unfold dfL;rw[zqB];omega
  have dc:(dfL f g s n).count a<=(qy f g s).count a:=by
   unfold qy
   rw[zqQ]
   exact(zrz (zrf.2 ⟨n,zrj.2 hn,rfl⟩)).count_le a
  by_cases ha:a ∈ (zj s n).phis.map (·.ver)
  .
   obtain⟨h2,h3⟩:=ze4 h hn (show a ∈ dfL f g s n by unfold dfL;exact zra _ ha)
   obtain⟨k,rfl⟩:=zqg (show 0<=a by omega)
   have:=h.one k (by omega) (by omega)
   omega
  rw[List.count_eq_zero.2 ha];omega
 rw[show ((zj s n).phis.map fun p=>p.ver.toNat)=((zj s n).phis.map (·.ver)).map Int.toNat by rw[zr6];rfl]
 refine List.Pairwise.map _ (fun a b hY=>hY) (List.Pairwise.imp_of_mem (fun {a b} ha hb hY e=>?_) h1)
 obtain⟨p,hp,rfl⟩:=zrf.1 ha
 obtain⟨q,hq,rfl⟩:=zrf.1 hb
 have h2:=(da.ver p hp).1
 have h3:=(da.ver q hq).1
 exact hY (by omega)
theorem zhQ {f:Fl} {g:List Nd} {s:Sf} {rd:Nat->List Int} (h:RightF f g s rd) {n y:Nat} (h0:n ≠ 0) (hn:n<g.length) (hy:y ∈ xj g n) {vl vals:List Int} (de:vl.length=s.of_.length) (hp:zhj f g s y vl vals):InvV f g s n (qW f g s y vl (zj s n).phis) vals:=by
 have hf:=h.toFormF
 have da:=(hf.at hn).phi
 have df:=zgk hf hn
 have hl:=hf.len
 have e:=zpk (show n<s.nodes.length by omega)
 have dg:=yP e
 have db:∀ p ∈ (zj s n).phis,∃ q:Nat,zap f g s y p.var=(q:Int)/\q<s.of_.length:=fun p hY=>by
  have dc:(y:Int) ∈ p.frm:=by rw[da.frm p hY];exact zrf.2 ⟨y,hy,rfl⟩
  obtain⟨i,hi⟩:=zre.1 dc
  have dh:=(zpy.1 hi).1
  have ha:=zpk (show i<p.args.length by have:=da.len p hY;omega)
  have:=h.arg n _ e p (by rw[<- dg];exact hY) i _ _ hi ha
  rw[zpG]at this
  rw[this]
  exact qF (da.args p hY _ (zpl ha))
 refine zoW h h0 hn hy hp (fun p hY=>?_) (fun k hk=>?_) fun p hY=>?_
 .
  obtain⟨q,hq,di⟩:=db p hY
  obtain⟨m,hm,dk⟩:=qF (da.ver p hY)
  unfold qW
  rw[zji (F:=phV f g s y vl) df hY vl (by rw[hm,zpG];omega)]
  unfold phV
  rw[hq,zpG,zbE (by omega)]
 .
  unfold qW
  exact zhP (F:=phV f g s y vl) (fun p hY e2=>hk p hY (by have:=(da.ver p hY).1;omega)) vl
 obtain⟨q,hq,_⟩:=db p hY
 omega
end Go.Proofs.YtckdhgbepmpgiaaGreat
namespace Go.GL.Dfs
def Edge (R:List (List Int)) (a b:Nat):Prop:=∃ r,R[a]?=some r/\(b:Int) ∈ r
theorem sum_one (f g:Nat->Nat) (b c:Nat):∀ n,b<n->(∀ i,i ≠ b->f i=g i)->f b=g b+c->((List.range n).map f).sum=((List.range n).map g).sum+c
 | 0,h,_,_=>by omega
 | n+1,h,h1,h2=>by
  rw[zrs]
  simp only[zr3,zr5,zr7,zrA,zrB,List.sum_nil]
  by_cases e:b=n
  .
   subst e
   have:(List.range b).map f=(List.range b).map g:=zr4 (fun i hi=>h1 i (by have:=zrj.1 hi;omega))
   rw[this];omega
  have:=sum_one f g b c n (by omega) h1 h2
  have:=h1 n (fun h=>e h.symm)
  omega
end Go.GL.Dfs
namespace Go.Proofs.YtckdhgbepmpgiaaGreat
open Go.GL
noncomputable def zaI (f:Fl) (g:List Nd) (s:Sf):List Bool:=(List.range s.of_.length).map fun k:Nat=>@decide (NeedV f g s (k:Int)) (Classical.propDecidable _)
theorem zjj {f:Fl} {g:List Nd} {s:Sf} {l:List Bool} (hl:l.length=s.of_.length) (h:∀ k:Nat,k<s.of_.length->(l[k]?=some true ↔ NeedV f g s (k:Int))):l=zaI f g s:=by
 apply zqK
 intro k
 unfold zaI
 rw[zpB]
 by_cases hk:k<s.of_.length
 .
  rw[List.getElem?_range hk]
  have e:=zpk (show k<l.length by omega)
  have:=h k hk
  rw[e]at this ⊢
  simp only[zsb,Option.some.injEq]at this ⊢
  cases hb:l[k] with
  | true=>rw[hb]at this;exact(@zpw _ (Classical.propDecidable _) (this.1 rfl)).symm
  | false=>rw[hb]at this;exact(@zpx _ (Classical.propDecidable _) (fun hn=>by cases this.2 hn)).symm
 rw[zpI (by omega),zpI (by simp;omega)];rfl
theorem zhR (f:Fl) (g:List Nd) (s:Sf):(zaI f g s).length=s.of_.length:=by simp[zaI]
def zbT (x:Sn):List (Int × List Int):=x.phis.map (fun p=>(p.ver,p.args))++if 0<=x.dfn then [(x.dfn,x.uses.map (·.2))] else []
def zig (t:List (List Int)) (l:List (Int × List Int)):List (List Int):=l.foldl (fun t z=>t.set z.1.toNat z.2) t
theorem zjk (l:List (Int × List Int)):∀ t:List (List Int),(zig t l).length=t.length:=by
 induction l with
 | nil=>exact fun _=>rfl
 | cons z l ih=>intro t;exact(ih _).trans zr2
theorem zaY (t:List (List Int)) (a b:List (Int × List Int)):zig t (a++b)=zig (zig t a) b:=by unfold zig;rw[zqT]
theorem zkr {l:List (Int × List Int)} {k:Nat} (h:∀ z ∈ l,z.1.toNat ≠ k):∀ t,(zig t l)[k]?=t[k]?:=by
 induction l with
 | nil=>exact fun _=>rfl
 | cons z l ih =>
  intro t
  exact(ih (fun y hy=>h y (zpn _ hy)) _).trans (List.getElem?_set_ne (h z (zpo ..)))
theorem zjl {l:List (Int × List Int)} (hn:(l.map fun z=>z.1.toNat).Nodup) {z:Int × List Int} (hz:z ∈ l):∀ t,z.1.toNat<t.length->(zig t l)[z.1.toNat]?=some z.2:=by
 induction l with
 | nil=>cases hz
 | cons y l ih =>
  intro t ht
  rw[zr5,zrl]at hn
  rcases zpA.1 hz with rfl | hz
  . exact(zkr (fun r hr e=>hn.1 (zrf.2 ⟨r,hr,e⟩)) _).trans (List.getElem?_set_self ht)
  exact ih hn.2 hz _ (by rw[zr2];exact ht)
theorem zjm {l:List (Int × List Int)} {k:Nat} {v:List Int}:∀ {t},(zig t l)[k]?=some v->t[k]?=some v\/∃ z ∈ l,z.1.toNat=k/\z.2=v:=by
 induction l with
 | nil=>exact fun h=>.inl h
 | cons z l ih =>
  intro t h
  rcases ih (t:=t.set z.1.toNat z.2) h with h1 | ⟨y,hy,h1⟩
  .
   rw[List.getElem?_set]at h1
   split at h1
   .
    rename_i e
    split at h1
    . exact .inr ⟨z,zpo ..,e,Option.some.inj h1⟩
    cases h1
   exact .inl h1
  exact .inr ⟨y,zpn _ hy,h1⟩
def zbU (s:Sf) (i:Nat):List (Int × List Int):=(s.nodes.take i).flatMap zbT
def xy (s:Sf) (i:Nat):List (List Int):=zig (List.replicate s.of_.length []) (zbU s i)
theorem zcs {s:Sf} {i:Nat} {x:Sn} (h:s.nodes[i]?=some x):zbU s (i+1)=zbU s i++zbT x:=by unfold zbU;rw[ze h,zqO,zqR]
theorem zel (s:Sf) (i:Nat):(xy s i).length=s.of_.length:=by unfold xy;rw[zjk,zr1]
def zc8 (s:Sf) (i:Nat) (x:Sn) (j:Nat):List (List Int):=zig (xy s i) ((x.phis.take j).map fun p=>(p.ver,p.args))
theorem zgl {s:Sf} {i:Nat} {x:Sn} {j:Nat} {p:Phn} (h:x.phis[j]?=some p):zc8 s i x (j+1)=(zc8 s i x j).set p.ver.toNat p.args:=by
 unfold zc8
 rw[ze h,zr3,zaY];rfl
theorem zhS {s:Sf} {i:Nat} {x:Sn} (h:s.nodes[i]?=some x) (hd:0<=x.dfn):xy s (i+1)=(zc8 s i x x.phis.length).set x.dfn.toNat (x.uses.map (·.2)):=by
 unfold zc8 xy
 rw[zcs h,zaY,zpp]
 unfold zbT
 rw[zpv hd,zaY];rfl
theorem zd9 {s:Sf} {i:Nat} {x:Sn} (h:s.nodes[i]?=some x) (hd:¬ 0<=x.dfn):xy s (i+1)=zc8 s i x x.phis.length:=by
 unfold zc8 xy
 rw[zcs h,zaY,zpp]
 unfold zbT
 rw[zpu hd,zqz]
theorem zjn {s:Sf} {g:List Nd} (hl:s.nodes.length=g.length):s.nodes=(List.range g.length).map (zj s):=by
 apply zqK
 intro k
 rw[zpB]
 by_cases hk:k<g.length
 .
  rw[List.getElem?_range hk,zpk (show k<s.nodes.length by omega)]
  simp only[zsb]
  rw[yP (zpk (show k<s.nodes.length by omega))]
 rw[zpI (by omega),zpI (by simp;omega)];rfl
theorem zct {s:Sf} {g:List Nd} (hl:s.nodes.length=g.length):s.nodes.take g.length=(List.range g.length).map (zj s):=(zrF (by omega)).trans (zjn hl)
section
variable {f:Fl} {g:List Nd} {s:Sf} {rd:Nat->List Int}
theorem FormF.dfn (h:FormF f g s rd) {n:Nat} (hn:n<g.length):(0<=(zj s n).dfn ↔ 0<=xX f g n):=by
 have hx:=h.at hn
 constructor
 .
  intro h1
  by_cases h2:0<=xX f g n
  . exact h2
  have:=hx.no (by omega);omega
 exact fun h1=>(hx.yes h1).1
theorem zbV (h:FormF f g s rd):((zbU s g.length).map (·.1))=qy f g s:=by
 unfold zbU qy
 rw[zct h.len,List.flatMap_map,List.map_flatMap]
 rw[zqQ,zqQ]
 congr 1
 refine zr4 fun n hn=>?_
 have hd:=h.dfn (zrj.1 hn)
 unfold zbT dfL
 rw[zr3,zr6]
 congr 1
 by_cases h1:0<=xX f g n
 . rw[zpv h1,zpv (hd.2 h1)];rfl
 rw[zpu h1,zpu (fun e=>h1 (hd.1 e))];rfl
theorem zf1 (h:FormF f g s rd):(qy f g s).Nodup:=by
 rw[List.nodup_iff_count]
 intro a
 by_cases ha:a ∈ qy f g s
 .
  obtain⟨h2,h3⟩:=qg h ha
  obtain⟨k,rfl⟩:=zqg (show 0<=a by omega)
  have:=h.one k (by omega) (by omega)
  omega
 rw[List.count_eq_zero.2 ha];omega
theorem zgm (h:FormF f g s rd):((zbU s g.length).map fun z=>z.1.toNat).Nodup:=by
 rw[show ((zbU s g.length).map fun z=>z.1.toNat)=((zbU s g.length).map (·.1)).map Int.toNat by rw[zr6];rfl,zbV h]
 refine List.Pairwise.map _ (fun a b hY=>hY) (List.Pairwise.imp_of_mem (fun {a b} ha hb hY e=>?_) (zf1 h))
 have h2:=(qg h ha).1
 have h3:=(qg h hb).1
 exact hY (by omega)
theorem zfL (h:FormF f g s rd) {z:Int × List Int}:z ∈ zbU s g.length ↔ ∃ n,n<g.length/\z ∈ zbT (zj s n):=by
 unfold zbU
 rw[zct h.len,List.flatMap_map,zrd]
 constructor
 . rintro⟨n,hn,hz⟩;exact⟨n,zrj.1 hn,hz⟩
 rintro⟨n,hn,hz⟩;exact⟨n,zrj.2 hn,hz⟩
theorem zfM (h:FormF f g s rd) {n:Nat} (hn:n<g.length) {z:Int × List Int} (hz:z ∈ zbT (zj s n)):(xy s g.length)[z.1.toNat]?=some z.2:=by
 have hm:=(zfL h).2 ⟨n,hn,hz⟩
 have hk:z.1 ∈ qy f g s:=by rw[<- zbV h];exact zrf.2 ⟨z,hm,rfl⟩
 have:=qg h hk
 exact zjl (zgm h) hm _ (by rw[zr1];omega)
theorem zjo (h:FormF f g s rd) {k:Nat} {l:List Int} (hk:(xy s g.length)[k]?=some l):l=[]\/∃ n,n<g.length/\∃ z ∈ zbT (zj s n),z.1=(k:Int)/\z.2=l:=by
 rcases zjm hk with h1 | ⟨z,hz,h1,h2⟩
 .
  rw[List.getElem?_replicate]at h1
  split at h1
  . exact .inl (Option.some.inj h1).symm
  cases h1
 obtain⟨n,hn,hY⟩:=(zfL h).1 hz
 have da:z.1 ∈ qy f g s:=by rw[<- zbV h];exact zrf.2 ⟨z,hz,rfl⟩
 have:=qg h da
 exact .inr ⟨n,hn,z,hY,by omega,h2⟩
theorem zjM (h:FormF f g s rd) {n:Nat} (hn:n<g.length) {u:Int × Int} (hu:u ∈ (zj s n).uses):∃ q:Nat,u.2=(q:Int)/\q<s.of_.length:=qF ((h.at hn).ver u hu)
theorem zl3 (h:FormF f g s rd) {n:Nat} (hn:n<g.length) {p:Phn} (hp:p ∈ (zj s n).phis) {a:Int} (ha:a ∈ p.args):∃ q:Nat,a=(q:Int)/\q<s.of_.length:=qF ((h.at hn).phi.args p hp a ha)
theorem zgn (h:FormF f g s rd) {k:Nat} {l:List Int} (hk:(xy s g.length)[k]?=some l) (hN:NeedV f g s (k:Int)) {a:Int} (ha:a ∈ l):NeedV f g s a/\∃ q:Nat,a=(q:Int)/\q<s.of_.length:=by
 rcases zjo h hk with rfl | ⟨n,hn,z,hz,h1,rfl⟩
 . cases ha
 unfold zbT at hz
 rcases zpD.1 hz with hz | hz
 .
  obtain⟨p,hp,rfl⟩:=zrf.1 hz
  exact⟨.arg hn hp (by rw[show p.ver=(k:Int) from h1];exact hN) ha,zl3 h hn hp ha⟩
 split at hz
 .
  rename_i hd
  rw[zpC]at hz
  subst hz
  obtain⟨u,hu,rfl⟩:=zrf.1 ha
  exact⟨.use hn hd (by rw[show (zj s n).dfn=(k:Int) from h1];exact hN) hu,zjM h hn hu⟩
 cases hz
noncomputable def yt (f:Fl) (g:List Nd) (s:Sf) (i:Nat):List Int:=(List.range i).flatMap fun n=>if jK f g s n=true then (zj s n).uses.map (·.2) else []
theorem ju {i:Nat} (h:jK f g s i=true):yt f g s (i+1)=yt f g s i++(zj s i).uses.map (·.2):=by unfold yt;rw[zrs,zqO,zqR,zpv h]
theorem za5 {i:Nat} (h:¬ jK f g s i=true):yt f g s (i+1)=yt f g s i:=by unfold yt;rw[zrs,zqO,zqR,zpu h,zqz]
theorem zhT (i:Nat):(yt f g s i).length<=((s.nodes.take i).map fun x=>x.uses.length).sum:=by
 induction i with
 | zero=>simp[yt]
 | succ i ih =>
  by_cases hi:i<s.nodes.length
  .
   have e:=zpk hi
   rw[ze e,zr3,zrA]
   by_cases h:jK f g s i=true
   . rw[ju h,zps,yP e];simp only[zr5,zr7,zrB,List.sum_nil,zpE];omega
   rw[za5 h];simp only[zr5,zr7,zrB,List.sum_nil];omega
  rw[zrF (by omega)]
  rw[zrF (by omega)]at ih
  have:yt f g s (i+1)=yt f g s i:=by
   by_cases h:jK f g s i=true
   . rw[ju h,zaq hi];simp
   exact za5 h
  rw[this];exact ih
theorem zjp {i m:Nat} (h:i<=m):(yt f g s i).length<=(yt f g s m).length:=by
 induction m with
 | zero =>
  obtain rfl:i=0:=by omega
  exact zpJ _
 | succ m ih =>
  by_cases e:i=m+1
  . subst e;exact zpJ _
  refine zpq (ih (by omega)) ?_
  by_cases hs:jK f g s m=true
  . rw[ju hs,zps];omega
  rw[za5 hs];exact zpJ _
structure WkN (f:Fl) (g:List Nd) (s:Sf) (nl:List Bool) (wl:List Int):Prop where
 len:nl.length=s.of_.length
 snd:∀ k:Nat,nl[k]?=some true->NeedV f g s (k:Int)
 wrk:∀ v ∈ wl,NeedV f g s v/\∃ q:Nat,v=(q:Int)/\q<s.of_.length
 sink:∀ n,n<g.length->jK f g s n=true->∀ u ∈ (zj s n).uses,nl[u.2.toNat]?=some true\/u.2 ∈ wl
 cls:∀ k:Nat,nl[k]?=some true->∀ l,(xy s g.length)[k]?=some l->∀ a ∈ l,nl[a.toNat]?=some true\/a ∈ wl
theorem WkN.start (h:FormF f g s rd):WkN f g s (List.replicate s.of_.length false) (yt f g s g.length):=by
 have hY:∀ k:Nat,(List.replicate s.of_.length false)[k]? ≠ some true:=fun k e=>by
  have:=zqJ (zpl e);cases this
 refine⟨by simp,fun k e=>absurd e (hY k),fun v hv=>?_,fun n hn hs u hu=>.inr ?_,fun k e=>absurd e (hY k)⟩
 .
  unfold yt at hv
  obtain⟨n,hn,hv⟩:=zrd.1 hv
  have hn:=zrj.1 hn
  split at hv
  .
   rename_i hs
   obtain⟨u,hu,rfl⟩:=zrf.1 hv
   exact⟨.sink hn hs hu,zjM h hn hu⟩
  cases hv
 unfold yt
 exact zrd.2 ⟨n,zrj.2 hn,by rw[zpv hs];exact zrf.2 ⟨u,hu,rfl⟩⟩
theorem WkN.skip {nl:List Bool} {wl:List Int} {v:Nat} (h:WkN f g s nl (wl++[(v:Int)])) (hv:nl[v]?=some true):WkN f g s nl wl:=by
 have key:∀ a:Int,nl[a.toNat]?=some true\/a ∈ wl++[(v:Int)]->nl[a.toNat]?=some true\/a ∈ wl:=fun a ha=>by
  rcases ha with ha | ha
  . exact .inl ha
  rcases zpD.1 ha with ha | ha
  . exact .inr ha
  rw[zpC]at ha
  exact .inl (by rw[ha,zpG];exact hv)
 exact⟨h.len,h.snd,fun x hx=>h.wrk x (zra _ hx),fun n hn hs u hu=>key _ (h.sink n hn hs u hu),fun k hk l hl a ha=>key _ (h.cls k hk l hl a ha)⟩
theorem WkN.take (hF:FormF f g s rd) {nl:List Bool} {wl:List Int} {v:Nat} {l:List Int} (h:WkN f g s nl (wl++[(v:Int)])) (hl:(xy s g.length)[v]?=some l):WkN f g s (nl.set v true) (wl++l):=by
 obtain⟨hN,q,hq,da⟩:=h.wrk v (by simp)
 obtain rfl:v=q:=by omega
 have db:v<nl.length:=by rw[h.len];exact da
 have yx:∀ k:Nat,(nl.set v true)[k]?=some true ↔ nl[k]?=some true\/k=v:=fun k=>by
  by_cases e:k=v
  . subst e;simp[db]
  rw[List.getElem?_set_ne (fun h=>e h.symm)];simp[e]
 have key:∀ a:Int,nl[a.toNat]?=some true\/a ∈ wl++[(v:Int)]->(nl.set v true)[a.toNat]?=some true\/a ∈ wl++l:=fun a ha=>by
  rcases ha with ha | ha
  . exact .inl ((yx _).2 (.inl ha))
  rcases zpD.1 ha with ha | ha
  . exact .inr (zra _ ha)
  rw[zpC]at ha
  exact .inl ((yx _).2 (.inr (by rw[ha,zpG])))
 refine⟨by rw[zr2,h.len],fun k hk=>?_,fun x hx=>?_,fun n hn hs u hu=>key _ (h.sink n hn hs u hu),fun k hk l' hY a ha=>?_⟩
 .
  rcases (yx k).1 hk with h1 | rfl
  . exact h.snd k h1
  exact hN
 .
  rcases zpD.1 hx with hx | hx
  . exact h.wrk x (zra _ hx)
  exact zgn hF hl hN hx
 rcases (yx k).1 hk with h1 | rfl
 . exact key _ (h.cls k h1 l' hY a ha)
 rw[hl]at hY;cases hY;exact .inr (zrb _ ha)
theorem WkN.fin (hF:FormF f g s rd) {nl:List Bool} (h:WkN f g s nl []):nl=zaI f g s:=by
 refine zjj h.len fun k hk=>⟨h.snd k,fun hN=>?_⟩
 have hY:nl[((k:Nat):Int).toNat]?=some true:=NeedV.all (P:=fun a=>nl[a.toNat]?=some true) f g s (fun n hn hs u hu=>(h.sink n hn hs u hu).resolve_right (by simp)) (fun n hn hd hP u hu=>?_) (fun n hn p hp hP a ha=>?_) hN
 . rw[zpG]at hY;exact hY
 . exact(h.cls _ hP _ (zfM hF hn (z:=((zj s n).dfn,(zj s n).uses.map (·.2))) (by unfold zbT;rw[zpv hd];simp)) _ (zrf.2 ⟨u,hu,rfl⟩)).resolve_right (by simp)
 exact(h.cls _ hP _ (zfM hF hn (z:=(p.ver,p.args)) (by unfold zbT;exact zra _ (zrf.2 ⟨p,hp,rfl⟩))) _ ha).resolve_right (by simp)
def muN (s:Sf) (m:Nat) (nl:List Bool):Nat:=((List.range s.of_.length).map fun k=>if nl[k]?=some true then 0 else ((xy s m)[k]?.getD []).length+1).sum
theorem zks {m:Nat} {nl:List Bool} {v:Nat} {l:List Int} (hl:(xy s m)[v]?=some l) (hv:nl[v]? ≠ some true) (hY:v<nl.length):muN s m nl=muN s m (nl.set v true)+(l.length+1):=by
 have da:v<s.of_.length:=by rw[<- zel s m];exact(zpy.1 hl).1
 unfold muN
 refine Dfs.sum_one _ _ v _ s.of_.length da (fun i hi=>?_) ?_
 . rw[List.getElem?_set_ne (fun e=>hi e.symm)]
 rw[zpu hv,List.getElem?_set_self hY,zpv rfl,hl,zs6];omega
end
open Go.GL
def wPh (p:Phn):Nat:=1+p.frm.length+p.args.length
def wPs (l:List Phn):Nat:=(l.map wPh).sum
def wSn (x:Sn):Nat:=x.uses.length+wPs x.phis
def wNs (l:List Sn):Nat:=(l.map wSn).sum
theorem zjq {l:List Phn} {i:Nat} {p:Phn} (h:l[i]?=some p):wPs (l.take (i+1))=wPs (l.take i)+wPh p:=by unfold wPs;rw[ze h,zr3,zrA];simp
theorem zfN {l:List Sn} {i:Nat} {x:Sn} (h:l[i]?=some x):wNs (l.take (i+1))=wNs (l.take i)+wSn x:=by unfold wNs;rw[ze h,zr3,zrA];simp
structure FewS (s:Sf):Prop where
 of_:s.of_.length<=200
 nodes:s.nodes.length<=100
 all:wNs s.nodes<=600
theorem zkt (l:List Phn):l.length<=wPs l:=by
 induction l with
 | nil=>simp
 | cons p l ih =>
  have h1:1<=wPh p:=by unfold wPh;omega
  unfold wPs at *
  rw[zr5,zrB,zpN]
  omega
theorem zlo (s:Sf) (n:Nat) (hn:n<=s.nodes.length):(LP s n).length<=n+wNs (s.nodes.take n):=by
 induction n with
 | zero=>simp[LP]
 | succ n ih =>
  have e:=zpk (show n<s.nodes.length by omega)
  have h1:=ih (by omega)
  rw[zd6 e,zfN e,zps,zps,zpE]
  have h2:=zkt s.nodes[n].phis
  have h3:(dP s.nodes[n]).length<=1:=by unfold dP;split<;>simp
  unfold wSn
  omega
theorem FewS.lp {s:Sf} (h:FewS s):(LP s s.nodes.length).length<=700:=by
 have h1:=zlo s s.nodes.length (zpJ _)
 rw[zpp]at h1
 have:=h.all
 have:=h.nodes
 omega
def zlz (s:Sf):Prop:=∀ x ∈ s.nodes,x.uses.length<=1152921504606846976/\∀ p ∈ x.phis,p.frm.length<=1152921504606846976/\p.args.length<=1152921504606846976
theorem zku (s:Sf) (dy:zlz s) (ofv nodv:Value) (D:Nat->Prop) (W:World) (hS:RSf D W s ofv nodv) :
  Calls Tryz.prog 13 #[.agg #[ofv,nodv]] W (Ret fun r w'=>(∃ q:Bool,r=.bool q/\(q=true->FewS s))/\Ext W w'):=by
 have dz:=hS.of_
 have de:=hS.nodes
 obtain⟨ao,co,rfl⟩:=dz.form
 obtain⟨an,cn,rfl⟩:=de.form
 have dU:=de.max
 refine znk Tryz.func13 O Tryz.ntmps13 O (znE (Vs 2 O (V.box 1 O O (fun b1=>?_))))
 refine Vs 4 O (zof (σ:=Unit) [1] [1] [1] O (fun e u=>e) (fun e u=>e) (fun u=>s.of_.length<=200/\s.nodes.length<=100) (fun _=>rfl) (fun _=>rfl) ?_ ?_)
 .
  refine Vs 7 O (V.sp 11 O (fun l0=>?_) (fun l0=>?_))
  . refine Vs 16 O (zlW tr13 O (fun w hI=>⟨_,rfl,⟨_,rfl,fun h=>by cases h⟩,hI.k0⟩))
  refine Vs 7 O (zlG O (fun l1=>?_) (fun l1=>?_))
  . refine Vs 8 O (zlW tr13 O (fun w hI=>⟨_,rfl,⟨_,rfl,fun h=>by cases h⟩,hI.k0⟩))
  refine Vs 1 O (zlT (()) (Sub.of O) (Has.of O) (⟨by omega,by omega⟩) 0 O O)
 rintro u ⟨df,dg⟩
 refine Vs 16 O (zoe (σ:=Nat) [18,19] [] [] O (fun e n=>(20,.int .i64 n)::(3,.int .i64 (600 - (wNs (s.nodes.take n):Int)))::e) (fun e n=>e) (fun n=>n<=s.nodes.length/\wNs (s.nodes.take n)<=600) (fun n=>s.nodes.length - n) (0) (Sub.of O) (Has.of O) (fun _=>rfl) (fun _=>rfl) (fun _=>rfl) (⟨zpz _,zpz _⟩) ?_)
 rintro n ⟨hn,hw⟩
 refine Vs 6 O (zlG O (fun ln=>?_) (fun ln=>?_))
 .
  refine Vs 6 O ?_
  obtain⟨x,da,dh⟩:=gE_ s.nodes (n) (by omega)
  obtain⟨dV,dW,dX,di,_,dk,dl⟩:=de.at da
  obtain⟨dA,dB,rfl,hY,dm⟩:=dl
  obtain⟨dC,dD,rfl⟩:=hY.form
  obtain⟨dE,dF,rfl⟩:=dm.form
  refine zoa 1000 0 O O dk ?_
  refine znN 1000 tR28 ts59 O di (by omega) (_) (rfl) O ?_
  have dY:=hY.max
  obtain⟨dZ,dG⟩:=dy x dh
  have dH:=zfN da
  generalize wNs (s.nodes.take n)=t0 at *
  refine Vs 1 O (V.alloc 5 tz59 O O (fun b5=>?_))
  refine Va 19 O (by omega) (V.eq 3 (v:=.int .i64 (600 - (t0:Int) - (x.uses.length:Int) - (wPs (x.phis.take 0):Int))) O (by simp[wPs]) (Vs 1 O (zoe (σ:=Nat) [5,18,19,20] [5] [5] O (fun e i=>(6,.int .i64 i)::(3,.int .i64 (600 - (t0:Int) - (x.uses.length:Int) - (wPs (x.phis.take i):Int)))::e) (fun e i=>e) (fun i=>i<=x.phis.length/\(wPs (x.phis.take i):Int)<=600+2*1152921504606846976+1) (fun i=>x.phis.length - i) (0) (Sub.of O) (Has.of O) (fun _=>rfl) (fun _=>rfl) (fun _=>rfl) (⟨zpz _,by simp[wPs]⟩) ?_)))
  rintro i ⟨hi,dI⟩
  refine Vs 9 O (V.sp 34 O (fun a1=>?_) (fun a1=>?_))
  .
   refine Vs 5 O (zlG O (fun a2=>?_) (fun a2=>?_))
   .
    refine Vs 4 O (Vq (by kernel_rfl) (Vs 4 O ?_))
    obtain⟨p,db,dr⟩:=gE_ x.phis (i) (by omega)
    obtain⟨d5,d6,d7,dc,_,dt,du⟩:=hY.at db
    obtain⟨dJ,dK,rfl,dw,dx⟩:=du
    obtain⟨dL,dM,rfl⟩:=dw.form
    obtain⟨dN,dO,rfl⟩:=dx.form
    refine zoa 2000 0 O O dt ?_
    refine znQ 2000 tR56 ts88 O dc (by omega) (_) (rfl) O ?_
    have dQ:=zjq db
    obtain⟨d8,d9⟩:=dG p dr
    have dR:wPh p=1+p.frm.length+p.args.length:=rfl
    refine Va 7 O (by omega) ?_
    refine znQ 2000 tR56 ts88 O dc (by omega) (_) (rfl) O (Va 14 O (by omega) (V.back (i+1) (Sub.cons (rfl) (Sub.cons ((show some (Value.int .i64 _)=some (Value.int .i64 _) from congrArg (fun z=>some (Value.int .i64 z)) (by rw[dQ,dR];omega))) (Sub.of O))) (Has.of O) (⟨by omega,by omega⟩) (by omega) 0 O O))
   refine Vs 11 O (zlG O (fun b1=>?_) (fun b1=>?_))
   . refine Vs 11 O (zlW tr13 O (fun w hI=>⟨_,rfl,⟨_,rfl,fun h=>by cases h⟩,hI.k0⟩))
   omega
  refine Vs 17 O (zlG O (fun b1=>?_) (fun b1=>?_))
  . refine Vs 11 O (zlW tr13 O (fun w hI=>⟨_,rfl,⟨_,rfl,fun h=>by cases h⟩,hI.k0⟩))
  have dS:i=x.phis.length:=by omega
  subst dS
  rw[zpp]at dI b1
  have dT:wSn x=x.uses.length+wPs x.phis:=rfl
  refine Va 7 O (by omega) (V.back (n+1) (Sub.cons (rfl) (Sub.cons ((show some (Value.int .i64 _)=some (Value.int .i64 _) from congrArg (fun z=>some (Value.int .i64 z)) (by rw[dH,dT,zpp];omega))) (Sub.of O))) (Has.of O) (⟨by omega,by omega⟩) (by omega) 0 O O)
 obtain rfl:n=s.nodes.length:=by omega
 rw[zpp]at hw
 refine Vs 11 O (zlW tr13 O (fun w hI=>⟨_,rfl,⟨_,rfl,fun _=>⟨df,dg,hw⟩⟩,hI.k0⟩))
structure InsOk (vs:List Vr) (r:Ins):Prop where
 len:∀ k,1<=k->k<=3->(yF r k).length=(zf k vs).length
 val:∀ k,1<=k->k<=3->∀ (j:Nat) x n,(zf k vs)[j]?=some x->(yF r k)[j]?=some n->x.low<=n/\n<=x.high
theorem zhU {k:Int} {vs:List Vr} {i:Nat} {x:Vr} (h:vs[i]?=some x) (hk:x.kind=k):(zf k vs)[(zf k (vs.take i)).length]?=some x:=by
 have h1:=qc (k:=k) h
 rw[zpv hk]at h1
 have h2:zf k vs=zf k (vs.take (i+1))++zf k (vs.drop (i+1)):=by unfold zf;rw[<- zqL,zrD]
 rw[h2,h1,zqy,zpL (zpJ _),zs0];rfl
theorem zjr (s:StS) (l:List Int) (k:Int):jb ⟨l,s.a,s.b,s.c⟩ k=jb s k:=rfl
theorem InsOk.start {f:Fl} (vd:Valid f) {r:Ins} (h:InsOk f.vars r):zl f.vars r=0:=by
 have dc:=vd.kinds
 have main:∀ i,i<=f.vars.length->∃ s,(f.vars.take i).foldl (zp r) (some ⟨[],0,0,0⟩)=some s/\(∀ k,1<=k->k<=3->jb s k=(zf k (f.vars.take i)).length)/\s.vals.length=i/\((f.vars.take i).zip s.vals).all inB=true:=by
  intro i
  induction i with
  | zero=>intro _;exact⟨⟨[],0,0,0⟩,rfl,fun k h1 h3=>by rcases (show k=1\/k=2\/k=3 by omega) with rfl | rfl | rfl<;>rfl,rfl,rfl⟩
  | succ i ih =>
   intro hi
   obtain⟨s,h1,h2,h3,h4⟩:=ih (by omega)
   obtain⟨x,hx⟩:∃ x,f.vars[i]?=some x:=⟨_,zpk (by omega)⟩
   have df:=dc x (zpl hx)
   by_cases k0:x.kind=0
   .
    refine⟨⟨s.vals++[x.init],s.a,s.b,s.c⟩,zam hx h1 (ze0 k0),fun k db hY=>?_,by simp[h3],?_⟩
    . rw[zjr,h2 k db hY,qc hx,zpu (by omega),zqz]
    show ((f.vars.take (i+1)).zip (s.vals++[x.init])).all inB=true
    rw[zd1 hx s.vals h3 x.init,h4]
    have:=zdZ (vd.varAt0 hx) k0
    simp[inB,this.1,this.2]
   have hY:1<=x.kind/\x.kind<=3:=by omega
   have ha:=zhU hx rfl
   have dg:=(zpy.1 ha).1
   have de:=h2 x.kind hY.1 hY.2
   have hl:=h.len x.kind hY.1 hY.2
   obtain⟨n,hn⟩:∃ n,(yF r x.kind)[jb s x.kind]?=some n:=⟨_,zpk (by omega)⟩
   have hv:=h.val x.kind hY.1 hY.2 _ x n ha (by rw[<- de];exact hn)
   refine⟨kR s x.kind n,zam hx h1 (zfp hY hn),fun k db da=>?_,by rw[zai];simp[h3],?_⟩
   .
    rw[zbI s hY ⟨db,da⟩,h2 k db da,qc hx]
    by_cases e:k=x.kind
    . subst e;rw[zpv rfl,zpv rfl];simp
    rw[zpu e,zpu (fun h=>e h.symm),zqz]
   rw[zai,zd1 hx s.vals h3 n,h4]
   simp[inB,hv.1,hv.2]
 obtain⟨s,h1,h2,h3,h4⟩:=main f.vars.length (zpJ _)
 rw[zpp]at h1 h2 h4
 have hS:jO f.vars r=some s:=h1
 rw[ze1 hS dc fun k k1 k3=>by rw[zqX,h2 k k1 k3,h.len k k1 k3];omega,zpv h4]
theorem zbW {k:Int} {vs:List Vr} {v:Vr} (h:v ∈ zf k vs):v ∈ vs:=(zrc.1 h).1
theorem zbX {vs:List Vr} {n:Int} (h0:0<=n) (hg:∀ v ∈ vs,yr (v.low,v.high)) {j:Nat} {x:Vr} {y:Int} (hx:vs[j]?=some x) (hy:(zG vs n).1[j]?=some y):x.low<=y/\y<=x.high:=by
 have hs:∀ v ∈ vs,1<=v.high - v.low+1:=fun v hv=>by have:=(hg v hv).2.1;dsimp only at this;omega
 have hp:∀ l:List Vr,(∀ v ∈ l,1<=v.high - v.low+1)->0<jo l:=fun l hl=>by
  induction l with
  | nil=>decide
  | cons v l ih=>exact Int.mul_pos (by have:=hl v (zpo ..);omega) (ih fun u hu=>hl u (zpn _ hu))
 rw[zao h0 hs hx]at hy
 have hY:=hs x (zpl hx)
 have hq:0<=n / jo (vs.drop (j+1)):=Int.ediv_nonneg h0 (Int.le_of_lt (hp _ fun v hv=>hs v (zrh hv)))
 obtain rfl:=Option.some.inj hy
 have h1:=Int.tmod_nonneg (x.high - x.low+1) hq
 have h2:=Int.tmod_lt_of_pos (n / jo (vs.drop (j+1))) (show 0<x.high - x.low+1 by omega)
 omega
theorem zjs {f:Fl} (vd:Valid f) {a b c:Int} (ha:0<=a) (hb:0<=b) (hc:0<=c):InsOk f.vars ⟨(zG (zf 1 f.vars) a).1,(zG (zf 2 f.vars) b).1,(zG (zf 3 f.vars) c).1⟩:=by
 refine⟨fun k h1 h3=>?_,fun k h1 h3 j x n hx hn=>?_⟩
 . rcases (show k=1\/k=2\/k=3 by omega) with rfl | rfl | rfl<;>exact xv _ _
 rcases (show k=1\/k=2\/k=3 by omega) with rfl | rfl | rfl
 . exact zbX ha (fun v hv=>vd.good v (zbW hv)) hx hn
 . exact zbX hb (fun v hv=>vd.good v (zbW hv)) hx hn
 exact zbX hc (fun v hv=>vd.good v (zbW hv)) hx hn
def zhV (vs:List Vr) (s p r:Int):Int:=if zK 1 vs s ≠ 0 then zK 1 vs s else if zK 2 vs p ≠ 0 then zK 2 vs p else zK 3 vs r
theorem zem (vs:List Vr) (s p r:Int) (vv:Value) (D:Nat->Prop) (W:World) (hg:∀ v ∈ vs,yr (v.low,v.high)) (hY:vs.length<=1000000) (de:SlR 5 RVr D W vv vs) :
  Calls Tryz.prog 43 #[vv,.int .i64 s,.int .i64 p,.int .i64 r] W (Ret fun rr w'=>(∃ a b c,rr=.tuple #[.agg #[a,b,c],.int .i64 (zhV vs s p r)]/\(zhV vs s p r ≠ 0->a=.slice none 0 0/\b=.slice none 0 0/\c=.slice none 0 0)/\(zhV vs s p r=0->SlR 1 zC (fun q=>W.heap.size<=q) w' a (zG (zf 1 vs) s).1/\SlR 1 zC (fun q=>W.heap.size<=q) w' b (zG (zf 2 vs) p).1/\SlR 1 zC (fun q=>W.heap.size<=q) w' c (zG (zf 3 vs) r).1))/\Ext W w'):=by
 refine znn Tryz.func43 O Tryz.ntmps43 O (znE (Vs 2 O (V.alloc 8 tz45 O O (fun b8=>?_))))
 refine Vs 7 O (zo1 Tryz.call86 O (fun w hI=>jp vs 1 s vv D w (by decide) hg hY (Tr1 hI.k0 de)) ?_)
 rintro r1 w1 w2 dg dh ⟨a,rfl,dw,di⟩ df
 refine Vs 14 O (zlG O (fun c1=>?_) (fun c1=>?_))
 .
  have hc:zhV vs s p r=zK 1 vs s:=zpv c1
  refine Vs 2 O (zol [Value.slice none 0 0,Value.slice none 0 0,Value.slice none 0 0] [(0,1),(1,1),(2,1)] [] O O (fun _=>by kernel_rfl) (Vs 7 O (zm7 tr43 tg45 ts45 O O O O (fun w hI=>⟨_,rfl,⟨_,_,_,by rw[hc],fun _=>⟨rfl,rfl,rfl⟩,fun h=>absurd (hc ▸ h) c1⟩,hI.k1⟩))))
 have ha:=di (zpt.1 c1)
 obtain⟨aa,ca,rfl⟩:=ha.form
 refine Vs 6 O (zo1 Tryz.call86 O (fun w hI=>jp vs 2 p vv D w (by decide) hg hY (Tr1 hI.k1 de)) ?_)
 rintro r2 w3 w4 dk dl ⟨b,rfl,dx,dm⟩ da
 refine Vs 14 O (zlG O (fun c2=>?_) (fun c2=>?_))
 .
  have hc:zhV vs s p r=zK 2 vs p:=by unfold zhV;rw[zpu c1,zpv c2]
  refine Vs 2 O (zol [Value.slice none 0 0,Value.slice none 0 0,Value.slice none 0 0] [(0,1),(1,1),(2,1)] [] O O (fun _=>by kernel_rfl) (Vs 7 O (zm7 tr43 tg45 ts45 O O O O (fun w hI=>⟨_,rfl,⟨_,_,_,by rw[hc],fun _=>⟨rfl,rfl,rfl⟩,fun h=>absurd (hc ▸ h) c2⟩,hI.k2⟩))))
 have hb:=dm (zpt.1 c2)
 obtain⟨ab,cb,rfl⟩:=hb.form
 refine Vs 6 O (zo1 Tryz.call86 O (fun w hI=>jp vs 3 r vv D w (by decide) hg hY (Tr1 hI.k2 de)) ?_)
 rintro r3 w5 w6 dr dt ⟨c,rfl,dy,du⟩ db
 have dc:zhV vs s p r=zK 3 vs r:=by unfold zhV;rw[zpu c1,zpu c2]
 refine Vs 14 O (zlG O (fun c3=>?_) (fun c3=>?_))
 . refine Vs 2 O (zol [Value.slice none 0 0,Value.slice none 0 0,Value.slice none 0 0] [(0,1),(1,1),(2,1)] [] O O (fun _=>by kernel_rfl) (Vs 7 O (zm7 tr43 tg45 ts45 O O O O (fun w hI=>⟨_,rfl,⟨_,_,_,by rw[dc],fun _=>⟨rfl,rfl,rfl⟩,fun h=>absurd (dc ▸ h) c3⟩,hI.k3⟩))))
 have hc:=du (zpt.1 c3)
 obtain⟨ac,cc,rfl⟩:=hc.form
 have e1:W.heap.size<=w1.heap.size:=dg.k0.size
 have e3:W.heap.size<=w3.heap.size:=dk.k1.size
 have e5:W.heap.size<=w5.heap.size:=dr.k2.size
 refine V.dat 900 2 O O O (ha) (fun q hq _ hs=>by have:=df q hs;omega) (V.dat 901 1 O O O (hb) (fun q hq _ hs=>by have:=da q hs;omega) (V.dat 902 0 O O O (hc) (fun q hq _ hs=>by have:=db q hs;omega) (Vs 7 O (zol [Value.slice none 0 0,Value.slice none 0 0,Value.slice none 0 0] [(0,1),(1,1),(2,1)] [(0,_),(1,_),(2,_)] O O (fun _=>by kernel_rfl) (Vs 5 O (zm7 tr43 tg45 ts45 O O O O (fun w hI=>⟨_,rfl,⟨_,_,_,by rw[dc,zpt.1 c3],fun h=>absurd (dc ▸ zpt.1 c3) h,fun _=>⟨(hI.at 900 O).1.wide zb (fun q hq=>by omega),(hI.at 901 O).1.wide zb (fun q hq=>by omega),(hI.at 902 O).1.wide zb (fun q hq=>by omega)⟩⟩,hI.k3⟩)))))))
structure FitC (f:Fl) (a b c:Int):Prop where
 vd:Valid f
 vars:f.vars.length<=10
 hatches:f.hatches.length<=10
 small:sbulk f.body+zA f.hatches<=80
 sp:(spN f:Int)<=a
 pb:(zo 2 f.vars).getD 0<=b
 rn:(rnN f:Int)<=c
theorem zkv (f:Fl) (a b c:Int) (v1 v2 v3:Value) (D:Nat->Prop) (W:World) (hf:RFl D W f v1 v2 v3) :
  Calls Tryz.prog 32 #[.agg #[v1,v2,v3],.int .i64 a,.int .i64 b,.int .i64 c] W (Ret fun r w'=>(∃ q:Bool,r=.bool q/\(q=true->FitC f a b c))/\Ext W w'):=by
 obtain⟨a1,n1,rfl⟩:=hf.vars.form
 obtain⟨a2,n2,rfl⟩:=hf.hatches.form
 obtain⟨a3,n3,rfl⟩:=hf.body.form
 refine znn Tryz.func32 O Tryz.ntmps32 O (znE (Vs 2 O (V.box 4 O O (fun b4=>?_))))
 refine Vs 7 O (znZ Tryz.call28 O (fun w hI=>ziq f 10 80 _ _ _ D w (Tr1 hI.k0 hf) (by decide) (by decide)) (znF (p:=(f.vars.length:Int)<=10/\(f.hatches.length:Int)<=10/\((sbulk f.body+zA f.hatches:Nat):Int)<=80) (fun hY=>?_) (fun hY=>?_)))
 .
  have h1:=zdu f.body
  have db:snodes f.body+zA f.hatches<=1024:=by omega
  have da:sbulk f.body<=1000000:=by omega
  refine znb O (fun w hI=>zmT O (by first | exact za | rfl)) (Vs 1 O (V.sp 21 O (fun q1=>?_) (fun q1=>?_)))
  . exact absurd hY q1
  refine Vs 1 O (znZ Tryz.call29 O (fun w hI=>zbB f _ _ _ D w (Tr1 hI.k0 hf) db da) (Vs 4 O (zlG O (fun c0=>?_) (fun c0=>?_))))
  . refine Vs 7 O (zlW tr32 O (fun w hI=>⟨_,rfl,⟨_,rfl,fun h=>by cases h⟩,hI.k0⟩))
  have c0':yj f=0:=by omega
  have vd:Valid f:=⟨c0',db,da⟩
  have dc:=(yi c0').2.2.2.1
  obtain⟨s1,s2,s3⟩:=qT vd
  refine Vs 6 O (znZ tc42 O (fun w hI=>yT f.vars 1 _ D w (by decide) vd.good (by omega) (Tr1 hI.k0 hf.vars)) (Vs 11 O (znZ tc42 O (fun w hI=>yT f.vars 2 _ D w (by decide) vd.good (by omega) (Tr1 hI.k0 hf.vars)) (Vs 11 O (znZ tc42 O (fun w hI=>yT f.vars 3 _ D w (by decide) vd.good (by omega) (Tr1 hI.k0 hf.vars)) (Vs 11 O (znZ Tryz.call65 O (fun w hI=>zaC f.vars f.hatches.length f.body _ D w true dc (Tr1 hI.k0 hf.body) da) ?_)))))))
  have e1:=(zjJ vd).1
  have e3:=(zjK vd).1
  refine Vs 15 O (V.sp 54 O (fun g1=>?_) (fun g1=>?_))
  .
   refine Vs 5 O (V.sp 59 O (fun g2=>?_) (fun g2=>?_))
   .
    refine Vs 5 O (V.sp 64 O (fun g3=>?_) (fun g3=>?_))
    . refine Vs 7 O (zlW tr32 O (fun w hI=>⟨_,rfl,⟨_,rfl,fun _=>⟨vd,by omega,by omega,by omega,by omega,by omega,by omega⟩⟩,hI.k0⟩))
    refine Vs 7 O (zlW tr32 O (fun w hI=>⟨_,rfl,⟨_,rfl,fun h=>by cases h⟩,hI.k0⟩))
   refine Vs 12 O (zlW tr32 O (fun w hI=>⟨_,rfl,⟨_,rfl,fun h=>by cases h⟩,hI.k0⟩))
  refine Vs 17 O (zlW tr32 O (fun w hI=>⟨_,rfl,⟨_,rfl,fun h=>by cases h⟩,hI.k0⟩))
 refine znb O (fun w hI=>zmT O (by first | exact za | rfl)) (Vs 1 O (V.sp 21 O (fun q1=>?_) (fun q1=>?_)))
 . refine Vs 14 O (zlW tr32 O (fun w hI=>⟨_,rfl,⟨_,rfl,fun h=>by cases h⟩,hI.k0⟩))
 exact absurd (zpt.1 q1) hY
end Go.Proofs.YtckdhgbepmpgiaaGreat
namespace Go.GL
structure MI where
 i:Nat
 o:Oper
 d:Nat
 dp:List Nat
 q:Bool
 Φ:(Nat->Value)->Value->Hp->Prop
abbrev MK:=Nat × Nat × List Nat × Bool
def MI.key (x:MI):MK:=(x.i,x.d,x.dp,x.q)
def zhW (x:MK) (J:List MK):Bool:=x.2.2.1.all fun m=>J.all fun y=>!Nat.beq y.2.1 m
def zjt (i:Nat) (J:List MK):List MK:=J.filter fun y=>!Nat.beq y.1 i
def zjN (ops:Array Oper) (l:Array Bool) (x:MK):Bool:=x.2.2.2&&(Region.noSelect ops&&Region.free .any ops l x.1&&(Region.ready .any ops l).contains x.1)
def zju (i:Nat):List MK->Option MK
 | []=>none
 | y::r=>cond (Nat.beq y.1 i) (some y) (zju i r)
def zaE (ops:Array Oper) (L3:Array Bool):Nat->List MK->Array Bool->Bool
 | 0,J,l=>J.isEmpty&&(l == L3)
 | k+1,J,l=>match J.find? (zjN ops l) with
  | some x=>zhW x J&&zaE ops L3 k (zjt x.1 J) (l.setIfInBounds x.1 true)
  | none=>!(Region.ready .any ops l).isEmpty&&(Region.ready .any ops l).all fun j=>match zju j J with
   | some x=>!x.2.2.2&&zhW x J&&zaE ops L3 k (zjt x.1 J) (l.setIfInBounds x.1 true)
   | none=>false
theorem zen {i:Nat}:∀ {J:List MK} {x:MK},zju i J=some x->x ∈ J/\x.1=i
 | [],_,h=>by cases h
 | y::r,x,h=>by
  simp only[zju]at h
  cases hb:Nat.beq y.1 i with
  | true=>rw[hb]at h;cases h;exact⟨zpo ..,zpr hb⟩
  | false=>rw[hb]at h;obtain⟨h1,h2⟩:=zen h;exact⟨zpn _ h1,h2⟩
structure Dn (w w':World) (hx:Hp) (lo hi:Nat):Prop where
 p0:w.heap.size<=lo
 le:lo<=hi
 p1:hi<=w'.heap.size
 ok:∀ z ∈ hx,z.2.holds w'/\z.2.loc/\(∀ b,¬ z.2.fz b)/\∀ q,z.2.S q->lo<=q/\q<hi
 apart:hx.Pairwise (fun x y=>∀ q,x.2.S q->¬ y.2.S q)
theorem Dn.ext {w w' w2:World} {hx:Hp} {lo hi:Nat} (h:Dn w w' hx lo hi) (hk:Ext w' w2):Dn w w2 hx lo hi :=
 ⟨h.p0,h.le,zpq h.p1 hk.size,fun z hz=>by
  obtain⟨h1,h2,h3,h4⟩:=h.ok z hz
  exact⟨HE.keep h1 h2 hk (fun _ _ h=>h) (fun _ _ h=>h),h2,h3,h4⟩,h.apart⟩
theorem zbY {w w':World} {hx:Hp} (h:Hands [] [] hx w w'):Ext w w':=h.keep.mono fun q _ ⟨x,hx,_⟩=>by cases hx
theorem Dn.of {w a a':World} {hx:Hp} (hk:Ext w a) (h:Hands [] [] hx a a'):Dn w a' hx a.heap.size a'.heap.size :=
 ⟨hk.size,(zbY h).size,zpJ _,fun z hz=>by
  obtain⟨h1,h2,h3,h4⟩:=h.ok z hz
  refine⟨h1,h2,h3,fun q hq=>⟨?_,(h4 q hq).2⟩⟩
  rcases (h4 q hq).1 with⟨x,hx,_⟩ | h5
  . cases hx
  .
   exact h5,h.apart⟩
theorem zeo:∀ H:Hp,yS [] H=H
 | []=>rfl
 | x::r=>by show x::yS [] r=x::r;rw[zeo r]
theorem zhX {Bs:zF} {H:Hp} {w w':World} {hn:Nat->Hp} {lo hi:Nat->Nat} (hI:VI Bs H w) (hk:Ext w w') (K:List Nat) (hY:K.Nodup) (hd:∀ m ∈ K,Dn w w' (hn m) (lo m) (hi m)) (db:∀ m ∈ K,∀ m' ∈ K,m ≠ m'->hi m<=lo m'\/hi m'<=lo m):VI Bs (K.flatMap hn++H) w':=by
 have hh:Hands H [] (K.flatMap hn) w w':=by
  refine⟨hk.mono fun q _ h=>h.elim,fun z hz=>?_,?_⟩
  .
   obtain⟨m,hm,hz⟩:=zrd.1 hz
   obtain⟨h1,h2,h3,h4⟩:=(hd m hm).ok z hz
   exact⟨h1,h2,h3,fun q hq=>⟨.inr (zpq (hd m hm).p0 (h4 q hq).1),zrT (h4 q hq).2 (hd m hm).p1⟩⟩
  clear hI
  induction K with
  | nil=>exact List.Pairwise.nil
  | cons m r ih =>
   rw[zrl]at hY
   rw[zqP]
   refine zrn.2 ⟨(hd m (zpo ..)).apart,ih hY.2 (fun x hx=>hd x (zpn _ hx)) (fun x hx y hy=>db x (zpn _ hx) y (zpn _ hy)),fun x hx y hy q hq dc=>?_⟩
   obtain⟨m',da,hy⟩:=zrd.1 hy
   have g1:=((hd m (zpo ..)).ok x hx).2.2.2 q hq
   have g2:=((hd m' (zpn _ da)).ok y hy).2.2.2 q dc
   rcases db m (zpo ..) m' (zpn _ da) (fun e=>hY.1 (e ▸ da)) with h | h<;>omega
 have:=hI.hands hh
 rw[zeo]at this
 exact this
theorem zhY {env:Env} {val:Nat->Value}:∀ (D:List Nat) (m:Nat) (v:Value),get (D.map (fun d=>(d,val d))++env) m=some v->(m ∈ D/\v=val m)\/get env m=some v
 | [],_,_,h=>.inr h
 | d::r,m,v,h=>by
  rw[zr5,zqA]at h
  simp only[GL.get]at h
  cases hb:Nat.beq d m with
  | true =>
   rw[hb]at h
   have e:=zpr hb
   subst e
   exact .inl ⟨zpo ..,(Option.some.inj h).symm⟩
  | false =>
   rw[hb]at h
   rcases zhY r m v h with⟨h1,h2⟩ | h1
   . exact .inl ⟨zpn _ h1,h2⟩
   exact .inr h1
section
variable {P:Program} {n:Nat} {Q:Exit->Act->World->Prop} {ks:List Fr} {env:Env} {A:Tgs} {H Hs:Hp} {Bs B0:zF} {ops:Array Oper} {L:List Nat} {fuel:Nat} {listed:Array Bool}
abbrev MI.Ds (I:List MI) (x:MI) (val:Nat->Value) (hn:Nat->Hp):Prop:=∀ y ∈ I,y.d ∈ x.dp->y.Φ val (val y.d) (hn y.d)
theorem zkw {I:List MI} {x:MI} {J:List MI} (_:(I.map (·.d)).Nodup) (_:∀ y ∈ J,y ∈ I) (h:zhW x.key (J.map MI.key)=true) {y:MI} (_:y ∈ I) (hd:y.d ∈ x.dp):y ∉ J:=by
 intro hY
 unfold zhW at h
 rw[zqv]at h
 have:=h y.d hd
 rw[zqv]at this
 have:=this y.key (zrf.2 ⟨y,hY,rfl⟩)
 simp[MI.key,]at this
theorem zoU (j:Nat) (I:List MI) (L3:Array Bool) (hI:∀ x ∈ I,ops[x.i]?=some x.o/\x.o.guard=none/\x.o.dst=some x.d/\Nat.blt x.d n=true/\get env x.d=none/\∀ m ∈ x.dp,m ∈ I.map (·.d))
  (dk:(I.map (·.d)).Nodup) (dG:(I.map (·.i)).Nodup) (dH:∀ x ∈ I,x.dp.Nodup) (hr:zaE ops L3 I.length (I.map MI.key) listed=true) (hB:Bs.drop j=B0) (hu:qA (Hs.map (·.1))=true)
  (hΦ:∀ x ∈ I,∀ val val' v hx,(∀ m ∈ x.dp,val m=val' m)->x.Φ val v hx->x.Φ val' v hx)
  (hc:∀ x ∈ I,x.q=false->∀ val hn,x.Ds I val hn->∀ w,VI Bs (x.dp.flatMap hn++H) w->Does P x.o (x.dp.map (fun m=>(m,val m))++env) w (fun v w'=>∃ hx,x.Φ val v hx/\Hands [] [] hx w w'))
  (hq:∀ x ∈ I,x.q=true->∀ val hn,x.Ds I val hn->∃ v,x.Φ val v []/\∀ w,yA P x.o (x.dp.map (fun m=>(m,val m))++env) w v w)
  (h:∀ val hn,(∀ x ∈ I,x.Φ val (val x.d) (hn x.d))->Hs.map (fun y=>hget ((I.map (·.d)).flatMap hn++H) y.1)=Hs.map (fun y=>some y.2)/\VD P n Q ks ops Hs B0 L fuel L3 (I.map (fun x=>(x.d,val x.d))++env) [] ((I.map (·.d)).flatMap hn++H) Bs) :
  VD P n Q ks ops Hs B0 L (fuel+I.length) listed env A H Bs:=by
 subst hB
 intro hH _ w hw
 have key:∀ (k:Nat) (J:List MI) (listed:Array Bool) (env':Env) (w':World) (val:Nat->Value) (hn:Nat->Hp) (lo hi:Nat->Nat),(∀ x ∈ J,x ∈ I)->zaE ops L3 k (J.map MI.key) listed=true->Ext w w'->Sub env env' ->
   (∀ x ∈ I,x ∉ J->get env' x.d=some (val x.d)/\x.Φ val (val x.d) (hn x.d)/\Dn w w' (hn x.d) (lo x.d) (hi x.d)/\∀ m ∈ x.dp,∀ y ∈ I,y.d=m->y ∉ J)->(∀ x ∈ I,x ∉ J->∀ y ∈ I,y ∉ J->x.d ≠ y.d->hi x.d<=lo y.d\/hi y.d<=lo x.d) ->
   WD P n ops (QK P Q ks) (VI (Bs.drop j) Hs) L (fuel+k) listed env' w':=by
  intro k
  induction k with
  | zero =>
   intro J listed env' w' val hn lo hi hJ ho hE df hY dt
   rw[zaE,zpW,zqW,List.map_eq_nil_iff]at ho
   obtain⟨rfl,ho⟩:=ho
   have e:listed=L3:=by simpa using ho
   rw[e]
   have dc:∀ x ∈ I,x ∉ ([]:List MI):=fun x _=>by simp
   obtain⟨g1,g2⟩:=h val hn fun x hx=>(hY x hx (dc x hx)).2.1
   have dI:VI Bs ((I.map (·.d)).flatMap hn++H) w':=zhX hw hE _ dk (fun m hm=>by
    obtain⟨x,hx,rfl⟩:=zrf.1 hm
    exact(hY x hx (dc x hx)).2.2.1) (fun m hm m' dx de=>by
    obtain⟨x,hx,rfl⟩:=zrf.1 hm
    obtain⟨y,hy,rfl⟩:=zrf.1 dx
    exact dt x hx (dc x hx) y hy (dc y hy) de)
   refine(g2 (Has.of g1) TgOk.nil w' dI).sub ?_
   intro m v hv
   have dC:get (I.map (fun x=>(x.d,val x.d))++env) m=some v:=hv
   rw[show (I.map fun x=>(x.d,val x.d))=(I.map (·.d)).map (fun d=>(d,val d)) by rw[zr6];rfl]at dC
   rcases zhY _ m v dC with⟨h1,h2⟩ | h1
   .
    obtain⟨x,hx,rfl⟩:=zrf.1 h1
    rw[h2];exact(hY x hx (dc x hx)).1
   exact df m v h1
  | succ k ih =>
   intro J listed env' w' val hn lo hi hJ ho hE df hY dt
   have one:∀ x ∈ J,zhW x.key (J.map MI.key)=true->zaE ops L3 k (zjt x.i (J.map MI.key)) (listed.setIfInBounds x.i true)=true ->
     (Sub (x.dp.map (fun m=>(m,val m))++env) env'/\x.Ds I val hn/\VI Bs (x.dp.flatMap hn++H) w') /\
     ∀ v w2 hx,x.Φ val v hx->Hands [] [] hx w' w2->WD P n ops (QK P Q ks) (VI (Bs.drop j) Hs) L (fuel+k) (listed.setIfInBounds x.i true) ((x.d,v)::env') w2:=by
    intro x hx dy dJ
    have dg:=hJ x hx
    have dl:∀ m ∈ x.dp,∃ y ∈ I,y.d=m/\y ∉ J:=fun m hm=>by
     obtain⟨y,hy,e⟩:=zrf.1 ((hI x dg).2.2.2.2.2 m hm)
     exact⟨y,hy,e,zkw dk hJ dy hy (by rw[e];exact hm)⟩
    refine⟨⟨?_,fun y hy hd=>(hY y hy (zkw dk hJ dy hy hd)).2.1,zhX (lo:=lo) (hi:=hi) hw hE _ (dH x dg) (fun m hm=>?_) (fun m hm m' dx de=>?_)⟩,?_⟩
    .
     intro m v hv
     rcases zhY _ m v hv with⟨h1,h2⟩ | h1
     .
      obtain⟨y,hy,e,da⟩:=dl m h1
      rw[h2,<- e];exact(hY y hy da).1
     exact df m v h1
    .
     obtain⟨y,hy,e,da⟩:=dl m hm
     rw[<- e];exact(hY y hy da).2.2.1
    .
     obtain⟨y,hy,e,da⟩:=dl m hm
     obtain⟨z,hz,e',db⟩:=dl m' dx
     rw[<- e,<- e'];exact dt y hy da z hz db (by rw[e,e'];exact de)
    intro v w2 dz hv hh
    have k2:=zbY hh
    have de:∀ y ∈ I,y ∉ J->y.d ≠ x.d:=fun y hy da e=>da (by rw[jk dk hy dg e];exact hx)
    have di:∀ z ∈ I,z ∉ J.filter (fun y=>!Nat.beq y.i x.i)->z=x\/z ∉ J:=by
     intro z hz dm
     by_cases db:z ∈ J
     .
      left
      cases e:Nat.beq z.i x.i with
      | true=>exact jk dG hz dg (zpr e)
      | false=>exact absurd (zrc.2 ⟨db,by simp[e]⟩) dm
     exact .inr db
    have dr:∀ z ∈ I,(z=x\/z ∉ J)->∀ m ∈ z.dp,val m=(if m=x.d then v else val m):=by
     intro z hz du m hm
     by_cases e:m=x.d
     .
      exfalso
      rcases du with rfl | db
      .
       obtain⟨y,hy,e',da⟩:=dl m hm
       exact de y hy da (e'.trans e)
      exact(hY z hz db).2.2.2 m hm x dg e.symm hx
     rw[zpu e]
    refine ih (J.filter (fun y=>!Nat.beq y.i x.i)) (listed.setIfInBounds x.i true) ((x.d,v)::env') w2 (fun m=>if m=x.d then v else val m) (fun m=>if m=x.d then dz else hn m) (fun m=>if m=x.d then w'.heap.size else lo m) (fun m=>if m=x.d then w2.heap.size else hi m) (fun z hz=>hJ z (zrc.1 hz).1) ?_ (hE.ext k2) ?_ ?_ ?_
    .
     have:=dJ
     unfold zjt at this
     rw[List.filter_map]at this
     exact this
    .
     intro m u dA
     simp only[GL.get]
     cases hb:Nat.beq x.d m with
     | true =>
      have e:=zpr hb
      rw[<- e,(hI x dg).2.2.2.2.1]at dA
      cases dA
     | false=>exact df m u dA
    .
     intro z hz dm
     have du:=di z hz dm
     have dD:∀ m ∈ z.dp,∀ y ∈ I,y.d=m->y ∉ J.filter (fun y=>!Nat.beq y.i x.i):=by
      intro m hm y hy e dK
      have da:=(zrc.1 dK).1
      rcases du with rfl | db
      . exact zkw dk hJ dy hy (by rw[e];exact hm) da
      exact(hY z hz db).2.2.2 m hm y hy e da
     rcases du with rfl | db
     .
      refine⟨by simp[GL.get,],?_,?_,dD⟩
      .
       simp only[if_true]
       exact hΦ _ dg _ _ _ _ (dr _ dg (.inl O)) hv
      simp only[if_true]
      exact Dn.of hE hh
     have dE:=de z hz db
     simp only[dE,if_false]
     obtain⟨g1,g2,g3,g4⟩:=hY z hz db
     refine⟨?_,hΦ z hz _ _ _ _ (dr z hz (.inr db)) g2,g3.ext k2,dD⟩
     simp only[GL.get]
     cases hb:Nat.beq x.d z.d with
     | true=>exact absurd (zpr hb).symm dE
     | false=>exact g1
    intro z hz dm y hy dL dF
    rcases di z hz dm with rfl | db<;>rcases di y hy dL with rfl | da
    . exact absurd O dF
    .
     simp only[de y hy da,if_false,if_true]
     exact .inr (hY y hy da).2.2.1.p1
    .
     simp only[de z hz db,if_false,if_true]
     exact .inl (hY z hz db).2.2.1.p1
    simp only[de z hz db,de y hy da,if_false]
    exact dt z hz db y hy da dF
   have dh:∀ y ∈ J.map MI.key,∃ x ∈ J,x.key=y:=fun y hy=>by
    obtain⟨x,hx,e⟩:=zrf.1 hy
    exact⟨x,hx,e⟩
   rw[zaE]at ho
   split at ho
   .
    rename_i y hy
    obtain⟨x,hx,rfl⟩:=dh y (zrg hy)
    have dw:=List.find?_some hy
    unfold zjN at dw
    rw[zpW]at dw
    rw[zpW]at ho
    obtain⟨⟨g1,g2,_⟩,g3⟩:=one x hx ho.1 ho.2
    obtain⟨q1,q2,q3,q4,_⟩:=hI x (hJ x hx)
    obtain⟨v,hv,dB⟩:=hq x (hJ x hx) dw.1 val hn g2
    exact zno x.i q1 dw.2 q3 q4 (.inl ⟨fun a _=>by simp[Region.wanted,q2],fun w3 m a ha=>dB w3 m a (ha.sub g1)⟩) (g3 v w' [] hv ⟨Keep.refl _ _,fun z hz=>(by cases hz),List.Pairwise.nil⟩)
   intro a ha
   rw[zpW,zqv]at ho
   refine⟨fun h0=>(by rw[h0]at ho;simp at ho),fun i hi=>?_⟩
   have h1:=ho.2 i hi
   split at h1
   .
    rename_i y hy
    obtain⟨h2,h3⟩:=zen hy
    obtain⟨x,hx,rfl⟩:=dh y h2
    have h3:x.i=i:=h3
    subst h3
    rw[zpW,zpW,zq4]at h1
    obtain⟨⟨g1,g2,g4⟩,g3⟩:=one x hx h1.1.2 h1.2
    obtain⟨q1,q2,q3,q4,_⟩:=hI x (hJ x hx)
    refine zgK q1 q2 q3 ha ((hc x (hJ x hx) h1.1.1 val hn g2 w' g4).sub g1) ?_
    rintro v w2 ⟨dz,hv,hh⟩
    have k2:=zbY hh
    exact⟨fun _ _=>((hw.ext (hE.ext k2)).drop j).pick hH hu,g3 v w2 dz hv hh _ (ha.put q4)⟩
   cases h1
 exact key I.length I listed env w (fun _=>undef) (fun _=>[]) (fun _=>0) (fun _=>0) (fun x hx=>hx) hr (Keep.refl _ _) (Sub.refl _) (fun x hx h=>absurd hx h) (fun x hx h=>absurd hx h)
theorem zp4 (A1:Tgs) (hY:A1.map (fun p=>zet env p.1)=A1.map (fun p=>jT H p.2)) (da:A1.all (fun p=>(jT H p.2).isSome)=true) (h:VD P n Q ks ops Hs B0 L fuel listed env A1 H Bs):VD P n Q ks ops Hs B0 L fuel listed env A H Bs:=fun hH _ w hI=>h hH (TgOk.of hY da) w hI
end
abbrev Ph:=(Nat->Value)->Value->Hp->Prop
abbrev Psi:=Nat->Ph
def psi:List (Nat × Ph)->Psi
 | [],_=>fun _ _ _=>False
 | (k,f)::r,m=>match Nat.beq k m with
  | true=>f
  | false=>psi r m
def zda (Ψ:Psi) (val:Nat->Value) (hn:Nat->Hp):List Nat->Prop
 | []=>True
 | m::r=>Ψ m val (val m) (hn m)/\zda Ψ val hn r
def zjO (val:Nat->Value):List Nat->Env->Env
 | [],env=>env
 | m::r,env=>(m,val m)::zjO val r env
def hpD (hn:Nat->Hp):List Nat->Hp->Hp
 | [],H=>H
 | m::r,H=>hn m++hpD hn r H
theorem zbZ (val:Nat->Value) (env:Env):∀ D:List Nat,zjO val D env=D.map (fun m=>(m,val m))++env
 | []=>rfl
 | m::r=>by rw[zjO,zbZ val env r];rfl
theorem zfO (hn:Nat->Hp) (H:Hp):∀ D:List Nat,hpD hn D H=D.flatMap hn++H
 | []=>rfl
 | m::r=>by rw[hpD,zfO hn H r,zqP,zqy]
theorem dpAll_iff {Ψ:Psi} {val:Nat->Value} {hn:Nat->Hp}:∀ {D:List Nat},zda Ψ val hn D ↔ ∀ m ∈ D,Ψ m val (val m) (hn m)
 | []=>by simp[zda]
 | m::r=>by simp only[zda,zqV];rw[dpAll_iff]
def zcu:List Nat->Bool
 | []=>true
 | x::r=>r.all (fun y=>!Nat.beq x y)&&zcu r
theorem za6:∀ {l:List Nat},zcu l=true->l.Nodup
 | [],_=>List.Pairwise.nil
 | x::r,h=>by
  rw[zcu,zpW,zqv]at h
  refine zrl.2 ⟨fun hx=>?_,za6 h.2⟩
  have:=h.1 x hx
  simp[]at this
def zl4 (I:List MK) (env:Env):Bool:=zcu (I.map (·.2.1))&&zcu (I.map (·.1))&&I.all fun x=>(get env x.2.1).isNone&&zcu x.2.2.1&&x.2.2.1.all fun m=>(I.map (·.2.1)).any fun y=>Nat.beq y m
section
variable {P:Program} {n:Nat} {Q:Exit->Act->World->Prop} {ks:List Fr} {env:Env} {A:Tgs} {H Hs:Hp} {Bs B0:zF} {ops:Array Oper} {L:List Nat} {fuel:Nat} {listed:Array Bool} {Ψ:Psi}
def MP (P:Program) (n:Nat) (ops:Array Oper) (env:Env) (H:Hp) (Bs:zF) (Ψ:Psi) (x:MK):Prop:=∃ o,(ops[x.1]?=some o/\o.guard=none/\o.dst=some x.2.1/\Nat.blt x.2.1 n=true)/\(∀ val val' v hx,(∀ m ∈ x.2.2.1,val m=val' m)->Ψ x.2.1 val v hx->Ψ x.2.1 val' v hx) /\
 (x.2.2.2=false->∀ val hn,zda Ψ val hn x.2.2.1->∀ w,VI Bs (hpD hn x.2.2.1 H) w->Does P o (zjO val x.2.2.1 env) w (fun v w'=>∃ hx,Ψ x.2.1 val v hx/\Hands [] [] hx w w')) /\
 (x.2.2.2=true->∀ val hn,zda Ψ val hn x.2.2.1->∃ v,Ψ x.2.1 val v []/\∀ w,yA P o (zjO val x.2.2.1 env) w v w)
def MPs (P:Program) (n:Nat) (ops:Array Oper) (env:Env) (H:Hp) (Bs:zF) (Ψ:Psi):List MK->Prop
 | []=>True
 | x::r=>MP P n ops env H Bs Ψ x/\MPs P n ops env H Bs Ψ r
theorem MPs.all:∀ {I:List MK},MPs P n ops env H Bs Ψ I->∀ x ∈ I,MP P n ops env H Bs Ψ x
 | y::r,h,x,hx=>by
  rcases zpA.1 hx with rfl | hx
  . exact h.1
  exact MPs.all h.2 x hx
theorem zp5 {i d:Nat} {dp:List Nat} {op:Op} {ty:TypeId} {ps:String} {aft:Array Edge} (hi:ops[i]?=some ⟨some d,op,ty,ps,aft,none⟩) (hb:Nat.blt d n=true) (hΦ:∀ val val' v hx,(∀ m ∈ dp,val m=val' m)->Ψ d val v hx->Ψ d val' v hx)
  (hc:∀ val hn,zda Ψ val hn dp->∀ w,VI Bs (hpD hn dp H) w->Does P ⟨some d,op,ty,ps,aft,none⟩ (zjO val dp env) w (fun v w'=>∃ hx,Ψ d val v hx/\Hands [] [] hx w w')):MP P n ops env H Bs Ψ (i,d,dp,false) :=
 ⟨_,⟨hi,rfl,rfl,hb⟩,hΦ,fun _=>hc,fun h=>by cases h⟩
theorem Does.new {o:Oper} {w:World} {f:Nat->Value} {cs:List Value} {e:TypeId} (K:Nat) (h:yH P o env w (fun u w'=>∃ b,u=f b/\New w cs e b w')):Does P o env w (fun v w'=>∃ hx,(∃ b,v=f b/\hx=[(K,HE.own b cs e)])/\Hands [] [] hx w w'):=by
 obtain⟨v,w',hr,b,rfl,h1,h2,h3,h4⟩:=h
 refine .inl ⟨_,w',hr,_,⟨b,rfl,rfl⟩,h4.mono fun q _ h=>h.elim,fun z hz=>?_,zrq _ _⟩
 rw[zpC]at hz
 subst hz
 exact⟨h3,trivial,fun _ h=>h,fun q hq=>by have hq:q=b:=hq;exact⟨.inr (by omega),by omega⟩⟩
theorem zp6 (fuel j:Nat) (I:List MK) (Ψ:Psi) (hr:zaE ops (zdk (I.map (·.1)) listed) I.length I listed=true) (hs:zl4 I env=true) (hB:Bs.drop j=B0) (hu:qA (Hs.map (·.1))=true) (hM:MPs P n ops env H Bs Ψ I)
  (h:∀ val hn,zda Ψ val hn (I.map (·.2.1))->Hs.map (fun y=>hget (hpD hn (I.map (·.2.1)) H) y.1)=Hs.map (fun y=>some y.2)/\VD P n Q ks ops Hs B0 L fuel (zdk (I.map (·.1)) listed) (zjO val (I.map (·.2.1)) env) [] (hpD hn (I.map (·.2.1)) H) Bs) :
  VD P n Q ks ops Hs B0 L (fuel+I.length) listed env A H Bs:=by
 unfold zl4 at hs
 simp only[zpW,zqv,zqx,zs7]at hs
 obtain⟨⟨s1,s2⟩,s3⟩:=hs
 let mk:MK->MI:=fun x=>⟨x.1,(ops[x.1]?).getD ⟨none,.nilCheck (.tmp 0),0, "",#[],none⟩,x.2.1,x.2.2.1,x.2.2.2,Ψ x.2.1⟩
 have e1:(I.map mk).map (·.d)=I.map (·.2.1):=by rw[zr6];rfl
 have e2:(I.map mk).map (·.i)=I.map (·.1):=by rw[zr6];rfl
 have e3:(I.map mk).map MI.key=I:=by rw[zr6];exact List.map_id'' (fun x=>rfl) I
 have e4:(I.map mk).length=I.length:=zpE ..
 have da:∀ x ∈ I,∀ val hn,MI.Ds (I.map mk) (mk x) val hn->zda Ψ val hn x.2.2.1:=fun x hx val hn hD=>dpAll_iff.2 fun m hm=>by
  obtain⟨y,hy,he⟩:=(s3 x hx).2 m hm
  obtain⟨z,hz,rfl⟩:=zrf.1 hy
  have he:=zpr he
  have:=hD (mk z) (zrf.2 ⟨z,hz,rfl⟩) (by show z.2.1 ∈ x.2.2.1;rw[he];exact hm)
  rw[<- he]
  exact this
 rw[<- e4]
 refine zoU j (I.map mk) (zdk (I.map (·.1)) listed) ?_ (by rw[e1];exact za6 s1) (by rw[e2];exact za6 s2) ?_ (by rw[e3,e4];exact hr) hB hu ?_ ?_ ?_ ?_
 .
  intro y hy
  obtain⟨x,hx,rfl⟩:=zrf.1 hy
  obtain⟨o,⟨h1,h2,h3,h4⟩,_⟩:=hM.all x hx
  have ho:(mk x).o=o:=by show (ops[x.1]?).getD _=o;rw[h1];rfl
  refine⟨by rw[ho];exact h1,by rw[ho];exact h2,by rw[ho];exact h3,h4,(s3 x hx).1.1,fun m hm=>?_⟩
  rw[e1]
  obtain⟨z,hz,he⟩:=(s3 x hx).2 m hm
  rw[<- zpr he];exact hz
 .
  intro y hy
  obtain⟨x,hx,rfl⟩:=zrf.1 hy
  exact za6 (s3 x hx).1.2
 .
  intro y hy
  obtain⟨x,hx,rfl⟩:=zrf.1 hy
  obtain⟨o,_,h2,_⟩:=hM.all x hx
  exact h2
 .
  intro y hy hq val hn hD w hw
  obtain⟨x,hx,rfl⟩:=zrf.1 hy
  obtain⟨o,⟨h1,_⟩,_,h3,_⟩:=hM.all x hx
  have ho:(mk x).o=o:=by show (ops[x.1]?).getD _=o;rw[h1];rfl
  have:=h3 hq val hn (da x hx val hn hD) w (by rw[zfO];exact hw)
  rw[zbZ]at this
  rw[ho];exact this
 .
  intro y hy hq val hn hD
  obtain⟨x,hx,rfl⟩:=zrf.1 hy
  obtain⟨o,⟨h1,_⟩,_,_,h4⟩:=hM.all x hx
  have ho:(mk x).o=o:=by show (ops[x.1]?).getD _=o;rw[h1];rfl
  have:=h4 hq val hn (da x hx val hn hD)
  rw[zbZ]at this
  rw[ho];exact this
 intro val hn hY
 have:=h val hn (dpAll_iff.2 fun m hm=>by
  obtain⟨x,hx,rfl⟩:=zrf.1 hm
  exact hY (mk x) (zrf.2 ⟨x,hx,rfl⟩))
 rw[zfO,zbZ]at this
 rw[e1]
 refine⟨this.1,?_⟩
 rw[show (I.map mk).map (fun x=>(x.d,val x.d))=(I.map (·.2.1)).map (fun m=>(m,val m)) by rw[zr6,zr6];rfl]
 exact this.2
def phA (K:Nat) (cs:List Value) (t:TypeId):Ph:=fun _ v hx=>∃ b,v=.pointer (some ⟨b,0,none⟩)/\hx=[(K,.own b cs t)]
theorem MP.alloc (K:Nat) {i d:Nat} {e:TypeId} {ty:TypeId} {ps:String} {aft:Array Edge} {z:Value} {cs:List Value} (hi:ops[i]?=some ⟨some d,.alloc e,ty,ps,aft,none⟩) (hb:Nat.blt d n=true) (hz:∀ w,(zeroValue e).run P w=.ok z w) (hc:z.cells=cs.toArray) (hΨ:Ψ d=phA K cs e):MP P n ops env H Bs Ψ (i,d,[],false) :=
 zp5 hi hb (fun val val' v hx _ h=>by rw[hΨ]at h ⊢;exact h) fun val hn _ w _=>by rw[hΨ];exact Does.new K (M.alloc hz hc)
theorem zl5 {m:Nat} {v v':Value} {l l':List (Nat × Value)} (h:v=v') (h2:l=l'):(m,v)::l=(m,v')::l':=by rw[h,h2]
theorem zlA {a b c d:Hp} (h:a=b) (h2:c=d):a++c=b++d:=by rw[h,h2]
theorem VD.cast {val:Nat->Value} {hn:Nat->Hp} {D:List Nat} (A1:Tgs) (vals:List (Nat × Value)) (Hn:Hp) (he:D.map (fun m=>(m,val m))=vals) (hh:D.flatMap hn=Hn) (h1:Hs.map (fun y=>hget (Hn++H) y.1)=Hs.map (fun y=>some y.2)) (hY:A1.map (fun p=>zet (vals++env) p.1)=A1.map (fun p=>jT (Hn++H) p.2)) (da:A1.all (fun p=>(jT (Hn++H) p.2).isSome)=true)
  (h:VD P n Q ks ops Hs B0 L fuel listed (vals++env) A1 (Hn++H) Bs) :
  Hs.map (fun y=>hget (hpD hn D H) y.1)=Hs.map (fun y=>some y.2)/\VD P n Q ks ops Hs B0 L fuel listed (zjO val D env) [] (hpD hn D H) Bs:=by
 rw[zbZ,zfO]
 subst he hh
 exact⟨h1,zp4 A1 hY da h⟩
end
end Go.GL
namespace Go.Proofs.YtckdhgbepmpgiaaGreat
open Go.GL
theorem zhZ {w:World} {e:TypeId} {k:Nat} {v:Value} {n:Nat} {xs:List Value} (h:w.ownsRow 0 e k v n xs):∃ ao c,v=.slice ao n c/\(0<n->∃ b,ao=some ⟨b,0,none⟩):=by
 rcases h.2 with⟨rfl,rfl⟩ | ⟨g,cap,cur,rfl,_⟩
 . exact⟨_,_,rfl,fun h=>by omega⟩
 exact⟨_,_,rfl,fun _=>⟨_,rfl⟩⟩
theorem zfP {α:Type} {R:Rel α} {e:TypeId} {kk:Nat} {F:Nat->Prop} {w:World} {v:Value} {l:List α} (h:(OwP e kk R F v l).holds w):∃ ao c,v=.slice ao l.length c:=by
 obtain⟨ao,c,h,_⟩:=OwH.form (show OwH e kk R F w v l from h)
 exact⟨ao,c,h⟩
def zlp:Tm:=.mk 24 0 []
def zlq:Tm:=.mk 24 1 []
def zlr:Tm:=.mk 0 1 []
def zjv:St:=.mk 0 0 1 0 zlr [] [] []
def zl6:St:=.mk 3 0 0 0 zlp [zjv] [] []
def zl7:St:=.mk 1 0 0 0 zlq [] [] []
def exF22:Fl:=⟨[⟨⟨#[120]⟩,1,0,1,0⟩,⟨⟨#[121]⟩,0,0,1,0⟩],[],[zl6,zl7]⟩
def exG22:List Nd:=[⟨0,-1,1,-1⟩,⟨3,0,2,3⟩,⟨2,1,3,-1⟩,⟨2,2,4,-1⟩,⟨1,-1,-1,-1⟩]
def exS22:Sf:=⟨[0,1,1,1],[⟨[],[],-1⟩,⟨[],[(0,0)],-1⟩,⟨[],[],2⟩,⟨[⟨1,3,[1,2],[1,2]⟩],[(1,3)],-1⟩,⟨[],[],-1⟩]⟩
theorem zgo:yj exF22=0:=by decide +kernel
theorem zcv:zk exF22=exG22:=by rfl
theorem zi0:snodes exF22.body+zA exF22.hatches<=1024:=by decide +kernel
theorem zi1:sbulk exF22.body<=1000000:=by decide +kernel
theorem zkx:OfF exF22 exS22:=by
 refine⟨by decide,fun k v hk hl=>?_,fun k v hk hl=>?_⟩
 .
  match k with
  | 0=>simp[exS22]at hk;omega
  | 1=>simp[exS22]at hk;omega
  | k+2=>exact absurd hl (by show ¬ k+2<2;omega)
 match k with
 | 0=>simp[exF22]at hl
 | 1=>simp[exF22]at hl
 | 2=>simp[exS22]at hk;subst hk;exact⟨by decide,_,rfl,rfl⟩
 | 3=>simp[exS22]at hk;subst hk;exact⟨by decide,_,rfl,rfl⟩
 | k+4=>simp[exS22]at hk
theorem zaZ {f:Fl} {g:List Nd} {s:Sf} {n:Nat}:PhiF f g s n []:=⟨fun _=>rfl,List.Pairwise.nil,fun p h=>(by cases h),fun p h=>(by cases h),fun p h=>(by cases h),fun p h=>(by cases h)⟩
theorem ex22_form:FormF exF22 exG22 exS22 (rdV exF22 exG22):=by
 refine⟨zkx,rfl,fun n x hx=>?_,fun k h1 h2=>?_⟩
 .
  match n with
  | 0=>simp[exS22]at hx;subst hx;exact⟨zaZ,fun _=>rfl,fun h=>absurd h (by decide +kernel),by decide +kernel,fun u h=>by cases h⟩
  | 1=>simp[exS22]at hx;subst hx;exact⟨zaZ,fun _=>rfl,fun h=>absurd h (by decide +kernel),by decide +kernel,fun u h=>by simp at h;subst h;decide +kernel⟩
  | 2=>simp[exS22]at hx;subst hx;exact⟨zaZ,fun h=>absurd h (by decide +kernel),fun _=>by decide +kernel,by decide +kernel,fun u h=>by cases h⟩
  | 3 =>
   simp[exS22]at hx;subst hx
   refine⟨⟨fun h=>(by cases h),zrq _ _,fun p h=>?_,fun p h=>?_,fun p h=>?_,fun p h a ha=>?_⟩,fun _=>rfl,fun h=>absurd h (by decide +kernel),by decide +kernel,fun u h=>?_⟩
   . rw[zpC]at h;subst h;decide +kernel
   . rw[zpC]at h;subst h;decide +kernel
   . rw[zpC]at h;subst h;rfl
   . rw[zpC]at h;subst h;simp at ha;rcases ha with rfl | rfl<;>decide +kernel
   rw[zpC]at h;subst h;decide +kernel
  | 4=>simp[exS22]at hx;subst hx;exact⟨zaZ,fun _=>rfl,fun h=>absurd h (by decide +kernel),by decide +kernel,fun u h=>by cases h⟩
  | n+5=>simp[exS22]at hx
 match k with
 | 0=>exact absurd h1 (by decide)
 | 1=>exact absurd h1 (by decide)
 | 2=>decide +kernel
 | 3=>decide +kernel
 | k+4=>exact absurd h2 (by show ¬ k+4<4;omega)
def zc9:List (List Int):=[[0,1],[0,1],[0,1],[0,3],[0,3]]
theorem zky:∀ i:Nat,i<5->RV exF22 exG22 exS22 0 i 0:=by
 have h0:RV exF22 exG22 exS22 0 0 0:=.ini
 have h1:RV exF22 exG22 exS22 0 1 0:=.pass (y:=0) (by decide) (by decide +kernel) (by decide +kernel) (by decide +kernel) h0
 have h2:RV exF22 exG22 exS22 0 2 0:=.pass (y:=1) (by decide) (by decide +kernel) (by decide +kernel) (by decide +kernel) h1
 have h3:RV exF22 exG22 exS22 0 3 0:=.pass (y:=1) (by decide) (by decide +kernel) (by decide +kernel) (by decide +kernel) h1
 have h4:RV exF22 exG22 exS22 0 4 0:=.pass (y:=3) (by decide) (by decide +kernel) (by decide +kernel) (by decide +kernel) h3
 intro i hi
 match i with
 | 0=>exact h0
 | 1=>exact h1
 | 2=>exact h2
 | 3=>exact h3
 | 4=>exact h4
 | i+5=>omega
theorem zkz:∀ i:Nat,i<5->RV exF22 exG22 exS22 1 i (bfV zc9 i 1):=by
 have h0:RV exF22 exG22 exS22 1 0 1:=.ini
 have h1:RV exF22 exG22 exS22 1 1 1:=.pass (y:=0) (by decide) (by decide +kernel) (by decide +kernel) (by decide +kernel) h0
 have h2:RV exF22 exG22 exS22 1 2 1:=.pass (y:=1) (by decide) (by decide +kernel) (by decide +kernel) (by decide +kernel) h1
 have h3:RV exF22 exG22 exS22 1 3 3:=.phi (by decide) (by decide +kernel)
 have h4:RV exF22 exG22 exS22 1 4 3:=.pass (y:=3) (by decide) (by decide +kernel) (by decide +kernel) (by decide +kernel) h3
 intro i hi
 match i with
 | 0=>exact h0
 | 1=>exact h1
 | 2=>exact h2
 | 3=>exact h3
 | 4=>exact h4
 | i+5=>omega
theorem ex22_sol:SolV exF22 exG22 exS22 2 (bfV zc9):=by
 have key:∀ i:Nat,i<5->0<=bfV zc9 i 0/\bfV zc9 i 0=0/\0<=bfV zc9 i 1/\bfV zc9 i 0=eqV exG22 exS22 (yG exF22 exG22 exS22 (bfV zc9)) i 0/\bfV zc9 i 1=eqV exG22 exS22 (yG exF22 exG22 exS22 (bfV zc9)) i 1:=by decide +kernel
 refine⟨fun i hi v h0 h1=>?_,fun i hi v h0 h1=>?_⟩
 .
  obtain⟨k1,k2,k3,_⟩:=key i hi
  have hv:v=0\/v=1:=by omega
  rcases hv with rfl | rfl
  . exact .inr (.inl ⟨k1,by rw[k2];exact zky i hi⟩)
  exact .inr (.inl ⟨k3,zkz i hi⟩)
 obtain⟨_,_,_,k4,k5⟩:=key i hi
 have hv:v=0\/v=1:=by omega
 rcases hv with rfl | rfl
 . exact k4
 exact k5
theorem zgp:RightF exF22 exG22 exS22 (rdV exF22 exG22):=by
 have hs:=ex22_form.nn
 have hY:∀ i:Nat,i<5->∀ v:Int,0<=v->v<2->inV exF22 exG22 exS22 i v=bfV zc9 i v:=fun i hi v h0 h1=>(ex22_sol.is hs h0 h1 hi).symm
 refine⟨ex22_form,fun n x hx u hu=>?_,fun n x hx p hp i y a hy ha=>?_⟩
 .
  match n with
  | 0=>simp[exS22]at hx;subst hx;cases hu
  | 1=>simp[exS22]at hx;subst hx;rw[zpC]at hu;subst hu;rw[hY 1 (by decide) 0 (by decide) (by decide)];decide +kernel
  | 2=>simp[exS22]at hx;subst hx;cases hu
  | 3=>simp[exS22]at hx;subst hx;rw[zpC]at hu;subst hu;rw[hY 3 (by decide) 1 (by decide) (by decide)];decide +kernel
  | 4=>simp[exS22]at hx;subst hx;cases hu
  | n+5=>simp[exS22]at hx
 match n with
 | 0=>simp[exS22]at hx;subst hx;cases hp
 | 1=>simp[exS22]at hx;subst hx;cases hp
 | 2=>simp[exS22]at hx;subst hx;cases hp
 | 3 =>
  simp[exS22]at hx;subst hx;rw[zpC]at hp;subst hp
  match i with
  | 0=>simp at hy ha;subst hy;subst ha;show yG exF22 exG22 exS22 (inV exF22 exG22 exS22) 1 1=1;unfold yG;rw[hY 1 (by decide) 1 (by decide) (by decide)];decide +kernel
  | 1=>simp at hy ha;subst hy;subst ha;show yG exF22 exG22 exS22 (inV exF22 exG22 exS22) 2 1=2;unfold yG;rw[hY 2 (by decide) 1 (by decide) (by decide)];decide +kernel
  | i+2=>simp at hy
 | 4=>simp[exS22]at hx;subst hx;cases hp
 | n+5=>simp[exS22]at hx
def exT22:Sf:=⟨[0,1,1,1],[⟨[],[],-1⟩,⟨[],[(0,0)],-1⟩,⟨[],[],2⟩,⟨[],[(1,2)],-1⟩,⟨[],[],-1⟩]⟩
theorem zgq:¬ RightF exF22 exG22 exT22 (rdV exF22 exG22):=fun h=>absurd (h.one 3 (by decide) (by decide)) (by decide +kernel)
theorem zc0:¬ yD exF22 exG22 ≠ 0:=fun h=>h (by unfold yD;rw[zpu (by rw[zgo];exact fun h=>h rfl),zpv zcv])
theorem zc1:yq exF22 exG22 exS22=0:=zhJ zc0 zgp
theorem zgr:yq exF22 exG22 exT22=13:=zf0 zc0 zgq
end Go.Proofs.YtckdhgbepmpgiaaGreat
namespace Go.GL
def zlh (E:Hp) (w:World):Prop:=(∀ x ∈ E,x.2.holds w/\x.2.loc/\(∀ b,¬ x.2.fz b)/\∀ q,x.2.S q->q<w.heap.size)/\E.Pairwise (fun x y=>∀ q,x.2.S q->¬ y.2.S q)
structure GBack (E E':Hp) (w w':World):Prop where
 keep:Keep (HS E) w w'
 held:zlh E' w'
 new:∀ x ∈ E',∀ q,x.2.S q->HS E q\/w.heap.size<=q
def HE.nz:HE->Bool
 | .fro ..=>false
 | .dat ..=>false
 | _=>true
theorem zp7 {e:HE} (h:e.nz=true):∀ b,¬ e.fz b:=by
 cases e with
 | fro b o cs=>cases h
 | dat F p=>cases h
 | _=>exact fun _ h=>h
theorem VI.held {Bs:zF} {H E:Hp} {w:World} (hI:VI Bs H w) (hE:E.map (fun x=>hget H x.1)=E.map (fun x=>some x.2)) (hu:qA (E.map (·.1))=true) (hz:E.all (fun x=>x.2.nz)=true):zlh E w:=by
 have h:=hI.pick (Has.of hE) hu
 exact⟨fun x hx=>⟨h.holds x hx,h.loc x hx,zp7 (zqv.1 hz x hx),h.low x hx⟩,h.apart⟩
theorem VI.back {Bs:zF} {H E E':Hp} {w w0:World} (hI:VI Bs H w) (j:Nat) (hj:Bs[j]?=some (w0,HS E)) (hE:E'.map (fun x=>hget H x.1)=E'.map (fun x=>some x.2)) (hu:qA (E'.map (·.1))=true) (hz:E'.all (fun x=>x.2.nz)=true):GBack E E' w0 w:=by
 have hb:=zpl hj
 exact⟨(hI.base _ hb).1,hI.held hE hu hz,fun x hx q hq=>((hI.pick (Has.of hE) hu).base _ hb).2 x hx q hq⟩
theorem VI.back0 {Bs:zF} {H E':Hp} {w w0:World} (hI:VI Bs H w) (j:Nat) (hj:Bs[j]?=some (w0,fun _=>False)) (hE:E'.map (fun x=>hget H x.1)=E'.map (fun x=>some x.2)) (hu:qA (E'.map (·.1))=true) (hz:E'.all (fun x=>x.2.nz)=true):GBack [] E' w0 w:=by
 have hb:=zpl hj
 exact⟨(hI.base _ hb).1.mono fun q _ h=>h.elim,hI.held hE hu hz,fun x hx q hq=>.inr ((((hI.pick (Has.of hE) hu).base _ hb).2 x hx q hq).resolve_left fun h=>h)⟩
theorem zl8 {H E:Hp} {ks:List Nat} (hE:E.map (fun x=>hget H x.1)=E.map (fun x=>some x.2)) (hk:E.all (fun x=>zfS x.1 ks)=true) {q:Nat} (hq:HS E q):InS H ks q:=by
 obtain⟨x,hx,hs⟩:=hq
 exact⟨x,zr (Has.of hE x hx),zqv.1 hk x hx,hs⟩
theorem zi2 {H E:Hp} (hE:E.map (fun x=>hget H x.1)=E.map (fun x=>some x.2)) {q:Nat} (hq:HS E q):HS H q:=by
 obtain⟨x,hx,hs⟩:=hq
 exact⟨_,zr (Has.of hE x hx),hs⟩
theorem zf2 {P:Program} {f:FuncId} {args:Array Value} {w:World} {H E:Hp} {ks:List Nat} {α:Type} {E':α->Hp} {Φ:Value->α->Prop} (hE:E.map (fun x=>hget H x.1)=E.map (fun x=>some x.2)) (hk:E.all (fun x=>zfS x.1 ks)=true) (h:Calls P f args w (Ret fun r w'=>∃ x,Φ r x/\GBack E (E' x) w w')):Calls P f args w (Ret fun r w'=>∃ x,Φ r x/\Hands H ks (E' x) w w'):=by
 refine Calls.mono h ?_
 rintro e' w' ⟨r,rfl,x,h1,h2⟩
 exact⟨r,rfl,x,h1,h2.keep.mono fun q _ hq=>zl8 hE hk hq,fun y hy=>⟨(h2.held.1 y hy).1,(h2.held.1 y hy).2.1,(h2.held.1 y hy).2.2.1,fun q hq=>⟨(h2.new y hy q hq).imp (zl8 hE hk) id,(h2.held.1 y hy).2.2.2 q hq⟩⟩,h2.held.2⟩
theorem VI.offE {Bs:zF} {H E E':Hp} {w w0:World} (hI:VI Bs H w) (j:Nat) (hj:Bs[j]?=some (w0,HS E)) (hE:E'.map (fun x=>hget H x.1)=E'.map (fun x=>some x.2)) {D:Nat->Prop} (hD:∀ q,D q->q<w0.heap.size) (ho:∀ q,HS E q->¬ D q):∀ q,HS E' q->¬ D q:=by
 rintro q ⟨x,hx,hq⟩ hd
 rcases (hI.base _ (zpl hj)).2 _ (zr (Has.of hE x hx)) q hq with h1 | h1
 . exact ho q h1 hd
 have:=hD q hd;simp only at h1;omega
def rho:List (Nat × Nat)->Nat->Nat
 | [],k=>k
 | (a,b)::r,k=>cond (Nat.beq a k) b (rho r k)
def zjP (ρ:List (Nat × Nat)):Hp->Hp
 | []=>[]
 | x::r=>(rho ρ x.1,x.2)::zjP ρ r
theorem zf3 (ρ:List (Nat × Nat)):∀ H:Hp,zjP ρ H=H.map fun x=>(rho ρ x.1,x.2)
 | []=>rfl
 | x::r=>by rw[zjP,zf3 ρ r];rfl
theorem VI.ren {Bs:zF} {H:Hp} {w:World} (ρ:List (Nat × Nat)) (h:VI Bs H w):VI Bs (zjP ρ H) w:=by
 have hm:∀ x ∈ zjP ρ H,∃ y ∈ H,y.2=x.2:=fun x hx=>by
  rw[zf3]at hx
  obtain⟨y,hy,rfl⟩:=zrf.1 hx
  exact⟨y,hy,rfl⟩
 refine⟨fun x hx=>?_,fun x hx=>?_,?_,fun x hx y hy=>?_,fun x hx=>?_,fun p hp=>⟨(h.base p hp).1,fun x hx=>?_⟩⟩
 . obtain⟨y,hy,e⟩:=hm x hx;rw[<- e];exact h.holds y hy
 . obtain⟨y,hy,e⟩:=hm x hx;rw[<- e];exact h.loc y hy
 . rw[zf3];exact List.Pairwise.map _ (fun _ _ h=>h) h.apart
 . obtain⟨x',hY,e⟩:=hm x hx;obtain⟨y',da,e'⟩:=hm y hy;rw[<- e,<- e'];exact h.froz x' hY y' da
 . obtain⟨y,hy,e⟩:=hm x hx;rw[<- e];exact h.low y hy
 obtain⟨y,hy,e⟩:=hm x hx;rw[<- e];exact(h.base p hp).2 y hy
section
variable {P:Program} {n:Nat} {Q:Exit->Act->World->Prop} {ks:List Fr} {pos:Pos} {env:Env} {A:Tgs} {H:Hp} {Bs:zF}
theorem V.ren (ρ:List (Nat × Nat)) (A1:Tgs) (hY:A1.map (fun p=>zet env p.1)=A1.map (fun p=>jT (zjP ρ H) p.2)) (da:A1.all (fun p=>(jT (zjP ρ H) p.2).isSome)=true) (h:V P n Q ks pos env A1 (zjP ρ H) Bs):V P n Q ks pos env A H Bs :=
 fun _ w hI=>h (TgOk.of hY da) w (hI.ren ρ)
theorem zp8 (k1 k2:Nat) {F1 F2:Nat->Prop} {p1 p2:World->Prop} (hn:(hget H k1,hget H k2)=(some (.dat F1 p1),some (.dat F2 p2))) (h:∀ w,p1 w->p2 w->(∀ b,F1 b\/F2 b->b<w.heap.size)->(∀ b,HS H b->¬ F1 b)->(∀ b,HS H b->¬ F2 b)->V P n Q ks pos env A H ((w,HS H)::Bs)):V P n Q ks pos env A H Bs:=by
 simp only[Prod.mk.injEq]at hn
 intro hA w hI
 have h1:=hI.at k1 hn.1
 have h2:=hI.at k2 hn.2
 exact h w h1.1 h2.1 (fun b hb=>hb.elim (h1.2 b) (h2.2 b)) (fun b hb hF=>hI.offF k1 hn.1 b hF hb) (fun b hb hF=>hI.offF k2 hn.2 b hF hb) hA w hI.here
end
def AllR {α:Type} (R:Rel α) (D:Nat->Prop) (w:World):List α->List (List Value)->Prop
 | [],[]=>True
 | x::l,c::cs=>R D w x c/\AllR R D w l cs
 | _,_=>False
theorem AllR.at {α:Type} {R:Rel α} {D:Nat->Prop} {w:World}:∀ {l:List α} {cs:List (List Value)},AllR R D w l cs->∀ {i:Nat} {x:α},l[i]?=some x->∃ c,cs[i]?=some c/\R D w x c
 | [],[],_,i,x,h=>by simp at h
 | y::l,c::cs,h,0,x,hx=>by simp at hx;subst hx;exact⟨c,rfl,h.1⟩
 | y::l,c::cs,h,i+1,x,hx=>by
  obtain⟨c',h1,h2⟩:=AllR.at h.2 (i:=i) (x:=x) (by simpa using hx)
  exact⟨c',by simpa using h1,h2⟩
 | [],_::_,h,_,_,_=>h.elim
 | _::_,[],h,_,_,_=>h.elim
theorem zfQ {k:Nat}:∀ {cs:List (List Value)} {i j:Nat} {c:List Value} {u:Value},(∀ c ∈ cs,c.length=k)->cs[i]?=some c->c[j]?=some u->cs.flatten[i*k+j]?=some u
 | [],i,j,c,u,_,h,_=>by simp at h
 | y::cs,0,j,c,u,hk,h,hu=>by
  simp at h;subst h
  rw[zs4,zs3,zqS,zpK (zpy.1 hu).1];exact hu
 | y::cs,i+1,j,c,u,hk,h,hu=>by
  have hy:=hk y (zpo ..)
  rw[zqS,zs1,zpL (by omega),show i*k+k+j - y.length=i*k+j by omega]
  exact zfQ (fun c hc=>hk c (zpn _ hc)) (by simpa using h) hu
theorem zp9 {α:Type} {k:Nat} {R:Rel α} {D:Nat->Prop} {w:World} {b:Nat} {e:TypeId} {l:List α} (cs:List (List Value)) (hb:Blk w b cs.flatten e) (hD:D b) (hk:∀ c ∈ cs,c.length=k) (hm:l.length<=9223372036854775807) (h:AllR R D w l cs):SlR k R D w (.slice (some ⟨b,0,none⟩) l.length l.length) l :=
 zmK hb hD rfl (zpJ _) hm fun i x hx=>by
  obtain⟨c,h1,h2⟩:=h.at hx
  exact⟨c,hk c (zpl h1),fun j u hu=>zfQ hk h1 hu,h2⟩
section
variable {P:Program} {fn:Func} {R:Ending->World->Prop} {n:Nat} {env:Env} {A:Tgs} {H:Hp} {Bs:zF}
theorem zpa {s p:Tmp} {t1 t2:TypeId} {k1 o1 k2 o2 z1 z2:Nat} {c1 c2 l1 l2:List Value} (h:fn.results=#[.cell s t1,.cell p t2]) (hY:∀ w,(isAgg t1).run P w=.ok true w) (da:∀ w,(isAgg t2).run P w=.ok true w) (db:∀ w,(sizeOf t1).run P w=.ok z1 w) (dc:∀ w,(sizeOf t2).run P w=.ok z2 w) (de:tgt A s=some (k1,o1)) (df:tgt A p=some (k2,o2)) (dg:je H k1=some c1) (dh:je H k2=some c2) (di:zjD z1 o1 c1=some l1) (dk:zjD z2 o2 c2=some l2)
  (hR:∀ w,VI Bs H w->R (.returned (.tuple #[.agg l1.toArray,.agg l2.toArray])) w):V P n (bodyPost P fn R) [] (.e .ret) env A H Bs:=fun hA w hw=>by
 obtain⟨a1,h1,h2⟩:=zaN hA hw de dg di hY db
 obtain⟨a2,h3,h4⟩:=zaN hA hw df dh dk da dc
 intro a' ha
 have g1:=ha.get s _ h1
 have g2:=ha.get p _ h3
 refine bodyPost_ret (v:=.tuple #[.agg l1.toArray,.agg l2.toArray]) ?_ ha.defs (hR w hw)
 simp[results,h,g1,g2,asAddr,h2,h4]
end
end Go.GL
namespace Go.Proofs.YtckdhgbepmpgiaaGreat
open Go.GL
abbrev B22:=Nat × Nat × Nat × Nat × Nat × Nat × Nat × Nat × Nat × Nat
abbrev zgs (bv bb b4 bo b9 bf ba bp bu bn:Nat) (ph:Value) (u:Int):Hp:=[
 (906,.own bv [.string ⟨#[120]⟩,.int .i64 1,.int .i64 0,.int .i64 1,.int .i64 0,.string ⟨#[121]⟩,.int .i64 0,.int .i64 0,.int .i64 1,.int .i64 0] 142),
 (910,.own bb [.int .i64 0,.int .i64 0,.int .i64 1,.int .i64 0,.int .i64 0,.int .i64 1,.slice none 0 0,.slice none 0 0,.slice none 0 0,.slice none 0 0] 72),
 (914,.own b4 [.int .i64 3,.int .i64 0,.int .i64 0,.int .i64 0,.int .i64 24,.int .i64 0,.slice none 0 0,.slice (some ⟨bb,0,none⟩) 1 1,.slice none 0 0,.slice none 0 0,.int .i64 1,.int .i64 0,.int .i64 0,.int .i64 0,.int .i64 24,.int .i64 1,.slice none 0 0,.slice none 0 0,.slice none 0 0,.slice none 0 0] 72),
 (916,.own bo [.int .i64 0,.int .i64 1,.int .i64 1,.int .i64 1] 3),
 (919,.own b9 [.int .i64 0,.int .i64 0] 85),
 (922,.own bf [.int .i64 1,.int .i64 2] 3),
 (923,.own ba [.int .i64 1,.int .i64 2] 3),
 (925,.own bp [.int .i64 1,.int .i64 3,.slice (some ⟨bf,0,none⟩) 2 2,.slice (some ⟨ba,0,none⟩) 2 2] 88),
 (927,.own bu [.int .i64 1,.int .i64 u] 85),
 (930,.own bn [.slice none 0 0,.slice none 0 0,.int .i64 (-1),.slice none 0 0,.slice (some ⟨b9,0,none⟩) 1 1,.int .i64 (-1),.slice none 0 0,.slice none 0 0,.int .i64 2,ph,.slice (some ⟨bu,0,none⟩) 1 1,.int .i64 (-1),.slice none 0 0,.slice none 0 0,.int .i64 (-1)] 59)]
theorem zep (W:World):Calls Tryz.prog 31 #[] W (Ret fun r w'=>∃ b:B22,r=.tuple #[.agg #[.slice (some ⟨b.1,0,none⟩) 2 2,.slice none 0 0,.slice (some ⟨b.2.2.1,0,none⟩) 2 2],.agg #[.slice (some ⟨b.2.2.2.1,0,none⟩) 4 4,.slice (some ⟨b.2.2.2.2.2.2.2.2.2,0,none⟩) 5 5]]/\GBack [] (zgs b.1 b.2.1 b.2.2.1 b.2.2.2.1 b.2.2.2.2.1 b.2.2.2.2.2.1 b.2.2.2.2.2.2.1 b.2.2.2.2.2.2.2.1 b.2.2.2.2.2.2.2.2.1 b.2.2.2.2.2.2.2.2.2 (.slice (some ⟨b.2.2.2.2.2.2.2.1,0,none⟩) 1 1) 3) W w'):=by
 refine znj Tryz.func31 O Tryz.ntmps31 (znE (Vs 2 O (V.alloc 0 tz26 O O (fun b0=>?_))))
 refine V.alloc 1 tz30 O O (fun b1=>(Vs 4 O (zol [Value.string { data:=#[] },Value.int IntKind.i64 0,Value.int IntKind.i64 0,Value.int IntKind.i64 0,Value.int IntKind.i64 0] [(0,1),(1,1),(2,1),(3,1),(4,1)] [(0,_),(1,_),(3,_)] O O (fun _=>by kernel_rfl) (zol [Value.string { data:=#[] },Value.int IntKind.i64 0,Value.int IntKind.i64 0,Value.int IntKind.i64 0,Value.int IntKind.i64 0] [(0,1),(1,1),(2,1),(3,1),(4,1)] [(0,_),(3,_)] O O (fun _=>by kernel_rfl) (V.bs 6 [(0,_),(1,_)] tR22 ts142 tz142 (by decide) O O (by kernel_rfl) (fun b6=>?_))))))
 refine zol [Value.int IntKind.i64 0,Value.int IntKind.i64 0,Value.slice none 0 0] [(0,1),(1,1),(2,1)] [(0,_)] O O (fun _=>by kernel_rfl) (zol [Value.int IntKind.i64 0,Value.int IntKind.i64 0,Value.slice none 0 0] [(0,1),(1,1),(2,1)] [(1,_)] O O (fun _=>by kernel_rfl) (zol [Value.int IntKind.i64 0,Value.int IntKind.i64 0,Value.int IntKind.i64 0,Value.int IntKind.i64 0,Value.int IntKind.i64 0,Value.int IntKind.i64 0,Value.slice none 0 0,Value.slice none 0 0,Value.slice none 0 0,Value.slice none 0 0] [(0,1),(1,1),(2,1),(3,1),(4,3),(7,1),(8,1),(9,1)] [(0,_),(2,_),(4,_)] O O (fun _=>by kernel_rfl) ?_))
 refine V.bs 10 [(0,_)] tR24 ts72 tz72 (by decide) O O (by kernel_rfl) (fun b10=>(zol [Value.int IntKind.i64 0,Value.int IntKind.i64 0,Value.int IntKind.i64 0,Value.int IntKind.i64 0,Value.int IntKind.i64 0,Value.int IntKind.i64 0,Value.slice none 0 0,Value.slice none 0 0,Value.slice none 0 0,Value.slice none 0 0] [(0,1),(1,1),(2,1),(3,1),(4,3),(7,1),(8,1),(9,1)] [(0,_),(4,_),(5,_)] O O (fun _=>by kernel_rfl) (zol [Value.int IntKind.i64 0,Value.int IntKind.i64 0,Value.slice none 0 0] [(0,1),(1,1),(2,1)] [(0,_),(1,_)] O O (fun _=>by kernel_rfl) ?_)))
 refine zol [Value.int IntKind.i64 0,Value.int IntKind.i64 0,Value.int IntKind.i64 0,Value.int IntKind.i64 0,Value.int IntKind.i64 0,Value.int IntKind.i64 0,Value.slice none 0 0,Value.slice none 0 0,Value.slice none 0 0,Value.slice none 0 0] [(0,1),(1,1),(2,1),(3,1),(4,3),(7,1),(8,1),(9,1)] [(0,_),(4,_)] O O (fun _=>by kernel_rfl) (V.bs 14 [(0,_),(1,_)] tR24 ts72 tz72 (by decide) O O (by kernel_rfl) (fun b14=>?_))
 refine zol [Value.slice none 0 0,Value.slice none 0 0,Value.slice none 0 0] [(0,1),(1,1),(2,1)] [(0,_),(2,_)] O O (fun _=>by kernel_rfl) (V.alloc 2 tz26 O O (fun b2=>?_))
 refine Vs 5 O (V.bs 16 [(0,_),(1,_),(2,_),(3,_)] tR27 ts3 tz3 (by decide) O O (by kernel_rfl) (fun b16=>?_))
 refine zol [Value.slice none 0 0,Value.slice none 0 0,Value.int IntKind.i64 0] [(0,1),(1,1),(2,1)] [(2,_)] O O (fun _=>by kernel_rfl) (zol [Value.int IntKind.i64 0,Value.int IntKind.i64 0] [(0,1),(1,1)] [(0,_),(1,_)] O O (fun _=>by kernel_rfl) (V.bs 19 [(0,_)] tR57 ts85 tz85 (by decide) O O (by kernel_rfl) (fun b19=>?_)))
 refine zol [Value.slice none 0 0,Value.slice none 0 0,Value.int IntKind.i64 0] [(0,1),(1,1),(2,1)] [(1,_),(2,_)] O O (fun _=>by kernel_rfl) (zol [Value.slice none 0 0,Value.slice none 0 0,Value.int IntKind.i64 0] [(0,1),(1,1),(2,1)] [(2,_)] O O (fun _=>by kernel_rfl) (V.bs 22 [(0,_),(1,_)] tR27 ts3 tz3 (by decide) O O (by kernel_rfl) (fun b22=>?_)))
 refine V.bs 23 [(0,_),(1,_)] tR27 ts3 tz3 (by decide) O O (by kernel_rfl) (fun b23=>(zol [Value.int IntKind.i64 0,Value.int IntKind.i64 0,Value.slice none 0 0,Value.slice none 0 0] [(0,1),(1,1),(2,1),(3,1)] [(0,_),(1,_),(2,_),(3,_)] O O (fun _=>by kernel_rfl) (V.bs 25 [(0,_)] tR56 ts88 tz88 (by decide) O O (by kernel_rfl) (fun b25=>?_))))
 refine zol [Value.int IntKind.i64 0,Value.int IntKind.i64 0] [(0,1),(1,1)] [(0,_),(1,_)] O O (fun _=>by kernel_rfl) (V.bs 27 [(0,_)] tR57 ts85 tz85 (by decide) O O (by kernel_rfl) (fun b27=>?_))
 refine zol [Value.slice none 0 0,Value.slice none 0 0,Value.int IntKind.i64 0] [(0,1),(1,1),(2,1)] [(0,_),(1,_),(2,_)] O O (fun _=>by kernel_rfl) (zol [Value.slice none 0 0,Value.slice none 0 0,Value.int IntKind.i64 0] [(0,1),(1,1),(2,1)] [(2,_)] O O (fun _=>by kernel_rfl) (V.bs 30 [(0,_),(1,_),(2,_),(3,_),(4,_)] tR28 ts59 tz59 (by decide) O O (by kernel_rfl) (fun b30=>?_)))
 refine zol [Value.slice none 0 0,Value.slice none 0 0] [(0,1),(1,1)] [(0,_),(1,_)] O O (fun _=>by kernel_rfl) (V.alloc 3 tz30 O O (fun b3=>?_))
 refine Vs 4 O (V.ren [(6,906),(10,910),(14,914),(16,916),(19,919),(22,922),(23,923),(25,925),(27,927),(30,930)] [(0,some (0,0)),(1,some (1,0)),(2,some (2,0)),(3,some (3,0))] O O (Vw [1,906,910,914,2,916,919,922,923,925,927,930,3] [3] O (Vd [0,1] 0 (by kernel_rfl) O O O (Ve 2 0 O (by kernel_rfl) O O O (Vl 3 O (by kernel_rfl) O (VDx.done (by kernel_rfl) (Vs 2 O (zpa Tryz.results31 tg26 Tryz.isAgg30 ts26 ts30 O O O O O O (fun w hI=>⟨_,rfl,(b6,b10,b14,b16,b19,b22,b23,b25,b27,b30),rfl,hI.back0 0 O O O rfl⟩)))))))))
theorem zeq (f:Fl) (v1 v2 v3:Value) (D:Nat->Prop) (W:World) (hf:RFl D W f v1 v2 v3) (db:ssize f.body<=10000) :
  Calls Tryz.prog 14 #[.agg #[v1,v2,v3]] W (Ret fun r w'=>(∃ nv,r=.agg #[nv]/\SlR 4 RNd (fun b=>W.heap.size<=b) w' nv (zk f))/\Ext W w'):=by
 refine znk Tryz.func14 O Tryz.ntmps14 O (znE (Vs 2 O (V.box 1 O O (fun b1=>?_))))
 refine V.alloc 2 tz36 O O (fun b2=>(Vs 5 O (zo1 Tryz.call33 O (fun w hI=>zeY f v1 v2 v3 D w (Tr1 hI.k0 hf) db) ?_)))
 rintro rr w1 w2 dc de ⟨nv,rfl,da⟩ hY
 have df:W.heap.size<=w1.heap.size:=dc.k0.size
 obtain⟨an,cn,rfl⟩:=da.form
 refine Vs 4 O (zm4 Tryz.results14 tg36 ts36 O O O (fun w hI=>⟨_,rfl,⟨_,rfl,(da.keep zH hI.k0 fun b hb _ hs=>by have:=hY b hs;omega).wide zH fun b hb=>by omega⟩,hI.k1⟩))
section
variable {D:Nat->Prop} {w:World} {bv bb b4 bo b9 bf ba bp bu bn:Nat} {ph:Value} {u:Int}
theorem za7 (hE:∀ x ∈ zgs bv bb b4 bo b9 bf ba bp bu bn ph u,x.2.holds w) (hD:∀ q,q<w.heap.size->D q):RFl D w exF22 (.slice (some ⟨bv,0,none⟩) 2 2) (.slice none 0 0) (.slice (some ⟨b4,0,none⟩) 2 2):=by
 have h1:=hE _ (zpo ..)
 replace h1:Blk w bv _ 142:=h1
 have h2:=hE _ (zpn _ (zpo ..))
 replace h2:Blk w bb _ 72:=h2
 have h3:=hE _ (zpn _ (zpn _ (zpo ..)))
 replace h3:Blk w b4 _ 72:=h3
 have kA:SlR 10 RSt D w (.slice (some ⟨bb,0,none⟩) 1 1) [zjv]:=zp9 (R:=RSt) (l:=[zjv]) [[.int .i64 0,.int .i64 0,.int .i64 1,.int .i64 0,.int .i64 0,.int .i64 1,.slice none 0 0,.slice none 0 0,.slice none 0 0,.slice none 0 0]] h2 (hD _ h2.lt) (fun c hc=>by rw[zpC]at hc;subst hc;rfl) (by decide) ⟨RSt.put (s:=zjv) SlR.nil SlR.nil SlR.nil SlR.nil,trivial⟩
 refine⟨?_,SlR.nil,?_⟩
 . exact zp9 (R:=RVr) (l:=exF22.vars)  [[.string ⟨#[120]⟩,.int .i64 1,.int .i64 0,.int .i64 1,.int .i64 0],[.string ⟨#[121]⟩,.int .i64 0,.int .i64 0,.int .i64 1,.int .i64 0]] h1 (hD _ h1.lt) (fun c hc=>by simp only[zpA,zrm,or_false]at hc;rcases hc with rfl | rfl<;>rfl) (by decide) ⟨rfl,rfl,trivial⟩
 exact zp9 (R:=RSt) (l:=exF22.body)  [[.int .i64 3,.int .i64 0,.int .i64 0,.int .i64 0,.int .i64 24,.int .i64 0,.slice none 0 0,.slice (some ⟨bb,0,none⟩) 1 1,.slice none 0 0,.slice none 0 0],[.int .i64 1,.int .i64 0,.int .i64 0,.int .i64 0,.int .i64 24,.int .i64 1,.slice none 0 0,.slice none 0 0,.slice none 0 0,.slice none 0 0]] h3 (hD _ h3.lt) (fun c hc=>by simp only[zpA,zrm,or_false]at hc;rcases hc with rfl | rfl<;>rfl) (by decide) ⟨RSt.put (s:=zl6) SlR.nil kA SlR.nil SlR.nil,RSt.put (s:=zl7) SlR.nil SlR.nil SlR.nil SlR.nil,trivial⟩
theorem zcw (hE:∀ x ∈ zgs bv bb b4 bo b9 bf ba bp bu bn ph u,x.2.holds w) (hD:∀ q,q<w.heap.size->D q):SlR 1 zC D w (.slice (some ⟨bo,0,none⟩) 4 4) [0,1,1,1]:=by
 have h4:=hE _ (zpn _ (zpn _ (zpn _ (zpo ..))))
 replace h4:Blk w bo _ 3:=h4
 exact zp9 (R:=zC) (l:=[(0:Int),1,1,1]) [[.int .i64 0],[.int .i64 1],[.int .i64 1],[.int .i64 1]] h4 (hD _ h4.lt) (fun c hc=>by simp only[zpA,zrm,or_false]at hc;rcases hc with rfl | rfl | rfl | rfl<;>rfl) (by decide) ⟨rfl,rfl,rfl,rfl,trivial⟩
theorem zcx {phis:List Phn} (hE:∀ x ∈ zgs bv bb b4 bo b9 bf ba bp bu bn ph u,x.2.holds w) (hD:∀ q,q<w.heap.size->D q) (hp:SlR 4 zkf D w ph phis):SlR 3 RSn D w (.slice (some ⟨bn,0,none⟩) 5 5) [⟨[],[],-1⟩,⟨[],[(0,0)],-1⟩,⟨[],[],2⟩,⟨phis,[(1,u)],-1⟩,⟨[],[],-1⟩]:=by
 have h5:=hE _ (zpn _ (zpn _ (zpn _ (zpn _ (zpo ..)))))
 replace h5:Blk w b9 _ 85:=h5
 have h9:=hE _ (zpn _ (zpn _ (zpn _ (zpn _ (zpn _ (zpn _ (zpn _ (zpn _ (zpo ..)))))))))
 replace h9:Blk w bu _ 85:=h9
 have hY:=hE _ (zpn _ (zpn _ (zpn _ (zpn _ (zpn _ (zpn _ (zpn _ (zpn _ (zpn _ (zpo ..))))))))))
 replace hY:Blk w bn _ 59:=hY
 have k5:SlR 2 zb1 D w (.slice (some ⟨b9,0,none⟩) 1 1) [(0,0)]:=zp9 (R:=zb1) (l:=[((0:Int),(0:Int))]) [[.int .i64 0,.int .i64 0]] h5 (hD _ h5.lt) (fun c hc=>by rw[zpC]at hc;subst hc;rfl) (by decide) ⟨rfl,trivial⟩
 have k9:SlR 2 zb1 D w (.slice (some ⟨bu,0,none⟩) 1 1) [(1,u)]:=zp9 (R:=zb1) (l:=[((1:Int),u)]) [[.int .i64 1,.int .i64 u]] h9 (hD _ h9.lt) (fun c hc=>by rw[zpC]at hc;subst hc;rfl) (by simp) ⟨rfl,trivial⟩
 exact zp9 (R:=RSn) (l:=[⟨[],[],-1⟩,⟨[],[(0,0)],-1⟩,⟨[],[],2⟩,⟨phis,[(1,u)],-1⟩,⟨[],[],-1⟩]) [[.slice none 0 0,.slice none 0 0,.int .i64 (-1)],[.slice none 0 0,.slice (some ⟨b9,0,none⟩) 1 1,.int .i64 (-1)],[.slice none 0 0,.slice none 0 0,.int .i64 2],[ph,.slice (some ⟨bu,0,none⟩) 1 1,.int .i64 (-1)],[.slice none 0 0,.slice none 0 0,.int .i64 (-1)]] hY (hD _ hY.lt) (fun c hc=>by simp only[zpA,zrm,or_false]at hc;rcases hc with rfl | rfl | rfl | rfl | rfl<;>rfl) (by simp)
  ⟨⟨_,_,rfl,SlR.nil,SlR.nil⟩,⟨_,_,rfl,SlR.nil,k5⟩,⟨_,_,rfl,SlR.nil,SlR.nil⟩,⟨_,_,rfl,hp,k9⟩,⟨_,_,rfl,SlR.nil,SlR.nil⟩,trivial⟩
theorem zdb (hE:∀ x ∈ zgs bv bb b4 bo b9 bf ba bp bu bn (.slice (some ⟨bp,0,none⟩) 1 1) 3,x.2.holds w) (hD:∀ q,q<w.heap.size->D q):RSf D w exS22 (.slice (some ⟨bo,0,none⟩) 4 4) (.slice (some ⟨bn,0,none⟩) 5 5):=by
 have h6:=hE _ (zpn _ (zpn _ (zpn _ (zpn _ (zpn _ (zpo ..))))))
 replace h6:Blk w bf _ 3:=h6
 have h7:=hE _ (zpn _ (zpn _ (zpn _ (zpn _ (zpn _ (zpn _ (zpo ..)))))))
 replace h7:Blk w ba _ 3:=h7
 have h8:=hE _ (zpn _ (zpn _ (zpn _ (zpn _ (zpn _ (zpn _ (zpn _ (zpo ..))))))))
 replace h8:Blk w bp _ 88:=h8
 have k6:SlR 1 zC D w (.slice (some ⟨bf,0,none⟩) 2 2) [1,2]:=zp9 (R:=zC) (l:=[(1:Int),2]) [[.int .i64 1],[.int .i64 2]] h6 (hD _ h6.lt) (fun c hc=>by simp only[zpA,zrm,or_false]at hc;rcases hc with rfl | rfl<;>rfl) (by decide) ⟨rfl,rfl,trivial⟩
 have k7:SlR 1 zC D w (.slice (some ⟨ba,0,none⟩) 2 2) [1,2]:=zp9 (R:=zC) (l:=[(1:Int),2]) [[.int .i64 1],[.int .i64 2]] h7 (hD _ h7.lt) (fun c hc=>by simp only[zpA,zrm,or_false]at hc;rcases hc with rfl | rfl<;>rfl) (by decide) ⟨rfl,rfl,trivial⟩
 refine⟨zcw hE hD,zcx (phis:=[⟨1,3,[1,2],[1,2]⟩]) hE hD ?_⟩
 exact zp9 (R:=zkf) (l:=[⟨1,3,[1,2],[1,2]⟩]) [[.int .i64 1,.int .i64 3,.slice (some ⟨bf,0,none⟩) 2 2,.slice (some ⟨ba,0,none⟩) 2 2]] h8 (hD _ h8.lt) (fun c hc=>by rw[zpC]at hc;subst hc;rfl) (by decide) ⟨⟨_,_,rfl,k6,k7⟩,trivial⟩
theorem zi3 (hE:∀ x ∈ zgs bv bb b4 bo b9 bf ba bp bu bn (.slice none 0 0) 2,x.2.holds w) (hD:∀ q,q<w.heap.size->D q):RSf D w exT22 (.slice (some ⟨bo,0,none⟩) 4 4) (.slice (some ⟨bn,0,none⟩) 5 5):=⟨zcw hE hD,zcx (phis:=[]) hE hD SlR.nil⟩
end
def zi4:Ins:=⟨[1],[],[]⟩
theorem zgt:zl exF22.vars zi4=0:=by decide +kernel
theorem zi5:(zak exF22 zi4).outs=[1]:=by decide +kernel
theorem zer {f:Fl} {g:List Nd} {s:Sf} {k:Nat} (hk:k<s.of_.length) (hN:NeedV f g s (k:Int)):(zaI f g s)[k]?=some true:=by
 unfold zaI
 rw[zpB,List.getElem?_range hk]
 simp only[zsb]
 rw[@zpw _ (Classical.propDecidable _) hN]
theorem zgu:(zaI exF22 exG22 exS22)[0]?=some true:=zer (by decide) (NeedV.sink (n:=1) (u:=(0,0)) (by decide) (by decide +kernel) (by decide +kernel))
theorem zgv:(zaI exF22 exG22 exS22)[3]?=some true:=zer (by decide) (NeedV.sink (n:=3) (u:=(1,3)) (by decide) (by decide +kernel) (by decide +kernel))
theorem zkA:(yt exF22 exG22 exS22 exG22.length).length+muN exS22 exG22.length (List.replicate exS22.of_.length false)<=1000000000:=by decide +kernel
open Go.GL
def zkB (f:Fl) (s:Sf) (r:Ins) (i:Nat) (vl:List Int):Prop:=(i=0->∀ v:Nat,v<f.vars.length->vl[v]?=(zx f.vars r)[v]?)/\∀ j,i=j+1->∀ y:Nat,(yR f r j).at_=(y:Int)->zhj f (zk f) s y vl (yR f r i).σ.vals
theorem zi6 {f:Fl} {r:Ins} (vd:Valid f) {K i n n':Nat} {x x':Nd} (hw:OnWalk f r K i n x) (hY:OnWalk f r K (i+1) n' x') (hi:i<K):n ∈ xj (zk f) n'/\n' ≠ 0:=by
 have hn:=(zpy.1 hw.nd).1
 have h1:=(hw.go hi).1
 have h2:(yR f r (i+1)).at_=_:=congrArg Mc.at_ h1
 rw[hY.at_]at h2
 dsimp only at h2
 have h3:=zkl f (yc f r) x (zW f x.at_) (yR f r i).σ (yR f r i).rd
 rw[<- h2]at h3
 have h4:=(vd.away hw.nd).1 _ h3
 refine⟨pred_mem.2 ⟨hn,?_⟩,by omega⟩
 rw[yQ hw.nd]
 rcases h3 with h3 | h3
 . exact .inl h3.symm
 exact .inr h3.symm
theorem zjw {f:Fl} {r:Ins} {K n:Nat} {x:Nd} (hw:OnWalk f r K 0 n x):n=0:=by
 have h:(yR f r 0).at_=0:=rfl
 have:=hw.at_
 omega
theorem zls {f:Fl} {g:List Nd} {s:Sf} {rd:Nat->List Int} (h:FormF f g s rd) (hg:0<g.length):(zj s 0).phis=[]:=(h.at hg).phi.zero rfl
theorem zjx {f:Fl} {r:Ins} {s:Sf} (vd:Valid f) (h:RightF f (zk f) s (rdV f (zk f))) {K i n y:Nat} {x:Nd} (hg:GoesAll f r K) (hi:i<=K) (hw:OnWalk f r K i n x) (hy:(yR f r (i - 1)).at_=(y:Int)) {vl:List Int} (hY:vl.length=s.of_.length) (hp:zkB f s r i vl) :
  InvV f (zk f) s n (qW f (zk f) s y vl (zj s n).phis) (yR f r i).σ.vals/\((zj s n).phis ≠ []->y ∈ xj (zk f) n):=by
 have hn:=(zpy.1 hw.nd).1
 cases i with
 | zero =>
  obtain rfl:=zjw hw
  have h0:=zls h.toFormF hn
  rw[h0]
  exact⟨InvV.start h.toFormF (hp.1 O),fun h=>absurd O h⟩
 | succ j =>
  obtain⟨n0,x0,da⟩:=zhC vd hg (show j<=K by omega)
  rw[Nat.add_sub_cancel,da.at_]at hy
  obtain rfl:n0=y:=by omega
  obtain⟨h1,h2⟩:=zi6 vd da hw (by omega)
  exact⟨zhQ h h2 hn h1 hY (hp.2 j O n0 da.at_),fun _=>h1⟩
theorem zjy {f:Fl} {r:Ins} {s:Sf} {K i n:Nat} {x:Nd} (hw:OnWalk f r K i n x) {vl:List Int} (h:zhj f (zk f) s n vl (yR f r (i+1)).σ.vals):zkB f s r (i+1) vl:=by
 refine⟨fun h=>by omega,fun j hj y hy=>?_⟩
 obtain rfl:i=j:=by omega
 rw[hw.at_]at hy
 obtain rfl:n=y:=by omega
 exact h
theorem zgw (f:Fl):CtOk f (List.replicate (zk f).length 0) (fun _=>0):=fun i x hx _=>by
 rw[List.getElem?_replicate,zpv (zpy.1 hx).1]
theorem zdc {f:Fl} {s:Sf} (_:Valid f) (h:RightF f (zk f) s (rdV f (zk f))) {n:Nat} {x:Nd} (hx:(zk f)[n]?=some x) {σ:Sg} (_:InV f.vars σ.vals) {vl:List Int} (hI:InvV f (zk f) s n vl σ.vals) (_:List Int) (hn:zeR f x=false):zhj f (zk f) s n vl σ.vals:=by
 refine hI.pass h ?_
 unfold xX
 rw[yQ hx,hn,zpu (by decide)]
 decide
theorem zkC {f:Fl} {s:Sf} (h:RightF f (zk f) s (rdV f (zk f))) {n:Nat} {x:Nd} (hx:(zk f)[n]?=some x) {vals:List Int} (hV:InV f.vars vals) {vl:List Int} (hI:InvV f (zk f) s n vl vals) (hl:vl.length=s.of_.length) (ha:zeR f x=true) {v:Vr} {k:Nat} (hk:(zW f x.at_).var=(k:Int)) (hv:f.vars[k]?=some v) (m:Int):zhj f (zk f) s n (vl.set (zj s n).dfn.toNat (yB m v.low v.high)) (zdf f.vars vals (zW f x.at_).var m)/\∃ q:Nat,(zj s n).dfn=(q:Int)/\q<vl.length:=by
 have da:=(zpy.1 hv).1
 have hd:xX f (zk f) n=(k:Int):=by unfold xX;rw[yQ hx,ha,zpv rfl,hk]
 have db:=(zpy.1 hx).1
 have hY:=(h.toFormF.at db).yes (by omega)
 have hs:zdf f.vars vals (zW f x.at_).var m=vals.set k (yB m v.low v.high):=by unfold zdf;rw[hk,zpG,hv]
 rw[hs]
 refine⟨hI.set h db hd da (by rw[hV.len];exact da) (by omega) _,?_⟩
 obtain⟨q,hq,dc⟩:=qF hY
 exact⟨q,hq,by omega⟩
abbrev rnH (b gb:Nat) (ofv nodv vv hv rv ov:Value) (vl rl outs:List Int) (t:Int):Hp:=[(900,.own b (rnr gb ofv nodv vv hv rv ov (.int .i64 t)) 107),(901,xO vv vl),(902,xO rv rl),(903,xO ov outs)]
abbrev zl9 (f:Fl) (s:Sf) (n:Nat) (b gb:Nat) (ofv nodv vv hv rv ov:Value) (vl ro:List Int) (outs:List Int) (t:Int) (σ':Sg) (W w':World):Prop:=∃ (x:List Int × Value),(x.1.length=vl.length/\zhj f (zk f) s n x.1 σ'.vals)/\GBack (rnH b gb ofv nodv vv hv rv ov vl ro outs t) (rnH b gb ofv nodv vv hv rv x.2 x.1 ro σ'.outs σ'.time) W w'
theorem zkD {f:Fl} {x:Nd} (k2:x.kind=2):zeR f x=(decide ((zW f x.at_).act=0) || decide ((zW f x.at_).act=5)):=by unfold zeR;rw[zpw k2,zqc]
theorem zkE (f:Fl) (s:Sf) (vd:Valid f) (hR:RightF f (zk f) s (rdV f (zk f))) (hs:List Int) (ej:hs.length=f.hatches.length) (n:Nat) (x:Nd) (hx:(zk f)[n]?=some x) (k2:x.kind=2) (σ:Sg) (hV:InV f.vars σ.vals) (ek:σ.outs.length<=1000000000) (vl ro:List Int) (d7:vl.length=s.of_.length) (dc:InvV f (zk f) s n vl σ.vals)
  (b gb:Nat) (ofv nodv vv hv rv ov:Value) (D Dh:Nat->Prop) (W:World) (hE:zlh (rnH b gb ofv nodv vv hv rv ov vl ro σ.outs (σ.time+(zW f x.at_).cost)) W) (hS:RSf D W s ofv nodv) (hG:GrO D W f (zk f) gb) (hh:SlR 1 zC Dh W hv hs) (da:∀ q,HS (rnH b gb ofv nodv vv hv rv ov vl ro σ.outs (σ.time+(zW f x.at_).cost)) q->¬ D q) (dk:∀ q,HS (rnH b gb ofv nodv vv hv rv ov vl ro σ.outs (σ.time+(zW f x.at_).cost)) q->¬ Dh q)
  (a1:Option Addr) (n1:Nat) (a2:Option Addr) (n2:Nat) (a3:Option Addr) (n3:Nat) (a4:Option Addr) (n4:Nat) (hb:SlR 1 zC D W (.slice a4 (zW f x.at_).bounds.length n4) (zW f x.at_).bounds) :
  Calls Tryz.prog 93 #[.pointer (some ⟨b,0,none⟩),.int .i64 n,.agg #[.int .i64 (zW f x.at_).act,.int .i64 (zW f x.at_).cost,.int .i64 (zW f x.at_).var,.int .i64 (zW f x.at_).n,.int .i64 (zW f x.at_).term.op,.int .i64 (zW f x.at_).term.n,.slice a1 (zW f x.at_).term.kids.length n1,.slice a2 (zW f x.at_).thn.length n2,.slice a3 (zW f x.at_).els.length n3,.slice a4 (zW f x.at_).bounds.length n4]] W (Ret fun r w'=>r=.tuple #[]/\zl9 f s n b gb ofv nodv vv hv rv ov vl ro σ.outs (σ.time+(zW f x.at_).cost) (xu f hs (zW f x.at_) σ) W w'):=by
 have d8:=(zpy.1 hx).1
 obtain⟨h0,d9,_⟩:=vd.gOk.at hx (.inl k2)
 have hget:=jG h0 d9
 obtain⟨dJ,em,_⟩:=vd.step _ (zpl hget)
 have dh:xL (zk f) n=x:=yQ hx
 have dl:stN f (xL (zk f) n)=zW f x.at_:=by rw[dh];unfold stN;rw[zpv h0]
 have hl:=vd.lens
 have en:=vd.ssize
 have eo:=yI f vd.plain
 have ep:=xe f.body
 have db:=zkD (f:=f) k2
 have ea:=hR.len
 obtain⟨xs,dm⟩:∃ xs,s.nodes[n]?=some xs:=⟨_,zpk (by omega)⟩
 have eb:=yP dm
 obtain⟨v1,v2,v3,gv,sv,pv,hD,dr,hf,_,_,_⟩:=id hG
 have dU:=hf.vars
 obtain⟨av,cv,rfl⟩:=dU.form
 have dt:=hS.nodes
 obtain⟨an,cn,rfl⟩:=dt.form
 obtain⟨ah,ch,rfl⟩:=hh.form
 have er:=hS.of_.max
 generalize dI:zW f x.at_=st at *
 refine znm Tryz.func93 O Tryz.ntmps93 O (zoy [(900,.own b [.pointer (some ⟨gb,0,none⟩),ofv,.slice an s.nodes.length cn,vv,.slice ah hs.length ch,rv,ov,.int .i64 (σ.time+st.cost)] 107),(901,.row 3 1 vv vl.length (vl.map zc)),(902,.row 3 1 rv ro.length (ro.map zc)),(903,.row 3 1 ov σ.outs.length (σ.outs.map zc))] hE.1 hE.2 (zob 904 0 O O (fun h=>da _ h hD) dr (znL 0 900 0 O O ?_)))
 have df:rdB f x=true->∀ w,Keep (HS (rnH b gb ofv (.slice an s.nodes.length cn) vv (.slice ah hs.length ch) rv ov vl ro σ.outs (σ.time+st.cost))) W w->Cells w b 0 (rnr gb ofv (.slice an s.nodes.length cn) vv (.slice ah hs.length ch) rv ov (.int .i64 (σ.time+st.cost)))->w.ownsRow 0 3 1 vv vl.length (vl.map zc)->Calls Tryz.prog 92 #[.pointer (some ⟨b,0,none⟩),.int .i64 n] w (Ret fun r w'=>r=.int .i64 (xt σ.vals st.term)/\Ext w w'):=fun du w hk hc hv=>dl ▸ zfJ f (zk f) s vd.good hR n d8 (dl ▸ dJ) (by rw[dh];exact h0) (by rw[dh];exact du) (by omega) (by omega) vl σ.vals hV dc b gb _ _ _ _ _ _ _ D D (fun _=>True) w hc (hS.keep hk fun q hq _ h=>da q h hq) (hG.keep hk fun q hq _ h=>da q h hq) (zmM zc (fun _ _=>rfl) hv (fun _ _=>trivial))
 refine Vs 2 O (V.box 5 O O (fun b5=>?_))
 refine Vs 15 O (zlG O (fun a1=>?_) (fun a1=>?_))
 .
  have du:rdB f x=true:=by unfold rdB;rw[dI];simp[k2,a1]
  have di:xu f hs st σ={ σ with outs:=σ.outs++[xt σ.vals st.term],time:=σ.time+st.cost }:=by unfold xu;rw[zpu (by omega),zpv a1]
  have hY:=zdc vd hR hx hV dc hs (by rw[db];simp[a1])
  refine Vw [900,904,5] [14] O (Vd [0,1,2,3,4,5,6,7] 0 (by kernel_rfl) O O O (zo0 8 0 Tryz.call92 O (by kernel_rfl) O O (fun w hI=>df du w hI.k0 (hI.at 900 O).cells (hI.at 901 O)) (VD.bs 9 21 0 [(0,_)] tR27 ts3 tz3 (by decide) O (by kernel_rfl) O O (by kernel_rfl) (fun b21=>?_))))
  refine znT 10 903 21 0 tu27 Tryz.el3 O (by decide) O (by kernel_rfl) O O O (by omega) (by omega) (fun u903=>(Vd [11,12,13] 0 (by kernel_rfl) O O O (znV 903 O (by omega) ?_)))
  rintro bo co rfl dw
  refine Vl 14 O (by kernel_rfl) O (VDx.done (by kernel_rfl) (Vs 1 O (zod 903 O (e':=.row 3 1 (.slice (some ⟨bo,0,none⟩) (σ.outs.length+1) co) (σ.outs++[xt σ.vals st.term]).length ((σ.outs++[xt σ.vals st.term]).map zc)) (by simp[zc]) (zma tr93 (fun w hI=>⟨_,rfl,rfl,di ▸ ⟨(vl,.slice (some ⟨bo,0,none⟩) (σ.outs.length+1) co),⟨rfl,hY⟩,hI.back 0 O O O rfl⟩⟩)))))
 refine Vs 6 O (zlG O (fun a6=>?_) (fun a6=>?_))
 .
  have di:xu f hs st σ={ σ with time:=qe st.bounds (σ.time+st.cost) }:=by unfold xu;rw[zpu (by omega),zpu a1,zpu (by omega),zpv a6]
  have hY:=zdc vd hR hx hV dc hs (by rw[db];simp[a6])
  refine Vw [900,904,5] [12] O (Vd [0,1,2,3,4,5,6,7] 0 (by kernel_rfl) O O O (zo0 8 0 Tryz.call134 O (by kernel_rfl) O O (fun w hI=>zc6 st.bounds (σ.time+st.cost) _ D w (hb.keep zb hI.k0 fun q hq _ h=>da q h hq)) (Vd [9,10,11] 0 (by kernel_rfl) O O O (Vl 12 O (by kernel_rfl) O (VDx.done (by kernel_rfl) (Vs 1 O (zma tr93 (fun w hI=>⟨_,rfl,rfl,di ▸ ⟨(vl,ov),⟨rfl,hY⟩,hI.back 0 O O O rfl⟩⟩))))))))
 refine Vs 1 O (zof (σ:=Bool) [0,1,5] [5,900,901,902,903,904] [0,5] O (fun e a=>(40,.bool a)::e) (fun e a=>e) (fun a=>a=zeR f x) (fun _=>rfl) (fun _=>rfl) ?_ ?_)
 .
  refine Vs 6 O (zlG O (fun a0=>?_) (fun a0=>?_))
  . refine Vs 1 O (zlT (true) (Sub.of O) (Has.of O) (by rw[db];simp[a0]) 0 O O)
  refine Vs 4 O (zlT ((decide (st.act=5))) (Sub.of O) (Has.of O) (by rw[db];simp[a0]) 0 O O)
 rintro a ha
 refine Vs 1 O (V.bool O (fun t=>?_) (fun t=>?_))
 .
  have de:zeR f x=true:=ha ▸ t
  have ec:st.act=0\/st.act=5:=by rw[db]at de;simpa using de
  have ed:=dJ.var ec
  obtain⟨k,hk⟩:∃ k:Nat,st.var=(k:Int):=⟨st.var.toNat,by omega⟩
  refine Vs 6 O (zof (σ:=Int) [0,1,5] [5,900,901,902,903,904] [0,5] O (fun e m=>(6,.int .i64 m)::e) (fun e m=>e) (fun m=>xu f hs st σ={ σ with vals:=zdf f.vars σ.vals st.var m,time:=σ.time+st.cost }) (fun _=>rfl) (fun _=>rfl) ?_ ?_)
  .
   refine Vs 7 O (zlG O (fun b0=>?_) (fun b0=>?_))
   .
    have du:rdB f x=true:=by unfold rdB;rw[dI];simp[k2,b0]
    refine Vs 3 O (znZ Tryz.call92 O (fun w hI=>df du w hI.k0 (hI.at 900 O).cells (hI.at 901 O)) (Vs 2 O (zlT ((xt σ.vals st.term)) (Sub.of O) (Has.of O) (by unfold xu;rw[zpv b0]) 0 O O)))
   have a5:st.act=5:=by omega
   have ee:=dJ.num a5
   obtain⟨y,dx,ef⟩:=gE_ hs (st.n.toNat) (by omega)
   obtain⟨eu,ew,ey,dK,dL,dM,dN⟩:=hh.atD dx
   obtain rfl:=dN
   refine zob 1000 0 O O (fun h_=>by have dy:=dk _ h_;have dz:=dL;first | omega | exact dy dz) dM (Vq (by kernel_rfl) (Vs 6 O (znQ 1000 tR27 ts3 O dK (by omega) (st.n.toNat) (by omega) O (Vs 3 O (zlT (y) (Sub.of O) (Has.of O) (by unfold xu;rw[zpu b0,zpu a1,zpv a5,zfm dx]) 0 O O)))))
  rintro m di
  refine Vs 2 O ?_
  obtain⟨v,dA,dO⟩:=gE_ f.vars (k) (by omega)
  obtain⟨ez,eA,eC,dQ,dR,dS,dT⟩:=dU.atD dA
  obtain rfl:=dT
  refine zob 2000 0 O O (fun h_=>by have dy:=da _ h_;have dz:=dR;first | omega | exact dy dz) dS (Vw [5,900,904,2000] [] O (Vd [0,1,2,3] 0 (by kernel_rfl) O O O (znM 60 904 0 O O (Vd [4,5,6,7,8,9] 0 (by kernel_rfl) O O O (znO 10 2000 tR22 ts142 O (by kernel_rfl) O dQ (by omega) (k) (by omega) O ?_)))))
  obtain⟨hY,q,hq,eD⟩:=zkC (m:=m) hR hx hV dc d7 de (dI ▸ hk) dA
  rw[dI]at hY
  refine Vd [11] 0 (by kernel_rfl) O O O (znK 12 7 0 O (by kernel_rfl) O O (fun _ _=>M.alloc tz142 O) (fun b7=>?_))
  refine Ve 13 0 O (by kernel_rfl) O O O (VD.done (by kernel_rfl) (Vs 1 O (znU 901 O (by omega) ?_)))
  rintro bv cq rfl dB
  obtain⟨xn,dg,dV⟩:=gE_ s.nodes (n) (by omega)
  obtain⟨eg,eh,ei,dC,dD,dE,dF⟩:=dt.atD dg
  obtain⟨dW,dX,rfl,dG,dH⟩:=dF
  obtain⟨dY,dZ,rfl⟩:=dG.form
  obtain⟨d5,d6,rfl⟩:=dH.form
  refine zob 3000 0 O O (fun h_=>by have dy:=da _ h_;have dz:=dD;first | omega | exact dy dz) dE ?_
  obtain rfl:xs=xn:=Option.some.inj (dm.symm.trans dg)
  rw[eb]at hq hY
  refine Vw [5,900,904,2000,7,3000] [] O (Vd [0,1,2,3,4,5,6,7,8,9,13,14,15,16,17] 0 (by kernel_rfl) O O O (znO 10 3000 tR28 ts59 O (by kernel_rfl) O dC (by omega) (n) (by omega) O (Vd [11,12] 0 (by kernel_rfl) O O O (zo0 18 0 Tryz.call46 O (by kernel_rfl) O O (fun w hI=>zej m v.low v.high w (vd.good v dO).2.1) (Vb [19] 0 (by kernel_rfl) O O O (by omega) (znY 20 901 0 (q) ts3 O (by kernel_rfl) O O (by omega) (by simp;omega) (VD.done (by kernel_rfl) (Vs 1 O (zod 901 O (e':=.row 3 1 (.slice (some ⟨bv,0,none⟩) vl.length cq) (vl.set q (yB m v.low v.high)).length ((vl.set q (yB m v.low v.high)).map zc)) (by rw[zr9,zr2]) ?_)))))))))
  refine zma tr93 (fun w hI=>⟨_,rfl,rfl,di ▸ ⟨(vl.set q (yB m v.low v.high),ov),⟨zr2,by have:=hY;rw[hq,zpG]at this;exact this⟩,hI.back 0 O O O rfl⟩⟩)
 have de:zeR f x=false:=ha ▸ t
 have di:xu f hs st σ={ σ with time:=σ.time+st.cost }:=by
  rw[db]at de
  simp at de
  unfold xu
  rw[zpu de.1,zpu a1,zpu de.2,zpu a6]
 have hY:=zdc vd hR hx hV dc hs de
 refine Vs 2 O (zma tr93 (fun w hI=>⟨_,rfl,rfl,di ▸ ⟨(vl,ov),⟨rfl,hY⟩,hI.back 0 O O O rfl⟩⟩))
end Go.Proofs.YtckdhgbepmpgiaaGreat
