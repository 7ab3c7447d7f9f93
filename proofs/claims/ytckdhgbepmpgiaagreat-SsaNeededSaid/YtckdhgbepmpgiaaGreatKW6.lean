/-
  Contracts and the mathematics that the proof needs. Nothing here is a claim.
-/
import Derived.Test.YtckdhgbepmpgiaaGreatKW5
namespace Go.Proofs.YtckdhgbepmpgiaaGreat
open Go.GL
def InE (ns:List Nd) (n e1 e2:Nat):Prop:=∀ x ∈ ns,∀ to,to=x.next\/to=x.other->to=-1\/to=(e1:Int)\/to=(e2:Int)\/((n:Int)<=to/\to<(n+ns.length:Nat))
structure LoopAt (ns:List Nd) (n j:Nat) (y:Nd) (E:Nat):Prop where
 pos:0<j
 lt:n+j<E
 le:E<=n+ns.length
 out:y.other<((n+j:Nat):Int)\/(E:Int)<=y.other
 only:∀ (i:Nat) x,ns[i]?=some x->∀ to,to=x.next\/to=x.other->((n+j:Nat):Int)<=to->to<(E:Int)->(j<=i/\n+i<E)\/(i+1=j/\x.kind=4/\to=((n+j:Nat):Int))
def Loops (ns:List Nd) (n:Nat):Prop:=∀ (j:Nat) y,ns[j]?=some y->y.kind=5->∃ E,LoopAt ns n j y E
theorem InE.append {A B:List Nd} {n e1 e2 f1 f2 g1 g2:Nat} (hA:InE A n e1 e2) (hB:InE B (n+A.length) f1 f2) (he:∀ e,e=e1\/e=e2->e=g1\/e=g2\/n+A.length<=e/\e<n+A.length+B.length) (hf:∀ e,e=f1\/e=f2->e=g1\/e=g2\/n<=e/\e<n+A.length):InE (A++B) n g1 g2:=by
 intro x hx to h
 rw[zp1]
 have p1:=he e1 (.inl rfl)
 have p2:=he e2 (.inr rfl)
 have q1:=hf f1 (.inl rfl)
 have q2:=hf f2 (.inr rfl)
 rcases zpc.1 hx with hx | hx
 .
  have:=hA x hx to h
  omega
 have:=hB x hx to h
 omega
theorem Loops.append {A B:List Nd} {n e1 e2 f1 f2:Nat} (lA:Loops A n) (lB:Loops B (n+A.length)) (hA:InE A n e1 e2) (hB:InE B (n+A.length) f1 f2) (h1:∀ e,e=e1\/e=e2->e<=n+A.length\/n+A.length+B.length<=e) (h2:∀ e,e=f1\/e=f2->e<n\/n+A.length+B.length<=e):Loops (A++B) n:=by
 have p1:=h1 e1 (.inl rfl)
 have p2:=h1 e2 (.inr rfl)
 have q1:=h2 f1 (.inl rfl)
 have q2:=h2 f2 (.inr rfl)
 intro j y hy hk
 by_cases hj:j<A.length
 .
  rw[zpj hj]at hy
  obtain⟨E,p1,p2,p3,p4,p5⟩:=lA j y hy hk
  refine⟨E,p1,p2,by rw[zp1];omega,p4,fun i x hx to h hl hu=>?_⟩
  by_cases hi:i<A.length
  .
   rw[zpj hi]at hx
   exact p5 i x hx to h hl hu
  rw[zpk (by omega)]at hx
  have:=hB x (zoU hx) to h
  omega
 rw[zpk (by omega)]at hy
 obtain⟨E,p1,p2,p3,p4,p5⟩:=lB _ y hy hk
 refine⟨E,by omega,by omega,by rw[zp1];omega,by omega,fun i x hx to h hl hu=>?_⟩
 by_cases hi:i<A.length
 .
  rw[zpj hi]at hx
  have:=hA x (zoU hx) to h
  omega
 rw[zpk (by omega)]at hx
 rcases p5 _ x hx to h (by omega) hu with h | h
 . exact .inl (by omega)
 exact .inr ⟨by omega,h.2.1,by omega⟩
theorem zoA {x:Nd} {n:Nat} (h:x.kind ≠ 5):Loops [x] n:=by
 intro j y hy hk
 cases j with
 | zero=>simp at hy;subst hy;exact absurd hk h
 | succ j=>simp at hy
theorem zcG {l:List St} (h:l.isEmpty=false):1<=widL l:=by
 cases l with
 | nil=>simp at h
 | cons s t=>have:=s.wid_eq;simp only[widL];omega
theorem zh1 (l:List St):plainL l=true->∀ a n e:Nat,(e<n\/n+widL l<=e)->InE (layL l a n e) n e e/\Loops (layL l a n e) n:=by
 induction l using zmB with
 | h l ih =>
 intro hp
 have key:∀ r:List St,(∀ x ∈ r,x ∈ l)->∀ a n e:Nat,(e<n\/n+widL r<=e)->InE (layL r a n e) n e e/\Loops (layL r a n e) n:=by
  intro r
  induction r with
  | nil=>intro _ a n e _;exact⟨fun x hx=>by simp[layL]at hx,fun j y hy=>by simp[layL]at hy⟩
  | cons s r ihr =>
   intro hm a n e hne
   have hs:=yN hp s (hm s (zoX ..))
   have hr:plainL r=true:=zaX fun y hy=>yN hp y (hm y (zoW _ hy))
   have hps:=hs
   rw[s.plainB_eq,zpv,zpv]at hs
   have h1:=(ih s (hm s (zoX ..))).1 hs.1.2
   have h2:=(ih s (hm s (zoX ..))).2 hs.2
   have hw:=s.wid_eq
   simp only[widL]at hne
   have hlr:=zS r hr (a+s.size) (n+s.wid) e
   have hlen:(s.lay a n (if r.isEmpty then e else n+s.wid)).length=s.wid:=by
    have h1:=zS [s] (by rw[plainL,hps];rfl) a n (if r.isEmpty then e else n+s.wid)
    simpa[layL,widL] using h1
   obtain⟨r1,r2⟩:=ihr (fun y hy=>hm y (zoW _ hy)) (a+s.size) (n+s.wid) e (by omega)
   rw[layL]
   have he':(if r.isEmpty then e else n+s.wid)=e\/(if r.isEmpty then e else n+s.wid)=n+s.wid/\1<=widL r:=by
    cases hre:r.isEmpty
    . exact .inr ⟨by simp,zcG hre⟩
    exact .inl (by simp)
   generalize (if r.isEmpty then e else n+s.wid)=e' at hlen he'
   have hne':e'<n\/n+s.wid<=e':=by omega
   have hS:InE (s.lay a n e') n e' e'/\Loops (s.lay a n e') n:=by
    rw[s.lay_eq]at hlen ⊢
    split
    .
     rename_i a3
     rw[zp4 a3]at hlen
     rw[zp3 (show ¬ s.act=4 by omega)]at hw
     obtain⟨t1,t2⟩:=h1 (a+1) (n+1) e' (by omega)
     obtain⟨u1,u2⟩:=h2 (a+1+ssize s.thn) (n+1+widL s.thn) e' (by omega)
     have hl1:=zS s.thn hs.1.2 (a+1) (n+1) e'
     have hl2:=zS s.els hs.2 (a+1+ssize s.thn) (n+1+widL s.thn) e'
     generalize hb:layL s.thn (a+1) (n+1) e'=B at t1 t2 hl1 ⊢
     generalize hc:layL s.els (a+1+ssize s.thn) (n+1+widL s.thn) e'=C at u1 u2 hl2 ⊢
     have hT:∀ m1 m2:Nat,m1=(if s.thn.isEmpty then e' else n+1)->m2=(if s.els.isEmpty then e' else n+1+widL s.thn)->InE [(⟨3,a,if s.thn.isEmpty then (e':Int) else (n+1:Nat),if s.els.isEmpty then (e':Int) else (n+1+widL s.thn:Nat)⟩:Nd)] n m1 m2/\(m1=e'\/m1=n+1/\1<=widL s.thn)/\(m2=e'\/m2=n+1+widL s.thn/\1<=widL s.els):=by
      rintro m1 m2 rfl rfl
      refine⟨fun x hx to h=>?_,?_,?_⟩
      .
       rw[zpb]at hx
       subst hx
       dsimp only at h
       rcases h with rfl | rfl
       . exact .inr (.inl (by split<;>rfl))
       exact .inr (.inr (.inl (by split<;>rfl)))
      .
       cases ht:s.thn.isEmpty
       . exact .inr ⟨by simp,zcG ht⟩
       exact .inl (by simp)
      cases ht:s.els.isEmpty
      . exact .inr ⟨by simp,zcG ht⟩
      exact .inl (by simp)
     obtain⟨k1,k2,k3⟩:=hT _ _ rfl rfl
     generalize (if s.thn.isEmpty then e' else n+1)=m1 at k1 k2
     generalize (if s.els.isEmpty then e' else n+1+widL s.thn)=m2 at k1 k3
     generalize hx0:(⟨3,a,if s.thn.isEmpty then (e':Int) else (n+1:Nat),if s.els.isEmpty then (e':Int) else (n+1+widL s.thn:Nat)⟩:Nd)=x0 at k1 ⊢
     have k0:x0.kind ≠ 5:=by rw[<- hx0];intro h;cases h
     have s1:InE ([x0]++B) n e' m2:=InE.append k1 t1 (by simp only[zpe];omega) (by omega)
     have s2:Loops ([x0]++B) n:=Loops.append (zoA k0) t2 k1 t1 (by simp only[zpe];omega) (by simp only[zpe];omega)
     have hl3:([x0]++B).length=1+widL s.thn:=by rw[zp1,hl1];rfl
     have u1':InE C (n+([x0]++B).length) e' e':=by rw[hl3,show n+(1+widL s.thn)=n+1+widL s.thn by omega];exact u1
     have u2':Loops C (n+([x0]++B).length):=by rw[hl3,show n+(1+widL s.thn)=n+1+widL s.thn by omega];exact u2
     exact⟨InE.append s1 u1' (by rw[hl3];omega) (by omega),Loops.append s2 u2' s1 u1' (by rw[hl3];omega) (by rw[hl3];omega)⟩
    rename_i a3
    split
    .
     rename_i a4
     rw[zp3 a3,zp4 a4]at hlen
     rw[zp4 a4]at hw
     obtain⟨t1,t2⟩:=h1 (a+1) (n+2) (n+1) (by omega)
     have hl1:=zS s.thn hs.1.2 (a+1) (n+2) (n+1)
     have hnx:(if s.thn.isEmpty then ((n+1:Nat):Int) else (n+2:Nat))=(n+1:Nat)\/(if s.thn.isEmpty then ((n+1:Nat):Int) else (n+2:Nat))=(n+2:Nat)/\1<=widL s.thn:=by
      cases ht:s.thn.isEmpty
      . exact .inr ⟨by simp,zcG ht⟩
      exact .inl (by simp)
     generalize layL s.thn (a+1) (n+2) (n+1)=B at t1 t2 hl1 hlen ⊢
     generalize (if s.thn.isEmpty then ((n+1:Nat):Int) else (n+2:Nat))=m at hnx ⊢
     refine⟨fun x hx to h=>?_,fun j y hy hk=>?_⟩
     .
      rw[zpm,zpm,hl1]
      rcases zp9.1 hx with rfl | hx
      . dsimp only at h;omega
      rcases zp9.1 hx with rfl | hx
      . dsimp only at h;omega
      have:=t1 x hx to h;rw[hl1]at this;omega
     match j with
     | 0=>simp at hy;subst hy;cases hk
     | 1 =>
      simp at hy
      subst hy
      refine⟨n+2+widL s.thn,by omega,by omega,by rw[zpm,zpm,hl1];omega,by dsimp only;omega,fun i x hx to h hl hu=>?_⟩
      match i with
      | 0=>simp at hx;subst hx;dsimp only at h;exact .inr ⟨rfl,rfl,by omega⟩
      | i+1 =>
       have:=(zp7.1 hx).1
       rw[zpm,zpm,hl1]at this
       exact .inl (by omega)
     | j+2 =>
      rw[List.getElem?_cons_succ,List.getElem?_cons_succ]at hy
      obtain⟨E,p1,p2,p3,p4,p5⟩:=t2 j y hy hk
      rw[hl1]at p3
      refine⟨E,by omega,by omega,by rw[zpm,zpm,hl1];omega,by omega,fun i x hx to h hl hu=>?_⟩
      match i with
      | 0=>simp at hx;subst hx;dsimp only at h;omega
      | 1=>simp at hx;subst hx;dsimp only at h;omega
      | i+2 =>
       rw[List.getElem?_cons_succ,List.getElem?_cons_succ]at hx
       rcases p5 i x hx to h (by omega) hu with h | h
       . exact .inl (by omega)
       exact .inr ⟨by omega,h.2.1,by omega⟩
    rename_i a4
    refine⟨fun x hx to h=>?_,zoA (fun h=>by cases h)⟩
    rw[zpb]at hx
    subst hx
    dsimp only at h
    omega
   exact⟨InE.append hS.1 (by rw[hlen];exact r1) (by rw[hlen,hlr];omega) (by omega),Loops.append hS.2 (by rw[hlen];exact r2) hS.1 (by rw[hlen];exact r1) (by rw[hlen,hlr];omega) (by rw[hlen,hlr];omega)⟩
 exact key l (fun x h=>h)
theorem zjP (f:Fl) (hs:List Int) (x:Nd) (s:St) (σ:Sg) (rd:Int->Int):(yS f hs x s σ rd).1=x.next\/(yS f hs x s σ rd).1=x.other:=by
 unfold yS
 split
 . exact .inl O
 split
 . exact .inl O
 split
 . exact .inl O
 split
 . exact .inr O
 dsimp only;split
 . exact .inl O
 exact .inr O
structure OnWalk (f:Fl) (r:Ins) (K i:Nat) (n:Nat) (x:Nd):Prop where
 at_:(yJ f r i).at_=(n:Int)
 nd:(zi f)[n]?=some x
 go:i<K->yJ f r (i+1)=⟨(yS f (ya f r) x (zO f x.at_) (yJ f r i).σ (yJ f r i).rd).1,(yS f (ya f r) x (zO f x.at_) (yJ f r i).σ (yJ f r i).rd).2.1,(yS f (ya f r) x (zO f x.at_) (yJ f r i).σ (yJ f r i).rd).2.2⟩/\(x.kind=0\/x.kind=2\/x.kind=3\/x.kind=4\/x.kind=5)
 fin:i=K->n+1=(zi f).length/\x.kind=1
theorem zh2 {f:Fl} {r:Ins} (vd:Valid f) {K:Nat} (hg:GoesAll f r K) {i:Nat} (hi:i<=K):∃ n x,OnWalk f r K i n x:=by
 have hlen:=yH f vd.plain
 rcases zrk i K with h | h
 .
  have h3:0<=(yJ f r i).at_/\(yJ f r i).at_<((zi f).length:Int) - 1:=by
   obtain⟨_,_,h2⟩:=hg
   exact h2 i h
  obtain⟨h4,h5⟩:=vd.node h3.1 h3.2
  refine⟨(yJ f r i).at_.toNat,_,by omega,h4,fun _=>⟨?_,h5.kind⟩,fun h'=>by omega⟩
  rw[show yJ f r (i+1)=jt f (ya f r) (zi f) (yJ f r i) from zbW _ _ _ _ _]
  rfl
 obtain rfl:i=K:=by omega
 obtain⟨_,h1,_⟩:=hg
 have h1':yJ f r i=_:=h1
 refine⟨(zi f).length - 1,⟨1,-1,-1,-1⟩,by rw[h1'];dsimp only;omega,?_,fun h'=>by omega,fun _=>⟨by omega,rfl⟩⟩
 obtain⟨x,hx⟩:∃ x,(zi f)[(zi f).length - 1]?=some x:=⟨_,zoT (by omega)⟩
 rw[hx,(zjH vd hx).1 (by omega)]
theorem zjQ {f:Fl} {r:Ins} (vd:Valid f) {K:Nat} (hg:GoesAll f r K):1<=K/\K<=8193:=by
 obtain⟨K',rd',hK,hgo⟩:=vd.walk (ya f r) (zih f r)
 obtain rfl:=hg.unique ⟨rd',hgo⟩
 refine⟨?_,hK⟩
 cases K with
 | zero =>
  obtain⟨_,h1,_⟩:=hg
  have h1':yJ f r 0=_:=h1
  have h2:(yJ f r 0).at_=((zi f).length:Int) - 1:=by rw[h1']
  have h3:(yJ f r 0).at_=0:=rfl
  have:=yH f vd.plain
  omega
 | succ K=>omega
theorem Valid.away {f:Fl} (V:Valid f) {i:Nat} {x:Nd} (hx:(zi f)[i]?=some x):(∀ to,to=x.next\/to=x.other->to=-1\/1<=to)/\(x.kind=0->i=0):=by
 obtain⟨k1,_⟩:=zh1 f.body V.plain 0 1 (1+widL f.body) (.inr (zpi _))
 unfold zi at hx
 cases i with
 | zero=>simp at hx;subst hx;exact⟨fun to h=>by dsimp only at h;omega,fun _=>rfl⟩
 | succ i =>
  rw[List.getElem?_cons_succ]at hx
  rcases zpc.1 (zoU hx) with hm | hm
  .
   refine⟨fun to h=>by have:=k1 x hm to h;omega,fun h=>?_⟩
   have:=kC _ _ _ _ x hm
   omega
  rw[zpb]at hm
  subst hm
  exact⟨fun to h=>by dsimp only at h;omega,fun h=>by (cases h)⟩
end Go.Proofs.YtckdhgbepmpgiaaGreat
namespace Go.GL
theorem zeX {w:World} {e:TypeId} {k b n:Nat} {xs:List Value} (h:w.ownsRow 0 e k (.slice (some ⟨b,0,none⟩) n n) n xs):Blk w b xs e:=by
 obtain⟨h1,h2⟩:=h
 rcases h2 with⟨h2,_⟩ | ⟨b',cap,cur,hv,_,hg,hc,hcm,hcs,htake⟩
 . cases h2
 cases hv
 have:cur.toList=xs:=by rw[<- htake,zr7 (by rw[zpr];omega)]
 unfold Blk
 rw[<- this]
 simpa using hg
end Go.GL
namespace Go.Proofs.YtckdhgbepmpgiaaGreat
open Go.GL
theorem qr {α:Type} {l:List α} {k:Nat} {x y:α} (hx:l[k]?=some x):y ∈ l.take (k+1) ↔ y ∈ l.take k\/y=x:=by
 rw[List.take_add_one,hx]
 simp
theorem zh3 (l:List Int) (x:Int) (v:Value) (D:Nat->Prop) (W:World) (hv:SlR 1 yc D W v l):Calls Tryz.prog 91 #[v,.int .i64 x] W (Ret fun r w'=>(∃ i:Int,r=.int .i64 i/\(0<=i ↔ x ∈ l))/\Ext W w'):=by
 obtain⟨av,cv,rfl⟩:=hv.form
 have hmx:=hv.max
 refine zn2 Tryz.func91 O Tryz.ntmps91 O (znb ?_)
 refine Vs 14 O ?_
 refine znK (σ:=Nat) [0,1,7] [] [] O (fun e k=>(8,.int .i64 k)::e) (fun e k=>e) (fun k=>k<=l.length/\x ∉ l.take k) (fun k=>l.length - k) (0) (Sub.of O) (Has.of O) (fun _=>rfl) (fun _=>rfl) (fun _=>rfl) (⟨zp8 _,by simp⟩) ?_
 rintro k ⟨hk,hn⟩
 refine Vs 6 O ?_
 refine zld O (fun hlt=>?_) (fun hlt=>?_)
 .
  refine Vs 15 O ?_
  obtain⟨y,he_y,hm_y⟩:=gE_ l (k) (by omega)
  obtain⟨b_y,o_y,c_y,ha_y,_,hc_y,hR_y⟩:=hv.at he_y
  obtain rfl:=hR_y
  refine znH 1000 0 O O hc_y ?_
  refine znk 1000 tR27 ts3 O ha_y (by omega) (_) (rfl) O ?_
  refine Vs 4 O ?_
  refine zld O (fun he=>?_) (fun he=>?_)
  .
   refine Vs 12 O ?_
   refine zlt Tryz.results91 O (fun w hI=>⟨_,rfl,⟨_,rfl,by rw[he];exact⟨fun _=>hm_y,fun _=>by omega⟩⟩,hI.k0⟩)
  refine Va 7 O (by omega) ?_
  refine V.back (k+1) (Sub.of O) (Has.of O) (⟨by omega,fun h=>((qr he_y).1 h).elim hn he⟩) (by first | omega | (dsimp only;omega)) 0 O O
 have:k=l.length:=by omega
 subst this
 rw[zoY]at hn
 refine Vs 11 O ?_
 refine zlt Tryz.results91 O (fun w hI=>⟨_,rfl,⟨_,rfl,⟨fun h=>by omega,fun h=>absurd h hn⟩⟩,hI.k0⟩)
theorem zdB (l:List Int) (x:Int) (v:Value) (D:Nat->Prop) (W:World) (hv:SlR 1 yc D W v l):Calls Tryz.prog 77 #[v,.int .i64 x] W (Ret fun r w'=>r=.bool (decide (x ∈ l))/\Ext W w'):=by
 refine zn2 Tryz.func77 O Tryz.ntmps77 O (znb ?_)
 refine Vs 9 O ?_
 refine zny Tryz.call91 O (fun w hI=>zh3 l x v D w (Tr1 hI.k0 hv)) ?_
 rintro r w1 w2 hI1 hk12 ⟨i,rfl,hi⟩ hlow
 refine Vs 5 O ?_
 refine zlt Tryz.results77 O (fun w hI=>⟨_,rfl,by simp[hi],hI.k1⟩)
structure PrOk (f:Fl) (g:List Nd):Prop where
 at_:∀ x ∈ g,x.at_<((preL f.body).length:Int)
 to:∀ x ∈ g,∀ y ∈ zdz x,y<(g.length:Int)
def zcP (g:List Nd) (i:Nat) (S:List Int) (n:Nat):List Int:=List.map (fun y:Nat=>(y:Int)) (((List.range i).filter fun y:Nat=>decide ((xk g y).next=(n:Int)\/(xk g y).other=(n:Int)))++(if (n:Int) ∈ S then [i] else []))
def zal (g:List Nd) (i:Nat) (S:List Int):List (List Int):=(List.range g.length).map (zcP g i S)
theorem zaB (g:List Nd) (i:Nat) (S:List Int):(zal g i S).length=g.length:=by simp[zal]
theorem zcH {g:List Nd} {i n:Nat} {S:List Int} (h:n<g.length):(zal g i S)[n]?=some (zcP g i S n):=by unfold zal;rw[zpa,List.getElem?_range h];rfl
theorem ziE (g:List Nd) (i:Nat) (S:List Int) (n:Nat):(zcP g i S n).length<=i+1:=by
 unfold zcP
 rw[zpd,zp1]
 refine Nat.add_le_add (zoZ (zqt _ _) (by rw[List.length_range];exact zpi _)) ?_
 split<;>simp
theorem zeY (g:List Nd) (i n:Nat):zcP g i [] n=List.map (fun y:Nat=>(y:Int)) ((List.range i).filter fun y:Nat=>decide ((xk g y).next=(n:Int)\/(xk g y).other=(n:Int))):=by
 unfold zcP
 rw[zp3 (zqO),zq4]
theorem ziF {g:List Nd} {i n:Nat} {S:List Int}:(i:Int) ∈ zcP g i S n ↔ (n:Int) ∈ S:=by
 unfold zcP
 rw[zqI]
 constructor
 .
  rintro⟨y,hy,e⟩
  obtain rfl:y=i:=by omega
  rcases zpc.1 hy with hy | hy
  . have:=zqL.1 (zqF.1 hy).1;omega
  split at hy
  . assumption
  cases hy
 intro h
 exact⟨i,zpc.2 (.inr (by rw[zp4 h];exact zpb.2 O)),rfl⟩
theorem ziG {g:List Nd} {i n:Nat} {S:List Int} (h:(n:Int) ∉ S):zcP g i (S++[(n:Int)]) n=zcP g i S n++[(i:Int)]:=by
 unfold zcP
 rw[zp3 h,zp4 (by simp),zq4,zqw];rfl
theorem zdC {g:List Nd} {i n:Nat} {S:List Int} {t:Int} (h:t ≠ (n:Int)\/t ∈ S):zcP g i (S++[t]) n=zcP g i S n:=by
 have:(n:Int) ∈ S++[t] ↔ (n:Int) ∈ S:=by
  rw[zpc,zpb]
  constructor
  .
   rintro (h1 | h1)
   . exact h1
   rcases h with h | h
   . exact absurd h1.symm h
   rw[h1];exact h
  exact .inl
 unfold zcP
 by_cases h2:(n:Int) ∈ S
 . rw[zp4 h2,zp4 (this.2 h2)]
 rw[zp3 h2,zp3 (fun e=>h2 (this.1 e))]
theorem zh4 {g:List Nd} {i:Nat} {S:List Int} {t:Int} (h:t ∈ S):zal g i (S++[t])=zal g i S:=by
 unfold zal
 exact zqx fun n _=>zdC (.inr h)
theorem ziH {g:List Nd} {i n:Nat} {S:List Int} (hn:n<g.length) (h:(n:Int) ∉ S):(zal g i S).set n (zcP g i S n++[(i:Int)])=zal g i (S++[(n:Int)]):=by
 apply zqe
 intro j
 rw[List.getElem?_set]
 by_cases hj:j<g.length
 .
  rw[zcH (S:=S++[(n:Int)]) hj]
  by_cases e:n=j
  .
   subst e
   rw[zp4 rfl,zp4 (by rw[zaB];exact hn),ziG h]
  rw[zp3 e,zcH hj,zdC (.inl (by omega))]
 rw[zph (by rw[zaB];omega),zph (by rw[zaB];omega)]
 split
 . rename_i e;subst e;rw[zp3 (by rw[zaB];omega)]
 rfl
theorem zh5 {g:List Nd} {i:Nat} {x:Nd} (h:g[i]?=some x):zal g i (zdz x)=zal g (i+1) []:=by
 unfold zal
 refine zqx fun n _=>?_
 rw[zeY,zqU,zqf]
 unfold zcP
 refine congrArg (List.map _) (congrArg (List.append _) ?_)
 have hx:=zbl h
 have hm:(n:Int) ∈ zdz x ↔ (x.next=(n:Int)\/x.other=(n:Int)):=by rw[mem_succ];exact⟨fun h=>h.2,fun h=>⟨by omega,h⟩⟩
 by_cases hs:(n:Int) ∈ zdz x
 . rw[zp4 hs,zqh (by rw[hx];simpa using hm.1 hs)];rfl
 rw[zp3 hs,zqg (by rw[hx];simpa using fun e=>hs (hm.2 e))];rfl
theorem zh6 (g:List Nd):zal g 0 []=List.replicate g.length []:=by
 unfold zal
 apply zqe
 intro j
 by_cases hj:j<g.length
 . rw[zpa,List.getElem?_range hj,List.getElem?_replicate,zp4 hj];simp[zcP]
 rw[zph (by simp;omega),zph (by simp;omega)]
theorem ziI (g:List Nd):zal g g.length []=zec g:=by
 unfold zal zec
 refine zqx fun n _=>?_
 rw[zeY];rfl
def zei (f:Fl) (g:List Nd) (i:Nat):List St:=(g.take i).map (stN f)++List.replicate (g.length - i) zjB
def st0:List Value:=[.int .i64 0,.int .i64 0,.int .i64 0,.int .i64 0,.int .i64 0,.int .i64 0,.slice none 0 0,.slice none 0 0,.slice none 0 0,.slice none 0 0]
theorem zeZ {f:Fl} {g:List Nd} {i:Nat} (h:i<=g.length):(zei f g i).length=g.length:=by unfold zei;rw[zp1,zpd,zpn,zqu];omega
theorem ziJ {f:Fl} {g:List Nd} {i:Nat} {x:Nd} (h:g[i]?=some x):(zei f g i).set i (stN f x)=zei f g (i+1):=by
 have hl:=(zp7.1 h).1
 unfold zei
 rw[zd h,zqY _ _ (by rw[zpd,zpn];omega),zpd,zpn,show i - min i g.length=0 by omega,show g.length - i=(g.length - (i+1))+1 by omega,zqV]
 simp
theorem zh7 {f:Fl} {g:List Nd} {i:Nat} {x:Nd} (h:g[i]?=some x) (hn:x.at_<0):zei f g i=zei f g (i+1):=by
 have hl:=(zp7.1 h).1
 unfold zei
 rw[zd h,show g.length - i=(g.length - (i+1))+1 by omega,zqV]
 have:stN f x=zjB:=by unfold stN;rw[zp3 (by omega)]
 simp[this]
theorem EncS.set {D:Nat->Prop} {w:World} {l:List St} {xs us:List Value} {x:St} {i:Nat} (h:EncS D w l xs) (hx:RSt D w x us) (hu:us.length=10) (hi:i<l.length):EncS D w (l.set i x) (xs.take (i*10)++us++xs.drop (i*10+10)):=by
 have h1:=h.1
 refine⟨by simp only[zp1,zpn,zqr,zqv];omega,fun j y hy=>?_⟩
 rw[List.getElem?_set]at hy
 have hlt:(xs.take (i*10)).length=i*10:=by rw[zpn];omega
 by_cases e:i=j
 .
  subst e
  rw[zp4 rfl,zp4 hi]at hy
  obtain rfl:=Option.some.inj hy
  rw[zq3,List.drop_left' hlt,List.take_left' hu]
  exact hx
 rw[zp3 e]at hy
 have hy2:=h.2 j y hy
 have hjl:=(zp7.1 hy).1
 have key:((xs.take (i*10)++us++xs.drop (i*10+10)).drop (j*10)).take 10=(xs.drop (j*10)).take 10:=by
  apply zqe
  intro q
  rw[zpp,zpp]
  split
  .
   rename_i hq
   rw[List.getElem?_drop,List.getElem?_drop]
   by_cases hji:j<i
   . rw[zq3,zpj (by omega),List.getElem?_take_of_lt (by omega)]
   rw[zpk (by rw[zp1];omega),zp1,hlt,hu,List.getElem?_drop]
   congr 1;omega
  rfl
 rw[key]
 exact hy2
theorem EncS.zero {D:Nat->Prop} {w:World} (n:Nat):EncS D w (List.replicate n zjB) (zeg 10 n st0):=by
 refine⟨by rw[zaz (k:=10) rfl,zqu],fun i x hx=>?_⟩
 rw[List.getElem?_replicate]at hx
 split at hx
 .
  rename_i hi
  obtain rfl:=Option.some.inj hx
  rw[zeW (k:=10) rfl hi]
  exact RSt.put (s:=zjB) SlR.nil SlR.nil SlR.nil SlR.nil
 cases hx
def zl4 (D0:Nat->Prop) (W0:World):Rel St:=fun _ _ x cs=>RSt D0 W0 x cs
theorem zfx (D0:Nat->Prop) (W0:World):yd (zl4 D0 W0):=fun _ _ _ _ _ _ _ _ h=>h
theorem zh8 (l:List St) (D:Nat->Prop) (W0 W:World) (v:Value) (hl:SlR 10 RSt D W0 v l) (he:EqD D W0 W) (hs:ssize l<=1000000) :
  Calls Tryz.prog 75 #[v,.slice none 0 0] W (Ret fun r w'=>SlR 10 (zl4 D W0) (fun q=>W.heap.size<=q) w' r (preL l)/\Ext W w'):=by
 refine Calls.mono (ziB l D W0 W v (.slice none 0 0) [] [] hl he EncS.nil (kQ _ _ _) (fun q _ h=>by cases h) (by simpa using zoZ hs (by omega))) ?_
 rintro e w' ⟨r,rfl,⟨u,xs⟩,⟨rfl,hx⟩,ho,hk,hlow⟩
 simp only[zqM]at hx ho hlow
 refine⟨_,rfl,OwnR.sl (e:=72) (D:=fun _=>False) ⟨xs,ho,hx.2⟩ (by decide) (zfx _ _) (fun q h=>h.elim) (fun g hg=>?_),hk.mono fun q _ h=>by cases h⟩
 exact((hlow g hg).1).elim (fun h=>by cases h) id
theorem ziK {w:World} {e:TypeId} (n:Nat):RowsOk zb e w (List.replicate n (.slice none 0 0)) (List.replicate n []):=by
 refine⟨by simp,fun i v r hv hr=>?_,fun i j vi vj g _ hi hj h=>?_⟩
 .
  rw[List.getElem?_replicate]at hv hr
  split at hv
  .
   rename_i h
   rw[zp4 h]at hr
   obtain rfl:=Option.some.inj hv
   obtain rfl:=Option.some.inj hr
   exact kQ _ _ _
  cases hv
 rw[List.getElem?_replicate]at hi
 split at hi
 .
  obtain rfl:=Option.some.inj hi
  cases h
 cases hi
@[simp] theorem zkT (n:Nat):(zeg 10 n st0).length=n*10:=zaz rfl
theorem grS {f:Fl} {g:List Nd} {D:Nat->Prop} {W w:World} {b:Nat} {ys:List Value} (_:∀ q,D q->q<W.heap.size) (hy:EncS D W (g.map (stN f)) ys) (hE:Ext W w) (hB:Blk w b ys 72) (hb:W.heap.size<=b) (hN:g.length<=100000):SlR 10 RSt (fun q=>D q\/(W.heap.size<=q/\q<w.heap.size)) w (.slice (some ⟨b,0,none⟩) g.length g.length) (g.map (stN f)):=by
 have hl:=hy.1
 have ho:=yp (k:=10) (n:=g.length) (cap:=g.length) hB (zpi _) (by omega) (by rw[hl,zpd])
 rw[zr7 (by rw[hl,zpd];exact zpi _)]at ho
 have hO:OwnR 72 10 RSt D w (.slice (some ⟨b,0,none⟩) g.length g.length) (g.map (stN f)):=⟨ys,by rw[zpd];exact ho,fun i x hx=>zc D D W w (fun _ h=>h) (fun q hq hl=>hE.block q hl (fun h=>h)) x _ (hy.2 i x hx)⟩
 exact hO.sl (by decide) zc (fun q h=>.inl h) fun q h=>by cases h;exact .inr ⟨hb,hB.lt⟩
theorem grP {g:List Nd} {D:Nat->Prop} {W w:World} {b:Nat} {rv:List Value} (hrv:rv.length=g.length) (hR:RowsOk zb 3 w rv (zec g)) (hB:Blk w b rv 27) (hb:W.heap.size<=b) (hN:g.length<=100000) (hq:∀ q,(∃ (i:Nat) (v:Value),rv[i]?=some v/\v.ownBlock=some q)->W.heap.size<=q):SlR 1 (RSl 1 yc) (fun q=>D q\/(W.heap.size<=q/\q<w.heap.size)) w (.slice (some ⟨b,0,none⟩) g.length g.length) (zec g):=by
 have hl:(zec g).length=g.length:=by simp[zec]
 have ho:=yp (k:=1) (n:=g.length) (cap:=g.length) hB (zpi _) (by omega) (by rw[hrv,zrm])
 rw[zr7 (by rw[hrv,zrm];exact zpi _)]at ho
 exact zbr (by rw[hl];exact ho) hR (fun q h=>by cases h;exact .inr ⟨hb,hB.lt⟩) fun i u q h1 h2=>.inr ⟨hq q ⟨i,u,h1,h2⟩,hR.blk h1 h2⟩
theorem yM (f:Fl) (g:List Nd) (hp:PrOk f g) (hN:g.length<=100000) (hss:ssize f.body<=100000) (v1 v2 v3 gv:Value) (D:Nat->Prop) (W:World) (hf:RFl D W f v1 v2 v3) (hg:SlR 4 RNd D W gv g) (hD:∀ q,D q->q<W.heap.size) :
  Calls Tryz.prog 37 #[.agg #[v1,v2,v3],.agg #[gv]] W (Ret fun r w'=>(∃ b,r=.pointer (some ⟨b,0,none⟩)/\GrO (fun q=>D q\/(W.heap.size<=q/\q<w'.heap.size)) w' f g b)/\Ext W w'):=by
 have hg0:=hg
 have hf0:=hf
 obtain⟨ag,cg,rfl⟩:=hg.form
 have hmx:=hg.max
 obtain⟨a1,c1,rfl⟩:=hf.vars.form
 obtain⟨a2,c2,rfl⟩:=hf.hatches.form
 obtain⟨a3,c3,rfl⟩:=hf.body.form
 have hpl:=yb f.body
 refine zn2 Tryz.func37 O Tryz.ntmps37 O (znb ?_)
 refine Vs 2 O ?_
 refine V.box 2 O O (fun b2=>?_)
 refine V.box 3 O O (fun b3=>?_)
 refine Vs 4 O ?_
 refine znL (σ:=Nat × Nat × Nat) [2,3] [2,3] [2,3] O (fun e ⟨b17,b21,b23⟩=>(5,.pointer (some ⟨b23,0,none⟩))::e) (fun e ⟨b17,b21,b23⟩=>(17,.row 72 10 (.slice (some ⟨b17,0,none⟩) g.length g.length) g.length (zeg 10 g.length st0))::(21,.row 27 1 (.slice (some ⟨b21,0,none⟩) g.length g.length) g.length (List.replicate g.length (.slice none 0 0)))::(23,.own b23 [.slice a1 f.vars.length c1,.slice a2 f.hatches.length c2,.slice a3 f.body.length c3,.slice ag g.length cg,.slice (some ⟨b17,0,none⟩) g.length g.length,.slice (some ⟨b21,0,none⟩) g.length g.length] 113)::e) (fun⟨b17,b21,b23⟩=>True) (fun _=>rfl) (fun _=>rfl) ?_ ?_
 .
  refine Vw [2,3] [] O ?_
  refine Vd [0,1,2,3,4,5,7,8,9] 0 (by kernel_rfl) O O O ?_
  refine zol 6 10 17 21 0 tu24 Tryz.el72 tu89 Tryz.el27 O (by kernel_rfl) O O O O (⟨by omega,by omega,by omega,by omega⟩) ((by exact zku (us:=st0) O O:madeCells _ _=(zeg 10 g.length st0).toArray)) ((by exact xD _ _ O:madeCells _ _=(List.replicate g.length (Value.slice none 0 0)).toArray)) (by simp) (fun b17=>?_) (fun b21=>?_)
  .
   refine zm7 10 21 0 tu89 Tryz.el27 O (by kernel_rfl) O O (by omega) (by omega) ((by exact xD _ _ O:madeCells _ _=(List.replicate g.length (Value.slice none 0 0)).toArray)) (by simp) (fun b21=>?_)
   refine znP 11 [Value.slice none 0 0,Value.slice none 0 0,Value.slice none 0 0,Value.slice none 0 0,Value.slice none 0 0,Value.slice none 0 0] [(0,3),(3,1),(4,1),(5,1)] [(0,_),(1,_),(2,_),(3,_)] O (by kernel_rfl) O O (fun _=>by kernel_rfl) ?_
   refine znh 12 23 0 O (by kernel_rfl) O O (fun _ _=>M.box O O) (fun b23=>?_)
   refine Vd [13] 0 (by kernel_rfl) O O O ?_
   refine VD.done (by kernel_rfl) ?_
   refine zlq (⟨b17,b21,b23⟩) (Sub.of O) (Has.of O) (trivial) 0 O O
  refine zm7 6 17 0 tu24 Tryz.el72 O (by kernel_rfl) O O (by omega) (by omega) ((by exact zku (us:=st0) O O:madeCells _ _=(zeg 10 g.length st0).toArray)) (by simp) (fun b17=>?_)
  refine znP 11 [Value.slice none 0 0,Value.slice none 0 0,Value.slice none 0 0,Value.slice none 0 0,Value.slice none 0 0,Value.slice none 0 0] [(0,3),(3,1),(4,1),(5,1)] [(0,_),(1,_),(2,_),(3,_)] O (by kernel_rfl) O O (fun _=>by kernel_rfl) ?_
  refine znh 12 23 0 O (by kernel_rfl) O O (fun _ _=>M.box O O) (fun b23=>?_)
  refine Vd [13] 0 (by kernel_rfl) O O O ?_
  refine VD.done (by kernel_rfl) ?_
  refine zlq (⟨b17,b21,b23⟩) (Sub.of O) (Has.of O) (trivial) 0 O O
 rintro⟨b17,b21,b23⟩ _
 show V _ _ _ _ _ ((5,.pointer (some ⟨b23,0,none⟩))::_) _ ((17,.row 72 10 (.slice (some ⟨b17,0,none⟩) g.length g.length) g.length (zeg 10 g.length st0))::(21,.row 27 1 (.slice (some ⟨b21,0,none⟩) g.length g.length) g.length (List.replicate g.length (.slice none 0 0)))::(23,.own b23 [.slice a1 f.vars.length c1,.slice a2 f.hatches.length c2,.slice a3 f.body.length c3,.slice ag g.length cg,.slice (some ⟨b17,0,none⟩) g.length g.length,.slice (some ⟨b21,0,none⟩) g.length g.length] 113)::_) _
 refine zni 5 23 0 O O ?_
 refine zog 17 (e':=.own b17 (zeg 10 g.length st0) 72) O (fun w hI=>zeX (hI.at 17 O)) (trivial) (fun _ h=>h) (fun q (hq:q=b17)=>by subst hq;rfl) ?_
 refine zog 21 (e':=.own b21 (List.replicate g.length (.slice none 0 0)) 27) O (fun w hI=>zeX (hI.at 21 O)) (trivial) (fun _ h=>h) (fun q (hq:q=b21)=>by subst hq;rfl) ?_
 refine zno 902 3 1 O ?_
 refine zog 902 (e':=RowsP zb 3 (List.replicate g.length (.slice none 0 0)) (zal g 0 [])) O (fun w hI=>by rw[zh6];exact ziK _) RowsP.loc (fun _ h=>h) (fun q hq=>by obtain⟨i,u,h,h2⟩:=hq;rw[List.getElem?_replicate]at h;split at h<;>cases h;cases h2) ?_
 generalize hL:preL f.body=L at *
 refine Vs 5 O ?_
 refine zny Tryz.call75 O (fun w hI=>(hL ▸ zh8 f.body D W w _ hf0.body (EqD.keep (EqD.refl hD) hI.k0 hD (fun _ _ h=>h)) (by omega))) ?_
 rintro rr w1 w2 hI1 hk12 hst hlow
 obtain⟨ast,cst,rfl⟩:=hst.form
 have hstm:=hst.max
 refine Vs 13 O ?_
 refine znK (σ:=Nat × List Value × List Value) [5,6,28,29] [23] [5] O (fun e ⟨i,ys,rv⟩=>(30,.int .i64 i)::e) (fun e ⟨i,ys,rv⟩=>(17,.own b17 ys 72)::(21,.own b21 rv 27)::(902,RowsP zb 3 rv (zal g i []))::e) (fun⟨i,ys,rv⟩=>i<=g.length/\EncS D W (zei f g i) ys/\rv.length=g.length) (fun⟨i,ys,rv⟩=>g.length - i) ((0,zeg 10 g.length st0,List.replicate g.length (.slice none 0 0))) (Sub.of O) (Has.of O) (fun _=>rfl) (fun _=>rfl) (fun _=>rfl) (⟨zp8 _,by simp only[zei,zra,zqA,zqM,Nat.sub_zero];exact EncS.zero _,by simp⟩) ?_
 rintro⟨i,ys,rv⟩ ⟨hi,hys,hrv⟩
 show V _ _ _ _ _ ((30,.int .i64 i)::_) _ ((17,.own b17 ys 72)::(21,.own b21 rv 27)::(902,RowsP zb 3 rv (zal g i []))::_) _
 refine Vs 6 O ?_
 refine zld O (fun lt=>?_) (fun lt=>?_)
 .
  refine Vs 7 O ?_
  obtain⟨x,he_x,hm_x⟩:=gE_ g (i) (by omega)
  obtain⟨b_x,o_x,c_x,ha_x,_,hc_x,hR_x⟩:=hg.at he_x
  obtain rfl:=hR_x
  refine znH 1000 1 O O hc_x ?_
  refine znk 1000 tR34 ts65 O ha_x (by omega) (_) (rfl) O ?_
  have hat:=hp.at_ x hm_x
  rw[hL]at hat
  have hysl:=hys.1
  rw[zeZ hi]at hysl
  refine Vs 1 O ?_
  refine V.alloc 8 tz65 O O (fun b8=>?_)
  refine Vs 5 O ?_
  refine znL (σ:=List Value) [5,6,7,8,28,29,30] [8,23,902] [5,8] O (fun e ys=>e) (fun e ys=>(17,.own b17 ys 72)::(21,.own b21 rv 27)::e) (fun ys=>EncS D W (zei f g (i+1)) ys) (fun _=>rfl) (fun _=>rfl) ?_ ?_
  .
   refine Vs 7 O ?_
   refine zld O (fun c0=>?_) (fun c0=>?_)
   .
    have hc0:0<=x.at_:=c0
    obtain⟨k,hk⟩:∃ k:Nat,x.at_=(k:Int):=⟨x.at_.toNat,by omega⟩
    obtain⟨s,he_s,hm_s⟩:=gE_ L (k) (by omega)
    obtain⟨b_s,o_s,c_s,ha_s,hd_s,hc_s,hR_s⟩:=hst.atD he_s
    obtain⟨v1_s,v2_s,v3_s,v4_s,rfl,hk_s,ht_s,hs_s,hb_s⟩:=hR_s.get
    obtain⟨a1_s,n1_s,rfl⟩:=hk_s.form
    obtain⟨a2_s,n2_s,rfl⟩:=ht_s.form
    obtain⟨a3_s,n3_s,rfl⟩:=hs_s.form
    obtain⟨a4_s,n4_s,rfl⟩:=hb_s.form
    refine znI 2000 0 O O (fun h_=>by have h1_:=hlow _ h_;have h2_:=hd_s;first | omega | exact h1_ h2_) hc_s ?_
    refine Vw [23,17,21,1000,8,2000] [11] O ?_
    refine Vd [0,1,2,3,4,5,6,7] 0 (by kernel_rfl) O O O ?_
    refine znl 8 2000 tR24 ts72 O (by kernel_rfl) O ha_s (by omega) (k) (by omega) O ?_
    refine Vd [9] 0 (by kernel_rfl) O O O ?_
    refine znQ 10 O (by kernel_rfl) O (fun w=>zlO tR24 ts72 O O O (by omega)) ?_
    refine zoy 11 17 (i*10) (us:=[.int .i64 s.act,.int .i64 s.cost,.int .i64 s.var,.int .i64 s.n,.int .i64 s.term.op,.int .i64 s.term.n,.slice a1_s s.term.kids.length n1_s,.slice a2_s s.thn.length n2_s,.slice a3_s s.els.length n3_s,.slice a4_s s.bounds.length n4_s]) ts72 O (by kernel_rfl) O (rfl) O (RSt.one hR_s) (by omega) (by omega) ?_
    have hsx:stN f x=s:=by unfold stN;rw[zp4 hc0,hk];exact zgr (hL ▸ he_s)
    have hnx:EncS D W (zei f g (i+1)) (ys.take (i*10)++[.int .i64 s.act,.int .i64 s.cost,.int .i64 s.var,.int .i64 s.n,.int .i64 s.term.op,.int .i64 s.term.n,.slice a1_s s.term.kids.length n1_s,.slice a2_s s.thn.length n2_s,.slice a3_s s.els.length n3_s,.slice a4_s s.bounds.length n4_s]++ys.drop (i*10+10)):=by
     rw[<- ziJ he_x,hsx]
     exact hys.set hR_s O (by rw[zeZ hi];omega)
    refine VDx.done (by kernel_rfl) ?_
    refine zlq (ys.take (i*10)++[.int .i64 s.act,.int .i64 s.cost,.int .i64 s.var,.int .i64 s.n,.int .i64 s.term.op,.int .i64 s.term.n,.slice a1_s s.term.kids.length n1_s,.slice a2_s s.thn.length n2_s,.slice a3_s s.els.length n3_s,.slice a4_s s.bounds.length n4_s]++ys.drop (i*10+10)) (Sub.of O) (Has.of O) (hnx) 0 O O
   have hc0:¬ 0<=x.at_:=c0
   have hnx:EncS D W (zei f g (i+1)) ys:=by rw[<- zh7 he_x (by omega)];exact hys
   refine Vs 1 O ?_
   refine zlq (ys) (Sub.of O) (Has.of O) (hnx) 0 O O
  rintro ys hys2
  generalize hS:zdz x=S
  have hSl:S.length<=2:=by rw[<- hS];exact zdA x 2
  have hto:∀ y ∈ S,0<=y/\y<(g.length:Int):=fun y hy=>by
   rw[<- hS]at hy
   exact⟨(mem_succ.1 hy).1,hp.to x hm_x y hy⟩
  refine Vs 4 O ?_
  refine zny Tryz.call76 O (fun w hI=>ziC x w) ?_
  rintro rs w3 w4 hI3 hk34 hsu hlow2
  rw[hS]at hsu
  obtain⟨asu,csu,rfl⟩:=hsu.form
  have hsum:=hsu.max
  refine Vs 4 O ?_
  refine znJ 902 O (e':=RowsP zb 3 rv (zal g i (S.take 0))) (by rw[zra]) ?_
  refine Vs 1 O ?_
  refine znK (σ:=Nat × List Value) [5,6,7,28,29,30,50,51] [23] [5] O (fun e ⟨q,rv⟩=>(52,.int .i64 q)::e) (fun e ⟨q,rv⟩=>(17,.own b17 ys 72)::(21,.own b21 rv 27)::(902,RowsP zb 3 rv (zal g i (S.take q)))::e) (fun⟨q,rv⟩=>q<=S.length/\rv.length=g.length) (fun⟨q,rv⟩=>S.length - q) ((0,rv)) (Sub.of O) (Has.of O) (fun _=>rfl) (fun _=>rfl) (fun _=>rfl) (⟨zp8 _,hrv⟩) ?_
  rintro⟨q,rv⟩ ⟨hq,hrv⟩
  show V _ _ _ _ _ ((52,.int .i64 q)::_) _ ((17,.own b17 ys 72)::(21,.own b21 rv 27)::(902,RowsP zb 3 rv (zal g i (S.take q)))::_) _
  refine Vs 6 O ?_
  refine zld O (fun lq=>?_) (fun lq=>?_)
  .
   refine Vs 6 O ?_
   obtain⟨y,he_y,hm_y⟩:=gE_ S (q) (by omega)
   obtain⟨b_y,o_y,c_y,ha_y,hd_y,hc_y,hR_y⟩:=hsu.atD he_y
   obtain rfl:=hR_y
   refine znI 3000 0 O O (fun h_=>by have h1_:=hlow2 _ h_;have h2_:=hd_y;first | omega | exact h1_ h2_) hc_y ?_
   refine znk 3000 tR27 ts3 O ha_y (by omega) (_) (rfl) O ?_
   obtain⟨hy0,hyl⟩:=hto y hm_y
   obtain⟨n,rfl⟩:=zpP hy0
   have hng:n<g.length:=by omega
   have htk:=zd he_y
   obtain⟨u,hu⟩:∃ u,rv[n]?=some u:=⟨_,zoT (by omega)⟩
   have hrow:=zcH (i:=i) (S:=S.take q) hng
   have hral:=ziE g i (S.take q) n
   have hmem:=ziF (g:=g) (i:=i) (n:=n) (S:=S.take q)
   refine Vs 11 O ?_
   refine zmS O (fun w hI=>zlO tR89 ts27 O O O (by omega)) ?_
   refine zmS O (fun w hI=>R.load tg27 O (znm (hI.at 21 O) hu)) ?_
   refine Vs 1 O ?_
   refine znw Tryz.call77 O (fun w hI=>zdB (zcP g i (S.take q) n) i _ (fun _=>True) w (ziz (hI.at 902 O) hu hrow)) ?_
   refine zmS O (fun w hI=>zms O (by first | exact za | rfl)) ?_
   refine Vs 2 O ?_
   refine zld O (fun m=>?_) (fun m=>?_)
   .
    refine Vw [23,17,21,3000] [16] O ?_
    refine Vd [0,1,2,3,4,5,6,7,8,9,12] 0 (by kernel_rfl) O O O ?_
    refine znQ 10 O (by kernel_rfl) O (fun w=>zlO tR89 ts27 O O O (by omega)) ?_
    refine zoh 11 O (by kernel_rfl) O 0 O O (fun w hI=>R.load tg27 O (znm (hI.at 21 O) hu)) ?_
    refine VD.bs 13 79 0 [(0,_)] tR27 ts3 tz3 (by decide) O (by kernel_rfl) O O (by kernel_rfl) (fun b79=>?_)
    refine zoj 14 902 79 0 (n) tu27 Tryz.el3 O O (by kernel_rfl) O O (hu) (hrow) (by omega) (fun u902 ho_902=>?_)
    refine znQ 15 O (by kernel_rfl) O (fun w=>zlO tR89 ts27 O O O (by omega)) ?_
    refine zok 16 21 (n) ts27 O (by kernel_rfl) O (ho_902) (by omega) (by omega) ?_
    refine VDx.done (by kernel_rfl) ?_
    refine Vs 2 O ?_
    refine znJ 902 O (e':=RowsP zb 3 (rv.set n u902) (zal g i (S.take (q+1)))) (by rw[htk,<- ziH hng (fun h=>m (hmem.2 h))]) ?_
    refine Va 4 O (by omega) ?_
    refine V.back (⟨q+1,rv.set n u902⟩) (Sub.of O) (Has.of O) (⟨by omega,by rw[zqv];exact hrv⟩) (by first | omega | (dsimp only;omega)) 0 O O
   have m:=zp2.1 m
   refine znJ 902 O (e':=RowsP zb 3 rv (zal g i (S.take (q+1)))) (by rw[htk,zh4 (hmem.1 m)]) ?_
   refine Va 7 O (by omega) ?_
   refine V.back (⟨q+1,rv⟩) (Sub.of O) (Has.of O) (⟨by omega,hrv⟩) (by first | omega | (dsimp only;omega)) 0 O O
  obtain rfl:q=S.length:=by omega
  refine znJ 902 O (e':=RowsP zb 3 rv (zal g (i+1) [])) (by rw[zoY,<- hS,zh5 he_x]) ?_
  refine Va 10 O (by omega) ?_
  refine V.back (⟨i+1,ys,rv⟩) (Sub.of O) (Has.of O) (⟨by omega,hys2,hrv⟩) (by first | omega | (dsimp only;omega)) 1 O O
 obtain rfl:i=g.length:=by omega
 rw[show zei f g g.length=g.map (stN f) by simp[zei]]at hys
 refine Vs 12 O ?_
 refine zlt Tryz.results37 O (fun w hI=>⟨_,rfl,⟨b23,rfl,_,_,_,_,_,_,.inr ⟨hI.own 23 1 O O b23 rfl,(show Blk _ _ _ _ from hI.at 23 O).lt⟩,Blk.cells (hI.at 23 O),⟨(hf0.vars.keep xl hI.k1 (fun _ _ _ h=>h)).wide xl (fun _ h=>.inl h),(hf0.hatches.keep xm hI.k1 (fun _ _ _ h=>h)).wide xm (fun _ h=>.inl h),(hf0.body.keep zc hI.k1 (fun _ _ _ h=>h)).wide zc (fun _ h=>.inl h)⟩,(hg0.keep zI hI.k1 (fun _ _ _ h=>h)).wide zI (fun _ h=>.inl h),grS hD hys hI.k1 (hI.at 17 O) (hI.own 17 1 O O b17 O) hN,grP hrv (ziI g ▸ hI.at 902 O) (hI.at 21 O) (hI.own 21 1 O O b21 O) hN (fun q hq=>hI.own 902 1 O O q hq)⟩,hI.k1⟩)
theorem Valid.ends {f:Fl} (V:Valid f) {i:Nat} {x:Nd} (hx:(zi f)[i]?=some x):(x.at_<0->x.kind=0\/x.kind=1)/\(0<=x.at_->x.at_<((preL f.body).length:Int)):=by
 have hlen:=yH f V.plain
 have hi:=(zp7.1 hx).1
 by_cases hl:i<(zi f).length - 1
 .
  obtain⟨h1,h2⟩:=V.node (k:=(i:Int)) (by omega) (by omega)
  rw[zpf,hx]at h1
  have e:=Option.some.inj h1
  rw[<- e]at h2
  by_cases k0:x.kind=0
  .
   obtain rfl:=(V.away hx).2 k0
   unfold zi at hx
   rw[List.getElem?_cons_zero]at hx
   obtain rfl:=Option.some.inj hx
   exact⟨fun _=>.inl rfl,fun h=>by simp at h⟩
  obtain⟨h3,h4,_⟩:=h2.step k0
  have:=(zp7.1 h4).1
  exact⟨fun h=>by omega,fun _=>by omega⟩
 obtain rfl:i=(zi f).length - 1:=by omega
 have hll:=zS f.body V.plain 0 1 (1+widL f.body)
 unfold zi at hx
 rw[zpm,zp1,zpe,Nat.add_sub_cancel,List.getElem?_cons_succ,zpk (zpi _),zro]at hx
 obtain rfl:(⟨1,-1,-1,-1⟩:Nd)=x:=by simpa using hx
 exact⟨fun _=>.inr rfl,fun h=>by simp at h⟩
theorem Valid.prOk {f:Fl} (V:Valid f):PrOk f (zi f):=by
 refine⟨fun x hx=>?_,fun x hx y hy=>?_⟩
 .
  obtain⟨i,hi⟩:=zqH.1 hx
  have:=(V.ends hi).2
  by_cases h:0<=x.at_
  . exact this h
  omega
 obtain⟨i,hi⟩:=zqH.1 hx
 obtain⟨h0,h1⟩:=mem_succ.1 hy
 exact((V.edge hi).1 y (h1.elim (fun e=>.inl e.symm) (fun e=>.inr e.symm))).2
theorem zfy {l:List Tm} (h:∀ k ∈ l,(yn k).length<=k.nodes):(mentL l).length<=tnodes l:=by
 induction l with
 | nil=>simp[mentL]
 | cons k r ih =>
  have h1:=h k (zoX ..)
  have h2:=ih fun x hx=>h x (zoW _ hx)
  rw[mentL,zp1,tnodes];omega
theorem zfz (t:Tm):(yn t).length<=t.nodes:=by
 induction t using zmz with
 | h t ih =>
  rw[zaw,zp1,t.nodes_eq]
  have:=zfy ih
  have h2:(if t.op=24 then [t.n] else []).length<=1:=by split<;>simp
  omega
theorem Valid.gOk {f:Fl} (V:Valid f):GOk f (zi f):=fun i x hx=>by
 obtain⟨h1,h2⟩:=V.ends hx
 refine⟨h1,fun h=>⟨h2 h,?_⟩⟩
 have hg:=qH h (h2 h)
 have hn:=zdl f.body _ (zoU hg)
 have hs:=V.size
 have ht:=zfz (zO f x.at_).term
 rw[St.nodes_eq]at hn
 omega
noncomputable def yq (f:Fl) (g:List Nd) (s:Sf):Int:=by
 classical
 exact if yu f g ≠ 0 then yu f g else if RightF f g s (rdV f g) then 0 else 13
section
variable {f:Fl} {g:List Nd} {s:Sf}
theorem sc_g (h:yu f g ≠ 0):yq f g s=yu f g:=by unfold yq;rw[zp4 h]
theorem zfA (h:¬ yu f g ≠ 0) (hr:¬ RightF f g s (rdV f g)):yq f g s=13:=by unfold yq;rw[zp3 h,zp3 hr]
theorem zje (h:¬ yu f g ≠ 0) (hr:RightF f g s (rdV f g)):yq f g s=0:=by unfold yq;rw[zp3 h,zp4 hr]
theorem zh9 (h:yq f g s=0):yu f g=0/\RightF f g s (rdV f g):=by
 unfold yq at h
 split at h
 . contradiction
 rename_i h0
 split at h
 . rename_i h1;exact⟨zp2.1 h0,h1⟩
 cases h
theorem jK (h:¬ yu f g ≠ 0):yt f=0/\g=zi f:=by
 unfold yu at h
 split at h
 . contradiction
 rename_i h0
 split at h
 . rename_i h1;exact⟨zp2.1 h0,h1.symm⟩
 exact absurd (by decide) h
theorem zha (hof:OfF f s) (hlen:s.nodes.length=g.length) (hn:∀ (n:Nat) x,s.nodes[n]?=some x->NodF f g s (rdV f g) n x) (h1:∀ k:Nat,f.vars.length<=k->k<s.of_.length->(qg f g s).count (k:Int)=1) (hu:jB f g s):RightF f g s (rdV f g):=⟨⟨hof,hlen,hn,h1⟩,hu.1,hu.2⟩
end
theorem ziL {P:Prop} {q:Bool} (h:q=true ↔ P):q=@decide P (Classical.propDecidable P):=by
 by_cases hp:P
 . rw[@zp5 P (Classical.propDecidable P) hp];exact h.2 hp
 rw[@zp6 P (Classical.propDecidable P) hp]
 cases q with
 | true=>exact absurd (h.1 rfl) hp
 | false=>rfl
theorem kJ {p:Program} {n:FuncId} {a:Array Value} {W:World} {P:Prop} (h:Calls p n a W (Ret fun r w'=>(∃ q:Bool,r=.bool q/\(q=true ↔ P))/\Ext W w')):Calls p n a W (Ret fun r w'=>r=.bool (@decide P (Classical.propDecidable P))/\Ext W w'):=by
 refine Calls.mono h ?_
 rintro e w' ⟨r,rfl,⟨q,rfl,hq⟩,hE⟩
 exact⟨_,rfl,by rw[ziL hq],hE⟩
end Go.Proofs.YtckdhgbepmpgiaaGreat
namespace Go.GL
theorem zkw {P:Program} {f:FuncId} {args:Array Value} {w:World} {H:Hp} {k:Nat} {e:HE} {α:Type} {E:α->HE} {Φ:Value->α->Prop} (hg:hget H k=some e) (hE:∀ x,(E x).loc/\∀ b,¬ (E x).fz b) (h:Calls P f args w (Ret fun r w'=>∃ x,Φ r x/\(E x).holds w'/\Keep e.S w w'/\∀ q,(E x).S q->(e.S q\/w.heap.size<=q)/\q<w'.heap.size)):Calls P f args w (Ret fun r w'=>∃ x,Φ r x/\Hands H [k] [(k,E x)] w w'):=by
 refine Calls.mono h ?_
 rintro e' w' ⟨r,rfl,x,h1,h2,h3,h4⟩
 have hin:∀ q,e.S q->InS H [k] q:=fun q hq=>⟨(k,e),zx hg,by simp[zgG,],hq⟩
 refine⟨r,rfl,x,h1,h3.mono fun q _ hq=>hin q hq,fun y hy=>?_,zqS _ _⟩
 rw[zpb]at hy
 subst hy
 exact⟨h2,(hE x).1,(hE x).2,fun q hq=>⟨(h4 q hq).1.imp (hin q) id,(h4 q hq).2⟩⟩
end Go.GL
namespace Go.Proofs.YtckdhgbepmpgiaaGreat
open Go.GL
attribute [local instance 1] Classical.propDecidable
theorem kK (f:Fl) (g:List Nd) (s:Sf) (hsz:snodes f.body+zA f.hatches<=1024) (hbk:sbulk f.body<=1000000) (hbig:s.of_.length<=1000000/\(LP s g.length).length<=1000000) (v1 v2 v3 gv ofv nodv:Value) (D:Nat->Prop) (W:World) (hf:RFl D W f v1 v2 v3) (hg:SlR 4 RNd D W gv g) (hS:RSf D W s ofv nodv) (hD:∀ q,D q->q<W.heap.size) :
  Calls Tryz.prog 16 #[.agg #[v1,v2,v3],.agg #[gv],.agg #[ofv,nodv]] W (Ret fun r w'=>r=.int .i64 (yq f g s)/\Ext W w'):=by
 have hf0:=hf
 have hg0:=hg
 have hS0:=hS
 obtain⟨ag,cg,rfl⟩:=hg.form
 obtain⟨an,cn,rfl⟩:=hS.nodes.form
 obtain⟨ao,co,rfl⟩:=hS.of_.form
 have hnm:=hS.nodes.max
 have hgm:=hg.max
 refine zn3 Tryz.func16 O Tryz.ntmps16 O (znb ?_)
 refine Vs 2 O ?_
 refine V.box 3 O O (fun b3=>?_)
 refine V.box 4 O O (fun b4=>?_)
 refine V.box 5 O O (fun b5=>?_)
 refine Vs 8 O ?_
 refine znw Tryz.call36 O (fun w hI=>ze6 f g _ _ _ _ D D w (Tr1 hI.k0 hf0) (Tr1 hI.k0 hg0) hsz hbk) ?_
 refine Vs 9 O ?_
 refine zld O (fun c0=>?_) (fun c0=>?_)
 .
  refine Vs 8 O ?_
  refine zlt tr16 O (fun w hI=>⟨_,rfl,by rw[sc_g c0],hI.k0⟩)
 obtain⟨hck,hgc⟩:=jK c0
 have vd:Valid f:=⟨hck,hsz,hbk⟩
 have hk:GOk f g:=by rw[hgc];exact vd.gOk
 have hp:PrOk f g:=by rw[hgc];exact vd.prOk
 have hlens:=vd.lens
 have hss:=vd.ssize
 have hgl1:1<=g.length/\g.length<=8000:=by
  have h1:=yH f vd.plain
  have h2:=xd f.body
  rw[hgc];omega
 refine Vs 3 O ?_
 refine Vw [3,4,5] [] O ?_
 refine Vd [0,1,3] 0 (by kernel_rfl) O O O ?_
 refine znz 2 0 tc37 O (by kernel_rfl) O O (fun w hI=>yM f g hp (by omega) (by omega) _ _ _ _ D w (Tr1 hI.k0 hf0) (Tr1 hI.k0 hg0) (fun q hq=>zrj (hD q hq) (Keep.size hI.k0))) ?_
 rintro gp w1 w2 hI1 hk12 ⟨gb,rfl,hG⟩ hlow
 have hDs:∀ q,(D q\/(w1.heap.size<=q/\q<w2.heap.size))->q<w2.heap.size:=fun q hq=>by
  have h1:w1.heap.size<=w2.heap.size:=hk12.size
  have h2:W.heap.size<=w1.heap.size:=hI1.k0.size
  rcases hq with hq | hq
  . have:=hD q hq;omega
  omega
 refine znP 4 [Value.pointer none,Value.slice none 0 0,Value.slice none 0 0,Value.slice none 0 0,Value.slice none 0 0] [(0,1),(1,2),(3,1),(4,1)] [(0,_),(1,_)] O (by kernel_rfl) O O (fun _=>by kernel_rfl) ?_
 refine znh 5 20 1 O (by kernel_rfl) O O (fun _ _=>M.box O O) (fun b20=>?_)
 refine Vd [6] 1 (by kernel_rfl) O O O ?_
 refine VD.done (by kernel_rfl) ?_
 refine Vs 5 O ?_
 refine znw Tryz.call38 O (fun w hI=>kJ (zdu f g s b20 gb _ _ _ _ D (fun q=>D q\/(w1.heap.size<=q/\q<w2.heap.size)) w (Blk.cells (hI.at 20 O)) (Tr1 hI.k1 hS0.of_) (hG.keep hI.k0 (fun q hq _ hs=>by have h1:=hlow q hs;have h2:=hI1.hsE 0 O hs;rcases hq with hq | hq;(· have:=hD q hq;omega);omega)))) ?_
 refine zmS O (fun w hI=>zms O (by first | exact za | rfl)) ?_
 refine Vs 1 O ?_
 refine V.sp 24 O (fun n1=>?_) (fun n1=>?_)
 .
  have hb:¬ RightF f g s (rdV f g):=fun h=>n1 h.of_
  refine Vs 33 O ?_
  refine zlt tr16 O (fun w hI=>⟨_,rfl,by rw[zfA c0 hb],hI.k1⟩)
 have hof:OfF f s:=Classical.not_not.1 n1
 refine Vs 9 O ?_
 refine V.sp 33 O (fun n2=>?_) (fun n2=>?_)
 .
  have hb:¬ RightF f g s (rdV f g):=fun h=>by have:=h.len;omega
  refine Vs 24 O ?_
  refine zlt tr16 O (fun w hI=>⟨_,rfl,by rw[zfA c0 hb],hI.k1⟩)
 have hlen:s.nodes.length=g.length:=by omega
 refine Vs 1 O ?_
 refine znw Tryz.call39 O (fun w hI=>kJ (zft f g s hk hlen b20 gb _ _ _ _ D (fun q=>D q\/(w1.heap.size<=q/\q<w2.heap.size)) w (Blk.cells (hI.at 20 O)) (Tr1 hI.k1 hS0) (hG.keep hI.k0 (fun q hq _ hs=>by have h1:=hlow q hs;have h2:=hI1.hsE 0 O hs;rcases hq with hq | hq;(· have:=hD q hq;omega);omega)))) ?_
 refine zmS O (fun w hI=>zms O (by first | exact za | rfl)) ?_
 refine Vs 2 O ?_
 refine V.sp 38 O (fun n3=>?_) (fun n3=>?_)
 .
  have hb:¬ RightF f g s (rdV f g):=fun h=>n3 h.nod
  refine Vs 19 O ?_
  refine zlt tr16 O (fun w hI=>⟨_,rfl,by rw[zfA c0 hb],hI.k1⟩)
 have hnod:=Classical.not_not.1 n3
 refine Vs 1 O ?_
 refine znw Tryz.call40 O (fun w hI=>kJ (zir f g s (rdV f g) hlen hnod hof.len hbig b20 gb _ _ _ _ D (fun q=>D q\/(w1.heap.size<=q/\q<w2.heap.size)) w (Blk.cells (hI.at 20 O)) (Tr1 hI.k1 hS0) (hG.keep hI.k0 (fun q hq _ hs=>by have h1:=hlow q hs;have h2:=hI1.hsE 0 O hs;rcases hq with hq | hq;(· have:=hD q hq;omega);omega)))) ?_
 refine zmS O (fun w hI=>zms O (by first | exact za | rfl)) ?_
 refine Vs 2 O ?_
 refine V.sp 43 O (fun n4=>?_) (fun n4=>?_)
 .
  have hb:¬ RightF f g s (rdV f g):=fun h=>n4 h.one
  refine Vs 14 O ?_
  refine zlt tr16 O (fun w hI=>⟨_,rfl,by rw[zfA c0 hb],hI.k1⟩)
 have hone:=Classical.not_not.1 n4
 have hFm:FormF f g s (rdV f g):=⟨hof,hlen,hnod,hone⟩
 refine Vs 1 O ?_
 refine zop [20] (Hn:=fun x:Value × Bool=>[(20,.own b20 (chk gb (.slice ao s.of_.length co) (.slice an s.nodes.length cn) x.1 (.slice none 0 0)) 97)]) [(3,some (3,0)),(4,some (4,0)),(5,some (5,0)),(8,some (20,0)),(20,some (20,0)),(21,some (20,0)),(25,some (5,1)),(28,some (4,0)),(34,some (20,0)),(39,some (20,0)),(44,some (20,0))] Tryz.call41 O (fun _ _=>rfl) (fun _=>rfl) (fun w hI=>zkw (k:=20) O (fun _=>⟨trivial,fun _ h=>h⟩) (zgZ f g s hk hFm hgl1.1 (by omega) (by omega) b20 gb _ _ _ (fun q=>D q\/(w1.heap.size<=q/\q<w2.heap.size)) w (hI.at 20 O) (fun q hq=>⟨zrj (hDs q hq) (Keep.size hI.k0),by exact hI.offD 0 20 O O (hDs q hq) (fun hs=>by have h1:=hlow q hs;have h2:=hI1.hsE 0 O hs;rcases hq with hq | hq;(· have:=hD q hq;omega);omega)⟩) ((Tr1 hI.k1 hS0).wide (fun q h=>.inl h)) (hG.keep hI.k0 (fun q hq _ hs=>by have h1:=hlow q hs;have h2:=hI1.hsE 0 O hs;rcases hq with hq | hq;(· have:=hD q hq;omega);omega)))) ?_
 rintro _ ⟨u,q⟩ ⟨rfl,hq⟩
 refine zmS O (fun w hI=>zms O (by first | exact za | rfl)) ?_
 refine Vs 3 O ?_
 refine V.bool O (fun n5=>?_) (fun n5=>?_)
 .
  have hb:¬ RightF f g s (rdV f g):=fun h=>by
   have:q=true:=hq.2 ⟨h.use,h.arg⟩
   rw[this]at n5;cases n5
  refine Vs 7 O ?_
  refine zlt tr16 O (fun w hI=>⟨_,rfl,by rw[zfA c0 hb],hI.k1⟩)
 have hr:RightF f g s (rdV f g):=zha hof hlen hnod hone (hq.1 (by cases q;(· cases n5);rfl))
 refine Vs 8 O ?_
 refine zlt tr16 O (fun w hI=>⟨_,rfl,by rw[zje c0 hr],hI.k1⟩)
theorem zdD (a b c:Int) (w:World) (hbc:b<=c):Calls Tryz.prog 46 #[.int .i64 a,.int .i64 b,.int .i64 c] w (Ret fun r w'=>r=.int .i64 (yY a b c)/\Ext w w'):=by
 refine zn3 Tryz.func46 O Tryz.ntmps46 O (Gs 16 O (zls Tryz.results46 O ⟨_,rfl,?_,Keep.refl _ _⟩))
 congr 1
 unfold yY
 split
 . omega
 split<;>omega
def rnr (gb:Nat) (ofv nodv vv hv rv ov tv:Value):List Value:=[.pointer (some ⟨gb,0,none⟩),ofv,nodv,vv,hv,rv,ov,tv]
structure TlOk (f:Fl) (vals:List Int) (l:List (Int × Int)) (tl:List Int):Prop where
 inv:InV f.vars tl
 eq:∀ u ∈ l,lki tl u.1.toNat=lki vals u.1.toNat
def zfB (f:Fl):List Int:=f.vars.map fun v=>v.low
theorem kL (f:Fl):(zfB f).length=f.vars.length:=zpd _
theorem zoa {f:Fl} {vals:List Int} (hg:∀ v ∈ f.vars,yz (v.low,v.high)):TlOk f vals [] (zfB f):=by
 refine⟨⟨kL f,fun i v hv=>?_⟩,fun u hu=>by cases hu⟩
 have:lki (zfB f) i=v.low:=zgm (by unfold zfB;rw[zpa,hv];rfl)
 have h2:=(hg v (zoU hv))
 unfold yz at h2
 rw[this]
 simp at h2
 omega
theorem zhb {l:List Int} {i j:Nat} {x:Int} (h:i<l.length):lki (l.set i x) j=if j=i then x else lki l j:=by
 unfold lki
 by_cases e:j=i
 . subst e;rw[zp4 rfl,List.getElem?_set_self h];rfl
 rw[zp3 e,List.getElem?_set_ne (fun h=>e h.symm)]
theorem TlOk.next {f:Fl} {vals tl:List Int} {l:List (Int × Int)} (h:TlOk f vals l tl) (hV:InV f.vars vals) {u:Int × Int} {v:Nat} (hu:u.1=(v:Int)) (hv:v<f.vars.length):TlOk f vals (l++[u]) (tl.set v (lki vals v)):=by
 have hl:=h.inv.len
 refine⟨⟨by rw[zqv,hl],fun i x hx=>?_⟩,fun w hw=>?_⟩
 .
  rw[zhb (by omega)]
  split
  . rename_i e;subst e;exact hV.at_ i x hx
  exact h.inv.at_ i x hx
 rw[zhb (by omega)]
 split
 . rename_i e;rw[e]
 rename_i e
 rcases zpc.1 hw with hw | hw
 . exact h.eq w hw
 rw[zpb]at hw
 subst hw
 exact absurd (by omega) e
theorem zf0 (f:Fl) (g:List Nd) (s:Sf) (hgood:∀ v ∈ f.vars,yz (v.low,v.high)) (hR:RightF f g s (rdV f g)) (n:Nat) (hn:n<g.length) (hso:StepOk f (stN f (xk g n))) (hat:0<=(xk g n).at_) (hrd:rdB f (xk g n)=true) (hvl:f.vars.length<=1000) (_:g.length<=100000) (vl vals:List Int) (hV:InV f.vars vals) (hInv:InvV f g s n vl vals) (b gb:Nat) (ofv nodv vv hv rv ov tv:Value) (D Dg Dv:Nat->Prop) (W:World) (hc:Cells W b 0 (rnr gb ofv nodv vv hv rv ov tv)) (hS:RSf D W s ofv nodv) (hG:GrO Dg W f g gb) (hvv:SlR 1 yc Dv W vv vl) :
  Calls Tryz.prog 92 #[.pointer (some ⟨b,0,none⟩),.int .i64 n] W (Ret fun r w'=>r=.int .i64 (qp vals (stN f (xk g n)).term)/\Ext W w'):=by
 have hG0:=hG
 obtain⟨v1,v2,v3,gv,sv,pv,hD,hcell,hf,hg,hs,hpr⟩:=hG0
 have hfv:=hf.vars
 obtain⟨a1,c1,rfl⟩:=hfv.form
 obtain⟨as1,cs1,rfl⟩:=hs.form
 have hnd:=hS.nodes
 obtain⟨an,cn,rfl⟩:=hnd.form
 obtain⟨av,cv,rfl⟩:=hvv.form
 have hnm:=hnd.max
 have hvm:=hvv.max
 have hgs:(g.map (stN f)).length=g.length:=zpd _
 have hlen:=hR.len
 obtain⟨x,he_x⟩:∃ x,s.nodes[n]?=some x:=⟨_,zoT (by omega)⟩
 have hnod:=hR.nod n x he_x
 have hstn:(g.map (stN f))[n]?=some (stN f (xk g n)):=by
  have e:=zoT hn
  rw[zpa,e,yD e];rfl
 generalize hgm:g.map (stN f)=gm at *
 refine zn2 Tryz.func92 O Tryz.ntmps92 O (znb ?_)
 refine znI 900 0 O O (fun h=>h) hc ?_
 refine znI 901 0 O O (fun h=>h) hcell ?_
 refine zni 0 900 0 O O ?_
 refine Vs 11 O ?_
 refine zni 15 901 0 O O ?_
 refine Vs 5 O ?_
 refine zm6 21 tu27 Tryz.el3 O (by omega) (by omega) (zs:=List.replicate f.vars.length (.int .i64 0)) (xD _ _ O) (by simp) (fun b21=>?_)
 refine znJ 21 O (e':=.row 3 1 (.slice (some ⟨b21,0,none⟩) f.vars.length f.vars.length) f.vars.length (((zfB f).take 0++List.replicate (f.vars.length - 0) 0).map zb)) (by simp[zb]) ?_
 refine Vs 10 O ?_
 refine zni 25 901 0 O O ?_
 refine Vs 9 O ?_
 refine znK (σ:=Nat) [0,1,5,29,30] [900,901] [0] O (fun e i=>(31,.int .i64 i)::e) (fun e i=>(21,.row 3 1 (.slice (some ⟨b21,0,none⟩) f.vars.length f.vars.length) f.vars.length (((zfB f).take i++List.replicate (f.vars.length - i) 0).map zb))::e) (fun i=>i<=f.vars.length) (fun i=>f.vars.length - i) (0) (Sub.of O) (Has.of O) (fun _=>rfl) (fun _=>rfl) (fun _=>rfl) (zp8 _) ?_
 rintro i hi
 refine Vs 6 O ?_
 refine zld O (fun lt=>?_) (fun lt=>?_)
 .
  refine Vs 7 O ?_
  obtain⟨vr,he_vr,hm_vr⟩:=gE_ f.vars (i) (by omega)
  obtain⟨b_vr,o_vr,c_vr,ha_vr,_,hc_vr,hR_vr⟩:=hfv.at he_vr
  obtain rfl:=hR_vr
  refine znH 1000 0 O O hc_vr ?_
  refine znk 1000 tR22 ts142 O ha_vr (by omega) (_) (rfl) O ?_
  have hlw:(zfB f)[i]?=some vr.low:=by unfold zfB;rw[zpa,he_vr];rfl
  have hst:((zfB f).take i++List.replicate (f.vars.length - i) 0).set i vr.low=(zfB f).take (i+1)++List.replicate (f.vars.length - (i+1)) 0:=by
   rw[zd hlw,zqY _ _ (by rw[zpn,kL];omega),zpn,kL,show i - min i f.vars.length=0 by omega,show f.vars.length - i=(f.vars.length - (i+1))+1 by omega,zqV]
   simp
  refine Vs 1 O ?_
  refine V.alloc 7 tz142 O O (fun b7=>?_)
  refine Va 10 O (by omega) ?_
  refine znu 21 (i) ts3 O (by omega) (by simp[kL];omega) ?_
  refine znJ 21 O (e':=.row 3 1 (.slice (some ⟨b21,0,none⟩) f.vars.length f.vars.length) f.vars.length (((zfB f).take (i+1)++List.replicate (f.vars.length - (i+1)) 0).map zb)) (by rw[<- hst,zqC]) ?_
  refine Va 7 O (by omega) ?_
  refine V.back (i+1) (Sub.of O) (Has.of O) (by omega) (by first | omega | (dsimp only;omega)) 0 O O
 obtain rfl:i=f.vars.length:=by omega
 refine znJ 21 O (e':=.row 3 1 (.slice (some ⟨b21,0,none⟩) f.vars.length f.vars.length) f.vars.length ((zfB f).map zb)) (by rw[zr7 (by rw[kL];omega),zro,zqW,zq4]) ?_
 refine Vs 14 O ?_
 obtain⟨x2,he_x2,hm_x2⟩:=gE_ s.nodes (n) (by omega)
 obtain⟨b_x2,o_x2,c_x2,ha_x2,_,hc_x2,hR_x2⟩:=hnd.at he_x2
 obtain⟨v1_x2,v2_x2,rfl,hp_x2,hu_x2⟩:=hR_x2
 obtain⟨a1_x2,n1_x2,rfl⟩:=hp_x2.form
 obtain⟨a2_x2,n2_x2,rfl⟩:=hu_x2.form
 refine znH 2000 0 O O hc_x2 ?_
 refine znk 2000 tR28 ts59 O ha_x2 (by omega) (_) (rfl) O ?_
 obtain rfl:x2=x:=Option.some.inj (he_x2.symm.trans he_x)
 have hum:=hu_x2.max
 refine Vs 7 O ?_
 refine znK (σ:=Nat × List Int) [0,1,5,50,51] [900,901] [0] O (fun e ⟨k,tl⟩=>(52,.int .i64 k)::e) (fun e ⟨k,tl⟩=>(21,.row 3 1 (.slice (some ⟨b21,0,none⟩) f.vars.length f.vars.length) f.vars.length (tl.map zb))::e) (fun⟨k,tl⟩=>k<=x2.uses.length/\TlOk f vals (x2.uses.take k) tl) (fun⟨k,tl⟩=>x2.uses.length - k) ((0,zfB f)) (Sub.of O) (Has.of O) (fun _=>rfl) (fun _=>rfl) (fun _=>rfl) (⟨zp8 _,zoa hgood⟩) ?_
 rintro⟨k,tl⟩ ⟨hk,htl⟩
 show V _ _ _ _ _ ((52,.int .i64 k)::_) _ ((21,.row 3 1 (.slice (some ⟨b21,0,none⟩) f.vars.length f.vars.length) f.vars.length (tl.map zb))::_) _
 have htll:=htl.inv.len
 refine Vs 6 O ?_
 refine zld O (fun lk=>?_) (fun lk=>?_)
 .
  refine Vs 6 O ?_
  obtain⟨u,he_u,hm_u⟩:=gE_ x2.uses (k) (by omega)
  obtain⟨b_u,o_u,c_u,ha_u,_,hc_u,hR_u⟩:=hu_x2.at he_u
  obtain rfl:=hR_u
  refine znH 3000 0 O O hc_u ?_
  refine znk 3000 tR57 ts85 O ha_u (by omega) (_) (rfl) O ?_
  have hub:=kI hR.of_ (hnod.ver u hm_u)
  have huk:=(hnod.ver u hm_u).1
  have huse:=hR.use n x2 he_x2 u hm_u
  obtain⟨v,hv⟩:∃ v:Nat,u.1=(v:Int):=⟨u.1.toNat,by omega⟩
  obtain⟨q,hq⟩:∃ q:Nat,u.2=(q:Int):=⟨u.2.toNat,by omega⟩
  have hvn:v<f.vars.length:=by omega
  have hval:=(hInv v hvn).2 (by rw[<- hv,huse];exact huk)
  rw[<- hv,huse,hq,zpf]at hval
  have hvals:=zbT (l:=vals) (i:=v) (by rw[hV.len];exact hvn)
  have hql:q<vl.length:=(zp7.1 (hval.trans hvals)).1
  have hnx:=htl.next hV hv hvn
  obtain⟨z,he_z,hm_z⟩:=gE_ vl (q) (by omega)
  obtain⟨b_z,o_z,c_z,ha_z,_,hc_z,hR_z⟩:=hvv.at he_z
  obtain rfl:=hR_z
  refine znH 4000 0 O O hc_z ?_
  have hz:z=lki vals v:=Option.some.inj (he_z.symm.trans (hval.trans hvals))
  refine Vs 1 O ?_
  refine V.alloc 9 tz85 O O (fun b9=>?_)
  refine Vs 3 O ?_
  refine Vw [900,901,3000,4000,9] [] O ?_
  refine Vd [0,1,2,3,4,5,6,7,8] 0 (by kernel_rfl) O O O ?_
  refine znl 9 4000 tR27 ts3 O (by kernel_rfl) O ha_z (by omega) (q) (by omega) O ?_
  refine Vb [10,11] 0 (by kernel_rfl) O O O (by omega) ?_
  refine znv 12 21 0 (v) ts3 O (by kernel_rfl) O O (by omega) (by rw[zpd];omega) ?_
  refine VD.done (by kernel_rfl) ?_
  refine Vs 2 O ?_
  refine znJ 21 O (e':=.row 3 1 (.slice (some ⟨b21,0,none⟩) f.vars.length f.vars.length) f.vars.length ((tl.set v (lki vals v)).map zb)) (by rw[hz,zqC]) ?_
  refine Va 4 O (by omega) ?_
  refine V.back (⟨k+1,tl.set v (lki vals v)⟩) (Sub.of O) (Has.of O) (⟨by omega,by rw[zd he_u];exact hnx⟩) (by first | omega | (dsimp only;omega)) 0 O O
 obtain rfl:k=x2.uses.length:=by omega
 rw[zoY]at htl
 obtain⟨st,he_st,hm_st⟩:=gE_ gm (n) (by omega)
 obtain⟨b_st,o_st,c_st,ha_st,_,hc_st,hR_st⟩:=hs.at he_st
 obtain⟨v1_st,v2_st,v3_st,v4_st,rfl,hk_st,ht_st,hs_st,hb_st⟩:=hR_st.get
 obtain⟨a1_st,n1_st,rfl⟩:=hk_st.form
 obtain⟨a2_st,n2_st,rfl⟩:=ht_st.form
 obtain⟨a3_st,n3_st,rfl⟩:=hs_st.form
 obtain⟨a4_st,n4_st,rfl⟩:=hb_st.form
 refine znH 5000 0 O O hc_st ?_
 obtain rfl:st=stN f (xk g n):=Option.some.inj (he_st.symm.trans hstn)
 have hval:qp tl (stN f (xk g n)).term=qp vals (stN f (xk g n)).term:=zie _ fun v hv=>by
  have hst:stN f (xk g n)=zO f (xk g n).at_:=by unfold stN;rw[zp4 hat]
  rw[hst]at hv
  have hm:=(zkp hrd).2 hv
  rw[show rdN f (xk g n)=x2.uses.map (·.1) from hnod.use.symm]at hm
  obtain⟨u,hu,rfl⟩:=zqI.1 hm
  exact htl.eq u hu
 refine Vs 6 O ?_
 refine Vw [900,901,5000] [] O ?_
 refine Vd [0,1,2,3] 0 (by kernel_rfl) O O O ?_
 refine znj 73 901 0 O O ?_
 refine Vd [4,5,6,7,8,9,10,11,12] 0 (by kernel_rfl) O O O ?_
 refine znj 82 901 0 O O ?_
 refine Vd [13,14,15,16] 0 (by kernel_rfl) O O O ?_
 refine znl 17 5000 tR24 ts72 O (by kernel_rfl) O ha_st (by omega) (n) (by omega) O ?_
 refine Vd [18,19] 0 (by kernel_rfl) O O O ?_
 refine znx 20 0 Tryz.call45 O (by kernel_rfl) O O (fun w hI=>zbj hgood htl.inv (stN f (xk g n)).term hso.formed hso.ranged hso.small _ _ _ (fun _=>True) w _ _ (Tr1 hI.k0 hfv) (zmj zb (fun _ _=>rfl) (show w.ownsRow 0 3 1 _ tl.length _ from htll ▸ hI.at 21 O) (fun _ _=>trivial)) (RTm.put (Tr1 hI.k0 hk_st))) ?_
 refine Vd [21,22,23,24,25] 0 (by kernel_rfl) O O O ?_
 refine VD.done (by kernel_rfl) ?_
 refine Vs 8 O ?_
 refine zlt Tryz.results92 O (fun w hI=>⟨_,rfl,by rw[hval],hI.k0⟩)
end Go.Proofs.YtckdhgbepmpgiaaGreat
namespace Go.GL
open Go.RowKit Go.ChangeMaps
section
variable {κ:Type} [DecidableEq κ]
variable {ke:κ->Value}
omit [DecidableEq κ] in
section
variable {P:Program} {env:Env} {w:World} {dst:Option Tmp} {ty:TypeId} {pos:String} {aft:Array Edge} {g:Option (Nat × Bool)} {t kt et:TypeId} {m:Nat} {l:List (κ × Value)}
omit [DecidableEq κ] in
end
end
open Go.RowKit Go.ChangeMaps
section
variable {κ:Type} [DecidableEq κ] {ke:κ->Value}
section
variable {P:Program} {env:Env} {w:World} {dst:Option Tmp} {ty:TypeId} {pos:String} {aft:Array Edge} {g:Option (Nat × Bool)} {t kt et:TypeId} {m:Nat} {l:List (κ × Value)}
omit [DecidableEq κ] in
end
end
section
variable {P:Program} {n:Nat} {Q:Exit->Act->World->Prop} {ks:List Fr} {env:Env} {A:Tgs} {H Hs:Hp} {Bs B0:zC} {ops:Array Oper} {L:List Nat} {fuel:Nat} {listed:Array Bool}
variable {d d2:Nat} {op op2:Op} {ty ty2:TypeId} {ps ps2:String} {aft aft2:Array Edge} {g:Option (Nat × Bool)} {v:Value}
theorem zoB (i k j:Nat) {β:Type} {e:HE} {E':β->HE} {r:β->Value} (hi:ops[i]?=some ⟨some d,op,ty,ps,aft,g⟩) (hr:Region.ready .any ops listed=[i]) (hn:(Nat.blt d n,gd ops env g,hget H k,ji H k,qu (Hs.map (·.1)),ql k (Hs.map (·.1)))=(true,some true,some e,none,true,true)) (hB:Bs.drop j=B0)
  (hE:∀ x,(E' x).loc/\∀ b,¬ (E' x).fz b) (hm:∀ w,VI Bs H w->yK P ⟨some d,op,ty,ps,aft,g⟩ env w (fun u w'=>∃ x,u=r x/\(E' x).holds w'/\Keep e.S w w'/\∀ q,(E' x).S q->(e.S q\/w.heap.size<=q)/\q<w'.heap.size))
  (h:∀ x,VD P n Q ks ops Hs B0 L fuel (listed.setIfInBounds i true) ((d,r x)::env) ((d,none)::A) (yx H k (E' x)) Bs):VD P n Q ks ops Hs B0 L (fuel+1) listed env A H Bs:=by
 simp only[Prod.mk.injEq]at hn
 subst hB
 obtain⟨h1,h2,h3,h4,h5,h6⟩:=hn
 refine fun hH hA w hI=>znD i hi hr h1 h2 (.inl (hm w hI)) ?_
 rintro _ w' ⟨x,rfl,hh,hk,hS⟩
 have hI':=hI.set h3 hk hh (hE x).1 (hE x).2 hS
 have hH':Has Hs (yx H k (E' x)):=hH.set h3 h6
 exact⟨(hI'.drop j).pick hH' h5,h x hH' (TgOk.none (hA.res h3 h4)) w' hI'⟩
theorem zo3 (i k j:Nat) {e e':HE} (hi:ops[i]?=some ⟨none,op,ty,ps,aft,g⟩) (hr:Region.ready .any ops listed=[i]) (hn:(gd ops env g,hget H k,ji H k,qu (Hs.map (·.1)),ql k (Hs.map (·.1)))=(some true,some e,none,true,true)) (hB:Bs.drop j=B0) (hl:e'.loc) (hz:∀ b,¬ e'.fz b)
  (hm:∀ w,VI Bs H w->xL P ⟨none,op,ty,ps,aft,g⟩ env w (fun w'=>e'.holds w'/\Keep e.S w w'/\∀ q,e'.S q->(e.S q\/w.heap.size<=q)/\q<w'.heap.size))
  (h:VD P n Q ks ops Hs B0 L fuel (listed.setIfInBounds i true) env A (yx H k e') Bs):VD P n Q ks ops Hs B0 L (fuel+1) listed env A H Bs:=by
 simp only[Prod.mk.injEq]at hn
 subst hB
 obtain⟨h1,h3,h4,h5,h6⟩:=hn
 refine fun hH hA w hI=>znF i hi hr h1 (hm w hI) ?_
 rintro w' ⟨hh,hk,hS⟩
 have hI':=hI.set h3 hk hh hl hz hS
 have hH':Has Hs (yx H k e'):=hH.set h3 h6
 exact⟨(hI'.drop j).pick hH' h5,h hH' (hA.res h3 h4) w' hI'⟩
end
end Go.GL
namespace Go.Proofs.YtckdhgbepmpgiaaGreat
open Go.GL
theorem zjR {nv k:Nat} (h:k<nv):(List.replicate k (-1:Int)++List.replicate (nv - k) 0).set k (-1)=List.replicate (k+1) (-1)++List.replicate (nv - (k+1)) 0:=by
 rw[zqY _ _ (by rw[zqu];exact zpi _),zqu,zro,show nv - k=(nv - (k+1))+1 by omega,zqV,List.set_cons_zero,List.replicate_succ',zq3]
 rfl
def jL (nv i:Nat):List (List Int):=List.replicate i (List.replicate nv (-1))
theorem zc2 (nv i:Nat):jL nv (i+1)=jL nv i++[List.replicate nv (-1)]:=List.replicate_succ'
theorem zhc (nv N:Nat):Shp (jL nv N) N nv:=⟨by simp[jL],fun r hr=>by rw[(List.mem_replicate.1 hr).2];simp⟩
theorem zf1 {nv N i:Nat} {v:Int}:bfV (jL nv N) i v=-1:=by
 unfold bfV jL
 rw[List.getElem?_replicate]
 split
 .
  rw[zrs,List.getElem?_replicate]
  split<;>rfl
 rfl
theorem js {w:World} {e:TypeId} {b n c i:Nat} {xs:List Value} {v:Value} (h:w.ownsRow 0 e 1 (.slice (some ⟨b,0,none⟩) n c) n xs) (hv:xs[i]?=some v):w.cell? ⟨b,0+(i:Int).toNat*1,none⟩=some v:=by
 have:=(jh h).2.2 i v hv
 simpa using this
def xPh (l:List Phn) (b v:Int):Int:=(zdp l v).getD b
theorem zdE {l:List Phn} {p:Phn} {v:Int} (h:p.var ≠ v):zdp (l++[p]) v=zdp l v:=by
 unfold zdp
 rw[List.find?_append,List.find?_cons_of_neg (by simpa using h),List.find?_nil,Option.or_none]
theorem zkx {x:Sn} {k:Nat} {p:Phn} {b v:Int} (hp:x.phis[k]?=some p) (h:p.var ≠ v):xPh (x.phis.take (k+1)) b v=xPh (x.phis.take k) b v:=by
 unfold xPh
 rw[zd hp,zdE h]
theorem zjS {x:Sn} (ha:x.phis.Pairwise fun p q=>p.var<q.var) {k:Nat} {p:Phn} {b v:Int} (hp:x.phis[k]?=some p) (h:p.var=v):xPh (x.phis.take (k+1)) b v=p.ver:=by
 have hm:p ∈ x.phis.take (k+1):=by rw[zd hp];simp
 have ht:(x.phis.take (k+1)).Pairwise fun p q=>p.var<q.var:=ha.sublist (List.take_sublist _ _)
 unfold xPh
 rw[<- h,zi9 ht hm];rfl
theorem zjT {g:List Nd} {s:Sf} {O:Nat->Int->Int} {n:Nat} {x:Sn} {v:Int} (hx:zg s n=x) (h0:n=0->x.phis=[]):xPh x.phis (if n=0 then v else qO ((yW g n).map fun y:Nat=>O y v)) v=eqV g s O n v:=by
 unfold xPh eqV zfn
 rw[hx]
 by_cases e:n=0
 . rw[zp4 e,zp4 e,h0 e];rfl
 rw[zp3 e,zp3 e]
 cases zdp x.phis v<;>rfl
theorem ziM (f:Fl) (g:List Nd) (s:Sf) (hk:GOk f g) (hF:FormF f g s (rdV f g)) (hz:ssize f.body<=10000) (hg1:1<=g.length) (hgl:g.length<=100000) (hvl:f.vars.length<=1000) (v1 v2 v3 gv ofv nodv:Value) (D:Nat->Prop) (W:World) (hf:RFl D W f v1 v2 v3) (hg:SlR 4 RNd D W gv g) (hS:RSf D W s ofv nodv) :
  Calls Tryz.prog 35 #[.agg #[v1,v2,v3],.agg #[gv],.agg #[ofv,nodv]] W (Ret fun r w'=>(∃ u1 u2 ins outs,r=.tuple #[u1,u2]/\Shp ins g.length f.vars.length/\Shp outs g.length f.vars.length/\SolV f g s f.vars.length (bfV ins)/\(∀ i,i<g.length->∀ v:Int,0<=v->v<(f.vars.length:Int)->bfV outs i v=yw f g s (bfV ins) i v)/\SlR 1 (RSl 1 yc) (fun q=>W.heap.size<=q) w' u1 ins/\SlR 1 (RSl 1 yc) (fun q=>W.heap.size<=q) w' u2 outs)/\Ext W w'):=by
 have hf0:=hf
 have hg0:=hg
 have hS0:=hS
 have hfv:=hf.vars
 have hnd:=hS.nodes
 obtain⟨ag,cg,rfl⟩:=hg.form
 obtain⟨an,cn,rfl⟩:=hnd.form
 obtain⟨a1,c1,rfl⟩:=hfv.form
 have hnm:=hnd.max
 have hgm:=hg.max
 have hlen:=hF.len
 have hnn:=hF.nn
 have hbl:g.length*(f.vars.length*2)<=100000*(1000*2):=Nat.mul_le_mul hgl (by omega)
 generalize hnv:f.vars.length=nv at *
 generalize hN:g.length=N at *
 refine zn3 Tryz.func35 O Tryz.ntmps35 O (znb ?_)
 refine Vs 2 O ?_
 refine V.box 3 O O (fun b3=>?_)
 refine V.box 4 O O (fun b4=>?_)
 refine V.box 5 O O (fun b5=>?_)
 refine Vs 6 O ?_
 refine zno 903 27 1 O ?_
 refine zno 905 27 1 O ?_
 refine zno 902 3 1 O ?_
 refine zog 902 (e':=RowsP zb 3 [] []) O (fun w hI=>RowsOk.nil) RowsP.loc (fun _ h=>h) (fun q hq=>by obtain⟨i,u,h,_⟩:=hq;simp at h) ?_
 refine zno 904 3 1 O ?_
 refine zog 904 (e':=RowsP zb 3 [] []) O (fun w hI=>RowsOk.nil) RowsP.loc (fun _ h=>h) (fun q hq=>by obtain⟨i,u,h,_⟩:=hq;simp at h) ?_
 refine Vs 8 O ?_
 refine znK (σ:=Nat × Value × Value × List Value × List Value) [3,4,5,22] [3,4,5] [3,4,5] O (fun e ⟨i,ui,uo,hi,ho⟩=>(23,.int .i64 i)::(6,ui)::(7,uo)::e) (fun e ⟨i,ui,uo,hi,ho⟩=>(903,.row 27 1 ui i hi)::(902,RowsP zb 3 hi (jL nv i))::(905,.row 27 1 uo i ho)::(904,RowsP zb 3 ho (jL nv i))::e) (fun⟨i,ui,uo,hi,ho⟩=>i<=N/\hi.length=i/\ho.length=i) (fun⟨i,ui,uo,hi,ho⟩=>N - i) ((0,.slice none 0 0,.slice none 0 0,[],[])) (Sub.of O) (Has.of O) (fun _=>rfl) (fun _=>rfl) (fun _=>rfl) (⟨zp8 _,rfl,rfl⟩) ?_
 rintro⟨i,ui,uo,hi,ho⟩ ⟨hiN,hhi,hho⟩
 show V _ _ _ _ _ ((23,.int .i64 i)::(6,ui)::(7,uo)::_) _ ((903,.row 27 1 ui i hi)::(902,RowsP zb 3 hi (jL nv i))::(905,.row 27 1 uo i ho)::(904,RowsP zb 3 ho (jL nv i))::_) _
 refine Vs 6 O ?_
 refine zld O (fun lt=>?_) (fun lt=>?_)
 .
  refine Vs 5 O ?_
  refine znL (σ:=Nat × Nat) [3,4,5,6,7,22,23] [3,4,5,902,903,904,905] [3,4,5] O (fun e ⟨b28,b32⟩=>(8,.slice (some ⟨b28,0,none⟩) nv nv)::(9,.slice (some ⟨b32,0,none⟩) nv nv)::e) (fun e ⟨b28,b32⟩=>(28,.row 3 1 (.slice (some ⟨b28,0,none⟩) nv nv) nv (List.replicate nv (Value.int .i64 0)))::(32,.row 3 1 (.slice (some ⟨b32,0,none⟩) nv nv) nv (List.replicate nv (Value.int .i64 0)))::e) (fun⟨b28,b32⟩=>True) (fun _=>rfl) (fun _=>rfl) ?_ ?_
  .
   refine Vw [3,4,5] [] O ?_
   refine Vd [0,1,2,4,5,6] 0 (by kernel_rfl) O O O ?_
   refine zol 3 7 28 32 0 tu27 Tryz.el3 tu27 Tryz.el3 O (by kernel_rfl) O O O O (⟨by omega,by omega,by omega,by omega⟩) ((by exact xD _ _ O:madeCells _ _=(List.replicate nv (Value.int .i64 0)).toArray)) ((by exact xD _ _ O:madeCells _ _=(List.replicate nv (Value.int .i64 0)).toArray)) (by simp) (fun b28=>?_) (fun b32=>?_)
   .
    refine Vd [8] 0 (by kernel_rfl) O O O ?_
    refine zm7 7 32 0 tu27 Tryz.el3 O (by kernel_rfl) O O (by omega) (by omega) ((by exact xD _ _ O:madeCells _ _=(List.replicate nv (Value.int .i64 0)).toArray)) (by simp) (fun b32=>?_)
    refine Vd [9] 0 (by kernel_rfl) O O O ?_
    refine VD.done (by kernel_rfl) ?_
    refine zlq (⟨b28,b32⟩) (Sub.of O) (Has.of O) (trivial) 0 O O
   refine zm7 3 28 0 tu27 Tryz.el3 O (by kernel_rfl) O O (by omega) (by omega) ((by exact xD _ _ O:madeCells _ _=(List.replicate nv (Value.int .i64 0)).toArray)) (by simp) (fun b28=>?_)
   refine Vd [8,9] 0 (by kernel_rfl) O O O ?_
   refine VD.done (by kernel_rfl) ?_
   refine zlq (⟨b28,b32⟩) (Sub.of O) (Has.of O) (trivial) 0 O O
  rintro⟨b28,b32⟩ _
  show V _ _ _ _ _ ((8,.slice (some ⟨b28,0,none⟩) nv nv)::(9,.slice (some ⟨b32,0,none⟩) nv nv)::_) _ ((28,.row 3 1 (.slice (some ⟨b28,0,none⟩) nv nv) nv (List.replicate nv (Value.int .i64 0)))::(32,.row 3 1 (.slice (some ⟨b32,0,none⟩) nv nv) nv (List.replicate nv (Value.int .i64 0)))::_) _
  refine Vs 9 O ?_
  refine znJ 28 O (e':=.row 3 1 (.slice (some ⟨b28,0,none⟩) nv nv) nv ((List.replicate 0 (-1)++List.replicate (nv - 0) 0).map zb)) (by simp[zb]) ?_
  refine znJ 32 O (e':=.row 3 1 (.slice (some ⟨b32,0,none⟩) nv nv) nv ((List.replicate 0 (-1)++List.replicate (nv - 0) 0).map zb)) (by simp[zb]) ?_
  refine Vs 1 O ?_
  refine znK (σ:=Nat) [3,4,5,6,7,8,9,22,23,34] [3,4,5,902,903,904,905] [3,4,5] O (fun e k=>(35,.int .i64 k)::e) (fun e k=>(28,.row 3 1 (.slice (some ⟨b28,0,none⟩) nv nv) nv ((List.replicate k (-1)++List.replicate (nv - k) 0).map zb))::(32,.row 3 1 (.slice (some ⟨b32,0,none⟩) nv nv) nv ((List.replicate k (-1)++List.replicate (nv - k) 0).map zb))::e) (fun k=>k<=nv) (fun k=>nv - k) (0) (Sub.of O) (Has.of O) (fun _=>rfl) (fun _=>rfl) (fun _=>rfl) (zp8 _) ?_
  rintro k hkk
  refine Vs 6 O ?_
  refine zld O (fun lk=>?_) (fun lk=>?_)
  .
   have hst:=zjR (show k<nv by omega)
   refine Va 16 O (by omega) ?_
   refine znu 28 (k) ts3 O (by omega) (by simp;omega) ?_
   refine Va 1 O (by omega) ?_
   refine znu 32 (k) ts3 O (by omega) (by simp;omega) ?_
   refine znJ 28 O (e':=.row 3 1 (.slice (some ⟨b28,0,none⟩) nv nv) nv ((List.replicate (k+1) (-1)++List.replicate (nv - (k+1)) 0).map zb)) (by rw[<- hst,zqC]) ?_
   refine znJ 32 O (e':=.row 3 1 (.slice (some ⟨b32,0,none⟩) nv nv) nv ((List.replicate (k+1) (-1)++List.replicate (nv - (k+1)) 0).map zb)) (by rw[<- hst,zqC]) ?_
   refine Va 7 O (by omega) ?_
   refine V.back (k+1) (Sub.of O) (Has.of O) (by omega) (by first | omega | (dsimp only;omega)) 0 O O
  obtain rfl:k=nv:=by omega
  refine znJ 28 O (e':=.row 3 1 (.slice (some ⟨b28,0,none⟩) k k) (List.replicate k (-1:Int)).length ((List.replicate k (-1:Int)).map zb)) (by rw[zro,zqW,zq4,zqu]) ?_
  refine znJ 32 O (e':=.row 3 1 (.slice (some ⟨b32,0,none⟩) k k) (List.replicate k (-1:Int)).length ((List.replicate k (-1:Int)).map zb)) (by rw[zro,zqW,zq4,zqu]) ?_
  refine Vs 8 O ?_
  refine V.bs 47 [(0,_)] tR89 ts27 tz27 (by decide) O O (by kernel_rfl) (fun b47=>?_)
  refine znp 903 47 tu89 Tryz.el27 O (by decide) O O (by omega) (by omega) (fun u903=>?_)
  refine Vs 2 O ?_
  refine V.bs 51 [(0,_)] tR89 ts27 tz27 (by decide) O O (by kernel_rfl) (fun b51=>?_)
  refine znp 905 51 tu89 Tryz.el27 O (by decide) O O (by omega) (by omega) (fun u905=>?_)
  refine Va 9 O (by omega) ?_
  refine zot 902 28 (e':=RowsP zb 3 (hi++[Value.slice (some ⟨b28,0,none⟩) k k]) (jL k (i+1))) [(3,some (3,0)),(4,some (4,0)),(5,some (5,0))] O O O (fun w hI=>(by rw[zc2];exact(show RowsOk _ _ _ _ _ from hI.at 902 O).add (hI.at 28 O) (fun g hg i v hv hvg=>hI.sep (k:=902) (k2:=28) O O (by decide) ⟨i,v,hv,hvg⟩ hg))) (RowsP.loc) (fun _ h=>h) (fun q (hq:∃ (i:Nat) (v:Value),(hi++[Value.slice (some ⟨b28,0,none⟩) k k])[i]?=some v/\v.ownBlock=some q)=>zgW hq) ?_
  refine zot 904 32 (e':=RowsP zb 3 (ho++[Value.slice (some ⟨b32,0,none⟩) k k]) (jL k (i+1))) [(3,some (3,0)),(4,some (4,0)),(5,some (5,0))] O O O (fun w hI=>(by rw[zc2];exact(show RowsOk _ _ _ _ _ from hI.at 904 O).add (hI.at 32 O) (fun g hg i v hv hvg=>hI.sep (k:=904) (k2:=32) O O (by decide) ⟨i,v,hv,hvg⟩ hg))) (RowsP.loc) (fun _ h=>h) (fun q (hq:∃ (i:Nat) (v:Value),(ho++[Value.slice (some ⟨b32,0,none⟩) k k])[i]?=some v/\v.ownBlock=some q)=>zgW hq) ?_
  refine V.back (⟨i+1,u903,u905,hi++[.slice (some ⟨b28,0,none⟩) k k],ho++[.slice (some ⟨b32,0,none⟩) k k]⟩) (Sub.of O) (Has.of O) (⟨by omega,by rw[zp1,hhi];rfl,by rw[zp1,hho];rfl⟩) (by first | omega | (dsimp only;omega)) 0 O O
 obtain rfl:i=N:=by omega
 have hsI:Shp (jL nv i) g.length nv:=by rw[hN];exact zhc nv i
 refine znr 903 O (by omega) ?_
 rintro oi ci rfl hcap_903
 refine znr 905 O (by omega) ?_
 rintro oo cu rfl hcap_905
 refine Vs 12 O ?_
 refine znK (σ:=Bool × List (List Int) × List (List Int)) [3,4,5,6,7] [3,4,5,903,905] [3,4,5] O (fun e ⟨ch,ri,ro⟩=>(11,.bool ch)::e) (fun e ⟨ch,ri,ro⟩=>(902,RowsP zb 3 hi ri)::(904,RowsP zb 3 ho ro)::e) (fun⟨ch,ri,ro⟩=>Shp ri g.length nv/\Shp ro g.length nv/\FlwV f g s nv (bfV ri) (bfV ro)/\(ch=false->SolV f g s nv (bfV ri)/\∀ j,j<g.length->∀ v:Int,0<=v->v<(nv:Int)->bfV ro j v=yw f g s (bfV ri) j v)) (fun⟨ch,ri,ro⟩=>(2*(g.length*(nv*2)) - (rkT ri+rkT ro))*2+ch.toNat) ((true,jL nv i,jL nv i)) (Sub.of O) (Has.of O) (fun _=>rfl) (fun _=>rfl) (fun _=>rfl) (⟨hsI,hsI,zo8 (fun _ _=>zf1) (fun _ _=>zf1),fun h=>by cases h⟩) ?_
 rintro⟨ch,ri,ro⟩ ⟨hsi,hso,hrun,hfin⟩
 show V _ _ _ _ _ ((11,.bool ch)::_) _ ((902,RowsP zb 3 hi ri)::(904,RowsP zb 3 ho ro)::_) _
 refine Vs 6 O ?_
 refine V.bool O (fun c1=>?_) (fun c1=>?_)
 .
  subst c1
  refine Vs 17 O ?_
  refine znK (σ:=Nat × Bool × List (List Int) × List (List Int)) [3,4,5,6,7,57] [3,4,5,903,905] [3,4,5] O (fun e ⟨n,c2,qi,qo⟩=>(58,.int .i64 n)::(11,.bool c2)::e) (fun e ⟨n,c2,qi,qo⟩=>(902,RowsP zb 3 hi qi)::(904,RowsP zb 3 ho qo)::e) (fun⟨n,c2,qi,qo⟩=>n<=i/\PasF f g s nv ri ro qi qo c2 (fun a u=>a<n/\u<nv)) (fun⟨n,c2,qi,qo⟩=>i - n) ((0,false,ri,ro)) (Sub.of O) (Has.of O) (fun _=>rfl) (fun _=>rfl) (fun _=>rfl) (⟨zp8 _,zo9 hsi hso hrun (fun a u h=>by omega)⟩) ?_
  rintro⟨n,c2,qi,qo⟩ ⟨hn,hps⟩
  show V _ _ _ _ _ ((58,.int .i64 n)::(11,.bool c2)::_) _ ((902,RowsP zb 3 hi qi)::(904,RowsP zb 3 ho qo)::_) _
  refine Vs 6 O ?_
  refine zld O (fun ln=>?_) (fun ln=>?_)
  .
   have hng:n<g.length:=by omega
   obtain⟨x,he_x⟩:∃ x,s.nodes[n]?=some x:=⟨_,zoT (by omega)⟩
   have hnod:=hF.nod n x he_x
   have hxn:zg s n=x:=yC he_x
   refine Vs 19 O ?_
   refine znK (σ:=Nat × Bool × List (List Int) × List (List Int)) [3,4,5,6,7,12,57,58,63] [3,4,5,903,905] [3,4,5] O (fun e ⟨v,c3,ti,to⟩=>(64,.int .i64 v)::(11,.bool c3)::e) (fun e ⟨v,c3,ti,to⟩=>(902,RowsP zb 3 hi ti)::(904,RowsP zb 3 ho to)::e) (fun⟨v,c3,ti,to⟩=>v<=nv/\PasF f g s nv ri ro ti to c3 (fun a u=>(a<n/\u<nv)\/(a=n/\u<v))) (fun⟨v,c3,ti,to⟩=>nv - v) ((0,c2,qi,qo)) (Sub.of O) (Has.of O) (fun _=>rfl) (fun _=>rfl) (fun _=>rfl) (⟨zp8 _,hps.imp (fun a u h=>by omega)⟩) ?_
   rintro⟨v,c3,ti,to⟩ ⟨hv0,hp3⟩
   show V _ _ _ _ _ ((64,.int .i64 v)::(11,.bool c3)::_) _ ((902,RowsP zb 3 hi ti)::(904,RowsP zb 3 ho to)::_) _
   refine Vs 6 O ?_
   refine zld O (fun lv=>?_) (fun lv=>?_)
   .
    have hto:to.length=i:=by have:=hp3.sho.len;omega
    have hti:ti.length=i:=by have:=hp3.shi.len;omega
    refine Vs 20 O ?_
    refine zny Tryz.call70 O (fun w hI=>za2 g (by omega) n _ D w (Tr1 hI.k0 hg0)) ?_
    rintro pr w1 w2 hI1 hk12 hpr hlow
    obtain⟨apr,cpr,rfl⟩:=hpr.form
    have hprm:=hpr.max
    have hprn:(qG g n).length=(yW g n).length:=by simp[qG]
    generalize hPI:qG g n=pI at *
    refine Vs 5 O ?_
    refine znK (σ:=Nat) [3,4,5,6,7,11,12,13,57,58,63,64,69,70] [3,4,5,902,903,904,905] [3,4,5] O (fun e j=>(71,.int .i64 j)::(14,.int .i64 (qO (((yW g n).take j).map fun y:Nat=>bfV to y v)))::e) (fun e j=>e) (fun j=>j<=pI.length) (fun j=>pI.length - j) (0) (Sub.of O) (Has.of O) (fun _=>rfl) (fun _=>rfl) (fun _=>rfl) (zp8 _) ?_
    rintro j hj
    refine Vs 6 O ?_
    refine zld O (fun lj=>?_) (fun lj=>?_)
    .
     refine Vs 6 O ?_
     obtain⟨y,he_y,hm_y⟩:=gE_ pI (j) (by omega)
     obtain⟨b_y,o_y,c_y,ha_y,hd_y,hc_y,hR_y⟩:=hpr.atD he_y
     obtain rfl:=hR_y
     refine znI 1000 0 O O (fun h_=>by have h1_:=hlow _ h_;have h2_:=hd_y;first | omega | exact h1_ h2_) hc_y ?_
     refine znk 1000 tR27 ts3 O ha_y (by omega) (_) (rfl) O ?_
     obtain⟨m,rfl,hm1,hm2⟩:=kG (show (qG g n)[j]?=some y by rw[hPI];exact he_y)
     have hnx:qO (((yW g n).take (j+1)).map fun y:Nat=>bfV to y v)=yX (qO (((yW g n).take j).map fun y:Nat=>bfV to y v)) (bfV to m v):=by rw[zd hm1,zqw,List.map_singleton,zdo]
     obtain⟨r,her,hrl⟩:=hp3.sho.at hm2
     obtain⟨o,heo⟩:∃ z,r[v]?=some z:=⟨_,zoT (by omega)⟩
     rw[zak her heo]at hnx
     obtain⟨hu,hru⟩:∃ z,ho[m]?=some z:=⟨_,zoT (by omega)⟩
     refine znd (p:=∃ ao ch,hu=.slice ao r.length ch/\(0<r.length->∃ g,ao=some ⟨g,0,none⟩)) (fun w hI=>kH (show RowsOk _ _ _ _ _ from hI.at 904 O) hru her) (fun hhd=>?_)
     obtain⟨ao,cu2,rfl,hhd'⟩:=hhd
     obtain⟨gu,rfl⟩:=hhd' (by omega)
     generalize qO (((yW g n).take j).map fun y:Nat=>bfV to y v)=ac at *
     refine Vs 4 O ?_
     refine znL (σ:=Unit) [3,4,5,6,7,11,12,13,57,58,63,64,69,70,71] [3,4,5,902,903,904,905] [3,4,5] O (fun e u=>(14,.int .i64 (yX ac o))::e) (fun e u=>e) (fun u=>True) (fun _=>rfl) (fun _=>rfl) ?_ ?_
     .
      refine Va 6 O (by omega) ?_
      refine znt 905 (m) tg27 O (by omega) (hru) ?_
      refine Vs 1 O ?_
      refine zmS O (fun w hI=>zlO tR27 ts3 O O O (by omega)) ?_
      refine zmS O (fun w hI=>R.load tg3 O (xS (hI.at 904 O) hru her heo)) ?_
      refine Vs 2 O ?_
      refine V.sp 84 O (fun e1=>?_) (fun e1=>?_)
      .
       refine Vs 16 O ?_
       refine zlq (()) (Sub.cons (by unfold yX;rw[zp4 (.inl e1)];rfl) (Sub.of O)) (Has.of O) (True.intro) 0 O O
      refine Va 3 O (by omega) ?_
      refine znt 905 (m) tg27 O (by omega) (hru) ?_
      refine Vs 1 O ?_
      refine zmS O (fun w hI=>zlO tR27 ts3 O O O (by omega)) ?_
      refine zmS O (fun w hI=>R.load tg3 O (xS (hI.at 904 O) hru her heo)) ?_
      refine Vs 6 O ?_
      refine zld O (fun e2=>?_) (fun e2=>?_)
      .
       refine Vs 2 O ?_
       refine zlq (()) (Sub.cons (by unfold yX;rw[zp4 (.inr e2)];rfl) (Sub.of O)) (Has.of O) (True.intro) 0 O O
      refine Vs 7 O ?_
      refine zld O (fun e3=>?_) (fun e3=>?_)
      .
       refine Va 4 O (by omega) ?_
       refine znt 905 (m) tg27 O (by omega) (hru) ?_
       refine Vs 1 O ?_
       refine zmS O (fun w hI=>zlO tR27 ts3 O O O (by omega)) ?_
       refine zmS O (fun w hI=>R.load tg3 O (xS (hI.at 904 O) hru her heo)) ?_
       refine Vs 3 O ?_
       refine zlq (()) (Sub.cons (by unfold yX;rw[zp3 (fun h=>h.elim e1 e2),zp4 e3];rfl) (Sub.of O)) (Has.of O) (True.intro) 0 O O
      refine Vs 4 O ?_
      refine zlq (()) (Sub.cons (by unfold yX;rw[zp3 (fun h=>h.elim e1 e2),zp3 e3];rfl) (Sub.of O)) (Has.of O) (True.intro) 0 O O
     rintro u -
     refine Va 6 O (by omega) ?_
     refine V.back (j+1) (Sub.cons (rfl) (Sub.cons (by rw[hnx];rfl) (Sub.of O))) (Has.of O) (by omega) (by omega) 0 O O
    obtain rfl:j=pI.length:=by omega
    have hmt:((yW g n).take pI.length)=yW g n:=zr7 (by omega)
    have hend:=zjT (g:=g) (O:=bfV to) (v:=(v:Int)) hxn (fun e=>hnod.phi.zero e)
    generalize hbs:(if n=0 then (v:Int) else qO ((yW g n).map fun y:Nat=>bfV to y v))=bs at hend
    refine Vs 6 O ?_
    refine znL (σ:=Unit) [3,4,5,6,7,11,12,13,57,58,63,64] [3,4,5,902,903,904,905] [3,4,5] O (fun e u=>(14,.int .i64 bs)::e) (fun e u=>e) (fun u=>True) (fun _=>rfl) (fun _=>rfl) ?_ ?_
    .
     refine Vs 6 O ?_
     refine zld O (fun z0=>?_) (fun z0=>?_)
     .
      refine Vs 4 O ?_
      refine zlq (()) (Sub.cons (by rw[<- hbs,zp4 (by omega)];rfl) (Sub.of O)) (Has.of O) (True.intro) 0 O O
     refine Vs 1 O ?_
     refine zlq (()) (Sub.cons (by rw[<- hbs,zp3 (by omega),hmt];rfl) (Sub.of O)) (Has.of O) (True.intro) 0 O O
    rintro u -
    refine Vs 7 O ?_
    obtain⟨x2,he_x2,hm_x2⟩:=gE_ s.nodes (n) (by omega)
    obtain⟨b_x2,o_x2,c_x2,ha_x2,_,hc_x2,hR_x2⟩:=hnd.at he_x2
    obtain⟨v1_x2,v2_x2,rfl,hp_x2,hu_x2⟩:=hR_x2
    obtain⟨a1_x2,n1_x2,rfl⟩:=hp_x2.form
    obtain⟨a2_x2,n2_x2,rfl⟩:=hu_x2.form
    refine znH 2000 1 O O hc_x2 ?_
    refine znk 2000 tR28 ts59 O ha_x2 (by omega) (_) (rfl) O ?_
    obtain rfl:x2=x:=Option.some.inj (he_x2.symm.trans he_x)
    have hpm:=hp_x2.max
    refine Vs 7 O ?_
    refine znK (σ:=Nat) [3,4,5,6,7,11,12,13,57,58,63,64,114,115] [3,4,5,902,903,904,905] [3,4,5] O (fun e k=>(116,.int .i64 k)::(14,.int .i64 (xPh (x2.phis.take k) bs v))::e) (fun e k=>e) (fun k=>k<=x2.phis.length) (fun k=>x2.phis.length - k) (0) (Sub.of O) (Has.of O) (fun _=>rfl) (fun _=>rfl) (fun _=>rfl) (zp8 _) ?_
    rintro k hkk
    refine Vs 6 O ?_
    refine zld O (fun lk=>?_) (fun lk=>?_)
    .
     refine Vs 6 O ?_
     obtain⟨p,he_p,hm_p⟩:=gE_ x2.phis (k) (by omega)
     obtain⟨b_p,o_p,c_p,ha_p,_,hc_p,hR_p⟩:=hp_x2.at he_p
     obtain⟨v1_p,v2_p,rfl,hf_p,hg_p⟩:=hR_p
     obtain⟨a1_p,n1_p,rfl⟩:=hf_p.form
     obtain⟨a2_p,n2_p,rfl⟩:=hg_p.form
     refine znH 3000 1 O O hc_p ?_
     refine znk 3000 tR56 ts88 O ha_p (by omega) (_) (rfl) O ?_
     refine Vs 1 O ?_
     refine V.alloc 18 tz88 O O (fun b18=>?_)
     refine Vs 11 O ?_
     refine zld O (fun e1=>?_) (fun e1=>?_)
     .
      refine Va 11 O (by omega) ?_
      refine V.back (k+1) (Sub.cons (rfl) (Sub.cons (by rw[zjS hnod.phi.asc he_p e1];rfl) (Sub.of O))) (Has.of O) (by omega) (by omega) 0 O O
     refine Va 7 O (by omega) ?_
     refine V.back (k+1) (Sub.cons (rfl) (Sub.cons (by rw[zkx he_p e1];rfl) (Sub.of O))) (Has.of O) (by omega) (by omega) 0 O O
    obtain rfl:k=x2.phis.length:=by omega
    generalize hev:eqV g s (bfV to) n v=ex at hend
    refine V.eq 14 (v:=.int .i64 ex) O (by rw[zoY,hend]) ?_
    obtain⟨r1,her1,hrl1⟩:=hp3.shi.at hng
    obtain⟨o1,heo1⟩:∃ z,r1[v]?=some z:=⟨_,zoT (by omega)⟩
    obtain⟨r2,her2,hrl2⟩:=hp3.sho.at hng
    obtain⟨o2,heo2⟩:∃ z,r2[v]?=some z:=⟨_,zoT (by omega)⟩
    have hb1:=zak her1 heo1
    have hb2:=zak her2 heo2
    obtain⟨hu1,hru1⟩:∃ z,hi[n]?=some z:=⟨_,zoT (by omega)⟩
    refine znd (p:=∃ ao ch,hu1=.slice ao r1.length ch/\(0<r1.length->∃ g,ao=some ⟨g,0,none⟩)) (fun w hI=>kH (show RowsOk _ _ _ _ _ from hI.at 902 O) hru1 her1) (fun hd1=>?_)
    obtain⟨ao1,cu1,rfl,hd1'⟩:=hd1
    obtain⟨gu1,rfl⟩:=hd1' (by omega)
    obtain⟨hu2,hru2⟩:∃ z,ho[n]?=some z:=⟨_,zoT (by omega)⟩
    refine znd (p:=∃ ao ch,hu2=.slice ao r2.length ch/\(0<r2.length->∃ g,ao=some ⟨g,0,none⟩)) (fun w hI=>kH (show RowsOk _ _ _ _ _ from hI.at 904 O) hru2 her2) (fun hd2=>?_)
    obtain⟨ao2,cu2,rfl,hd2'⟩:=hd2
    obtain⟨gu2,rfl⟩:=hd2' (by omega)
    have hst:o1=-2 -> -2=ex:=fun e=>by
     have:=hp3.run.stay hng (v:=(v:Int)) (by omega) (by omega)
     rw[hb1,zp4 e,hev]at this
     exact this
    refine Vs 6 O ?_
    refine znL (σ:=Unit) [3,4,5,6,7,11,12,13,57,58,63,64] [3,4,5,902,903,904,905] [3,4,5] O (fun e u=>(14,.int .i64 ex)::e) (fun e u=>e) (fun u=>True) (fun _=>rfl) (fun _=>rfl) ?_ ?_
    .
     refine Va 5 O (by omega) ?_
     refine znt 903 (n) tg27 O (by omega) (hru1) ?_
     refine Vs 1 O ?_
     refine zmS O (fun w hI=>zlO tR27 ts3 O O O (by omega)) ?_
     refine zmS O (fun w hI=>R.load tg3 O (xS (hI.at 902 O) hru1 her1 heo1)) ?_
     refine Vs 3 O ?_
     refine zld O (fun e1=>?_) (fun e1=>?_)
     .
      refine Vs 3 O ?_
      refine zlq (()) (Sub.cons (by rw[<- hst e1];rfl) (Sub.of O)) (Has.of O) (True.intro) 0 O O
     refine Vs 1 O ?_
     refine zlq (()) (Sub.of O) (Has.of O) (True.intro) 0 O O
    rintro u -
    generalize hyv:(if xA f g n=(v:Int) then x2.dfn else ex)=yv
    refine Vs 8 O ?_
    refine znL (σ:=Unit) [3,4,5,6,7,11,12,13,14,57,58,63,64] [3,4,5,902,903,904,905] [3,4,5] O (fun e u=>(19,.int .i64 yv)::e) (fun e u=>e) (fun u=>True) (fun _=>rfl) (fun _=>rfl) ?_ ?_
    .
     refine Vs 5 O ?_
     refine znw Tryz.call23 O (fun w hI=>zbo f g hk hz n hng _ _ _ _ D D w (Tr1 hI.k1 hf0) (Tr1 hI.k1 hg0)) ?_
     refine Vs 4 O ?_
     refine zld O (fun d=>?_) (fun d=>?_)
     .
      refine Vs 4 O ?_
      obtain⟨x3,he_x3,hm_x3⟩:=gE_ s.nodes (n) (by omega)
      obtain⟨b_x3,o_x3,c_x3,ha_x3,_,hc_x3,hR_x3⟩:=hnd.at he_x3
      obtain⟨v1_x3,v2_x3,rfl,hp_x3,hu_x3⟩:=hR_x3
      obtain⟨a1_x3,n1_x3,rfl⟩:=hp_x3.form
      obtain⟨a2_x3,n2_x3,rfl⟩:=hu_x3.form
      refine znH 4000 1 O O hc_x3 ?_
      refine znk 4000 tR28 ts59 O ha_x3 (by omega) (_) (rfl) O ?_
      obtain rfl:x3=x2:=Option.some.inj (he_x3.symm.trans he_x2)
      refine Vs 4 O ?_
      refine zlq (()) (Sub.cons (by rw[<- hyv,zp4 d];rfl) (Sub.of O)) (Has.of O) (True.intro) 0 O O
     refine Vs 1 O ?_
     refine zlq (()) (Sub.cons (by rw[<- hyv,zp3 d];rfl) (Sub.of O)) (Has.of O) (True.intro) 0 O O
    rintro u -
    refine Vs 1 O ?_
    refine znL (σ:=Bool × List (List Int) × List (List Int)) [3,4,5,6,7,12,57,58,63,64] [3,4,5,903,905] [3,4,5] O (fun e ⟨c3,ti,to⟩=>(11,.bool c3)::e) (fun e ⟨c3,ti,to⟩=>(902,RowsP zb 3 hi ti)::(904,RowsP zb 3 ho to)::e) (fun⟨c3,ti,to⟩=>PasF f g s nv ri ro ti to c3 (fun a u=>(a<n/\u<nv)\/(a=n/\u<v+1))) (fun _=>rfl) (fun _=>rfl) ?_ ?_
    .
     refine Va 5 O (by omega) ?_
     refine znt 903 (n) tg27 O (by omega) (hru1) ?_
     refine Vs 1 O ?_
     refine zmS O (fun w hI=>zlO tR27 ts3 O O O (by omega)) ?_
     refine zmS O (fun w hI=>R.load tg3 O (xS (hI.at 902 O) hru1 her1 heo1)) ?_
     refine Vs 3 O ?_
     refine V.sp 157 O (fun m1=>?_) (fun m1=>?_)
     .
      have yx:PasF f g s nv ri ro (jA ti n v ex) (jA to n v yv) true (fun a u=>(a<n/\u<nv)\/(a=n/\u<v+1)):=by
       have:=hp3.set (dn':=fun a u=>(a<n/\u<nv)\/(a=n/\u<v+1)) hnn hng (v:=v) (by omega) (by rw[hb1,hb2,hev,hxn,hyv];exact fun h=>m1 h.1)
       rw[hev,hxn,hyv]at this
       exact this
      refine Vs 13 O ?_
      refine Vw [3,4,5,903,905] [13,15] O ?_
      refine Vb [0,1,2,4,5,6,7,9,10,11] 0 (by kernel_rfl) O O O (by omega) ?_
      refine zoh 3 O (by kernel_rfl) O 0 O O (fun w hI=>R.load tg27 O (js (hI.at 903 O) hru1)) ?_
      refine zoh 8 O (by kernel_rfl) O 0 O O (fun w hI=>R.load tg27 O (js (hI.at 905 O) hru2)) ?_
      refine znQ 12 O (by kernel_rfl) O (fun w=>zlO tR27 ts3 O O O (by omega)) ?_
      refine zo3 13 902 0 (e':=RowsP zb 3 hi (ti.set n (r1.set v ex))) O (by kernel_rfl) O O (RowsP.loc) (fun _ h=>h) (fun w hI=>zox ts3 (hI.at 902 O) hru1 her1 (by omega) O O O) ?_
      refine znQ 14 O (by kernel_rfl) O (fun w=>zlO tR27 ts3 O O O (by omega)) ?_
      refine zo3 15 904 0 (e':=RowsP zb 3 ho (to.set n (r2.set v yv))) O (by kernel_rfl) O O (RowsP.loc) (fun _ h=>h) (fun w hI=>zox ts3 (hI.at 904 O) hru2 her2 (by omega) O O O) ?_
      refine Vd [16] 0 (by kernel_rfl) O O O ?_
      refine VD.done (by kernel_rfl) ?_
      refine znJ 902 O (e':=RowsP zb 3 hi (jA ti n v ex)) (by unfold jA;rw[her1];rfl) ?_
      refine znJ 904 O (e':=RowsP zb 3 ho (jA to n v yv)) (by unfold jA;rw[her2];rfl) ?_
      refine zlq ((true,jA ti n v ex,jA to n v yv)) (Sub.of O) (Has.of O) (yx) 0 O O
     refine Va 3 O (by omega) ?_
     refine znt 905 (n) tg27 O (by omega) (hru2) ?_
     refine Vs 1 O ?_
     refine zmS O (fun w hI=>zlO tR27 ts3 O O O (by omega)) ?_
     refine zmS O (fun w hI=>R.load tg3 O (xS (hI.at 904 O) hru2 her2 heo2)) ?_
     refine Vs 5 O ?_
     refine zld O (fun m2=>?_) (fun m2=>?_)
     .
      have yx:PasF f g s nv ri ro (jA ti n v ex) (jA to n v yv) true (fun a u=>(a<n/\u<nv)\/(a=n/\u<v+1)):=by
       have:=hp3.set (dn':=fun a u=>(a<n/\u<nv)\/(a=n/\u<v+1)) hnn hng (v:=v) (by omega) (by rw[hb1,hb2,hev,hxn,hyv];exact fun h=>m2 h.2)
       rw[hev,hxn,hyv]at this
       exact this
      refine Vw [3,4,5,903,905] [13,15] O ?_
      refine Vb [0,1,2,4,5,6,7,9,10,11] 0 (by kernel_rfl) O O O (by omega) ?_
      refine zoh 3 O (by kernel_rfl) O 0 O O (fun w hI=>R.load tg27 O (js (hI.at 903 O) hru1)) ?_
      refine zoh 8 O (by kernel_rfl) O 0 O O (fun w hI=>R.load tg27 O (js (hI.at 905 O) hru2)) ?_
      refine znQ 12 O (by kernel_rfl) O (fun w=>zlO tR27 ts3 O O O (by omega)) ?_
      refine zo3 13 902 0 (e':=RowsP zb 3 hi (ti.set n (r1.set v ex))) O (by kernel_rfl) O O (RowsP.loc) (fun _ h=>h) (fun w hI=>zox ts3 (hI.at 902 O) hru1 her1 (by omega) O O O) ?_
      refine znQ 14 O (by kernel_rfl) O (fun w=>zlO tR27 ts3 O O O (by omega)) ?_
      refine zo3 15 904 0 (e':=RowsP zb 3 ho (to.set n (r2.set v yv))) O (by kernel_rfl) O O (RowsP.loc) (fun _ h=>h) (fun w hI=>zox ts3 (hI.at 904 O) hru2 her2 (by omega) O O O) ?_
      refine Vd [16] 0 (by kernel_rfl) O O O ?_
      refine VD.done (by kernel_rfl) ?_
      refine znJ 902 O (e':=RowsP zb 3 hi (jA ti n v ex)) (by unfold jA;rw[her1];rfl) ?_
      refine znJ 904 O (e':=RowsP zb 3 ho (jA to n v yv)) (by unfold jA;rw[her2];rfl) ?_
      refine zlq ((true,jA ti n v ex,jA to n v yv)) (Sub.of O) (Has.of O) (yx) 0 O O
     have hsk:PasF f g s nv ri ro ti to c3 (fun a u=>(a<n/\u<nv)\/(a=n/\u<v+1)):=hp3.skip (i:=n) (v:=v) (by rw[hb1,hev];omega) (by rw[hb2,hev,hxn,hyv];omega) (fun a u h=>by omega)
     refine Vs 1 O ?_
     refine zlq ((c3,ti,to)) (Sub.of O) (Has.of O) (hsk) 0 O O
    rintro⟨c3,ti,to⟩ hp4
    show V _ _ _ _ _ ((11,.bool c3)::_) _ ((902,RowsP zb 3 hi ti)::(904,RowsP zb 3 ho to)::_) _
    refine Va 6 O (by omega) ?_
    refine V.back (⟨v+1,c3,ti,to⟩) (Sub.of O) (Has.of O) (⟨by omega,hp4⟩) (by first | omega | (dsimp only;omega)) 1 O O
   refine Va 10 O (by omega) ?_
   refine V.back (⟨n+1,c3,ti,to⟩) (Sub.of O) (Has.of O) (⟨by omega,hp3.imp (fun a u h=>by omega)⟩) (by first | omega | (dsimp only;omega)) 0 O O
  have hms:(2*(g.length*(nv*2)) - (rkT qi+rkT qo))*2+c2.toNat<(2*(g.length*(nv*2)) - (rkT ri+rkT ro))*2+true.toNat:=by
   have h1:=zjL hps.shi
   have h2:=zjL hps.sho
   cases c2 with
   | true=>have:=hps.yes rfl;simp only[zpK];omega
   | false=>obtain⟨⟨e1,e2⟩,_⟩:=hps.no rfl;rw[e1,e2];simp only[zpK,Bool.toNat_false];omega
  have hsolN:c2=false->SolV f g s nv (bfV qi)/\∀ j,j<g.length->∀ v:Int,0<=v->v<(nv:Int)->bfV qo j v=yw f g s (bfV qi) j v:=fun e=>by
   subst e
   exact hps.done (fun a u h1 h2=>by omega)
  refine Vs 5 O ?_
  refine V.back (⟨c2,qi,qo⟩) (Sub.of O) (Has.of O) (⟨hps.shi,hps.sho,hps.run,hsolN⟩) (by first | omega | (dsimp only;omega)) 0 O O
 subst c1
 obtain⟨hsol,hout⟩:=hfin rfl
 have hril:ri.length=i:=by have:=hsi.len;omega
 have hrol:ro.length=i:=by have:=hso.len;omega
 rw[hN]at hsi hso hout
 refine Vs 14 O ?_
 refine zlw Tryz.results35 O O (fun w hI=>⟨_,rfl,⟨_,_,ri,ro,rfl,hsi,hso,hsol,hout,zbr (show w.ownsRow 0 _ 1 _ _ _ from hril ▸ hI.at 903 O) (hI.at 902 O) (fun g hg=>hI.own 903 0 O O g hg) (fun k u g h1 h2=>hI.own 902 0 O O g ⟨k,u,h1,h2⟩),zbr (show w.ownsRow 0 _ 1 _ _ _ from hrol ▸ hI.at 905 O) (hI.at 904 O) (fun g hg=>hI.own 905 0 O O g hg) (fun k u g h1 h2=>hI.own 904 0 O O g ⟨k,u,h1,h2⟩)⟩,hI.k0⟩)
theorem zhd {l:List Int} {x:Int} {k:Nat} (h:l[k]?=some x) (hn:x ∉ l.take k):l.idxOf x=k:=by
 induction l generalizing k with
 | nil=>simp at h
 | cons y l ih =>
  cases k with
  | zero=>simp at h;subst h;simp
  | succ k =>
   rw[List.take_succ_cons,zp9]at hn
   have hne:(y == x)=false:=by simpa using fun e:y=x=>hn (.inl e.symm)
   rw[List.idxOf_cons,hne,cond_false,ih (by simpa using h) (fun e=>hn (.inr e))]
theorem zfC (l:List Int) (x:Int) (v:Value) (D:Nat->Prop) (W:World) (hv:SlR 1 yc D W v l) (hx:x ∈ l):Calls Tryz.prog 91 #[v,.int .i64 x] W (Ret fun r w'=>r=.int .i64 ((l.idxOf x:Nat):Int)/\Ext W w'):=by
 obtain⟨av,cv,rfl⟩:=hv.form
 have hmx:=hv.max
 refine zn2 Tryz.func91 O Tryz.ntmps91 O (znb ?_)
 refine Vs 14 O ?_
 refine znK (σ:=Nat) [0,1,7] [] [] O (fun e k=>(8,.int .i64 k)::e) (fun e k=>e) (fun k=>k<=l.length/\x ∉ l.take k) (fun k=>l.length - k) (0) (Sub.of O) (Has.of O) (fun _=>rfl) (fun _=>rfl) (fun _=>rfl) (⟨zp8 _,by simp⟩) ?_
 rintro k ⟨hk,hn⟩
 refine Vs 6 O ?_
 refine zld O (fun hlt=>?_) (fun hlt=>?_)
 .
  refine Vs 15 O ?_
  obtain⟨y,he_y,hm_y⟩:=gE_ l (k) (by omega)
  obtain⟨b_y,o_y,c_y,ha_y,_,hc_y,hR_y⟩:=hv.at he_y
  obtain rfl:=hR_y
  refine znH 1000 0 O O hc_y ?_
  refine znk 1000 tR27 ts3 O ha_y (by omega) (_) (rfl) O ?_
  refine Vs 4 O ?_
  refine zld O (fun he=>?_) (fun he=>?_)
  .
   refine Vs 12 O ?_
   refine zlt Tryz.results91 O (fun w hI=>⟨_,rfl,by rw[zhd (he ▸ he_y) hn],hI.k0⟩)
  refine Va 7 O (by omega) ?_
  refine V.back (k+1) (Sub.of O) (Has.of O) (⟨by omega,fun h=>((qr he_y).1 h).elim hn he⟩) (by first | omega | (dsimp only;omega)) 0 O O
 have:k=l.length:=by omega
 subst this
 rw[zoY]at hn
 exact absurd hx hn
noncomputable def phV (f:Fl) (g:List Nd) (s:Sf) (y:Nat) (vl:List Int) (p:Phn):Int:=lki vl (kZ f g s y p.var).toNat
noncomputable def qJ (f:Fl) (g:List Nd) (s:Sf) (y:Nat) (vl:List Int) (l:List Phn):List Int:=l.foldl (fun t p=>t.set p.ver.toNat (phV f g s y vl p)) vl
theorem zfD {f:Fl} {g:List Nd} {s:Sf} {y:Nat} {vl:List Int} {l:List Phn} {i:Nat} {p:Phn} (h:l[i]?=some p):qJ f g s y vl (l.take (i+1))=(qJ f g s y vl (l.take i)).set p.ver.toNat (phV f g s y vl p):=by
 unfold qJ
 rw[zd h,zqn];rfl
theorem zbu {f:Fl} {g:List Nd} {s:Sf} {y:Nat} {vl:List Int} (l:List Phn):(qJ f g s y vl l).length=vl.length:=by
 unfold qJ
 suffices ∀ t:List Int,(l.foldl (fun t p=>t.set p.ver.toNat (phV f g s y vl p)) t).length=t.length from this vl
 induction l with
 | nil=>intro t;rfl
 | cons p l ih=>intro t;rw[zqo,ih,zqv]
theorem ziN (f:Fl) (g:List Nd) (s:Sf) (hR:RightF f g s (rdV f g)) (n:Nat) (hn:n<g.length) (y:Nat) (hy:(zg s n).phis ≠ []->y ∈ yW g n) (_:g.length<=100000) (hpl:(zg s n).phis.length<=1000000) (vl:List Int) (hvll:vl.length=s.of_.length) (_:vl.length<=1000000) (b gb bv cv:Nat) (ofv nodv hv rv ov tv:Value) (D:Nat->Prop) (W:World) (hc:Cells W b 0 (rnr gb ofv nodv (.slice (some ⟨bv,0,none⟩) vl.length cv) hv rv ov tv)) (hS:RSf D W s ofv nodv) (hown:(xB (.slice (some ⟨bv,0,none⟩) vl.length cv) vl).holds W) (hap:∀ q,D q->bv ≠ q) (hapb:bv ≠ b) :
  Calls Tryz.prog 47 #[.pointer (some ⟨b,0,none⟩),.int .i64 y,.int .i64 n] W (Ret fun r w'=>∃ _x:Unit,r=.tuple #[]/\(xB (.slice (some ⟨bv,0,none⟩) vl.length cv) (qJ f g s y vl (zg s n).phis)).holds w'/\Keep (xB (.slice (some ⟨bv,0,none⟩) vl.length cv) vl).S W w'/\∀ q,(xB (.slice (some ⟨bv,0,none⟩) vl.length cv) (qJ f g s y vl (zg s n).phis)).S q->((xB (.slice (some ⟨bv,0,none⟩) vl.length cv) vl).S q\/W.heap.size<=q)/\q<w'.heap.size):=by
 have hnd:=hS.nodes
 obtain⟨an,cn,rfl⟩:=hnd.form
 have hnm:=hnd.max
 have hlen:=hR.len
 obtain⟨x,he_x⟩:∃ x,s.nodes[n]?=some x:=⟨_,zoT (by omega)⟩
 have hnod:=hR.nod n x he_x
 have hxn:zg s n=x:=yC he_x
 rw[hxn]at hpl hy ⊢
 have haS:∀ q,(xB (.slice (some ⟨bv,0,none⟩) vl.length cv) vl).S q->¬ D q:=fun q h hd=>hap q hd (by cases h;rfl)
 have hver:∀ p ∈ x.phis,∃ q:Nat,p.ver=(q:Int)/\q<vl.length:=fun p hp=>by
  obtain⟨q,h1,h2⟩:=xR (hnod.phi.ver p hp)
  exact⟨q,h1,by omega⟩
 refine zn3 Tryz.func47 O Tryz.ntmps47 O (zof 900 (.row 3 1 (.slice (some ⟨bv,0,none⟩) vl.length cv) vl.length (vl.map zb)) (hown) trivial (fun _ h=>h) (fun q hq=>qj hown hq) ?_)
 refine znI 901 0 O O (fun h=>hapb (by cases h;rfl)) hc ?_
 refine zni 0 901 0 O O ?_
 refine Vs 8 O ?_
 obtain⟨x2,he_x2,hm_x2⟩:=gE_ s.nodes (n) (by omega)
 obtain⟨b_x2,o_x2,c_x2,ha_x2,hd_x2,hc_x2,hR_x2⟩:=hnd.atD he_x2
 obtain⟨v1_x2,v2_x2,rfl,hp_x2,hu_x2⟩:=hR_x2
 obtain⟨a1_x2,n1_x2,rfl⟩:=hp_x2.form
 obtain⟨a2_x2,n2_x2,rfl⟩:=hu_x2.form
 refine znI 1000 0 O O (fun h_=>by have h1_:=haS _ h_;have h2_:=hd_x2;first | omega | exact h1_ h2_) hc_x2 ?_
 refine znk 1000 tR28 ts59 O ha_x2 (by omega) (_) (rfl) O ?_
 obtain rfl:x2=x:=Option.some.inj (he_x2.symm.trans he_x)
 refine Vs 9 O ?_
 refine zm6 23 tu27 Tryz.el3 O (by omega) (by omega) (zs:=List.replicate x2.phis.length (.int .i64 0)) (xD _ _ O) (by simp) (fun b23=>?_)
 generalize hm:x2.phis.length=m at *
 have hpm2:=hp_x2.max
 refine Vs 11 O ?_
 refine znJ 23 O (e':=.row 3 1 (.slice (some ⟨b23,0,none⟩) m m) m (((x2.phis.take 0).map (phV f g s y vl)++List.replicate (m - 0) 0).map zb)) (by simp[zb]) ?_
 refine Vs 1 O ?_
 refine znK (σ:=Nat) [0,1,6,7,24,25] [901] [0] O (fun e i=>(26,.int .i64 i)::e) (fun e i=>(23,.row 3 1 (.slice (some ⟨b23,0,none⟩) m m) m (((x2.phis.take i).map (phV f g s y vl)++List.replicate (m - i) 0).map zb))::(900,.row 3 1 (.slice (some ⟨bv,0,none⟩) vl.length cv) vl.length (vl.map zb))::e) (fun i=>i<=m) (fun i=>m - i) (0) (Sub.of O) (Has.of O) (fun _=>rfl) (fun _=>rfl) (fun _=>rfl) (zp8 _) ?_
 rintro i hi
 refine Vs 6 O ?_
 refine zld O (fun li=>?_) (fun li=>?_)
 .
  refine Vs 7 O ?_
  obtain⟨p,he_p,hm_p⟩:=gE_ x2.phis (i) (by omega)
  obtain⟨b_p,o_p,c_p,ha_p,hd_p,hc_p,hR_p⟩:=hp_x2.atD he_p
  obtain⟨v1_p,v2_p,rfl,hf_p,hg_p⟩:=hR_p
  obtain⟨a1_p,n1_p,rfl⟩:=hf_p.form
  obtain⟨a2_p,n2_p,rfl⟩:=hg_p.form
  refine znI 2000 0 O O (fun h_=>by have h1_:=haS _ h_;have h2_:=hd_p;first | omega | exact h1_ h2_) hc_p ?_
  refine znk 2000 tR56 ts88 O ha_p (by omega) (_) (rfl) O ?_
  have hfr:=hnod.phi.frm p hm_p
  have hal:=hnod.phi.len p hm_p
  have hmem:(y:Int) ∈ p.frm:=by rw[hfr];exact zqI.2 ⟨y,hy (fun e=>by rw[e]at hm_p;cases hm_p),rfl⟩
  generalize hj:p.frm.idxOf (y:Int)=j
  have hjl:j<p.frm.length:=by rw[<- hj];exact List.idxOf_lt_length_iff.2 hmem
  obtain⟨a,he_a,hm_a⟩:=gE_ p.args (j) (by omega)
  obtain⟨b_a,o_a,c_a,ha_a,hd_a,hc_a,hR_a⟩:=hg_p.atD he_a
  obtain rfl:=hR_a
  refine znI 3000 0 O O (fun h_=>by have h1_:=haS _ h_;have h2_:=hd_a;first | omega | exact h1_ h2_) hc_a ?_
  have hfy:p.frm[j]?=some (y:Int):=by rw[zoT hjl];congr 1;subst hj;exact List.getElem_idxOf hjl
  have hao:=hR.arg n x2 he_x2 p hm_p j _ a hfy he_a
  rw[zpf]at hao
  obtain⟨q,hq,hql⟩:=xR (hnod.phi.args p hm_p a hm_a)
  subst hq
  have hph:phV f g s y vl p=lki vl q:=by unfold phV;rw[hao,zpf]
  refine Vs 1 O ?_
  refine V.alloc 9 tz88 O O (fun b9=>?_)
  refine Vs 4 O ?_
  refine Vw [901,900,2000,3000,9] [17] O ?_
  refine Vd [0,1,2,3,4,5,6,7,8,9,10] 0 (by kernel_rfl) O O O ?_
  refine znx 11 0 Tryz.call91 O (by kernel_rfl) O O (fun w hI=>zfC p.frm y _ _ w (hf_p.keep ze hI.k0 fun q hd _ h=>haS q h hd) hmem) ?_
  refine znl 12 3000 tR27 ts3 O (by kernel_rfl) O ha_a (by omega) (j) (by rw[hj]) O ?_
  refine Vd [13] 0 (by kernel_rfl) O O O ?_
  refine znQ 14 O (by kernel_rfl) O (fun w=>zlO tR27 ts3 O O O (by omega)) ?_
  refine zoh 15 O (by kernel_rfl) O 0 O O (fun w hI=>R.load tg3 O (js (show w.ownsRow 0 3 1 (.slice (some ⟨bv,0,none⟩) vl.length cv) vl.length (vl.map zb) from hI.at 900 O) (show (vl.map zb)[q]?=some (zb (lki vl q)) by rw[zpa,zbT (by omega)];rfl))) ?_
  have hst:(((x2.phis.take i).map (phV f g s y vl))++List.replicate (m - i) 0).set i (phV f g s y vl p)=((x2.phis.take (i+1)).map (phV f g s y vl))++List.replicate (m - (i+1)) 0:=by
   rw[zd he_p,zqw,zqY _ _ (by rw[zpd,zpn];omega),zpd,zpn,show i - min i x2.phis.length=0 by omega,show m - i=(m - (i+1))+1 by omega,zqV]
   simp
  refine Vb [16] 0 (by kernel_rfl) O O O (by omega) ?_
  refine znv 17 23 0 (i) ts3 O (by kernel_rfl) O O (by omega) (by simp;omega) ?_
  refine VD.done (by kernel_rfl) ?_
  refine Vs 2 O ?_
  refine znJ 23 O (e':=.row 3 1 (.slice (some ⟨b23,0,none⟩) m m) m (((x2.phis.take (i+1)).map (phV f g s y vl)++List.replicate (m - (i+1)) 0).map zb)) (by rw[<- hst,zqC,hph]) ?_
  refine Va 4 O (by omega) ?_
  refine V.back (i+1) (Sub.of O) (Has.of O) (by omega) (by first | omega | (dsimp only;omega)) 0 O O
 obtain rfl:i=m:=by omega
 refine znJ 23 O (e':=.row 3 1 (.slice (some ⟨b23,0,none⟩) i i) i ((x2.phis.map (phV f g s y vl)).map zb)) (by rw[zr7 (by omega),zro,zqW,zq4]) ?_
 refine Vs 12 O ?_
 refine znJ 900 O (e':=.row 3 1 (.slice (some ⟨bv,0,none⟩) vl.length cv) vl.length ((qJ f g s y vl (x2.phis.take 0)).map zb)) (by rfl) ?_
 refine Vs 1 O ?_
 refine znK (σ:=Nat) [0,7,49,50] [23,901] [0] O (fun e k=>(51,.int .i64 k)::e) (fun e k=>(900,.row 3 1 (.slice (some ⟨bv,0,none⟩) vl.length cv) vl.length ((qJ f g s y vl (x2.phis.take k)).map zb))::e) (fun k=>k<=i) (fun k=>i - k) (0) (Sub.of O) (Has.of O) (fun _=>rfl) (fun _=>rfl) (fun _=>rfl) (zp8 _) ?_
 rintro k hk
 refine Vs 6 O ?_
 refine zld O (fun lk=>?_) (fun lk=>?_)
 .
  refine Vs 7 O ?_
  obtain⟨p,he_p,hm_p⟩:=gE_ x2.phis (k) (by omega)
  obtain⟨b_p,o_p,c_p,ha_p,hd_p,hc_p,hR_p⟩:=hp_x2.atD he_p
  obtain⟨v1_p,v2_p,rfl,hf_p,hg_p⟩:=hR_p
  obtain⟨a1_p,n1_p,rfl⟩:=hf_p.form
  obtain⟨a2_p,n2_p,rfl⟩:=hg_p.form
  refine znI 4000 0 O O (fun h_=>by have h1_:=haS _ h_;have h2_:=hd_p;first | omega | exact h1_ h2_) hc_p ?_
  refine znk 4000 tR56 ts88 O ha_p (by omega) (_) (rfl) O ?_
  obtain⟨q,hq,hql⟩:=hver p hm_p
  have hjl:=zbu (f:=f) (g:=g) (s:=s) (y:=y) (vl:=vl) (x2.phis.take k)
  refine Vs 1 O ?_
  refine V.alloc 11 tz88 O O (fun b11=>?_)
  refine Vs 4 O ?_
  refine Vw [23,901,4000,11] [11] O ?_
  refine Vb [0,1,2,3,4,5,6,7,8] 0 (by kernel_rfl) O O O (by omega) ?_
  refine zoh 9 O (by kernel_rfl) O 0 O O (fun w hI=>R.load tg3 O (js (show w.ownsRow 0 3 1 (.slice (some ⟨b23,0,none⟩) i i) i _ from hI.at 23 O) (show ((x2.phis.map (phV f g s y vl)).map zb)[k]?=some (zb (phV f g s y vl p)) by rw[zpa,zpa,he_p];rfl))) ?_
  refine znQ 10 O (by kernel_rfl) O (fun w=>zlO tR27 ts3 O O O (by omega)) ?_
  refine zom 11 900 (q) ts3 O (by kernel_rfl) O (by omega) (by rw[zpd,hjl];exact hql) ?_
  refine VDx.done (by kernel_rfl) ?_
  refine Vs 2 O ?_
  refine znJ 900 O (e':=.row 3 1 (.slice (some ⟨bv,0,none⟩) vl.length cv) vl.length ((qJ f g s y vl (x2.phis.take (k+1))).map zb)) (by rw[zfD he_p,hq,zpf,zqC]) ?_
  refine Va 4 O (by omega) ?_
  refine V.back (k+1) (Sub.of O) (Has.of O) (by omega) (by first | omega | (dsimp only;omega)) 0 O O
 obtain rfl:k=i:=by omega
 refine znJ 900 O (e':=xB (.slice (some ⟨bv,0,none⟩) vl.length cv) (qJ f g s y vl x2.phis)) (by rw[zr7 (by omega)];unfold xB;rw[zbu]) ?_
 refine Vs 4 O ?_
 refine zlH Tryz.results47 (fun w hI=>⟨_,rfl,(),rfl,hI.at 900 rfl,hI.k0,fun q hq=>hI.inS 0 900 O O hq⟩)
theorem zhe {F:Phn->Int} {k:Nat} {l:List Phn} (h:∀ p ∈ l,p.ver.toNat ≠ k):∀ t:List Int,(l.foldl (fun t p=>t.set p.ver.toNat (F p)) t)[k]?=t[k]?:=by
 induction l with
 | nil=>exact fun _=>rfl
 | cons q l ih =>
  intro t
  rw[zqo,ih fun p hp=>h p (zoW _ hp),List.getElem?_set_ne (h q (zoX ..))]
theorem ziO {F:Phn->Int} {l:List Phn} (hnd:(l.map fun p=>p.ver.toNat).Nodup) {p:Phn} (hp:p ∈ l):∀ t:List Int,p.ver.toNat<t.length->(l.foldl (fun t p=>t.set p.ver.toNat (F p)) t)[p.ver.toNat]?=some (F p):=by
 induction l with
 | nil=>cases hp
 | cons q l ih =>
  intro t ht
  rw[zqy,zqN]at hnd
  rw[zqo]
  rcases zp9.1 hp with rfl | hp
  . rw[zhe fun r hr e=>hnd.1 (zqI.2 ⟨r,hr,e⟩),List.getElem?_set_self ht]
  exact ih hnd.2 hp _ (by rw[zqv];exact ht)
theorem zfE {f:Fl} {g:List Nd} {s:Sf} {rd:Nat->List Int} (h:FormF f g s rd) {n:Nat} (hn:n<g.length):((zg s n).phis.map fun p=>p.ver.toNat).Nodup:=by
 have hph:=(h.at hn).phi
 have h1:((zg s n).phis.map (·.ver)).Nodup:=by
  rw[List.nodup_iff_count]
  intro a
  have hs1:((zg s n).phis.map (·.ver)).count a<=(dfL f g s n).count a:=by unfold dfL;rw[zq6];omega
  have hs2:(dfL f g s n).count a<=(qg f g s).count a:=by
   unfold qg
   rw[zqk]
   exact(zr2 (zqI.2 ⟨n,zqL.2 hn,rfl⟩)).count_le a
  by_cases ha:a ∈ (zg s n).phis.map (·.ver)
  .
   obtain⟨h2,h3⟩:=zdq h hn (show a ∈ dfL f g s n by unfold dfL;exact zqD _ ha)
   obtain⟨k,rfl⟩:=zpP (show 0<=a by omega)
   have:=h.one k (by omega) (by omega)
   omega
  rw[List.count_eq_zero.2 ha];omega
 rw[show ((zg s n).phis.map fun p=>p.ver.toNat)=((zg s n).phis.map (·.ver)).map Int.toNat by rw[zqz];rfl]
 refine List.Pairwise.map _ (fun a b hab=>hab) (List.Pairwise.imp_of_mem (fun {a b} ha hb hab e=>?_) h1)
 obtain⟨p,hp,rfl⟩:=zqI.1 ha
 obtain⟨q,hq,rfl⟩:=zqI.1 hb
 have h2:=(hph.ver p hp).1
 have h3:=(hph.ver q hq).1
 exact hab (by omega)
theorem zhf {f:Fl} {g:List Nd} {s:Sf} {rd:Nat->List Int} (h:RightF f g s rd) {n y:Nat} (h0:n ≠ 0) (hn:n<g.length) (hy:y ∈ yW g n) {vl vals:List Int} (hlen:vl.length=s.of_.length) (hp:zgE f g s y vl vals):InvV f g s n (qJ f g s y vl (zg s n).phis) vals:=by
 have hf:=h.toFormF
 have hph:=(hf.at hn).phi
 have hnd:=zfE hf hn
 have hl:=hf.len
 have e:=zoT (show n<s.nodes.length by omega)
 have hxn:=yC e
 have harg:∀ p ∈ (zg s n).phis,∃ q:Nat,kZ f g s y p.var=(q:Int)/\q<s.of_.length:=fun p hpm=>by
  have hmem:(y:Int) ∈ p.frm:=by rw[hph.frm p hpm];exact zqI.2 ⟨y,hy,rfl⟩
  obtain⟨i,hi⟩:=zqH.1 hmem
  have hil:=(zp7.1 hi).1
  have ha:=zoT (show i<p.args.length by have:=hph.len p hpm;omega)
  have:=h.arg n _ e p (by rw[<- hxn];exact hpm) i _ _ hi ha
  rw[zpf]at this
  rw[this]
  exact xR (hph.args p hpm _ (zoU ha))
 refine zod h h0 hn hy hp (fun p hpm=>?_) (fun k hk=>?_) fun p hpm=>?_
 .
  obtain⟨q,hq,hql⟩:=harg p hpm
  obtain⟨m,hm,hml⟩:=xR (hph.ver p hpm)
  unfold qJ
  rw[ziO (F:=phV f g s y vl) hnd hpm vl (by rw[hm,zpf];omega)]
  unfold phV
  rw[hq,zpf,zbT (by omega)]
 .
  unfold qJ
  exact zhe (F:=phV f g s y vl) (fun p hpm e2=>hk p hpm (by have:=(hph.ver p hpm).1;omega)) vl
 obtain⟨q,hq,_⟩:=harg p hpm
 omega
def zkU:Tm:=.mk 24 0 []
def zkV:Tm:=.mk 24 1 []
def zkW:Tm:=.mk 0 1 []
def ziP:St:=.mk 0 0 1 0 zkW [] [] []
def zky:St:=.mk 3 0 0 0 zkU [ziP] [] []
def zkz:St:=.mk 1 0 0 0 zkV [] [] []
def exF22:Fl:=⟨[⟨⟨#[120]⟩,1,0,1,0⟩,⟨⟨#[121]⟩,0,0,1,0⟩],[],[zky,zkz]⟩
def exG22:List Nd:=[⟨0,-1,1,-1⟩,⟨3,0,2,3⟩,⟨2,1,3,-1⟩,⟨2,2,4,-1⟩,⟨1,-1,-1,-1⟩]
def exS22:Sf:=⟨[0,1,1,1],[⟨[],[],-1⟩,⟨[],[(0,0)],-1⟩,⟨[],[],2⟩,⟨[⟨1,3,[1,2],[1,2]⟩],[(1,3)],-1⟩,⟨[],[],-1⟩]⟩
theorem zfF:yt exF22=0:=by decide +kernel
theorem zc3:zi exF22=exG22:=by rfl
theorem zhg:snodes exF22.body+zA exF22.hatches<=1024:=by decide +kernel
theorem zhh:sbulk exF22.body<=1000000:=by decide +kernel
theorem zjU:OfF exF22 exS22:=by
 refine⟨by decide,fun k v hk hl=>?_,fun k v hk hl=>?_⟩
 .
  match k with
  | 0=>simp[exS22]at hk;omega
  | 1=>simp[exS22]at hk;omega
  | k+2=>exact absurd hl (by show ¬ k+2<2;omega)
 match k with
 | 0=>simp[exF22]at hl
 | 1=>simp[exF22]at hl
 | 2=>simp[exS22]at hk;subst hk;exact⟨by decide,_,rfl,rfl⟩
 | 3=>simp[exS22]at hk;subst hk;exact⟨by decide,_,rfl,rfl⟩
 | k+4=>simp[exS22]at hk
theorem zaC {f:Fl} {g:List Nd} {s:Sf} {n:Nat}:PhiF f g s n []:=⟨fun _=>rfl,List.Pairwise.nil,fun p h=>(by cases h),fun p h=>(by cases h),fun p h=>(by cases h),fun p h=>(by cases h)⟩
theorem ex22_form:FormF exF22 exG22 exS22 (rdV exF22 exG22):=by
 refine⟨zjU,rfl,fun n x hx=>?_,fun k h1 h2=>?_⟩
 .
  match n with
  | 0=>simp[exS22]at hx;subst hx;exact⟨zaC,fun _=>rfl,fun h=>absurd h (by decide +kernel),by decide +kernel,fun u h=>by cases h⟩
  | 1=>simp[exS22]at hx;subst hx;exact⟨zaC,fun _=>rfl,fun h=>absurd h (by decide +kernel),by decide +kernel,fun u h=>by simp at h;subst h;decide +kernel⟩
  | 2=>simp[exS22]at hx;subst hx;exact⟨zaC,fun h=>absurd h (by decide +kernel),fun _=>by decide +kernel,by decide +kernel,fun u h=>by cases h⟩
  | 3 =>
   simp[exS22]at hx;subst hx
   refine⟨⟨fun h=>(by cases h),zqS _ _,fun p h=>?_,fun p h=>?_,fun p h=>?_,fun p h a ha=>?_⟩,fun _=>rfl,fun h=>absurd h (by decide +kernel),by decide +kernel,fun u h=>?_⟩
   . rw[zpb]at h;subst h;decide +kernel
   . rw[zpb]at h;subst h;decide +kernel
   . rw[zpb]at h;subst h;rfl
   . rw[zpb]at h;subst h;simp at ha;rcases ha with rfl | rfl<;>decide +kernel
   rw[zpb]at h;subst h;decide +kernel
  | 4=>simp[exS22]at hx;subst hx;exact⟨zaC,fun _=>rfl,fun h=>absurd h (by decide +kernel),by decide +kernel,fun u h=>by cases h⟩
  | n+5=>simp[exS22]at hx
 match k with
 | 0=>exact absurd h1 (by decide)
 | 1=>exact absurd h1 (by decide)
 | 2=>decide +kernel
 | 3=>decide +kernel
 | k+4=>exact absurd h2 (by show ¬ k+4<4;omega)
def zbL:List (List Int):=[[0,1],[0,1],[0,1],[0,3],[0,3]]
theorem zjV:∀ i:Nat,i<5->RV exF22 exG22 exS22 0 i 0:=by
 have h0:RV exF22 exG22 exS22 0 0 0:=.ini
 have h1:RV exF22 exG22 exS22 0 1 0:=.pass (y:=0) (by decide) (by decide +kernel) (by decide +kernel) (by decide +kernel) h0
 have h2:RV exF22 exG22 exS22 0 2 0:=.pass (y:=1) (by decide) (by decide +kernel) (by decide +kernel) (by decide +kernel) h1
 have h3:RV exF22 exG22 exS22 0 3 0:=.pass (y:=1) (by decide) (by decide +kernel) (by decide +kernel) (by decide +kernel) h1
 have h4:RV exF22 exG22 exS22 0 4 0:=.pass (y:=3) (by decide) (by decide +kernel) (by decide +kernel) (by decide +kernel) h3
 intro i hi
 match i with
 | 0=>exact h0
 | 1=>exact h1
 | 2=>exact h2
 | 3=>exact h3
 | 4=>exact h4
 | i+5=>omega
theorem zjW:∀ i:Nat,i<5->RV exF22 exG22 exS22 1 i (bfV zbL i 1):=by
 have h0:RV exF22 exG22 exS22 1 0 1:=.ini
 have h1:RV exF22 exG22 exS22 1 1 1:=.pass (y:=0) (by decide) (by decide +kernel) (by decide +kernel) (by decide +kernel) h0
 have h2:RV exF22 exG22 exS22 1 2 1:=.pass (y:=1) (by decide) (by decide +kernel) (by decide +kernel) (by decide +kernel) h1
 have h3:RV exF22 exG22 exS22 1 3 3:=.phi (by decide) (by decide +kernel)
 have h4:RV exF22 exG22 exS22 1 4 3:=.pass (y:=3) (by decide) (by decide +kernel) (by decide +kernel) (by decide +kernel) h3
 intro i hi
 match i with
 | 0=>exact h0
 | 1=>exact h1
 | 2=>exact h2
 | 3=>exact h3
 | 4=>exact h4
 | i+5=>omega
theorem ex22_sol:SolV exF22 exG22 exS22 2 (bfV zbL):=by
 have key:∀ i:Nat,i<5->0<=bfV zbL i 0/\bfV zbL i 0=0/\0<=bfV zbL i 1/\bfV zbL i 0=eqV exG22 exS22 (yw exF22 exG22 exS22 (bfV zbL)) i 0/\bfV zbL i 1=eqV exG22 exS22 (yw exF22 exG22 exS22 (bfV zbL)) i 1:=by decide +kernel
 refine⟨fun i hi v h0 h1=>?_,fun i hi v h0 h1=>?_⟩
 .
  obtain⟨k1,k2,k3,_⟩:=key i hi
  have hv:v=0\/v=1:=by omega
  rcases hv with rfl | rfl
  . exact .inr (.inl ⟨k1,by rw[k2];exact zjV i hi⟩)
  exact .inr (.inl ⟨k3,zjW i hi⟩)
 obtain⟨_,_,_,k4,k5⟩:=key i hi
 have hv:v=0\/v=1:=by omega
 rcases hv with rfl | rfl
 . exact k4
 exact k5
theorem zfG:RightF exF22 exG22 exS22 (rdV exF22 exG22):=by
 have hs:=ex22_form.nn
 have hin:∀ i:Nat,i<5->∀ v:Int,0<=v->v<2->inV exF22 exG22 exS22 i v=bfV zbL i v:=fun i hi v h0 h1=>(ex22_sol.is hs h0 h1 hi).symm
 refine⟨ex22_form,fun n x hx u hu=>?_,fun n x hx p hp i y a hy ha=>?_⟩
 .
  match n with
  | 0=>simp[exS22]at hx;subst hx;cases hu
  | 1=>simp[exS22]at hx;subst hx;rw[zpb]at hu;subst hu;rw[hin 1 (by decide) 0 (by decide) (by decide)];decide +kernel
  | 2=>simp[exS22]at hx;subst hx;cases hu
  | 3=>simp[exS22]at hx;subst hx;rw[zpb]at hu;subst hu;rw[hin 3 (by decide) 1 (by decide) (by decide)];decide +kernel
  | 4=>simp[exS22]at hx;subst hx;cases hu
  | n+5=>simp[exS22]at hx
 match n with
 | 0=>simp[exS22]at hx;subst hx;cases hp
 | 1=>simp[exS22]at hx;subst hx;cases hp
 | 2=>simp[exS22]at hx;subst hx;cases hp
 | 3 =>
  simp[exS22]at hx;subst hx;rw[zpb]at hp;subst hp
  match i with
  | 0=>simp at hy ha;subst hy;subst ha;show yw exF22 exG22 exS22 (inV exF22 exG22 exS22) 1 1=1;unfold yw;rw[hin 1 (by decide) 1 (by decide) (by decide)];decide +kernel
  | 1=>simp at hy ha;subst hy;subst ha;show yw exF22 exG22 exS22 (inV exF22 exG22 exS22) 2 1=2;unfold yw;rw[hin 2 (by decide) 1 (by decide) (by decide)];decide +kernel
  | i+2=>simp at hy
 | 4=>simp[exS22]at hx;subst hx;cases hp
 | n+5=>simp[exS22]at hx
def exT22:Sf:=⟨[0,1,1,1],[⟨[],[],-1⟩,⟨[],[(0,0)],-1⟩,⟨[],[],2⟩,⟨[],[(1,2)],-1⟩,⟨[],[],-1⟩]⟩
theorem zfH:¬ RightF exF22 exG22 exT22 (rdV exF22 exG22):=fun h=>absurd (h.one 3 (by decide) (by decide)) (by decide +kernel)
theorem zbv:¬ yu exF22 exG22 ≠ 0:=fun h=>h (by unfold yu;rw[zp3 (by rw[zfF];exact fun h=>h rfl),zp4 zc3])
theorem zbw:yq exF22 exG22 exS22=0:=zje zbv zfG
theorem zfI:yq exF22 exG22 exT22=13:=zfA zbv zfH
end Go.Proofs.YtckdhgbepmpgiaaGreat
namespace Go.GL.Dfs
def Edge (R:List (List Int)) (a b:Nat):Prop:=∃ r,R[a]?=some r/\(b:Int) ∈ r
inductive Reach (R:List (List Int)) (root:Nat):Nat->Prop
 | refl:Reach R root root
 | step {a b:Nat}:Reach R root a->Edge R a b->Reach R root b
theorem sum_one (f g:Nat->Nat) (b c:Nat):∀ n,b<n->(∀ i,i ≠ b->f i=g i)->f b=g b+c->((List.range n).map f).sum=((List.range n).map g).sum+c
 | 0,h,_,_=>by omega
 | n+1,h,h1,h2=>by
  rw[zqU]
  simp only[zqw,zqy,zqA,zr3,zr4,List.sum_nil]
  by_cases e:b=n
  .
   subst e
   have:(List.range b).map f=(List.range b).map g:=zqx (fun i hi=>h1 i (by have:=zqL.1 hi;omega))
   rw[this];omega
  have:=sum_one f g b c n (by omega) h1 h2
  have:=h1 n (fun h=>e h.symm)
  omega
end Go.GL.Dfs
namespace Go.Proofs.YtckdhgbepmpgiaaGreat
open Go.GL
noncomputable def kM (f:Fl) (g:List Nd) (s:Sf):List Bool:=(List.range s.of_.length).map fun k:Nat=>@decide (NeedV f g s (k:Int)) (Classical.propDecidable _)
theorem zf2 {f:Fl} {g:List Nd} {s:Sf} {l:List Bool} (hl:l.length=s.of_.length) (h:∀ k:Nat,k<s.of_.length->(l[k]?=some true ↔ NeedV f g s (k:Int))):l=kM f g s:=by
 apply zqe
 intro k
 unfold kM
 rw[zpa]
 by_cases hk:k<s.of_.length
 .
  rw[List.getElem?_range hk]
  have e:=zoT (show k<l.length by omega)
  have:=h k hk
  rw[e]at this ⊢
  simp only[zrw,Option.some.injEq]at this ⊢
  cases hb:l[k] with
  | true=>rw[hb]at this;exact(@zp5 _ (Classical.propDecidable _) (this.1 rfl)).symm
  | false=>rw[hb]at this;exact(@zp6 _ (Classical.propDecidable _) (fun hn=>by cases this.2 hn)).symm
 rw[zph (by omega),zph (by simp;omega)];rfl
theorem zhi (f:Fl) (g:List Nd) (s:Sf):(kM f g s).length=s.of_.length:=by simp[kM]
def zbx (x:Sn):List (Int × List Int):=x.phis.map (fun p=>(p.ver,p.args))++if 0<=x.dfn then [(x.dfn,x.uses.map (·.2))] else []
def zhF (t:List (List Int)) (l:List (Int × List Int)):List (List Int):=l.foldl (fun t z=>t.set z.1.toNat z.2) t
theorem ziQ (l:List (Int × List Int)):∀ t:List (List Int),(zhF t l).length=t.length:=by
 induction l with
 | nil=>exact fun _=>rfl
 | cons z l ih=>intro t;exact(ih _).trans zqv
theorem zaD (t:List (List Int)) (a b:List (Int × List Int)):zhF t (a++b)=zhF (zhF t a) b:=by unfold zhF;rw[zqn]
theorem zjX {l:List (Int × List Int)} {k:Nat} (h:∀ z ∈ l,z.1.toNat ≠ k):∀ t,(zhF t l)[k]?=t[k]?:=by
 induction l with
 | nil=>exact fun _=>rfl
 | cons z l ih =>
  intro t
  exact(ih (fun y hy=>h y (zoW _ hy)) _).trans (List.getElem?_set_ne (h z (zoX ..)))
theorem ziR {l:List (Int × List Int)} (hn:(l.map fun z=>z.1.toNat).Nodup) {z:Int × List Int} (hz:z ∈ l):∀ t,z.1.toNat<t.length->(zhF t l)[z.1.toNat]?=some z.2:=by
 induction l with
 | nil=>cases hz
 | cons y l ih =>
  intro t ht
  rw[zqy,zqN]at hn
  rcases zp9.1 hz with rfl | hz
  . exact(zjX (fun r hr e=>hn.1 (zqI.2 ⟨r,hr,e⟩)) _).trans (List.getElem?_set_self ht)
  exact ih hn.2 hz _ (by rw[zqv];exact ht)
theorem ziS {l:List (Int × List Int)} {k:Nat} {v:List Int}:∀ {t},(zhF t l)[k]?=some v->t[k]?=some v\/∃ z ∈ l,z.1.toNat=k/\z.2=v:=by
 induction l with
 | nil=>exact fun h=>.inl h
 | cons z l ih =>
  intro t h
  rcases ih (t:=t.set z.1.toNat z.2) h with h1 | ⟨y,hy,h1⟩
  .
   rw[List.getElem?_set]at h1
   split at h1
   .
    rename_i e
    split at h1
    . exact .inr ⟨z,zoX ..,e,Option.some.inj h1⟩
    cases h1
   exact .inl h1
  exact .inr ⟨y,zoW _ hy,h1⟩
def zby (s:Sf) (i:Nat):List (Int × List Int):=(s.nodes.take i).flatMap zbx
def xi (s:Sf) (i:Nat):List (List Int):=zhF (List.replicate s.of_.length []) (zby s i)
theorem zc4 {s:Sf} {i:Nat} {x:Sn} (h:s.nodes[i]?=some x):zby s (i+1)=zby s i++zbx x:=by unfold zby;rw[zd h,zqi,zql]
theorem zdF (s:Sf) (i:Nat):(xi s i).length=s.of_.length:=by unfold xi;rw[ziQ,zqu]
def zbM (s:Sf) (i:Nat) (x:Sn) (j:Nat):List (List Int):=zhF (xi s i) ((x.phis.take j).map fun p=>(p.ver,p.args))
theorem zfJ {s:Sf} {i:Nat} {x:Sn} {j:Nat} {p:Phn} (h:x.phis[j]?=some p):zbM s i x (j+1)=(zbM s i x j).set p.ver.toNat p.args:=by
 unfold zbM
 rw[zd h,zqw,zaD];rfl
theorem zhj {s:Sf} {i:Nat} {x:Sn} (h:s.nodes[i]?=some x) (hd:0<=x.dfn):xi s (i+1)=(zbM s i x x.phis.length).set x.dfn.toNat (x.uses.map (·.2)):=by
 unfold zbM xi
 rw[zc4 h,zaD,zoY]
 unfold zbx
 rw[zp4 hd,zaD];rfl
theorem zcI {s:Sf} {i:Nat} {x:Sn} (h:s.nodes[i]?=some x) (hd:¬ 0<=x.dfn):xi s (i+1)=zbM s i x x.phis.length:=by
 unfold zbM xi
 rw[zc4 h,zaD,zoY]
 unfold zbx
 rw[zp3 hd,zq4]
theorem ziT {s:Sf} {g:List Nd} (hl:s.nodes.length=g.length):s.nodes=(List.range g.length).map (zg s):=by
 apply zqe
 intro k
 rw[zpa]
 by_cases hk:k<g.length
 .
  rw[List.getElem?_range hk,zoT (show k<s.nodes.length by omega)]
  simp only[zrw]
  rw[yC (zoT (show k<s.nodes.length by omega))]
 rw[zph (by omega),zph (by simp;omega)];rfl
theorem zc5 {s:Sf} {g:List Nd} (hl:s.nodes.length=g.length):s.nodes.take g.length=(List.range g.length).map (zg s):=(zr7 (by omega)).trans (ziT hl)
section
variable {f:Fl} {g:List Nd} {s:Sf} {rd:Nat->List Int}
theorem FormF.dfn (h:FormF f g s rd) {n:Nat} (hn:n<g.length):(0<=(zg s n).dfn ↔ 0<=xA f g n):=by
 have hx:=h.at hn
 constructor
 .
  intro h1
  by_cases h2:0<=xA f g n
  . exact h2
  have:=hx.no (by omega);omega
 exact fun h1=>(hx.yes h1).1
theorem zbz (h:FormF f g s rd):((zby s g.length).map (·.1))=qg f g s:=by
 unfold zby qg
 rw[zc5 h.len,List.flatMap_map,List.map_flatMap]
 rw[zqk,zqk]
 congr 1
 refine zqx fun n hn=>?_
 have hd:=h.dfn (zqL.1 hn)
 unfold zbx dfL
 rw[zqw,zqz]
 congr 1
 by_cases h1:0<=xA f g n
 . rw[zp4 h1,zp4 (hd.2 h1)];rfl
 rw[zp3 h1,zp3 (fun e=>h1 (hd.1 e))];rfl
theorem zej (h:FormF f g s rd):(qg f g s).Nodup:=by
 rw[List.nodup_iff_count]
 intro a
 by_cases ha:a ∈ qg f g s
 .
  obtain⟨h2,h3⟩:=xP h ha
  obtain⟨k,rfl⟩:=zpP (show 0<=a by omega)
  have:=h.one k (by omega) (by omega)
  omega
 rw[List.count_eq_zero.2 ha];omega
theorem zfK (h:FormF f g s rd):((zby s g.length).map fun z=>z.1.toNat).Nodup:=by
 rw[show ((zby s g.length).map fun z=>z.1.toNat)=((zby s g.length).map (·.1)).map Int.toNat by rw[zqz];rfl,zbz h]
 refine List.Pairwise.map _ (fun a b hab=>hab) (List.Pairwise.imp_of_mem (fun {a b} ha hb hab e=>?_) (zej h))
 have h2:=(xP h ha).1
 have h3:=(xP h hb).1
 exact hab (by omega)
theorem zf3 (h:FormF f g s rd) {z:Int × List Int}:z ∈ zby s g.length ↔ ∃ n,n<g.length/\z ∈ zbx (zg s n):=by
 unfold zby
 rw[zc5 h.len,List.flatMap_map,zqG]
 constructor
 . rintro⟨n,hn,hz⟩;exact⟨n,zqL.1 hn,hz⟩
 rintro⟨n,hn,hz⟩;exact⟨n,zqL.2 hn,hz⟩
theorem zf4 (h:FormF f g s rd) {n:Nat} (hn:n<g.length) {z:Int × List Int} (hz:z ∈ zbx (zg s n)):(xi s g.length)[z.1.toNat]?=some z.2:=by
 have hm:=(zf3 h).2 ⟨n,hn,hz⟩
 have hk:z.1 ∈ qg f g s:=by rw[<- zbz h];exact zqI.2 ⟨z,hm,rfl⟩
 have:=xP h hk
 exact ziR (zfK h) hm _ (by rw[zqu];omega)
theorem ziU (h:FormF f g s rd) {k:Nat} {l:List Int} (hk:(xi s g.length)[k]?=some l):l=[]\/∃ n,n<g.length/\∃ z ∈ zbx (zg s n),z.1=(k:Int)/\z.2=l:=by
 rcases ziS hk with h1 | ⟨z,hz,h1,h2⟩
 .
  rw[List.getElem?_replicate]at h1
  split at h1
  . exact .inl (Option.some.inj h1).symm
  cases h1
 obtain⟨n,hn,hz2⟩:=(zf3 h).1 hz
 have hkk:z.1 ∈ qg f g s:=by rw[<- zbz h];exact zqI.2 ⟨z,hz,rfl⟩
 have:=xP h hkk
 exact .inr ⟨n,hn,z,hz2,by omega,h2⟩
theorem zhk (h:FormF f g s rd) {n:Nat} (hn:n<g.length) {u:Int × Int} (hu:u ∈ (zg s n).uses):∃ q:Nat,u.2=(q:Int)/\q<s.of_.length:=xR ((h.at hn).ver u hu)
theorem zjf (h:FormF f g s rd) {n:Nat} (hn:n<g.length) {p:Phn} (hp:p ∈ (zg s n).phis) {a:Int} (ha:a ∈ p.args):∃ q:Nat,a=(q:Int)/\q<s.of_.length:=xR ((h.at hn).phi.args p hp a ha)
theorem zfL (h:FormF f g s rd) {k:Nat} {l:List Int} (hk:(xi s g.length)[k]?=some l) (hN:NeedV f g s (k:Int)) {a:Int} (ha:a ∈ l):NeedV f g s a/\∃ q:Nat,a=(q:Int)/\q<s.of_.length:=by
 rcases ziU h hk with rfl | ⟨n,hn,z,hz,h1,rfl⟩
 . cases ha
 unfold zbx at hz
 rcases zpc.1 hz with hz | hz
 .
  obtain⟨p,hp,rfl⟩:=zqI.1 hz
  exact⟨.arg hn hp (by rw[show p.ver=(k:Int) from h1];exact hN) ha,zjf h hn hp ha⟩
 split at hz
 .
  rename_i hd
  rw[zpb]at hz
  subst hz
  obtain⟨u,hu,rfl⟩:=zqI.1 ha
  exact⟨.use hn hd (by rw[show (zg s n).dfn=(k:Int) from h1];exact hN) hu,zhk h hn hu⟩
 cases hz
noncomputable def yi (f:Fl) (g:List Nd) (s:Sf) (i:Nat):List Int:=(List.range i).flatMap fun n=>if xV f g s n=true then (zg s n).uses.map (·.2) else []
theorem je {i:Nat} (h:xV f g s i=true):yi f g s (i+1)=yi f g s i++(zg s i).uses.map (·.2):=by unfold yi;rw[zqU,zqi,zql,zp4 h]
theorem kN {i:Nat} (h:¬ xV f g s i=true):yi f g s (i+1)=yi f g s i:=by unfold yi;rw[zqU,zqi,zql,zp3 h,zq4]
theorem zhl (i:Nat):(yi f g s i).length<=((s.nodes.take i).map fun x=>x.uses.length).sum:=by
 induction i with
 | zero=>simp[yi]
 | succ i ih =>
  by_cases hi:i<s.nodes.length
  .
   have e:=zoT hi
   rw[zd e,zqw,zr3]
   by_cases h:xV f g s i=true
   . rw[je h,zp1,yC e];simp only[zqy,zqA,zr4,List.sum_nil,zpd];omega
   rw[kN h];simp only[zqy,zqA,zr4,List.sum_nil];omega
  rw[zr7 (by omega)]
  rw[zr7 (by omega)]at ih
  have:yi f g s (i+1)=yi f g s i:=by
   by_cases h:xV f g s i=true
   . rw[je h,za0 hi];simp
   exact kN h
  rw[this];exact ih
theorem ziV {i m:Nat} (h:i<=m):(yi f g s i).length<=(yi f g s m).length:=by
 induction m with
 | zero =>
  obtain rfl:i=0:=by omega
  exact zpi _
 | succ m ih =>
  by_cases e:i=m+1
  . subst e;exact zpi _
  refine zoZ (ih (by omega)) ?_
  by_cases hs:xV f g s m=true
  . rw[je hs,zp1];omega
  rw[kN hs];exact zpi _
structure WkN (f:Fl) (g:List Nd) (s:Sf) (nl:List Bool) (wl:List Int):Prop where
 len:nl.length=s.of_.length
 snd:∀ k:Nat,nl[k]?=some true->NeedV f g s (k:Int)
 wrk:∀ v ∈ wl,NeedV f g s v/\∃ q:Nat,v=(q:Int)/\q<s.of_.length
 sink:∀ n,n<g.length->xV f g s n=true->∀ u ∈ (zg s n).uses,nl[u.2.toNat]?=some true\/u.2 ∈ wl
 cls:∀ k:Nat,nl[k]?=some true->∀ l,(xi s g.length)[k]?=some l->∀ a ∈ l,nl[a.toNat]?=some true\/a ∈ wl
theorem zob (h:FormF f g s rd):WkN f g s (List.replicate s.of_.length false) (yi f g s g.length):=by
 have hno:∀ k:Nat,(List.replicate s.of_.length false)[k]? ≠ some true:=fun k e=>by
  have:=zqd (zoU e);cases this
 refine⟨by simp,fun k e=>absurd e (hno k),fun v hv=>?_,fun n hn hs u hu=>.inr ?_,fun k e=>absurd e (hno k)⟩
 .
  unfold yi at hv
  obtain⟨n,hn,hv⟩:=zqG.1 hv
  have hn:=zqL.1 hn
  split at hv
  .
   rename_i hs
   obtain⟨u,hu,rfl⟩:=zqI.1 hv
   exact⟨.sink hn hs hu,zhk h hn hu⟩
  cases hv
 unfold yi
 exact zqG.2 ⟨n,zqL.2 hn,by rw[zp4 hs];exact zqI.2 ⟨u,hu,rfl⟩⟩
theorem WkN.skip {nl:List Bool} {wl:List Int} {v:Nat} (h:WkN f g s nl (wl++[(v:Int)])) (hv:nl[v]?=some true):WkN f g s nl wl:=by
 have key:∀ a:Int,nl[a.toNat]?=some true\/a ∈ wl++[(v:Int)]->nl[a.toNat]?=some true\/a ∈ wl:=fun a ha=>by
  rcases ha with ha | ha
  . exact .inl ha
  rcases zpc.1 ha with ha | ha
  . exact .inr ha
  rw[zpb]at ha
  exact .inl (by rw[ha,zpf];exact hv)
 exact⟨h.len,h.snd,fun x hx=>h.wrk x (zqD _ hx),fun n hn hs u hu=>key _ (h.sink n hn hs u hu),fun k hk l hl a ha=>key _ (h.cls k hk l hl a ha)⟩
theorem WkN.take (hF:FormF f g s rd) {nl:List Bool} {wl:List Int} {v:Nat} {l:List Int} (h:WkN f g s nl (wl++[(v:Int)])) (hl:(xi s g.length)[v]?=some l):WkN f g s (nl.set v true) (wl++l):=by
 obtain⟨hN,q,hq,hql⟩:=h.wrk v (by simp)
 obtain rfl:v=q:=by omega
 have hvl:v<nl.length:=by rw[h.len];exact hql
 have yx:∀ k:Nat,(nl.set v true)[k]?=some true ↔ nl[k]?=some true\/k=v:=fun k=>by
  by_cases e:k=v
  . subst e;simp[hvl]
  rw[List.getElem?_set_ne (fun h=>e h.symm)];simp[e]
 have key:∀ a:Int,nl[a.toNat]?=some true\/a ∈ wl++[(v:Int)]->(nl.set v true)[a.toNat]?=some true\/a ∈ wl++l:=fun a ha=>by
  rcases ha with ha | ha
  . exact .inl ((yx _).2 (.inl ha))
  rcases zpc.1 ha with ha | ha
  . exact .inr (zqD _ ha)
  rw[zpb]at ha
  exact .inl ((yx _).2 (.inr (by rw[ha,zpf])))
 refine⟨by rw[zqv,h.len],fun k hk=>?_,fun x hx=>?_,fun n hn hs u hu=>key _ (h.sink n hn hs u hu),fun k hk l' hl' a ha=>?_⟩
 .
  rcases (yx k).1 hk with h1 | rfl
  . exact h.snd k h1
  exact hN
 .
  rcases zpc.1 hx with hx | hx
  . exact h.wrk x (zqD _ hx)
  exact zfL hF hl hN hx
 rcases (yx k).1 hk with h1 | rfl
 . exact key _ (h.cls k h1 l' hl' a ha)
 rw[hl]at hl';cases hl';exact .inr (zqE _ ha)
theorem WkN.fin (hF:FormF f g s rd) {nl:List Bool} (h:WkN f g s nl []):nl=kM f g s:=by
 refine zf2 h.len fun k hk=>⟨h.snd k,fun hN=>?_⟩
 have hmain:nl[((k:Nat):Int).toNat]?=some true:=NeedV.all (P:=fun a=>nl[a.toNat]?=some true) f g s (fun n hn hs u hu=>(h.sink n hn hs u hu).resolve_right (by simp)) (fun n hn hd hP u hu=>?_) (fun n hn p hp hP a ha=>?_) hN
 . rw[zpf]at hmain;exact hmain
 . exact(h.cls _ hP _ (zf4 hF hn (z:=((zg s n).dfn,(zg s n).uses.map (·.2))) (by unfold zbx;rw[zp4 hd];simp)) _ (zqI.2 ⟨u,hu,rfl⟩)).resolve_right (by simp)
 exact(h.cls _ hP _ (zf4 hF hn (z:=(p.ver,p.args)) (by unfold zbx;exact zqD _ (zqI.2 ⟨p,hp,rfl⟩))) _ ha).resolve_right (by simp)
def muN (s:Sf) (m:Nat) (nl:List Bool):Nat:=((List.range s.of_.length).map fun k=>if nl[k]?=some true then 0 else ((xi s m)[k]?.getD []).length+1).sum
theorem zjY {m:Nat} {nl:List Bool} {v:Nat} {l:List Int} (hl:(xi s m)[v]?=some l) (hv:nl[v]? ≠ some true) (hvl:v<nl.length):muN s m nl=muN s m (nl.set v true)+(l.length+1):=by
 have hlt:v<s.of_.length:=by rw[<- zdF s m];exact(zp7.1 hl).1
 unfold muN
 refine Dfs.sum_one _ _ v _ s.of_.length hlt (fun i hi=>?_) ?_
 . rw[List.getElem?_set_ne (fun e=>hi e.symm)]
 rw[zp3 hv,List.getElem?_set_self hvl,zp4 rfl,hl,zrs];omega
end
structure NSnd (f:Fl) (g:List Nd) (s:Sf) (l:List Bool):Prop where
 len:l.length=s.of_.length
 snd:∀ k:Nat,l[k]?=some true->NeedV f g s (k:Int)
structure PassX (f:Fl) (g:List Nd) (s:Sf) (l0 l:List Bool) (b:Bool) (C:Prop):Prop where
 snd:NSnd f g s l
 no:b=false->l=l0/\C
 yes:b=true->l.count false<l0.count false
section
variable {f:Fl} {g:List Nd} {s:Sf} {rd:Nat->List Int} {l0 l:List Bool} {b:Bool} {C:Prop}
theorem PassX.imp {C':Prop} (h:PassX f g s l0 l b C) (hi:l=l0->C->C'):PassX f g s l0 l b C':=⟨h.snd,fun hb=>⟨(h.no hb).1,hi (h.no hb).1 (h.no hb).2⟩,h.yes⟩
theorem PassX.same (h:PassX f g s l0 l b C) {k:Nat} (hk:l[k]?=some true):PassX f g s l0 l b (C/\l0[k]?=some true):=h.imp fun e hc=>⟨hc,e ▸ hk⟩
theorem zhm {l:List Bool} {k:Nat} (h:l[k]?=some false):(l.set k true).count false+1=l.count false:=by
 induction l generalizing k with
 | nil=>simp at h
 | cons x l ih =>
  cases k with
  | zero=>simp at h;subst h;simp
  | succ k =>
   simp only[List.getElem?_cons_succ]at h
   have:=ih h
   rw[zqZ,List.count_cons,List.count_cons]
   omega
theorem PassX.add (h:PassX f g s l0 l b C) {k:Nat} (hk:l[k]?=some false) (hN:NeedV f g s (k:Int)) (C':Prop):PassX f g s l0 (l.set k true) true C':=by
 have hkl:=(zp7.1 hk).1
 refine⟨⟨by rw[zqv,h.snd.len],fun j hj=>?_⟩,fun hb=>(by cases hb),fun _=>?_⟩
 .
  by_cases e:j=k
  . subst e;exact hN
  rw[List.getElem?_set_ne (fun h=>e h.symm)]at hj;exact h.snd.snd j hj
 have h1:=zhm hk
 cases hb:b with
 | true=>have:=h.yes hb;omega
 | false=>rw[(h.no hb).1]at h1 ⊢;omega
def NCl (f:Fl) (g:List Nd) (s:Sf) (l:List Bool) (n:Nat):Prop:=((xV f g s n=true\/(0<=(zg s n).dfn/\l[(zg s n).dfn.toNat]?=some true))->∀ u ∈ (zg s n).uses,l[u.2.toNat]?=some true)/\∀ p ∈ (zg s n).phis,l[p.ver.toNat]?=some true->∀ a ∈ p.args,l[a.toNat]?=some true
theorem zhn (h:NSnd f g s l) (hc:∀ n,n<g.length->NCl f g s l n):l=kM f g s:=by
 refine zf2 h.len fun k hk=>⟨h.snd k,fun hN=>?_⟩
 have hmain:l[((k:Nat):Int).toNat]?=some true:=NeedV.all (P:=fun a=>l[a.toNat]?=some true) f g s (fun n hn hs u hu=>(hc n hn).1 (.inl hs) u hu) (fun n hn hd hP u hu=>(hc n hn).1 (.inr ⟨hd,hP⟩) u hu) (fun n hn p hp hP a ha=>(hc n hn).2 p hp hP a ha) hN
 rw[zpf]at hmain;exact hmain
end
end Go.Proofs.YtckdhgbepmpgiaaGreat
namespace Go.GL
def zkA (E:Hp) (w:World):Prop:=(∀ x ∈ E,x.2.holds w/\x.2.loc/\(∀ b,¬ x.2.fz b)/\∀ q,x.2.S q->q<w.heap.size)/\E.Pairwise (fun x y=>∀ q,x.2.S q->¬ y.2.S q)
structure GBack (E E':Hp) (w w':World):Prop where
 keep:Keep (HS E) w w'
 held:zkA E' w'
 new:∀ x ∈ E',∀ q,x.2.S q->HS E q\/w.heap.size<=q
def HE.nz:HE->Bool
 | .fro ..=>false
 | .dat ..=>false
 | _=>true
theorem zoC {e:HE} (h:e.nz=true):∀ b,¬ e.fz b:=by
 cases e with
 | fro b o cs=>cases h
 | dat F p=>cases h
 | _=>exact fun _ h=>h
theorem VI.held {Bs:zC} {H E:Hp} {w:World} (hI:VI Bs H w) (hE:E.map (fun x=>hget H x.1)=E.map (fun x=>some x.2)) (hu:qu (E.map (·.1))=true) (hz:E.all (fun x=>x.2.nz)=true):zkA E w:=by
 have h:=hI.pick (Has.of hE) hu
 exact⟨fun x hx=>⟨h.holds x hx,h.loc x hx,zoC (zq0.1 hz x hx),h.low x hx⟩,h.apart⟩
theorem VI.back {Bs:zC} {H E E':Hp} {w w0:World} (hI:VI Bs H w) (j:Nat) (hj:Bs[j]?=some (w0,HS E)) (hE:E'.map (fun x=>hget H x.1)=E'.map (fun x=>some x.2)) (hu:qu (E'.map (·.1))=true) (hz:E'.all (fun x=>x.2.nz)=true):GBack E E' w0 w:=by
 have hb:=zoU hj
 exact⟨(hI.base _ hb).1,hI.held hE hu hz,fun x hx q hq=>((hI.pick (Has.of hE) hu).base _ hb).2 x hx q hq⟩
theorem VI.back0 {Bs:zC} {H E':Hp} {w w0:World} (hI:VI Bs H w) (j:Nat) (hj:Bs[j]?=some (w0,fun _=>False)) (hE:E'.map (fun x=>hget H x.1)=E'.map (fun x=>some x.2)) (hu:qu (E'.map (·.1))=true) (hz:E'.all (fun x=>x.2.nz)=true):GBack [] E' w0 w:=by
 have hb:=zoU hj
 exact⟨(hI.base _ hb).1.mono fun q _ h=>h.elim,hI.held hE hu hz,fun x hx q hq=>.inr ((((hI.pick (Has.of hE) hu).base _ hb).2 x hx q hq).resolve_left fun h=>h)⟩
theorem zkB {H E:Hp} {ks:List Nat} (hE:E.map (fun x=>hget H x.1)=E.map (fun x=>some x.2)) (hk:E.all (fun x=>zgG x.1 ks)=true) {q:Nat} (hq:HS E q):InS H ks q:=by
 obtain⟨x,hx,hs⟩:=hq
 exact⟨x,zx (Has.of hE x hx),zq0.1 hk x hx,hs⟩
theorem zho {H E:Hp} (hE:E.map (fun x=>hget H x.1)=E.map (fun x=>some x.2)) {q:Nat} (hq:HS E q):HS H q:=by
 obtain⟨x,hx,hs⟩:=hq
 exact⟨_,zx (Has.of hE x hx),hs⟩
theorem zbA {P:Program} {f:FuncId} {args:Array Value} {w:World} {H E:Hp} {ks:List Nat} {α:Type} {E':α->Hp} {Φ:Value->α->Prop} (hE:E.map (fun x=>hget H x.1)=E.map (fun x=>some x.2)) (hk:E.all (fun x=>zgG x.1 ks)=true) (h:Calls P f args w (Ret fun r w'=>∃ x,Φ r x/\GBack E (E' x) w w')):Calls P f args w (Ret fun r w'=>∃ x,Φ r x/\Hands H ks (E' x) w w'):=by
 refine Calls.mono h ?_
 rintro e' w' ⟨r,rfl,x,h1,h2⟩
 exact⟨r,rfl,x,h1,h2.keep.mono fun q _ hq=>zkB hE hk hq,fun y hy=>⟨(h2.held.1 y hy).1,(h2.held.1 y hy).2.1,(h2.held.1 y hy).2.2.1,fun q hq=>⟨(h2.new y hy q hq).imp (zkB hE hk) id,(h2.held.1 y hy).2.2.2 q hq⟩⟩,h2.held.2⟩
theorem VI.offE {Bs:zC} {H E E':Hp} {w w0:World} (hI:VI Bs H w) (j:Nat) (hj:Bs[j]?=some (w0,HS E)) (hE:E'.map (fun x=>hget H x.1)=E'.map (fun x=>some x.2)) {D:Nat->Prop} (hD:∀ q,D q->q<w0.heap.size) (ho:∀ q,HS E q->¬ D q):∀ q,HS E' q->¬ D q:=by
 rintro q ⟨x,hx,hq⟩ hd
 rcases (hI.base _ (zoU hj)).2 _ (zx (Has.of hE x hx)) q hq with h1 | h1
 . exact ho q h1 hd
 have:=hD q hd;simp only at h1;omega
def rho:List (Nat × Nat)->Nat->Nat
 | [],k=>k
 | (a,b)::r,k=>cond (Nat.beq a k) b (rho r k)
def zjg (ρ:List (Nat × Nat)):Hp->Hp
 | []=>[]
 | x::r=>(rho ρ x.1,x.2)::zjg ρ r
theorem zek (ρ:List (Nat × Nat)):∀ H:Hp,zjg ρ H=H.map fun x=>(rho ρ x.1,x.2)
 | []=>rfl
 | x::r=>by rw[zjg,zek ρ r];rfl
theorem VI.ren {Bs:zC} {H:Hp} {w:World} (ρ:List (Nat × Nat)) (h:VI Bs H w):VI Bs (zjg ρ H) w:=by
 have hm:∀ x ∈ zjg ρ H,∃ y ∈ H,y.2=x.2:=fun x hx=>by
  rw[zek]at hx
  obtain⟨y,hy,rfl⟩:=zqI.1 hx
  exact⟨y,hy,rfl⟩
 refine⟨fun x hx=>?_,fun x hx=>?_,?_,fun x hx y hy=>?_,fun x hx=>?_,fun p hp=>⟨(h.base p hp).1,fun x hx=>?_⟩⟩
 . obtain⟨y,hy,e⟩:=hm x hx;rw[<- e];exact h.holds y hy
 . obtain⟨y,hy,e⟩:=hm x hx;rw[<- e];exact h.loc y hy
 . rw[zek];exact List.Pairwise.map _ (fun _ _ h=>h) h.apart
 . obtain⟨x',hx',e⟩:=hm x hx;obtain⟨y',hy',e'⟩:=hm y hy;rw[<- e,<- e'];exact h.froz x' hx' y' hy'
 . obtain⟨y,hy,e⟩:=hm x hx;rw[<- e];exact h.low y hy
 obtain⟨y,hy,e⟩:=hm x hx;rw[<- e];exact(h.base p hp).2 y hy
section
variable {P:Program} {n:Nat} {Q:Exit->Act->World->Prop} {ks:List Fr} {pos:Pos} {env:Env} {A:Tgs} {H:Hp} {Bs:zC}
theorem V.ren (ρ:List (Nat × Nat)) (A1:Tgs) (hA1:A1.map (fun p=>zdM env p.1)=A1.map (fun p=>jC (zjg ρ H) p.2)) (hA2:A1.all (fun p=>(jC (zjg ρ H) p.2).isSome)=true) (h:V P n Q ks pos env A1 (zjg ρ H) Bs):V P n Q ks pos env A H Bs :=
 fun _ w hI=>h (TgOk.of hA1 hA2) w (hI.ren ρ)
theorem zoD (k1 k2:Nat) {F1 F2:Nat->Prop} {p1 p2:World->Prop} (hn:(hget H k1,hget H k2)=(some (.dat F1 p1),some (.dat F2 p2))) (h:∀ w,p1 w->p2 w->(∀ b,F1 b\/F2 b->b<w.heap.size)->(∀ b,HS H b->¬ F1 b)->(∀ b,HS H b->¬ F2 b)->V P n Q ks pos env A H ((w,HS H)::Bs)):V P n Q ks pos env A H Bs:=by
 simp only[Prod.mk.injEq]at hn
 intro hA w hI
 have h1:=hI.at k1 hn.1
 have h2:=hI.at k2 hn.2
 exact h w h1.1 h2.1 (fun b hb=>hb.elim (h1.2 b) (h2.2 b)) (fun b hb hF=>hI.offF k1 hn.1 b hF hb) (fun b hb hF=>hI.offF k2 hn.2 b hF hb) hA w hI.here
end
def AllR {α:Type} (R:Rel α) (D:Nat->Prop) (w:World):List α->List (List Value)->Prop
 | [],[]=>True
 | x::l,c::cs=>R D w x c/\AllR R D w l cs
 | _,_=>False
theorem AllR.at {α:Type} {R:Rel α} {D:Nat->Prop} {w:World}:∀ {l:List α} {cs:List (List Value)},AllR R D w l cs->∀ {i:Nat} {x:α},l[i]?=some x->∃ c,cs[i]?=some c/\R D w x c
 | [],[],_,i,x,h=>by simp at h
 | y::l,c::cs,h,0,x,hx=>by simp at hx;subst hx;exact⟨c,rfl,h.1⟩
 | y::l,c::cs,h,i+1,x,hx=>by
  obtain⟨c',h1,h2⟩:=AllR.at h.2 (i:=i) (x:=x) (by simpa using hx)
  exact⟨c',by simpa using h1,h2⟩
 | [],_::_,h,_,_,_=>h.elim
 | _::_,[],h,_,_,_=>h.elim
theorem zf5 {k:Nat}:∀ {cs:List (List Value)} {i j:Nat} {c:List Value} {u:Value},(∀ c ∈ cs,c.length=k)->cs[i]?=some c->c[j]?=some u->cs.flatten[i*k+j]?=some u
 | [],i,j,c,u,_,h,_=>by simp at h
 | y::cs,0,j,c,u,hk,h,hu=>by
  simp at h;subst h
  rw[Nat.zero_mul,zrq,zqm,zpj (zp7.1 hu).1];exact hu
 | y::cs,i+1,j,c,u,hk,h,hu=>by
  have hy:=hk y (zoX ..)
  rw[zqm,zrp,zpk (by omega),show i*k+k+j - y.length=i*k+j by omega]
  exact zf5 (fun c hc=>hk c (zoW _ hc)) (by simpa using h) hu
theorem zoE {α:Type} {k:Nat} {R:Rel α} {D:Nat->Prop} {w:World} {b:Nat} {e:TypeId} {l:List α} (cs:List (List Value)) (hb:Blk w b cs.flatten e) (hD:D b) (hk:∀ c ∈ cs,c.length=k) (hm:l.length<=9223372036854775807) (h:AllR R D w l cs):SlR k R D w (.slice (some ⟨b,0,none⟩) l.length l.length) l :=
 zmh hb hD rfl (zpi _) hm fun i x hx=>by
  obtain⟨c,h1,h2⟩:=h.at hx
  exact⟨c,hk c (zoU h1),fun j u hu=>zf5 hk h1 hu,h2⟩
section
variable {P:Program} {fn:Func} {R:Ending->World->Prop} {n:Nat} {env:Env} {A:Tgs} {H:Hp} {Bs:zC}
theorem zoF {s p:Tmp} {t1 t2:TypeId} {k1 o1 k2 o2 z1 z2:Nat} {c1 c2 l1 l2:List Value} (h:fn.results=#[.cell s t1,.cell p t2]) (ht1:∀ w,(isAgg t1).run P w=.ok true w) (ht2:∀ w,(isAgg t2).run P w=.ok true w) (hz1:∀ w,(sizeOf t1).run P w=.ok z1 w) (hz2:∀ w,(sizeOf t2).run P w=.ok z2 w) (hn1:tgt A s=some (k1,o1)) (hn2:tgt A p=some (k2,o2)) (hc1:jv H k1=some c1) (hc2:jv H k2=some c2) (hs1:zj7 z1 o1 c1=some l1) (hs2:zj7 z2 o2 c2=some l2)
  (hR:∀ w,VI Bs H w->R (.returned (.tuple #[.agg l1.toArray,.agg l2.toArray])) w):V P n (bodyPost P fn R) [] (.e .ret) env A H Bs:=fun hA w hw=>by
 obtain⟨a1,h1,h2⟩:=zaq hA hw hn1 hc1 hs1 ht1 hz1
 obtain⟨a2,h3,h4⟩:=zaq hA hw hn2 hc2 hs2 ht2 hz2
 intro a' ha
 have g1:=ha.get s _ h1
 have g2:=ha.get p _ h3
 refine bodyPost_ret (v:=.tuple #[.agg l1.toArray,.agg l2.toArray]) ?_ ha.defs (hR w hw)
 simp[results,h,g1,g2,asAddr,h2,h4]
end
end Go.GL
namespace Go.Proofs.YtckdhgbepmpgiaaGreat
open Go.GL
abbrev B22:=Nat × Nat × Nat × Nat × Nat × Nat × Nat × Nat × Nat × Nat
abbrev zfM (bv bb b4 bo b9 bf ba bp bu bn:Nat) (ph:Value) (u:Int):Hp:=[
 (906,.own bv [.string ⟨#[120]⟩,.int .i64 1,.int .i64 0,.int .i64 1,.int .i64 0,.string ⟨#[121]⟩,.int .i64 0,.int .i64 0,.int .i64 1,.int .i64 0] 142),
 (910,.own bb [.int .i64 0,.int .i64 0,.int .i64 1,.int .i64 0,.int .i64 0,.int .i64 1,.slice none 0 0,.slice none 0 0,.slice none 0 0,.slice none 0 0] 72),
 (914,.own b4 [.int .i64 3,.int .i64 0,.int .i64 0,.int .i64 0,.int .i64 24,.int .i64 0,.slice none 0 0,.slice (some ⟨bb,0,none⟩) 1 1,.slice none 0 0,.slice none 0 0,.int .i64 1,.int .i64 0,.int .i64 0,.int .i64 0,.int .i64 24,.int .i64 1,.slice none 0 0,.slice none 0 0,.slice none 0 0,.slice none 0 0] 72),
 (916,.own bo [.int .i64 0,.int .i64 1,.int .i64 1,.int .i64 1] 3),
 (919,.own b9 [.int .i64 0,.int .i64 0] 85),
 (922,.own bf [.int .i64 1,.int .i64 2] 3),
 (923,.own ba [.int .i64 1,.int .i64 2] 3),
 (925,.own bp [.int .i64 1,.int .i64 3,.slice (some ⟨bf,0,none⟩) 2 2,.slice (some ⟨ba,0,none⟩) 2 2] 88),
 (927,.own bu [.int .i64 1,.int .i64 u] 85),
 (930,.own bn [.slice none 0 0,.slice none 0 0,.int .i64 (-1),.slice none 0 0,.slice (some ⟨b9,0,none⟩) 1 1,.int .i64 (-1),.slice none 0 0,.slice none 0 0,.int .i64 2,ph,.slice (some ⟨bu,0,none⟩) 1 1,.int .i64 (-1),.slice none 0 0,.slice none 0 0,.int .i64 (-1)] 59)]
theorem zdG (W:World):Calls Tryz.prog 31 #[] W (Ret fun r w'=>∃ b:B22,r=.tuple #[.agg #[.slice (some ⟨b.1,0,none⟩) 2 2,.slice none 0 0,.slice (some ⟨b.2.2.1,0,none⟩) 2 2],.agg #[.slice (some ⟨b.2.2.2.1,0,none⟩) 4 4,.slice (some ⟨b.2.2.2.2.2.2.2.2.2,0,none⟩) 5 5]]/\GBack [] (zfM b.1 b.2.1 b.2.2.1 b.2.2.2.1 b.2.2.2.2.1 b.2.2.2.2.2.1 b.2.2.2.2.2.2.1 b.2.2.2.2.2.2.2.1 b.2.2.2.2.2.2.2.2.1 b.2.2.2.2.2.2.2.2.2 (.slice (some ⟨b.2.2.2.2.2.2.2.1,0,none⟩) 1 1) 3) W w'):=by
 refine zn0 Tryz.func31 O Tryz.ntmps31 (znb ?_)
 refine Vs 2 O ?_
 refine V.alloc 0 tz26 O O (fun b0=>?_)
 refine V.alloc 1 tz30 O O (fun b1=>?_)
 refine Vs 4 O ?_
 refine znO [Value.string { data:=#[] },Value.int IntKind.i64 0,Value.int IntKind.i64 0,Value.int IntKind.i64 0,Value.int IntKind.i64 0] [(0,1),(1,1),(2,1),(3,1),(4,1)] [(0,_),(1,_),(3,_)] O O (fun _=>by kernel_rfl) ?_
 refine znO [Value.string { data:=#[] },Value.int IntKind.i64 0,Value.int IntKind.i64 0,Value.int IntKind.i64 0,Value.int IntKind.i64 0] [(0,1),(1,1),(2,1),(3,1),(4,1)] [(0,_),(3,_)] O O (fun _=>by kernel_rfl) ?_
 refine V.bs 6 [(0,_),(1,_)] tR22 ts142 tz142 (by decide) O O (by kernel_rfl) (fun b6=>?_)
 refine znO [Value.int IntKind.i64 0,Value.int IntKind.i64 0,Value.slice none 0 0] [(0,1),(1,1),(2,1)] [(0,_)] O O (fun _=>by kernel_rfl) ?_
 refine znO [Value.int IntKind.i64 0,Value.int IntKind.i64 0,Value.slice none 0 0] [(0,1),(1,1),(2,1)] [(1,_)] O O (fun _=>by kernel_rfl) ?_
 refine znO [Value.int IntKind.i64 0,Value.int IntKind.i64 0,Value.int IntKind.i64 0,Value.int IntKind.i64 0,Value.int IntKind.i64 0,Value.int IntKind.i64 0,Value.slice none 0 0,Value.slice none 0 0,Value.slice none 0 0,Value.slice none 0 0] [(0,1),(1,1),(2,1),(3,1),(4,3),(7,1),(8,1),(9,1)] [(0,_),(2,_),(4,_)] O O (fun _=>by kernel_rfl) ?_
 refine V.bs 10 [(0,_)] tR24 ts72 tz72 (by decide) O O (by kernel_rfl) (fun b10=>?_)
 refine znO [Value.int IntKind.i64 0,Value.int IntKind.i64 0,Value.int IntKind.i64 0,Value.int IntKind.i64 0,Value.int IntKind.i64 0,Value.int IntKind.i64 0,Value.slice none 0 0,Value.slice none 0 0,Value.slice none 0 0,Value.slice none 0 0] [(0,1),(1,1),(2,1),(3,1),(4,3),(7,1),(8,1),(9,1)] [(0,_),(4,_),(5,_)] O O (fun _=>by kernel_rfl) ?_
 refine znO [Value.int IntKind.i64 0,Value.int IntKind.i64 0,Value.slice none 0 0] [(0,1),(1,1),(2,1)] [(0,_),(1,_)] O O (fun _=>by kernel_rfl) ?_
 refine znO [Value.int IntKind.i64 0,Value.int IntKind.i64 0,Value.int IntKind.i64 0,Value.int IntKind.i64 0,Value.int IntKind.i64 0,Value.int IntKind.i64 0,Value.slice none 0 0,Value.slice none 0 0,Value.slice none 0 0,Value.slice none 0 0] [(0,1),(1,1),(2,1),(3,1),(4,3),(7,1),(8,1),(9,1)] [(0,_),(4,_)] O O (fun _=>by kernel_rfl) ?_
 refine V.bs 14 [(0,_),(1,_)] tR24 ts72 tz72 (by decide) O O (by kernel_rfl) (fun b14=>?_)
 refine znO [Value.slice none 0 0,Value.slice none 0 0,Value.slice none 0 0] [(0,1),(1,1),(2,1)] [(0,_),(2,_)] O O (fun _=>by kernel_rfl) ?_
 refine V.alloc 2 tz26 O O (fun b2=>?_)
 refine Vs 5 O ?_
 refine V.bs 16 [(0,_),(1,_),(2,_),(3,_)] tR27 ts3 tz3 (by decide) O O (by kernel_rfl) (fun b16=>?_)
 refine znO [Value.slice none 0 0,Value.slice none 0 0,Value.int IntKind.i64 0] [(0,1),(1,1),(2,1)] [(2,_)] O O (fun _=>by kernel_rfl) ?_
 refine znO [Value.int IntKind.i64 0,Value.int IntKind.i64 0] [(0,1),(1,1)] [(0,_),(1,_)] O O (fun _=>by kernel_rfl) ?_
 refine V.bs 19 [(0,_)] tR57 ts85 tz85 (by decide) O O (by kernel_rfl) (fun b19=>?_)
 refine znO [Value.slice none 0 0,Value.slice none 0 0,Value.int IntKind.i64 0] [(0,1),(1,1),(2,1)] [(1,_),(2,_)] O O (fun _=>by kernel_rfl) ?_
 refine znO [Value.slice none 0 0,Value.slice none 0 0,Value.int IntKind.i64 0] [(0,1),(1,1),(2,1)] [(2,_)] O O (fun _=>by kernel_rfl) ?_
 refine V.bs 22 [(0,_),(1,_)] tR27 ts3 tz3 (by decide) O O (by kernel_rfl) (fun b22=>?_)
 refine V.bs 23 [(0,_),(1,_)] tR27 ts3 tz3 (by decide) O O (by kernel_rfl) (fun b23=>?_)
 refine znO [Value.int IntKind.i64 0,Value.int IntKind.i64 0,Value.slice none 0 0,Value.slice none 0 0] [(0,1),(1,1),(2,1),(3,1)] [(0,_),(1,_),(2,_),(3,_)] O O (fun _=>by kernel_rfl) ?_
 refine V.bs 25 [(0,_)] tR56 ts88 tz88 (by decide) O O (by kernel_rfl) (fun b25=>?_)
 refine znO [Value.int IntKind.i64 0,Value.int IntKind.i64 0] [(0,1),(1,1)] [(0,_),(1,_)] O O (fun _=>by kernel_rfl) ?_
 refine V.bs 27 [(0,_)] tR57 ts85 tz85 (by decide) O O (by kernel_rfl) (fun b27=>?_)
 refine znO [Value.slice none 0 0,Value.slice none 0 0,Value.int IntKind.i64 0] [(0,1),(1,1),(2,1)] [(0,_),(1,_),(2,_)] O O (fun _=>by kernel_rfl) ?_
 refine znO [Value.slice none 0 0,Value.slice none 0 0,Value.int IntKind.i64 0] [(0,1),(1,1),(2,1)] [(2,_)] O O (fun _=>by kernel_rfl) ?_
 refine V.bs 30 [(0,_),(1,_),(2,_),(3,_),(4,_)] tR28 ts59 tz59 (by decide) O O (by kernel_rfl) (fun b30=>?_)
 refine znO [Value.slice none 0 0,Value.slice none 0 0] [(0,1),(1,1)] [(0,_),(1,_)] O O (fun _=>by kernel_rfl) ?_
 refine V.alloc 3 tz30 O O (fun b3=>?_)
 refine Vs 4 O ?_
 refine V.ren [(6,906),(10,910),(14,914),(16,916),(19,919),(22,922),(23,923),(25,925),(27,927),(30,930)] [(0,some (0,0)),(1,some (1,0)),(2,some (2,0)),(3,some (3,0))] O O ?_
 refine Vw [1,906,910,914,2,916,919,922,923,925,927,930,3] [3] O ?_
 refine Vd [0,1] 0 (by kernel_rfl) O O O ?_
 refine Ve 2 0 O (by kernel_rfl) O O O ?_
 refine Vl 3 O (by kernel_rfl) O ?_
 refine VDx.done (by kernel_rfl) ?_
 refine Vs 2 O ?_
 refine zoF Tryz.results31 tg26 Tryz.isAgg30 ts26 ts30 O O O O O O (fun w hI=>⟨_,rfl,(b6,b10,b14,b16,b19,b22,b23,b25,b27,b30),rfl,hI.back0 0 O O O rfl⟩)
theorem zhp (f:Fl) (v1 v2 v3:Value) (D:Nat->Prop) (W:World) (hf:RFl D W f v1 v2 v3) (hsz:ssize f.body<=10000) :
  Calls Tryz.prog 14 #[.agg #[v1,v2,v3]] W (Ret fun r w'=>(∃ nv,r=.agg #[nv]/\SlR 4 RNd (fun b=>W.heap.size<=b) w' nv (zi f))/\Ext W w'):=by
 refine zn1 Tryz.func14 O Tryz.ntmps14 O (znb ?_)
 refine Vs 2 O ?_
 refine V.box 1 O O (fun b1=>?_)
 refine V.alloc 2 tz36 O O (fun b2=>?_)
 refine Vs 5 O ?_
 refine zny Tryz.call33 O (fun w hI=>zeh f v1 v2 v3 D w (Tr1 hI.k0 hf) hsz) ?_
 rintro rr w1 w2 hI1 hk12 ⟨nv,rfl,hnv⟩ hlow
 have hsz1:W.heap.size<=w1.heap.size:=hI1.k0.size
 obtain⟨an,cn,rfl⟩:=hnv.form
 refine Vs 4 O ?_
 refine zlB Tryz.results14 tg36 ts36 O O O (fun w hI=>⟨_,rfl,⟨_,rfl,(hnv.keep zI hI.k0 fun b hb _ hs=>by have:=hlow b hs;omega).wide zI fun b hb=>by omega⟩,hI.k1⟩)
section
variable {D:Nat->Prop} {w:World} {bv bb b4 bo b9 bf ba bp bu bn:Nat} {ph:Value} {u:Int}
theorem kO (hE:∀ x ∈ zfM bv bb b4 bo b9 bf ba bp bu bn ph u,x.2.holds w) (hD:∀ q,q<w.heap.size->D q):RFl D w exF22 (.slice (some ⟨bv,0,none⟩) 2 2) (.slice none 0 0) (.slice (some ⟨b4,0,none⟩) 2 2):=by
 have h1:=hE _ (zoX ..)
 replace h1:Blk w bv _ 142:=h1
 have h2:=hE _ (zoW _ (zoX ..))
 replace h2:Blk w bb _ 72:=h2
 have h3:=hE _ (zoW _ (zoW _ (zoX ..)))
 replace h3:Blk w b4 _ 72:=h3
 have kA:SlR 10 RSt D w (.slice (some ⟨bb,0,none⟩) 1 1) [ziP]:=zoE (R:=RSt) (l:=[ziP]) [[.int .i64 0,.int .i64 0,.int .i64 1,.int .i64 0,.int .i64 0,.int .i64 1,.slice none 0 0,.slice none 0 0,.slice none 0 0,.slice none 0 0]] h2 (hD _ h2.lt) (fun c hc=>by rw[zpb]at hc;subst hc;rfl) (by decide) ⟨RSt.put (s:=ziP) SlR.nil SlR.nil SlR.nil SlR.nil,trivial⟩
 refine⟨?_,SlR.nil,?_⟩
 . exact zoE (R:=RVr) (l:=exF22.vars)  [[.string ⟨#[120]⟩,.int .i64 1,.int .i64 0,.int .i64 1,.int .i64 0],[.string ⟨#[121]⟩,.int .i64 0,.int .i64 0,.int .i64 1,.int .i64 0]] h1 (hD _ h1.lt) (fun c hc=>by simp only[zp9,zqO,or_false]at hc;rcases hc with rfl | rfl<;>rfl) (by decide) ⟨rfl,rfl,trivial⟩
 exact zoE (R:=RSt) (l:=exF22.body)  [[.int .i64 3,.int .i64 0,.int .i64 0,.int .i64 0,.int .i64 24,.int .i64 0,.slice none 0 0,.slice (some ⟨bb,0,none⟩) 1 1,.slice none 0 0,.slice none 0 0],[.int .i64 1,.int .i64 0,.int .i64 0,.int .i64 0,.int .i64 24,.int .i64 1,.slice none 0 0,.slice none 0 0,.slice none 0 0,.slice none 0 0]] h3 (hD _ h3.lt) (fun c hc=>by simp only[zp9,zqO,or_false]at hc;rcases hc with rfl | rfl<;>rfl) (by decide) ⟨RSt.put (s:=zky) SlR.nil kA SlR.nil SlR.nil,RSt.put (s:=zkz) SlR.nil SlR.nil SlR.nil SlR.nil,trivial⟩
theorem zc6 (hE:∀ x ∈ zfM bv bb b4 bo b9 bf ba bp bu bn ph u,x.2.holds w) (hD:∀ q,q<w.heap.size->D q):SlR 1 yc D w (.slice (some ⟨bo,0,none⟩) 4 4) [0,1,1,1]:=by
 have h4:=hE _ (zoW _ (zoW _ (zoW _ (zoX ..))))
 replace h4:Blk w bo _ 3:=h4
 exact zoE (R:=yc) (l:=[(0:Int),1,1,1]) [[.int .i64 0],[.int .i64 1],[.int .i64 1],[.int .i64 1]] h4 (hD _ h4.lt) (fun c hc=>by simp only[zp9,zqO,or_false]at hc;rcases hc with rfl | rfl | rfl | rfl<;>rfl) (by decide) ⟨rfl,rfl,rfl,rfl,trivial⟩
theorem zc7 {phis:List Phn} (hE:∀ x ∈ zfM bv bb b4 bo b9 bf ba bp bu bn ph u,x.2.holds w) (hD:∀ q,q<w.heap.size->D q) (hp:SlR 4 zil D w ph phis):SlR 3 RSn D w (.slice (some ⟨bn,0,none⟩) 5 5) [⟨[],[],-1⟩,⟨[],[(0,0)],-1⟩,⟨[],[],2⟩,⟨phis,[(1,u)],-1⟩,⟨[],[],-1⟩]:=by
 have h5:=hE _ (zoW _ (zoW _ (zoW _ (zoW _ (zoX ..)))))
 replace h5:Blk w b9 _ 85:=h5
 have h9:=hE _ (zoW _ (zoW _ (zoW _ (zoW _ (zoW _ (zoW _ (zoW _ (zoW _ (zoX ..)))))))))
 replace h9:Blk w bu _ 85:=h9
 have h10:=hE _ (zoW _ (zoW _ (zoW _ (zoW _ (zoW _ (zoW _ (zoW _ (zoW _ (zoW _ (zoX ..))))))))))
 replace h10:Blk w bn _ 59:=h10
 have k5:SlR 2 zai D w (.slice (some ⟨b9,0,none⟩) 1 1) [(0,0)]:=zoE (R:=zai) (l:=[((0:Int),(0:Int))]) [[.int .i64 0,.int .i64 0]] h5 (hD _ h5.lt) (fun c hc=>by rw[zpb]at hc;subst hc;rfl) (by decide) ⟨rfl,trivial⟩
 have k9:SlR 2 zai D w (.slice (some ⟨bu,0,none⟩) 1 1) [(1,u)]:=zoE (R:=zai) (l:=[((1:Int),u)]) [[.int .i64 1,.int .i64 u]] h9 (hD _ h9.lt) (fun c hc=>by rw[zpb]at hc;subst hc;rfl) (by simp) ⟨rfl,trivial⟩
 exact zoE (R:=RSn) (l:=[⟨[],[],-1⟩,⟨[],[(0,0)],-1⟩,⟨[],[],2⟩,⟨phis,[(1,u)],-1⟩,⟨[],[],-1⟩]) [[.slice none 0 0,.slice none 0 0,.int .i64 (-1)],[.slice none 0 0,.slice (some ⟨b9,0,none⟩) 1 1,.int .i64 (-1)],[.slice none 0 0,.slice none 0 0,.int .i64 2],[ph,.slice (some ⟨bu,0,none⟩) 1 1,.int .i64 (-1)],[.slice none 0 0,.slice none 0 0,.int .i64 (-1)]] h10 (hD _ h10.lt) (fun c hc=>by simp only[zp9,zqO,or_false]at hc;rcases hc with rfl | rfl | rfl | rfl | rfl<;>rfl) (by simp)
  ⟨⟨_,_,rfl,SlR.nil,SlR.nil⟩,⟨_,_,rfl,SlR.nil,k5⟩,⟨_,_,rfl,SlR.nil,SlR.nil⟩,⟨_,_,rfl,hp,k9⟩,⟨_,_,rfl,SlR.nil,SlR.nil⟩,trivial⟩
theorem zcJ (hE:∀ x ∈ zfM bv bb b4 bo b9 bf ba bp bu bn (.slice (some ⟨bp,0,none⟩) 1 1) 3,x.2.holds w) (hD:∀ q,q<w.heap.size->D q):RSf D w exS22 (.slice (some ⟨bo,0,none⟩) 4 4) (.slice (some ⟨bn,0,none⟩) 5 5):=by
 have h6:=hE _ (zoW _ (zoW _ (zoW _ (zoW _ (zoW _ (zoX ..))))))
 replace h6:Blk w bf _ 3:=h6
 have h7:=hE _ (zoW _ (zoW _ (zoW _ (zoW _ (zoW _ (zoW _ (zoX ..)))))))
 replace h7:Blk w ba _ 3:=h7
 have h8:=hE _ (zoW _ (zoW _ (zoW _ (zoW _ (zoW _ (zoW _ (zoW _ (zoX ..))))))))
 replace h8:Blk w bp _ 88:=h8
 have k6:SlR 1 yc D w (.slice (some ⟨bf,0,none⟩) 2 2) [1,2]:=zoE (R:=yc) (l:=[(1:Int),2]) [[.int .i64 1],[.int .i64 2]] h6 (hD _ h6.lt) (fun c hc=>by simp only[zp9,zqO,or_false]at hc;rcases hc with rfl | rfl<;>rfl) (by decide) ⟨rfl,rfl,trivial⟩
 have k7:SlR 1 yc D w (.slice (some ⟨ba,0,none⟩) 2 2) [1,2]:=zoE (R:=yc) (l:=[(1:Int),2]) [[.int .i64 1],[.int .i64 2]] h7 (hD _ h7.lt) (fun c hc=>by simp only[zp9,zqO,or_false]at hc;rcases hc with rfl | rfl<;>rfl) (by decide) ⟨rfl,rfl,trivial⟩
 refine⟨zc6 hE hD,zc7 (phis:=[⟨1,3,[1,2],[1,2]⟩]) hE hD ?_⟩
 exact zoE (R:=zil) (l:=[⟨1,3,[1,2],[1,2]⟩]) [[.int .i64 1,.int .i64 3,.slice (some ⟨bf,0,none⟩) 2 2,.slice (some ⟨ba,0,none⟩) 2 2]] h8 (hD _ h8.lt) (fun c hc=>by rw[zpb]at hc;subst hc;rfl) (by decide) ⟨⟨_,_,rfl,k6,k7⟩,trivial⟩
theorem zhq (hE:∀ x ∈ zfM bv bb b4 bo b9 bf ba bp bu bn (.slice none 0 0) 2,x.2.holds w) (hD:∀ q,q<w.heap.size->D q):RSf D w exT22 (.slice (some ⟨bo,0,none⟩) 4 4) (.slice (some ⟨bn,0,none⟩) 5 5):=⟨zc6 hE hD,zc7 (phis:=[]) hE hD SlR.nil⟩
end
def zhr:Ins:=⟨[1],[],[]⟩
theorem zfN:zB exF22.vars zhr=0:=by decide +kernel
theorem zhs:(zfp exF22 zhr).outs=[1]:=by decide +kernel
theorem zdH {f:Fl} {g:List Nd} {s:Sf} {k:Nat} (hk:k<s.of_.length) (hN:NeedV f g s (k:Int)):(kM f g s)[k]?=some true:=by
 unfold kM
 rw[zpa,List.getElem?_range hk]
 simp only[zrw]
 rw[@zp5 _ (Classical.propDecidable _) hN]
theorem zfO:(kM exF22 exG22 exS22)[0]?=some true:=zdH (by decide) (NeedV.sink (n:=1) (u:=(0,0)) (by decide) (by decide +kernel) (by decide +kernel))
theorem zfP:(kM exF22 exG22 exS22)[3]?=some true:=zdH (by decide) (NeedV.sink (n:=3) (u:=(1,3)) (by decide) (by decide +kernel) (by decide +kernel))
theorem zjZ:(yi exF22 exG22 exS22 exG22.length).length+muN exS22 exG22.length (List.replicate exS22.of_.length false)<=1000000000:=by decide +kernel
open Go.GL
def zk0 (f:Fl) (s:Sf) (r:Ins) (i:Nat) (vl:List Int):Prop:=(i=0->∀ v:Nat,v<f.vars.length->vl[v]?=(zG f.vars r)[v]?)/\∀ j,i=j+1->∀ y:Nat,(yJ f r j).at_=(y:Int)->zgE f (zi f) s y vl (yJ f r i).σ.vals
theorem zht {f:Fl} {r:Ins} (vd:Valid f) {K i n n':Nat} {x x':Nd} (hw:OnWalk f r K i n x) (hw':OnWalk f r K (i+1) n' x') (hi:i<K):n ∈ yW (zi f) n'/\n' ≠ 0:=by
 have hn:=(zp7.1 hw.nd).1
 have h1:=(hw.go hi).1
 have h2:(yJ f r (i+1)).at_=_:=congrArg Mc.at_ h1
 rw[hw'.at_]at h2
 dsimp only at h2
 have h3:=zjP f (ya f r) x (zO f x.at_) (yJ f r i).σ (yJ f r i).rd
 rw[<- h2]at h3
 have h4:=(vd.away hw.nd).1 _ h3
 refine⟨pred_mem.2 ⟨hn,?_⟩,by omega⟩
 rw[yD hw.nd]
 rcases h3 with h3 | h3
 . exact .inl h3.symm
 exact .inr h3.symm
theorem ziW {f:Fl} {r:Ins} {K n:Nat} {x:Nd} (hw:OnWalk f r K 0 n x):n=0:=by
 have h:(yJ f r 0).at_=0:=rfl
 have:=hw.at_
 omega
theorem zkX {f:Fl} {g:List Nd} {s:Sf} {rd:Nat->List Int} (h:FormF f g s rd) (hg:0<g.length):(zg s 0).phis=[]:=(h.at hg).phi.zero rfl
theorem ziX {f:Fl} {r:Ins} {s:Sf} (vd:Valid f) (h:RightF f (zi f) s (rdV f (zi f))) {K i n y:Nat} {x:Nd} (hg:GoesAll f r K) (hi:i<=K) (hw:OnWalk f r K i n x) (hy:(yJ f r (i - 1)).at_=(y:Int)) {vl:List Int} (hlen:vl.length=s.of_.length) (hp:zk0 f s r i vl) :
  InvV f (zi f) s n (qJ f (zi f) s y vl (zg s n).phis) (yJ f r i).σ.vals/\((zg s n).phis ≠ []->y ∈ yW (zi f) n):=by
 have hn:=(zp7.1 hw.nd).1
 cases i with
 | zero =>
  obtain rfl:=ziW hw
  have h0:=zkX h.toFormF hn
  rw[h0]
  exact⟨zo5 h.toFormF (hp.1 O),fun h=>absurd O h⟩
 | succ j =>
  obtain⟨n0,x0,hw0⟩:=zh2 vd hg (show j<=K by omega)
  rw[Nat.add_sub_cancel,hw0.at_]at hy
  obtain rfl:n0=y:=by omega
  obtain⟨h1,h2⟩:=zht vd hw0 hw (by omega)
  exact⟨zhf h h2 hn h1 hlen (hp.2 j O n0 hw0.at_),fun _=>h1⟩
theorem ziY {f:Fl} {r:Ins} {s:Sf} {K i n:Nat} {x:Nd} (hw:OnWalk f r K i n x) {vl:List Int} (h:zgE f (zi f) s n vl (yJ f r (i+1)).σ.vals):zk0 f s r (i+1) vl:=by
 refine⟨fun h=>by omega,fun j hj y hy=>?_⟩
 obtain rfl:i=j:=by omega
 rw[hw.at_]at hy
 obtain rfl:n=y:=by omega
 exact h
theorem zfQ (f:Fl):CtOk f (List.replicate (zi f).length 0) (fun _=>0):=fun i x hx _=>by
 rw[List.getElem?_replicate,zp4 (zp7.1 hx).1]
theorem zcK {f:Fl} {s:Sf} (_:Valid f) (h:RightF f (zi f) s (rdV f (zi f))) {n:Nat} {x:Nd} (hx:(zi f)[n]?=some x) {σ:Sg} (_:InV f.vars σ.vals) {vl:List Int} (hI:InvV f (zi f) s n vl σ.vals) (_:List Int) (hn:zdn f x=false):zgE f (zi f) s n vl σ.vals:=by
 refine hI.pass h ?_
 unfold xA
 rw[yD hx,hn,zp3 (by decide)]
 decide
theorem zk1 {f:Fl} {s:Sf} (h:RightF f (zi f) s (rdV f (zi f))) {n:Nat} {x:Nd} (hx:(zi f)[n]?=some x) {vals:List Int} (hV:InV f.vars vals) {vl:List Int} (hI:InvV f (zi f) s n vl vals) (hl:vl.length=s.of_.length) (ha:zdn f x=true) {v:Vr} {k:Nat} (hk:(zO f x.at_).var=(k:Int)) (hv:f.vars[k]?=some v) (m:Int):zgE f (zi f) s n (vl.set (zg s n).dfn.toNat (yY m v.low v.high)) (zjb f.vars vals (zO f x.at_).var m)/\∃ q:Nat,(zg s n).dfn=(q:Int)/\q<vl.length:=by
 have hkl:=(zp7.1 hv).1
 have hd:xA f (zi f) n=(k:Int):=by unfold xA;rw[yD hx,ha,zp4 rfl,hk]
 have hnl:=(zp7.1 hx).1
 have hyes:=(h.toFormF.at hnl).yes (by omega)
 have hs:zjb f.vars vals (zO f x.at_).var m=vals.set k (yY m v.low v.high):=by unfold zjb;rw[hk,zpf,hv]
 rw[hs]
 refine⟨hI.set h hnl hd hkl (by rw[hV.len];exact hkl) (by omega) _,?_⟩
 obtain⟨q,hq,hql⟩:=xR hyes
 exact⟨q,hq,by omega⟩
abbrev rnH (b gb:Nat) (ofv nodv vv hv rv ov:Value) (vl rl outs:List Int) (t:Int):Hp:=[(900,.own b (rnr gb ofv nodv vv hv rv ov (.int .i64 t)) 107),(901,xB vv vl),(902,xB rv rl),(903,xB ov outs)]
abbrev zkC (f:Fl) (s:Sf) (n:Nat) (b gb:Nat) (ofv nodv vv hv rv ov:Value) (vl ro:List Int) (outs:List Int) (t:Int) (σ':Sg) (W w':World):Prop:=∃ (x:List Int × Value),(x.1.length=vl.length/\zgE f (zi f) s n x.1 σ'.vals)/\GBack (rnH b gb ofv nodv vv hv rv ov vl ro outs t) (rnH b gb ofv nodv vv hv rv x.2 x.1 ro σ'.outs σ'.time) W w'
theorem zk2 {f:Fl} {x:Nd} (k2:x.kind=2):zdn f x=(decide ((zO f x.at_).act=0) || decide ((zO f x.at_).act=5)):=by unfold zdn;rw[zp5 k2,zpL]
theorem zk3 (f:Fl) (s:Sf) (vd:Valid f) (hR:RightF f (zi f) s (rdV f (zi f))) (hs:List Int) (hhs:hs.length=f.hatches.length) (n:Nat) (x:Nd) (hx:(zi f)[n]?=some x) (k2:x.kind=2) (σ:Sg) (hV:InV f.vars σ.vals) (hol:σ.outs.length<=1000000000) (vl ro:List Int) (hvl:vl.length=s.of_.length) (hInv:InvV f (zi f) s n vl σ.vals)
  (b gb:Nat) (ofv nodv vv hv rv ov:Value) (D Dh:Nat->Prop) (W:World) (hE:zkA (rnH b gb ofv nodv vv hv rv ov vl ro σ.outs (σ.time+(zO f x.at_).cost)) W) (hS:RSf D W s ofv nodv) (hG:GrO D W f (zi f) gb) (hh:SlR 1 yc Dh W hv hs) (hlow:∀ q,HS (rnH b gb ofv nodv vv hv rv ov vl ro σ.outs (σ.time+(zO f x.at_).cost)) q->¬ D q) (hlow2:∀ q,HS (rnH b gb ofv nodv vv hv rv ov vl ro σ.outs (σ.time+(zO f x.at_).cost)) q->¬ Dh q)
  (a1:Option Addr) (n1:Nat) (a2:Option Addr) (n2:Nat) (a3:Option Addr) (n3:Nat) (a4:Option Addr) (n4:Nat) (hb:SlR 1 yc D W (.slice a4 (zO f x.at_).bounds.length n4) (zO f x.at_).bounds) :
  Calls Tryz.prog 93 #[.pointer (some ⟨b,0,none⟩),.int .i64 n,.agg #[.int .i64 (zO f x.at_).act,.int .i64 (zO f x.at_).cost,.int .i64 (zO f x.at_).var,.int .i64 (zO f x.at_).n,.int .i64 (zO f x.at_).term.op,.int .i64 (zO f x.at_).term.n,.slice a1 (zO f x.at_).term.kids.length n1,.slice a2 (zO f x.at_).thn.length n2,.slice a3 (zO f x.at_).els.length n3,.slice a4 (zO f x.at_).bounds.length n4]] W (Ret fun r w'=>r=.tuple #[]/\zkC f s n b gb ofv nodv vv hv rv ov vl ro σ.outs (σ.time+(zO f x.at_).cost) (xU f hs (zO f x.at_) σ) W w'):=by
 have hnl:=(zp7.1 hx).1
 obtain⟨h0,hlt,_⟩:=vd.gOk.at hx (.inl k2)
 have hget:=qH h0 hlt
 obtain⟨hso,hse,_⟩:=vd.step _ (zoU hget)
 have hndx:xk (zi f) n=x:=yD hx
 have hstn:stN f (xk (zi f) n)=zO f x.at_:=by rw[hndx];unfold stN;rw[zp4 h0]
 have hl:=vd.lens
 have hss:=vd.ssize
 have hcl:=yH f vd.plain
 have hwl:=xd f.body
 have hasg:=zk2 (f:=f) k2
 have hlen:=hR.len
 obtain⟨xs,he_s⟩:∃ xs,s.nodes[n]?=some xs:=⟨_,zoT (by omega)⟩
 have hxn:=yC he_s
 obtain⟨v1,v2,v3,gv,sv,pv,hD,hcell,hf,_,_,_⟩:=id hG
 have hvs:=hf.vars
 obtain⟨av,cv,rfl⟩:=hvs.form
 have hnod:=hS.nodes
 obtain⟨an,cn,rfl⟩:=hnod.form
 obtain⟨ah,ch,rfl⟩:=hh.form
 have hvm:=hS.of_.max
 generalize hst:zO f x.at_=st at *
 refine zn3 Tryz.func93 O Tryz.ntmps93 O (zoo [(900,.own b [.pointer (some ⟨gb,0,none⟩),ofv,.slice an s.nodes.length cn,vv,.slice ah hs.length ch,rv,ov,.int .i64 (σ.time+st.cost)] 107),(901,.row 3 1 vv vl.length (vl.map zb)),(902,.row 3 1 rv ro.length (ro.map zb)),(903,.row 3 1 ov σ.outs.length (σ.outs.map zb))] hE.1 hE.2 ?_)
 refine znI 904 0 O O (fun h=>hlow _ h hD) hcell ?_
 refine zni 0 900 0 O O ?_
 have hterm:rdB f x=true->∀ w,Keep (HS (rnH b gb ofv (.slice an s.nodes.length cn) vv (.slice ah hs.length ch) rv ov vl ro σ.outs (σ.time+st.cost))) W w->Cells w b 0 (rnr gb ofv (.slice an s.nodes.length cn) vv (.slice ah hs.length ch) rv ov (.int .i64 (σ.time+st.cost)))->w.ownsRow 0 3 1 vv vl.length (vl.map zb)->Calls Tryz.prog 92 #[.pointer (some ⟨b,0,none⟩),.int .i64 n] w (Ret fun r w'=>r=.int .i64 (qp σ.vals st.term)/\Ext w w'):=fun hrd w hk hc hv=>hstn ▸ zf0 f (zi f) s vd.good hR n hnl (hstn ▸ hso) (by rw[hndx];exact h0) (by rw[hndx];exact hrd) (by omega) (by omega) vl σ.vals hV hInv b gb _ _ _ _ _ _ _ D D (fun _=>True) w hc (hS.keep hk fun q hq _ h=>hlow q h hq) (hG.keep hk fun q hq _ h=>hlow q h hq) (zmj zb (fun _ _=>rfl) hv (fun _ _=>trivial))
 refine Vs 2 O ?_
 refine V.box 5 O O (fun b5=>?_)
 refine Vs 15 O ?_
 refine zld O (fun a1=>?_) (fun a1=>?_)
 .
  have hrd:rdB f x=true:=by unfold rdB;rw[hst];simp[k2,a1]
  have hx1:xU f hs st σ={ σ with outs:=σ.outs++[qp σ.vals st.term],time:=σ.time+st.cost }:=by unfold xU;rw[zp3 (by omega),zp4 a1]
  have hpre:=zcK vd hR hx hV hInv hs (by rw[hasg];simp[a1])
  refine Vw [900,904,5] [14] O ?_
  refine Vd [0,1,2,3,4,5,6,7] 0 (by kernel_rfl) O O O ?_
  refine znx 8 0 Tryz.call92 O (by kernel_rfl) O O (fun w hI=>hterm hrd w hI.k0 (hI.at 900 O).cells (hI.at 901 O)) ?_
  refine VD.bs 9 21 0 [(0,_)] tR27 ts3 tz3 (by decide) O (by kernel_rfl) O O (by kernel_rfl) (fun b21=>?_)
  refine znq 10 903 21 0 tu27 Tryz.el3 O (by decide) O (by kernel_rfl) O O O (by omega) (by omega) (fun u903=>?_)
  refine Vd [11,12,13] 0 (by kernel_rfl) O O O ?_
  refine zns 903 O (by omega) ?_
  rintro bo co rfl hcap_903
  refine Vl 14 O (by kernel_rfl) O ?_
  refine VDx.done (by kernel_rfl) ?_
  refine Vs 1 O ?_
  refine znJ 903 O (e':=.row 3 1 (.slice (some ⟨bo,0,none⟩) (σ.outs.length+1) co) (σ.outs++[qp σ.vals st.term]).length ((σ.outs++[qp σ.vals st.term]).map zb)) (by simp[zb]) ?_
  refine zlH tr93 (fun w hI=>⟨_,rfl,rfl,hx1 ▸ ⟨(vl,.slice (some ⟨bo,0,none⟩) (σ.outs.length+1) co),⟨rfl,hpre⟩,hI.back 0 O O O rfl⟩⟩)
 refine Vs 6 O ?_
 refine zld O (fun a6=>?_) (fun a6=>?_)
 .
  have hx1:xU f hs st σ={ σ with time:=jJ st.bounds (σ.time+st.cost) }:=by unfold xU;rw[zp3 (by omega),zp3 a1,zp3 (by omega),zp4 a6]
  have hpre:=zcK vd hR hx hV hInv hs (by rw[hasg];simp[a6])
  refine Vw [900,904,5] [12] O ?_
  refine Vd [0,1,2,3,4,5,6,7] 0 (by kernel_rfl) O O O ?_
  refine znx 8 0 Tryz.call134 O (by kernel_rfl) O O (fun w hI=>zbI st.bounds (σ.time+st.cost) _ D w (hb.keep ze hI.k0 fun q hq _ h=>hlow q h hq)) ?_
  refine Vd [9,10,11] 0 (by kernel_rfl) O O O ?_
  refine Vl 12 O (by kernel_rfl) O ?_
  refine VDx.done (by kernel_rfl) ?_
  refine Vs 1 O ?_
  refine zlH tr93 (fun w hI=>⟨_,rfl,rfl,hx1 ▸ ⟨(vl,ov),⟨rfl,hpre⟩,hI.back 0 O O O rfl⟩⟩)
 refine Vs 1 O ?_
 refine znL (σ:=Bool) [0,1,5] [5,900,901,902,903,904] [0,5] O (fun e a=>(40,.bool a)::e) (fun e a=>e) (fun a=>a=zdn f x) (fun _=>rfl) (fun _=>rfl) ?_ ?_
 .
  refine Vs 6 O ?_
  refine zld O (fun a0=>?_) (fun a0=>?_)
  .
   refine Vs 1 O ?_
   refine zlq (true) (Sub.of O) (Has.of O) (by rw[hasg];simp[a0]) 0 O O
  refine Vs 4 O ?_
  refine zlq ((decide (st.act=5))) (Sub.of O) (Has.of O) (by rw[hasg];simp[a0]) 0 O O
 rintro a ha
 refine Vs 1 O ?_
 refine V.bool O (fun t=>?_) (fun t=>?_)
 .
  have ha':zdn f x=true:=ha ▸ t
  have ha5:st.act=0\/st.act=5:=by rw[hasg]at ha';simpa using ha'
  have hvar:=hso.var ha5
  obtain⟨k,hk⟩:∃ k:Nat,st.var=(k:Int):=⟨st.var.toNat,by omega⟩
  refine Vs 6 O ?_
  refine znL (σ:=Int) [0,1,5] [5,900,901,902,903,904] [0,5] O (fun e m=>(6,.int .i64 m)::e) (fun e m=>e) (fun m=>xU f hs st σ={ σ with vals:=zjb f.vars σ.vals st.var m,time:=σ.time+st.cost }) (fun _=>rfl) (fun _=>rfl) ?_ ?_
  .
   refine Vs 7 O ?_
   refine zld O (fun b0=>?_) (fun b0=>?_)
   .
    have hrd:rdB f x=true:=by unfold rdB;rw[hst];simp[k2,b0]
    refine Vs 3 O ?_
    refine znw Tryz.call92 O (fun w hI=>hterm hrd w hI.k0 (hI.at 900 O).cells (hI.at 901 O)) ?_
    refine Vs 2 O ?_
    refine zlq ((qp σ.vals st.term)) (Sub.of O) (Has.of O) (by unfold xU;rw[zp4 b0]) 0 O O
   have a5:st.act=5:=by omega
   have hnum:=hso.num a5
   obtain⟨y,he_y,hm_y⟩:=gE_ hs (st.n.toNat) (by omega)
   obtain⟨b_y,o_y,c_y,ha_y,hd_y,hc_y,hR_y⟩:=hh.atD he_y
   obtain rfl:=hR_y
   refine znI 1000 0 O O (fun h_=>by have h1_:=hlow2 _ h_;have h2_:=hd_y;first | omega | exact h1_ h2_) hc_y ?_
   refine Vq (by kernel_rfl) ?_
   refine Vs 6 O ?_
   refine znn 1000 tR27 ts3 O ha_y (by omega) (st.n.toNat) (by omega) O ?_
   refine Vs 3 O ?_
   refine zlq (y) (Sub.of O) (Has.of O) (by unfold xU;rw[zp3 b0,zp3 a1,zp4 a5,zgm he_y]) 0 O O
  rintro m hx1
  refine Vs 2 O ?_
  obtain⟨v,he_v,hm_v⟩:=gE_ f.vars (k) (by omega)
  obtain⟨b_v,o_v,c_v,ha_v,hd_v,hc_v,hR_v⟩:=hvs.atD he_v
  obtain rfl:=hR_v
  refine znI 2000 0 O O (fun h_=>by have h1_:=hlow _ h_;have h2_:=hd_v;first | omega | exact h1_ h2_) hc_v ?_
  refine Vw [5,900,904,2000] [] O ?_
  refine Vd [0,1,2,3] 0 (by kernel_rfl) O O O ?_
  refine znj 60 904 0 O O ?_
  refine Vd [4,5,6,7,8,9] 0 (by kernel_rfl) O O O ?_
  refine znl 10 2000 tR22 ts142 O (by kernel_rfl) O ha_v (by omega) (k) (by omega) O ?_
  obtain⟨hpre,q,hq,hql⟩:=zk1 (m:=m) hR hx hV hInv hvl ha' (hst ▸ hk) he_v
  rw[hst]at hpre
  refine Vd [11] 0 (by kernel_rfl) O O O ?_
  refine znh 12 7 0 O (by kernel_rfl) O O (fun _ _=>M.alloc tz142 O) (fun b7=>?_)
  refine Ve 13 0 O (by kernel_rfl) O O O ?_
  refine VD.done (by kernel_rfl) ?_
  refine Vs 1 O ?_
  refine znr 901 O (by omega) ?_
  rintro bv cq rfl hcap_901
  obtain⟨xn,he_xn,hm_xn⟩:=gE_ s.nodes (n) (by omega)
  obtain⟨b_xn,o_xn,c_xn,ha_xn,hd_xn,hc_xn,hR_xn⟩:=hnod.atD he_xn
  obtain⟨v1_xn,v2_xn,rfl,hp_xn,hu_xn⟩:=hR_xn
  obtain⟨a1_xn,n1_xn,rfl⟩:=hp_xn.form
  obtain⟨a2_xn,n2_xn,rfl⟩:=hu_xn.form
  refine znI 3000 0 O O (fun h_=>by have h1_:=hlow _ h_;have h2_:=hd_xn;first | omega | exact h1_ h2_) hc_xn ?_
  obtain rfl:xs=xn:=Option.some.inj (he_s.symm.trans he_xn)
  rw[hxn]at hq hpre
  refine Vw [5,900,904,2000,7,3000] [] O ?_
  refine Vd [0,1,2,3,4,5,6,7,8,9,13,14,15,16,17] 0 (by kernel_rfl) O O O ?_
  refine znl 10 3000 tR28 ts59 O (by kernel_rfl) O ha_xn (by omega) (n) (by omega) O ?_
  refine Vd [11,12] 0 (by kernel_rfl) O O O ?_
  refine znx 18 0 Tryz.call46 O (by kernel_rfl) O O (fun w hI=>zdD m v.low v.high w (vd.good v hm_v).2.1) ?_
  refine Vb [19] 0 (by kernel_rfl) O O O (by omega) ?_
  refine znv 20 901 0 (q) ts3 O (by kernel_rfl) O O (by omega) (by simp;omega) ?_
  refine VD.done (by kernel_rfl) ?_
  refine Vs 1 O ?_
  refine znJ 901 O (e':=.row 3 1 (.slice (some ⟨bv,0,none⟩) vl.length cq) (vl.set q (yY m v.low v.high)).length ((vl.set q (yY m v.low v.high)).map zb)) (by rw[zqC,zqv]) ?_
  refine zlH tr93 (fun w hI=>⟨_,rfl,rfl,hx1 ▸ ⟨(vl.set q (yY m v.low v.high),ov),⟨zqv,by have:=hpre;rw[hq,zpf]at this;exact this⟩,hI.back 0 O O O rfl⟩⟩)
 have ha':zdn f x=false:=ha ▸ t
 have hx1:xU f hs st σ={ σ with time:=σ.time+st.cost }:=by
  rw[hasg]at ha'
  simp at ha'
  unfold xU
  rw[zp3 ha'.1,zp3 a1,zp3 ha'.2,zp3 a6]
 have hpre:=zcK vd hR hx hV hInv hs ha'
 refine Vs 2 O ?_
 refine zlH tr93 (fun w hI=>⟨_,rfl,rfl,hx1 ▸ ⟨(vl,ov),⟨rfl,hpre⟩,hI.back 0 O O O rfl⟩⟩)
end Go.Proofs.YtckdhgbepmpgiaaGreat
namespace Go.GL
structure MI where
 i:Nat
 o:Oper
 d:Nat
 dp:List Nat
 q:Bool
 Φ:(Nat->Value)->Value->Hp->Prop
abbrev MK:=Nat × Nat × List Nat × Bool
def MI.key (x:MI):MK:=(x.i,x.d,x.dp,x.q)
def zhu (x:MK) (J:List MK):Bool:=x.2.2.1.all fun m=>J.all fun y=>!Nat.beq y.2.1 m
def ziZ (i:Nat) (J:List MK):List MK:=J.filter fun y=>!Nat.beq y.1 i
def zjh (ops:Array Oper) (l:Array Bool) (x:MK):Bool:=x.2.2.2&&(Region.noSelect ops&&Region.free .any ops l x.1&&(Region.ready .any ops l).contains x.1)
def zj0 (i:Nat):List MK->Option MK
 | []=>none
 | y::r=>cond (Nat.beq y.1 i) (some y) (zj0 i r)
def zah (ops:Array Oper) (L3:Array Bool):Nat->List MK->Array Bool->Bool
 | 0,J,l=>J.isEmpty&&(l == L3)
 | k+1,J,l=>match J.find? (zjh ops l) with
  | some x=>zhu x J&&zah ops L3 k (ziZ x.1 J) (l.setIfInBounds x.1 true)
  | none=>!(Region.ready .any ops l).isEmpty&&(Region.ready .any ops l).all fun j=>match zj0 j J with
   | some x=>!x.2.2.2&&zhu x J&&zah ops L3 k (ziZ x.1 J) (l.setIfInBounds x.1 true)
   | none=>false
theorem zdI {i:Nat}:∀ {J:List MK} {x:MK},zj0 i J=some x->x ∈ J/\x.1=i
 | [],_,h=>by cases h
 | y::r,x,h=>by
  simp only[zj0]at h
  cases hb:Nat.beq y.1 i with
  | true=>rw[hb]at h;cases h;exact⟨zoX ..,zp0 hb⟩
  | false=>rw[hb]at h;obtain⟨h1,h2⟩:=zdI h;exact⟨zoW _ h1,h2⟩
structure Dn (w w':World) (hx:Hp) (lo hi:Nat):Prop where
 p0:w.heap.size<=lo
 le:lo<=hi
 p1:hi<=w'.heap.size
 ok:∀ z ∈ hx,z.2.holds w'/\z.2.loc/\(∀ b,¬ z.2.fz b)/\∀ q,z.2.S q->lo<=q/\q<hi
 apart:hx.Pairwise (fun x y=>∀ q,x.2.S q->¬ y.2.S q)
theorem Dn.ext {w w' w2:World} {hx:Hp} {lo hi:Nat} (h:Dn w w' hx lo hi) (hk:Ext w' w2):Dn w w2 hx lo hi :=
 ⟨h.p0,h.le,zoZ h.p1 hk.size,fun z hz=>by
  obtain⟨h1,h2,h3,h4⟩:=h.ok z hz
  exact⟨HE.keep h1 h2 hk (fun _ _ h=>h) (fun _ _ h=>h),h2,h3,h4⟩,h.apart⟩
theorem zbB {w w':World} {hx:Hp} (h:Hands [] [] hx w w'):Ext w w':=h.keep.mono fun q _ ⟨x,hx,_⟩=>by cases hx
theorem Dn.of {w a a':World} {hx:Hp} (hk:Ext w a) (h:Hands [] [] hx a a'):Dn w a' hx a.heap.size a'.heap.size :=
 ⟨hk.size,(zbB h).size,zpi _,fun z hz=>by
  obtain⟨h1,h2,h3,h4⟩:=h.ok z hz
  refine⟨h1,h2,h3,fun q hq=>⟨?_,(h4 q hq).2⟩⟩
  rcases (h4 q hq).1 with⟨x,hx,_⟩ | h5
  . cases hx
  .
   exact h5,h.apart⟩
theorem zdJ:∀ H:Hp,yL [] H=H
 | []=>rfl
 | x::r=>by show x::yL [] r=x::r;rw[zdJ r]
theorem zhv {Bs:zC} {H:Hp} {w w':World} {hn:Nat->Hp} {lo hi:Nat->Nat} (hI:VI Bs H w) (hk:Ext w w') (K:List Nat) (hnd:K.Nodup) (hd:∀ m ∈ K,Dn w w' (hn m) (lo m) (hi m)) (hap:∀ m ∈ K,∀ m' ∈ K,m ≠ m'->hi m<=lo m'\/hi m'<=lo m):VI Bs (K.flatMap hn++H) w':=by
 have hh:Hands H [] (K.flatMap hn) w w':=by
  refine⟨hk.mono fun q _ h=>h.elim,fun z hz=>?_,?_⟩
  .
   obtain⟨m,hm,hz⟩:=zqG.1 hz
   obtain⟨h1,h2,h3,h4⟩:=(hd m hm).ok z hz
   exact⟨h1,h2,h3,fun q hq=>⟨.inr (zoZ (hd m hm).p0 (h4 q hq).1),zrj (h4 q hq).2 (hd m hm).p1⟩⟩
  clear hI
  induction K with
  | nil=>exact List.Pairwise.nil
  | cons m r ih =>
   rw[zqN]at hnd
   rw[zqj]
   refine zqP.2 ⟨(hd m (zoX ..)).apart,ih hnd.2 (fun x hx=>hd x (zoW _ hx)) (fun x hx y hy=>hap x (zoW _ hx) y (zoW _ hy)),fun x hx y hy q hq hq'=>?_⟩
   obtain⟨m',hm',hy⟩:=zqG.1 hy
   have g1:=((hd m (zoX ..)).ok x hx).2.2.2 q hq
   have g2:=((hd m' (zoW _ hm')).ok y hy).2.2.2 q hq'
   rcases hap m (zoX ..) m' (zoW _ hm') (fun e=>hnd.1 (e ▸ hm')) with h | h<;>omega
 have:=hI.hands hh
 rw[zdJ]at this
 exact this
theorem zhw {env:Env} {val:Nat->Value}:∀ (D:List Nat) (m:Nat) (v:Value),get (D.map (fun d=>(d,val d))++env) m=some v->(m ∈ D/\v=val m)\/get env m=some v
 | [],_,_,h=>.inr h
 | d::r,m,v,h=>by
  rw[zqy,zq5]at h
  simp only[GL.get]at h
  cases hb:Nat.beq d m with
  | true =>
   rw[hb]at h
   have e:=zp0 hb
   subst e
   exact .inl ⟨zoX ..,(Option.some.inj h).symm⟩
  | false =>
   rw[hb]at h
   rcases zhw r m v h with⟨h1,h2⟩ | h1
   . exact .inl ⟨zoW _ h1,h2⟩
   exact .inr h1
section
variable {P:Program} {n:Nat} {Q:Exit->Act->World->Prop} {ks:List Fr} {env:Env} {A:Tgs} {H Hs:Hp} {Bs B0:zC} {ops:Array Oper} {L:List Nat} {fuel:Nat} {listed:Array Bool}
abbrev MI.Ds (I:List MI) (x:MI) (val:Nat->Value) (hn:Nat->Hp):Prop:=∀ y ∈ I,y.d ∈ x.dp->y.Φ val (val y.d) (hn y.d)
theorem zk4 {I:List MI} {x:MI} {J:List MI} (_:(I.map (·.d)).Nodup) (_:∀ y ∈ J,y ∈ I) (h:zhu x.key (J.map MI.key)=true) {y:MI} (_:y ∈ I) (hd:y.d ∈ x.dp):y ∉ J:=by
 intro hyJ
 unfold zhu at h
 rw[zq0]at h
 have:=h y.d hd
 rw[zq0]at this
 have:=this y.key (zqI.2 ⟨y,hyJ,rfl⟩)
 simp[MI.key,]at this
theorem znZ (j:Nat) (I:List MI) (L3:Array Bool) (hI:∀ x ∈ I,ops[x.i]?=some x.o/\x.o.guard=none/\x.o.dst=some x.d/\Nat.blt x.d n=true/\get env x.d=none/\∀ m ∈ x.dp,m ∈ I.map (·.d))
  (hnd:(I.map (·.d)).Nodup) (hni:(I.map (·.i)).Nodup) (hdp:∀ x ∈ I,x.dp.Nodup) (hr:zah ops L3 I.length (I.map MI.key) listed=true) (hB:Bs.drop j=B0) (hu:qu (Hs.map (·.1))=true)
  (hΦ:∀ x ∈ I,∀ val val' v hx,(∀ m ∈ x.dp,val m=val' m)->x.Φ val v hx->x.Φ val' v hx)
  (hc:∀ x ∈ I,x.q=false->∀ val hn,x.Ds I val hn->∀ w,VI Bs (x.dp.flatMap hn++H) w->Does P x.o (x.dp.map (fun m=>(m,val m))++env) w (fun v w'=>∃ hx,x.Φ val v hx/\Hands [] [] hx w w'))
  (hq:∀ x ∈ I,x.q=true->∀ val hn,x.Ds I val hn->∃ v,x.Φ val v []/\∀ w,yo P x.o (x.dp.map (fun m=>(m,val m))++env) w v w)
  (h:∀ val hn,(∀ x ∈ I,x.Φ val (val x.d) (hn x.d))->Hs.map (fun y=>hget ((I.map (·.d)).flatMap hn++H) y.1)=Hs.map (fun y=>some y.2)/\VD P n Q ks ops Hs B0 L fuel L3 (I.map (fun x=>(x.d,val x.d))++env) [] ((I.map (·.d)).flatMap hn++H) Bs) :
  VD P n Q ks ops Hs B0 L (fuel+I.length) listed env A H Bs:=by
 subst hB
 intro hH _ w hw
 have key:∀ (k:Nat) (J:List MI) (listed:Array Bool) (env':Env) (w':World) (val:Nat->Value) (hn:Nat->Hp) (lo hi:Nat->Nat),(∀ x ∈ J,x ∈ I)->zah ops L3 k (J.map MI.key) listed=true->Ext w w'->Sub env env' ->
   (∀ x ∈ I,x ∉ J->get env' x.d=some (val x.d)/\x.Φ val (val x.d) (hn x.d)/\Dn w w' (hn x.d) (lo x.d) (hi x.d)/\∀ m ∈ x.dp,∀ y ∈ I,y.d=m->y ∉ J)->(∀ x ∈ I,x ∉ J->∀ y ∈ I,y ∉ J->x.d ≠ y.d->hi x.d<=lo y.d\/hi y.d<=lo x.d) ->
   WD P n ops (QK P Q ks) (VI (Bs.drop j) Hs) L (fuel+k) listed env' w':=by
  intro k
  induction k with
  | zero =>
   intro J listed env' w' val hn lo hi hJ ho hE hsub hdone hap
   rw[zah,zpv,zqq,List.map_eq_nil_iff]at ho
   obtain⟨rfl,ho⟩:=ho
   have e:listed=L3:=by simpa using ho
   rw[e]
   have hall:∀ x ∈ I,x ∉ ([]:List MI):=fun x _=>by simp
   obtain⟨g1,g2⟩:=h val hn fun x hx=>(hdone x hx (hall x hx)).2.1
   have hVI:VI Bs ((I.map (·.d)).flatMap hn++H) w':=zhv hw hE _ hnd (fun m hm=>by
    obtain⟨x,hx,rfl⟩:=zqI.1 hm
    exact(hdone x hx (hall x hx)).2.2.1) (fun m hm m' hm' hne=>by
    obtain⟨x,hx,rfl⟩:=zqI.1 hm
    obtain⟨y,hy,rfl⟩:=zqI.1 hm'
    exact hap x hx (hall x hx) y hy (hall y hy) hne)
   refine(g2 (Has.of g1) TgOk.nil w' hVI).sub ?_
   intro m v hv
   have hv':get (I.map (fun x=>(x.d,val x.d))++env) m=some v:=hv
   rw[show (I.map fun x=>(x.d,val x.d))=(I.map (·.d)).map (fun d=>(d,val d)) by rw[zqz];rfl]at hv'
   rcases zhw _ m v hv' with⟨h1,h2⟩ | h1
   .
    obtain⟨x,hx,rfl⟩:=zqI.1 h1
    rw[h2];exact(hdone x hx (hall x hx)).1
   exact hsub m v h1
  | succ k ih =>
   intro J listed env' w' val hn lo hi hJ ho hE hsub hdone hap
   have one:∀ x ∈ J,zhu x.key (J.map MI.key)=true->zah ops L3 k (ziZ x.i (J.map MI.key)) (listed.setIfInBounds x.i true)=true ->
     (Sub (x.dp.map (fun m=>(m,val m))++env) env'/\x.Ds I val hn/\VI Bs (x.dp.flatMap hn++H) w') /\
     ∀ v w2 hx,x.Φ val v hx->Hands [] [] hx w' w2->WD P n ops (QK P Q ks) (VI (Bs.drop j) Hs) L (fuel+k) (listed.setIfInBounds x.i true) ((x.d,v)::env') w2:=by
    intro x hx hmd hmo
    have hxI:=hJ x hx
    have hdn:∀ m ∈ x.dp,∃ y ∈ I,y.d=m/\y ∉ J:=fun m hm=>by
     obtain⟨y,hy,e⟩:=zqI.1 ((hI x hxI).2.2.2.2.2 m hm)
     exact⟨y,hy,e,zk4 hnd hJ hmd hy (by rw[e];exact hm)⟩
    refine⟨⟨?_,fun y hy hd=>(hdone y hy (zk4 hnd hJ hmd hy hd)).2.1,zhv (lo:=lo) (hi:=hi) hw hE _ (hdp x hxI) (fun m hm=>?_) (fun m hm m' hm' hne=>?_)⟩,?_⟩
    .
     intro m v hv
     rcases zhw _ m v hv with⟨h1,h2⟩ | h1
     .
      obtain⟨y,hy,e,hyJ⟩:=hdn m h1
      rw[h2,<- e];exact(hdone y hy hyJ).1
     exact hsub m v h1
    .
     obtain⟨y,hy,e,hyJ⟩:=hdn m hm
     rw[<- e];exact(hdone y hy hyJ).2.2.1
    .
     obtain⟨y,hy,e,hyJ⟩:=hdn m hm
     obtain⟨z,hz,e',hzJ⟩:=hdn m' hm'
     rw[<- e,<- e'];exact hap y hy hyJ z hz hzJ (by rw[e,e'];exact hne)
    intro v w2 hx2 hv hh
    have k2:=zbB hh
    have hne:∀ y ∈ I,y ∉ J->y.d ≠ x.d:=fun y hy hyJ e=>hyJ (by rw[qT hnd hy hxI e];exact hx)
    have hmem:∀ z ∈ I,z ∉ J.filter (fun y=>!Nat.beq y.i x.i)->z=x\/z ∉ J:=by
     intro z hz hz2
     by_cases hzJ:z ∈ J
     .
      left
      cases e:Nat.beq z.i x.i with
      | true=>exact qT hni hz hxI (zp0 e)
      | false=>exact absurd (zqF.2 ⟨hzJ,by simp[e]⟩) hz2
     exact .inr hzJ
    have hval:∀ z ∈ I,(z=x\/z ∉ J)->∀ m ∈ z.dp,val m=(if m=x.d then v else val m):=by
     intro z hz hzc m hm
     by_cases e:m=x.d
     .
      exfalso
      rcases hzc with rfl | hzJ
      .
       obtain⟨y,hy,e',hyJ⟩:=hdn m hm
       exact hne y hy hyJ (e'.trans e)
      exact(hdone z hz hzJ).2.2.2 m hm x hxI e.symm hx
     rw[zp3 e]
    refine ih (J.filter (fun y=>!Nat.beq y.i x.i)) (listed.setIfInBounds x.i true) ((x.d,v)::env') w2 (fun m=>if m=x.d then v else val m) (fun m=>if m=x.d then hx2 else hn m) (fun m=>if m=x.d then w'.heap.size else lo m) (fun m=>if m=x.d then w2.heap.size else hi m) (fun z hz=>hJ z (zqF.1 hz).1) ?_ (hE.ext k2) ?_ ?_ ?_
    .
     have:=hmo
     unfold ziZ at this
     rw[List.filter_map]at this
     exact this
    .
     intro m u hu2
     simp only[GL.get]
     cases hb:Nat.beq x.d m with
     | true =>
      have e:=zp0 hb
      rw[<- e,(hI x hxI).2.2.2.2.1]at hu2
      cases hu2
     | false=>exact hsub m u hu2
    .
     intro z hz hz2
     have hzc:=hmem z hz hz2
     have hdz:∀ m ∈ z.dp,∀ y ∈ I,y.d=m->y ∉ J.filter (fun y=>!Nat.beq y.i x.i):=by
      intro m hm y hy e hyf
      have hyJ:=(zqF.1 hyf).1
      rcases hzc with rfl | hzJ
      . exact zk4 hnd hJ hmd hy (by rw[e];exact hm) hyJ
      exact(hdone z hz hzJ).2.2.2 m hm y hy e hyJ
     rcases hzc with rfl | hzJ
     .
      refine⟨by simp[GL.get,],?_,?_,hdz⟩
      .
       simp only[if_true]
       exact hΦ _ hxI _ _ _ _ (hval _ hxI (.inl O)) hv
      simp only[if_true]
      exact Dn.of hE hh
     have hzd:=hne z hz hzJ
     simp only[hzd,if_false]
     obtain⟨g1,g2,g3,g4⟩:=hdone z hz hzJ
     refine⟨?_,hΦ z hz _ _ _ _ (hval z hz (.inr hzJ)) g2,g3.ext k2,hdz⟩
     simp only[GL.get]
     cases hb:Nat.beq x.d z.d with
     | true=>exact absurd (zp0 hb).symm hzd
     | false=>exact g1
    intro z hz hz2 y hy hy2 hzy
    rcases hmem z hz hz2 with rfl | hzJ<;>rcases hmem y hy hy2 with rfl | hyJ
    . exact absurd O hzy
    .
     simp only[hne y hy hyJ,if_false,if_true]
     exact .inr (hdone y hy hyJ).2.2.1.p1
    .
     simp only[hne z hz hzJ,if_false,if_true]
     exact .inl (hdone z hz hzJ).2.2.1.p1
    simp only[hne z hz hzJ,hne y hy hyJ,if_false]
    exact hap z hz hzJ y hy hyJ hzy
   have hfind:∀ y ∈ J.map MI.key,∃ x ∈ J,x.key=y:=fun y hy=>by
    obtain⟨x,hx,e⟩:=zqI.1 hy
    exact⟨x,hx,e⟩
   rw[zah]at ho
   split at ho
   .
    rename_i y hy
    obtain⟨x,hx,rfl⟩:=hfind y (zqJ hy)
    have hqx:=List.find?_some hy
    unfold zjh at hqx
    rw[zpv]at hqx
    rw[zpv]at ho
    obtain⟨⟨g1,g2,_⟩,g3⟩:=one x hx ho.1 ho.2
    obtain⟨q1,q2,q3,q4,_⟩:=hI x (hJ x hx)
    obtain⟨v,hv,hrun⟩:=hq x (hJ x hx) hqx.1 val hn g2
    exact zn5 x.i q1 hqx.2 q3 q4 (.inl ⟨fun a _=>by simp[Region.wanted,q2],fun w3 m a ha=>hrun w3 m a (ha.sub g1)⟩) (g3 v w' [] hv ⟨Keep.refl _ _,fun z hz=>(by cases hz),List.Pairwise.nil⟩)
   intro a ha
   rw[zpv,zq0]at ho
   refine⟨fun h0=>(by rw[h0]at ho;simp at ho),fun i hi=>?_⟩
   have h1:=ho.2 i hi
   split at h1
   .
    rename_i y hy
    obtain⟨h2,h3⟩:=zdI hy
    obtain⟨x,hx,rfl⟩:=hfind y h2
    have h3:x.i=i:=h3
    subst h3
    rw[zpv,zpv,zpD]at h1
    obtain⟨⟨g1,g2,g4⟩,g3⟩:=one x hx h1.1.2 h1.2
    obtain⟨q1,q2,q3,q4,_⟩:=hI x (hJ x hx)
    refine zg8 q1 q2 q3 ha ((hc x (hJ x hx) h1.1.1 val hn g2 w' g4).sub g1) ?_
    rintro v w2 ⟨hx2,hv,hh⟩
    have k2:=zbB hh
    exact⟨fun _ _=>((hw.ext (hE.ext k2)).drop j).pick hH hu,g3 v w2 hx2 hv hh _ (ha.put q4)⟩
   cases h1
 exact key I.length I listed env w (fun _=>undef) (fun _=>[]) (fun _=>0) (fun _=>0) (fun x hx=>hx) hr (Keep.refl _ _) (Sub.refl _) (fun x hx h=>absurd hx h) (fun x hx h=>absurd hx h)
theorem zoG (A1:Tgs) (hA1:A1.map (fun p=>zdM env p.1)=A1.map (fun p=>jC H p.2)) (hA2:A1.all (fun p=>(jC H p.2).isSome)=true) (h:VD P n Q ks ops Hs B0 L fuel listed env A1 H Bs):VD P n Q ks ops Hs B0 L fuel listed env A H Bs:=fun hH _ w hI=>h hH (TgOk.of hA1 hA2) w hI
end
abbrev Ph:=(Nat->Value)->Value->Hp->Prop
abbrev Psi:=Nat->Ph
def psi:List (Nat × Ph)->Psi
 | [],_=>fun _ _ _=>False
 | (k,f)::r,m=>match Nat.beq k m with
  | true=>f
  | false=>psi r m
def zcL (Ψ:Psi) (val:Nat->Value) (hn:Nat->Hp):List Nat->Prop
 | []=>True
 | m::r=>Ψ m val (val m) (hn m)/\zcL Ψ val hn r
def zji (val:Nat->Value):List Nat->Env->Env
 | [],env=>env
 | m::r,env=>(m,val m)::zji val r env
def hpD (hn:Nat->Hp):List Nat->Hp->Hp
 | [],H=>H
 | m::r,H=>hn m++hpD hn r H
theorem zbC (val:Nat->Value) (env:Env):∀ D:List Nat,zji val D env=D.map (fun m=>(m,val m))++env
 | []=>rfl
 | m::r=>by rw[zji,zbC val env r];rfl
theorem zf6 (hn:Nat->Hp) (H:Hp):∀ D:List Nat,hpD hn D H=D.flatMap hn++H
 | []=>rfl
 | m::r=>by rw[hpD,zf6 hn H r,zqj,zq3]
theorem dpAll_iff {Ψ:Psi} {val:Nat->Value} {hn:Nat->Hp}:∀ {D:List Nat},zcL Ψ val hn D ↔ ∀ m ∈ D,Ψ m val (val m) (hn m)
 | []=>by simp[zcL]
 | m::r=>by simp only[zcL,zqp];rw[dpAll_iff]
def zc8:List Nat->Bool
 | []=>true
 | x::r=>r.all (fun y=>!Nat.beq x y)&&zc8 r
theorem kP:∀ {l:List Nat},zc8 l=true->l.Nodup
 | [],_=>List.Pairwise.nil
 | x::r,h=>by
  rw[zc8,zpv,zq0]at h
  refine zqN.2 ⟨fun hx=>?_,kP h.2⟩
  have:=h.1 x hx
  simp[]at this
def zkD (I:List MK) (env:Env):Bool:=zc8 (I.map (·.2.1))&&zc8 (I.map (·.1))&&I.all fun x=>(get env x.2.1).isNone&&zc8 x.2.2.1&&x.2.2.1.all fun m=>(I.map (·.2.1)).any fun y=>Nat.beq y m
section
variable {P:Program} {n:Nat} {Q:Exit->Act->World->Prop} {ks:List Fr} {env:Env} {A:Tgs} {H Hs:Hp} {Bs B0:zC} {ops:Array Oper} {L:List Nat} {fuel:Nat} {listed:Array Bool} {Ψ:Psi}
def MP (P:Program) (n:Nat) (ops:Array Oper) (env:Env) (H:Hp) (Bs:zC) (Ψ:Psi) (x:MK):Prop:=∃ o,(ops[x.1]?=some o/\o.guard=none/\o.dst=some x.2.1/\Nat.blt x.2.1 n=true)/\(∀ val val' v hx,(∀ m ∈ x.2.2.1,val m=val' m)->Ψ x.2.1 val v hx->Ψ x.2.1 val' v hx) /\
 (x.2.2.2=false->∀ val hn,zcL Ψ val hn x.2.2.1->∀ w,VI Bs (hpD hn x.2.2.1 H) w->Does P o (zji val x.2.2.1 env) w (fun v w'=>∃ hx,Ψ x.2.1 val v hx/\Hands [] [] hx w w')) /\
 (x.2.2.2=true->∀ val hn,zcL Ψ val hn x.2.2.1->∃ v,Ψ x.2.1 val v []/\∀ w,yo P o (zji val x.2.2.1 env) w v w)
def MPs (P:Program) (n:Nat) (ops:Array Oper) (env:Env) (H:Hp) (Bs:zC) (Ψ:Psi):List MK->Prop
 | []=>True
 | x::r=>MP P n ops env H Bs Ψ x/\MPs P n ops env H Bs Ψ r
theorem MPs.all:∀ {I:List MK},MPs P n ops env H Bs Ψ I->∀ x ∈ I,MP P n ops env H Bs Ψ x
 | y::r,h,x,hx=>by
  rcases zp9.1 hx with rfl | hx
  . exact h.1
  exact MPs.all h.2 x hx
theorem zoH {i d:Nat} {dp:List Nat} {op:Op} {ty:TypeId} {ps:String} {aft:Array Edge} (hi:ops[i]?=some ⟨some d,op,ty,ps,aft,none⟩) (hb:Nat.blt d n=true) (hΦ:∀ val val' v hx,(∀ m ∈ dp,val m=val' m)->Ψ d val v hx->Ψ d val' v hx)
  (hc:∀ val hn,zcL Ψ val hn dp->∀ w,VI Bs (hpD hn dp H) w->Does P ⟨some d,op,ty,ps,aft,none⟩ (zji val dp env) w (fun v w'=>∃ hx,Ψ d val v hx/\Hands [] [] hx w w')):MP P n ops env H Bs Ψ (i,d,dp,false) :=
 ⟨_,⟨hi,rfl,rfl,hb⟩,hΦ,fun _=>hc,fun h=>by cases h⟩
theorem Does.new {o:Oper} {w:World} {f:Nat->Value} {cs:List Value} {e:TypeId} (K:Nat) (h:yK P o env w (fun u w'=>∃ b,u=f b/\New w cs e b w')):Does P o env w (fun v w'=>∃ hx,(∃ b,v=f b/\hx=[(K,HE.own b cs e)])/\Hands [] [] hx w w'):=by
 obtain⟨v,w',hr,b,rfl,h1,h2,h3,h4⟩:=h
 refine .inl ⟨_,w',hr,_,⟨b,rfl,rfl⟩,h4.mono fun q _ h=>h.elim,fun z hz=>?_,zqS _ _⟩
 rw[zpb]at hz
 subst hz
 exact⟨h3,trivial,fun _ h=>h,fun q hq=>by have hq:q=b:=hq;exact⟨.inr (by omega),by omega⟩⟩
theorem zoI (fuel j:Nat) (I:List MK) (Ψ:Psi) (hr:zah ops (zer (I.map (·.1)) listed) I.length I listed=true) (hs:zkD I env=true) (hB:Bs.drop j=B0) (hu:qu (Hs.map (·.1))=true) (hM:MPs P n ops env H Bs Ψ I)
  (h:∀ val hn,zcL Ψ val hn (I.map (·.2.1))->Hs.map (fun y=>hget (hpD hn (I.map (·.2.1)) H) y.1)=Hs.map (fun y=>some y.2)/\VD P n Q ks ops Hs B0 L fuel (zer (I.map (·.1)) listed) (zji val (I.map (·.2.1)) env) [] (hpD hn (I.map (·.2.1)) H) Bs) :
  VD P n Q ks ops Hs B0 L (fuel+I.length) listed env A H Bs:=by
 unfold zkD at hs
 simp only[zpv,zq0,zq2,zrt]at hs
 obtain⟨⟨s1,s2⟩,s3⟩:=hs
 let mk:MK->MI:=fun x=>⟨x.1,(ops[x.1]?).getD ⟨none,.nilCheck (.tmp 0),0, "",#[],none⟩,x.2.1,x.2.2.1,x.2.2.2,Ψ x.2.1⟩
 have e1:(I.map mk).map (·.d)=I.map (·.2.1):=by rw[zqz];rfl
 have e2:(I.map mk).map (·.i)=I.map (·.1):=by rw[zqz];rfl
 have e3:(I.map mk).map MI.key=I:=by rw[zqz];exact List.map_id'' (fun x=>rfl) I
 have e4:(I.map mk).length=I.length:=zpd ..
 have hds:∀ x ∈ I,∀ val hn,MI.Ds (I.map mk) (mk x) val hn->zcL Ψ val hn x.2.2.1:=fun x hx val hn hD=>dpAll_iff.2 fun m hm=>by
  obtain⟨y,hy,he⟩:=(s3 x hx).2 m hm
  obtain⟨z,hz,rfl⟩:=zqI.1 hy
  have he:=zp0 he
  have:=hD (mk z) (zqI.2 ⟨z,hz,rfl⟩) (by show z.2.1 ∈ x.2.2.1;rw[he];exact hm)
  rw[<- he]
  exact this
 rw[<- e4]
 refine znZ j (I.map mk) (zer (I.map (·.1)) listed) ?_ (by rw[e1];exact kP s1) (by rw[e2];exact kP s2) ?_ (by rw[e3,e4];exact hr) hB hu ?_ ?_ ?_ ?_
 .
  intro y hy
  obtain⟨x,hx,rfl⟩:=zqI.1 hy
  obtain⟨o,⟨h1,h2,h3,h4⟩,_⟩:=hM.all x hx
  have ho:(mk x).o=o:=by show (ops[x.1]?).getD _=o;rw[h1];rfl
  refine⟨by rw[ho];exact h1,by rw[ho];exact h2,by rw[ho];exact h3,h4,(s3 x hx).1.1,fun m hm=>?_⟩
  rw[e1]
  obtain⟨z,hz,he⟩:=(s3 x hx).2 m hm
  rw[<- zp0 he];exact hz
 .
  intro y hy
  obtain⟨x,hx,rfl⟩:=zqI.1 hy
  exact kP (s3 x hx).1.2
 .
  intro y hy
  obtain⟨x,hx,rfl⟩:=zqI.1 hy
  obtain⟨o,_,h2,_⟩:=hM.all x hx
  exact h2
 .
  intro y hy hq val hn hD w hw
  obtain⟨x,hx,rfl⟩:=zqI.1 hy
  obtain⟨o,⟨h1,_⟩,_,h3,_⟩:=hM.all x hx
  have ho:(mk x).o=o:=by show (ops[x.1]?).getD _=o;rw[h1];rfl
  have:=h3 hq val hn (hds x hx val hn hD) w (by rw[zf6];exact hw)
  rw[zbC]at this
  rw[ho];exact this
 .
  intro y hy hq val hn hD
  obtain⟨x,hx,rfl⟩:=zqI.1 hy
  obtain⟨o,⟨h1,_⟩,_,_,h4⟩:=hM.all x hx
  have ho:(mk x).o=o:=by show (ops[x.1]?).getD _=o;rw[h1];rfl
  have:=h4 hq val hn (hds x hx val hn hD)
  rw[zbC]at this
  rw[ho];exact this
 intro val hn hall
 have:=h val hn (dpAll_iff.2 fun m hm=>by
  obtain⟨x,hx,rfl⟩:=zqI.1 hm
  exact hall (mk x) (zqI.2 ⟨x,hx,rfl⟩))
 rw[zf6,zbC]at this
 rw[e1]
 refine⟨this.1,?_⟩
 rw[show (I.map mk).map (fun x=>(x.d,val x.d))=(I.map (·.2.1)).map (fun m=>(m,val m)) by rw[zqz,zqz];rfl]
 exact this.2
def phA (K:Nat) (cs:List Value) (t:TypeId):Ph:=fun _ v hx=>∃ b,v=.pointer (some ⟨b,0,none⟩)/\hx=[(K,.own b cs t)]
theorem MP.alloc (K:Nat) {i d:Nat} {e:TypeId} {ty:TypeId} {ps:String} {aft:Array Edge} {z:Value} {cs:List Value} (hi:ops[i]?=some ⟨some d,.alloc e,ty,ps,aft,none⟩) (hb:Nat.blt d n=true) (hz:∀ w,(zeroValue e).run P w=.ok z w) (hc:z.cells=cs.toArray) (hΨ:Ψ d=phA K cs e):MP P n ops env H Bs Ψ (i,d,[],false) :=
 zoH hi hb (fun val val' v hx _ h=>by rw[hΨ]at h ⊢;exact h) fun val hn _ w _=>by rw[hΨ];exact Does.new K (M.alloc hz hc)
theorem zkE {m:Nat} {v v':Value} {l l':List (Nat × Value)} (h:v=v') (h2:l=l'):(m,v)::l=(m,v')::l':=by rw[h,h2]
theorem zl5 {a b c d:Hp} (h:a=b) (h2:c=d):a++c=b++d:=by rw[h,h2]
theorem VD.cast {val:Nat->Value} {hn:Nat->Hp} {D:List Nat} (A1:Tgs) (vals:List (Nat × Value)) (Hn:Hp) (he:D.map (fun m=>(m,val m))=vals) (hh:D.flatMap hn=Hn) (h1:Hs.map (fun y=>hget (Hn++H) y.1)=Hs.map (fun y=>some y.2)) (hA1:A1.map (fun p=>zdM (vals++env) p.1)=A1.map (fun p=>jC (Hn++H) p.2)) (hA2:A1.all (fun p=>(jC (Hn++H) p.2).isSome)=true)
  (h:VD P n Q ks ops Hs B0 L fuel listed (vals++env) A1 (Hn++H) Bs) :
  Hs.map (fun y=>hget (hpD hn D H) y.1)=Hs.map (fun y=>some y.2)/\VD P n Q ks ops Hs B0 L fuel listed (zji val D env) [] (hpD hn D H) Bs:=by
 rw[zbC,zf6]
 subst he hh
 exact⟨h1,zoG A1 hA1 hA2 h⟩
end
end Go.GL
namespace Go.Proofs.YtckdhgbepmpgiaaGreat
open Go.GL
abbrev zhx (f:Fl) (s:Sf) (r:Ins) (i n:Nat) (b gb:Nat) (ofv nodv vv hv rv ov:Value) (vl ro:List Int) (rr:Value) (W w':World):Prop:=∃ (x:List Int × List Int × Value),(rr=.int .i64 (yJ f r (i+1)).at_/\x.1.length=vl.length/\zgE f (zi f) s n x.1 (yJ f r (i+1)).σ.vals/\x.2.1.length=ro.length/\CtOk f x.2.1 (yJ f r (i+1)).rd)/\GBack (rnH b gb ofv nodv vv hv rv ov vl ro (yJ f r i).σ.outs (yJ f r i).σ.time) (rnH b gb ofv nodv vv hv rv x.2.2 x.1 x.2.1 (yJ f r (i+1)).σ.outs (yJ f r (i+1)).σ.time) W w'
theorem zkF {P:Program} {f:FuncId} {args:Array Value} {w:World} {α:Type} {Φ:α->Prop} {E:Hp} {E':α->Hp} (h:Calls P f args w (Ret fun r w'=>r=.tuple #[]/\∃ x,Φ x/\GBack E (E' x) w w')):Calls P f args w (Ret fun r w'=>∃ x,(r=.tuple #[]/\Φ x)/\GBack E (E' x) w w'):=by
 refine Calls.mono h ?_
 rintro e' w' ⟨r,rfl,h1,x,h2,h3⟩
 exact⟨_,rfl,x,⟨h1,h2⟩,h3⟩
theorem zj1 (f:Fl) (s:Sf) (vd:Valid f) (hR:RightF f (zi f) s (rdV f (zi f))) (r:Ins) (e0:zB f.vars r=0) (K:Nat) (hg:GoesAll f r K) (i:Nat) (hi:i<K) (n:Nat) (x:Nd) (hw:OnWalk f r K i n x) (vl ro:List Int) (hvl:vl.length=s.of_.length) (hrl:ro.length=(zi f).length) (hInv:InvV f (zi f) s n vl (yJ f r i).σ.vals) (hro:CtOk f ro (yJ f r i).rd)
  (b gb:Nat) (ofv nodv vv hv rv ov:Value) (D Dh:Nat->Prop) (W:World) (hDb:∀ q,D q\/Dh q->q<W.heap.size) (hE:zkA (rnH b gb ofv nodv vv hv rv ov vl ro (yJ f r i).σ.outs (yJ f r i).σ.time) W) (hS:RSf D W s ofv nodv) (hG:GrO D W f (zi f) gb) (hh:SlR 1 yc Dh W hv (ya f r)) (hlow:∀ q,HS (rnH b gb ofv nodv vv hv rv ov vl ro (yJ f r i).σ.outs (yJ f r i).σ.time) q->¬ D q) (hlow2:∀ q,HS (rnH b gb ofv nodv vv hv rv ov vl ro (yJ f r i).σ.outs (yJ f r i).σ.time) q->¬ Dh q) :
  Calls Tryz.prog 48 #[.pointer (some ⟨b,0,none⟩),.int .i64 n] W (Ret fun rr w'=>zhx f s r i n b gb ofv nodv vv hv rv ov vl ro rr W w'):=by
 have hnl:=(zp7.1 hw.nd).1
 have hx:=hw.nd
 obtain⟨hgo,hkk⟩:=hw.go hi
 have hMI:=zgR vd e0 hg i (by omega)
 have hV:=hMI.inv
 have ht:=hMI.time
 have hol:=hMI.outs
 have hrb:=hMI.rd x.at_
 have hK:=(zjQ vd hg).2
 have hl:=vd.lens
 have hss:=vd.ssize
 have hcl:=yH f vd.plain
 have hwl:=xd f.body
 have hndx:xk (zi f) n=x:=yD hx
 have hpass:zdn f x=false->zgE f (zi f) s n vl (yJ f r i).σ.vals:=fun ha=>zcK vd hR hx hV hInv [] ha
 have hnk:x.kind ≠ 2->zdn f x=false:=fun h=>by unfold zdn;rw[zp6 h,zpA]
 obtain⟨v1,v2,v3,gv,sv,pv,hD,hcell,hf,hgs,hsts,_⟩:=id hG
 obtain⟨ag,cg,rfl⟩:=hgs.form
 obtain⟨as1,cs1,rfl⟩:=hsts.form
 have hgmx:=hgs.max
 have hmlen:((zi f).map (stN f)).length=(zi f).length:=zpd _
 have hmget:((zi f).map (stN f))[n]?=some (stN f x):=by rw[zpa,hx];rfl
 have hhl:(ya f r).length=f.hatches.length:=by simp[zig]
 unfold zhx at *
 rw[hgo]
 generalize hm:yJ f r i=m at *
 generalize hgm:(zi f).map (stN f)=gm at *
 obtain⟨at_,σ,rd⟩:=m
 dsimp only at *
 refine zn2 Tryz.func48 O Tryz.ntmps48 O (zoo [(900,.own b [.pointer (some ⟨gb,0,none⟩),ofv,nodv,vv,hv,rv,ov,.int .i64 σ.time] 107),(901,.row 3 1 vv vl.length (vl.map zb)),(902,.row 3 1 rv ro.length (ro.map zb)),(903,.row 3 1 ov σ.outs.length (σ.outs.map zb))] hE.1 hE.2 ?_)
 refine znI 904 0 O O (fun h=>hlow _ h hD) hcell ?_
 refine zni 0 900 0 O O ?_
 refine znr 902 O (by omega) ?_
 rintro br cr rfl hcap_902
 refine Vs 6 O ?_
 obtain⟨x2,he_x2,hm_x2⟩:=gE_ (zi f) (n) (by omega)
 obtain⟨b_x2,o_x2,c_x2,ha_x2,hd_x2,hc_x2,hR_x2⟩:=hgs.atD he_x2
 obtain rfl:=hR_x2
 refine znI 1000 0 O O (fun h_=>by have h1_:=hlow _ h_;have h2_:=hd_x2;first | omega | exact h1_ h2_) hc_x2 ?_
 obtain rfl:x2=x:=Option.some.inj (he_x2.symm.trans hx)
 obtain⟨st,he_st,hm_st⟩:=gE_ gm (n) (by omega)
 obtain⟨b_st,o_st,c_st,ha_st,hd_st,hc_st,hR_st⟩:=hsts.atD he_st
 obtain⟨v1_st,v2_st,v3_st,v4_st,rfl,hk_st,ht_st,hs_st,hb_st⟩:=hR_st.get
 obtain⟨a1_st,n1_st,rfl⟩:=hk_st.form
 obtain⟨a2_st,n2_st,rfl⟩:=ht_st.form
 obtain⟨a3_st,n3_st,rfl⟩:=hs_st.form
 obtain⟨a4_st,n4_st,rfl⟩:=hb_st.form
 refine znI 2000 0 O O (fun h_=>by have h1_:=hlow _ h_;have h2_:=hd_st;first | omega | exact h1_ h2_) hc_st ?_
 have hst:st=stN f x2:=Option.some.inj (he_st.symm.trans hmget)
 refine Vw [900,904,1000,2000] [] O ?_
 refine Vd [0,1,2,3] 0 (by kernel_rfl) O O O ?_
 refine znj 10 904 0 O O ?_
 refine Vd [4,5,6,7,10,11,12,13] 0 (by kernel_rfl) O O O ?_
 refine znj 20 904 0 O O ?_
 refine Vd [14,15,16,17] 0 (by kernel_rfl) O O O ?_
 refine znl 8 1000 tR34 ts65 O (by kernel_rfl) O ha_x2 (by omega) (_) (rfl) O ?_
 refine Vd [9] 0 (by kernel_rfl) O O O ?_
 refine znl 18 2000 tR24 ts72 O (by kernel_rfl) O ha_st (by omega) (_) (rfl) O ?_
 refine Vd [19] 0 (by kernel_rfl) O O O ?_
 refine zoI 2 0 [(20,5,[],false),(21,6,[],false)] (psi [(5,phA 5 [Value.int IntKind.i64 0,Value.int IntKind.i64 0,Value.int IntKind.i64 0,Value.int IntKind.i64 0] 65),(6,phA 6 [Value.int IntKind.i64 0,Value.int IntKind.i64 0,Value.int IntKind.i64 0,Value.int IntKind.i64 0,Value.int IntKind.i64 0,Value.int IntKind.i64 0,Value.slice none 0 0,Value.slice none 0 0,Value.slice none 0 0,Value.slice none 0 0] 72)]) (by kernel_rfl) (by kernel_rfl) O O ⟨?_,?_,True.intro⟩ ?_
 . exact MP.alloc 5 O O tz65 O O
 . exact MP.alloc 6 O O tz72 O O
 rintro val hn ⟨⟨b5,e5,n5⟩,⟨b6,e6,n6⟩,_⟩
 refine VD.cast [(0,some (900,0)),(7,some (900,0)),(8,some (900,0)),(9,some (900,0)),(10,some (904,0)),(11,some (904,0)),(12,some (904,3)),(15,some (1000,0)),(17,some (900,0)),(18,some (900,0)),(19,some (900,0)),(20,some (904,0)),(21,some (904,0)),(22,some (904,4)),(25,some (2000,0)),(5,some (5,0)),(6,some (6,0))] _ _ (zkE e5 (zkE e6 (rfl))) (zl5 n5 (zl5 n6 (rfl))) O O O ?_
 clear n5 n6
 have hat:x2.kind ≠ 0->0<=x2.at_/\(preL f.body)[x2.at_.toNat]?=some (zO f x2.at_)/\stN f x2=zO f x2.at_:=fun h0=>by
  have h1:=(vd.gOk n x2 hx)
  have h2:=(vd.ends hx).1
  have h3:0<=x2.at_:=by
   by_cases h:x2.at_<0
   . have:=h2 h;rcases hkk with h | h | h | h | h<;>omega
   omega
  exact⟨h3,qH h3 ((vd.ends hx).2 h3),by unfold stN;rw[zp4 h3]⟩
 have hterm:rdB f x2=true->x2.kind ≠ 0->∀ t:Int,∀ rl:List Int,∀ w,Keep (HS (rnH b gb ofv nodv vv hv (.slice (some ⟨br,0,none⟩) ro.length cr) ov vl ro σ.outs σ.time)) W w->Cells w b 0 (rnr gb ofv nodv vv hv (.slice (some ⟨br,0,none⟩) ro.length cr) ov (.int .i64 t))->w.ownsRow 0 3 1 vv vl.length (vl.map zb)->Calls Tryz.prog 92 #[.pointer (some ⟨b,0,none⟩),.int .i64 n] w (Ret fun r w'=>r=.int .i64 (qp σ.vals st.term)/\Ext w w'):=fun hrd k0 t rl w hk hc hv=>by
  obtain⟨h1,h2,h3⟩:=hat k0
  have h4:=zf0 f (zi f) s vd.good hR n hnl (by rw[hndx,h3];exact(vd.step _ (zoU h2)).1) (by rw[hndx];exact h1) (by rw[hndx];exact hrd) (by omega) (by omega) vl σ.vals hV hInv b gb _ _ _ _ _ _ _ D D (fun _=>True) w hc (hS.keep hk fun q hq _ h=>hlow q h hq) (hG.keep hk fun q hq _ h=>hlow q h hq) (zmj zb (fun _ _=>rfl) hv (fun _ _=>trivial))
  rw[hndx,<- hst]at h4
  exact h4
 refine Ve 22 0 O (by kernel_rfl) O O O ?_
 refine Ve 23 0 O (by kernel_rfl) O O O ?_
 refine VD.done (by kernel_rfl) ?_
 refine Vs 15 O ?_
 refine zld O (fun k4=>?_) (fun k4=>?_)
 .
  obtain⟨g0,y,hy,hky,hya⟩:=(vd.part hx).2.1 k4
  have hyl:=(zp7.1 hy).1
  have hp:yS f (ya f r) x2 (zO f x2.at_) σ rd=(x2.next,σ,zcO rd x2.at_ 0):=by unfold yS;rw[zp3 (by omega),zp3 (by omega),zp4 k4]
  rw[hp]
  have hct:=hro.set vd hrl hy hky 0
  rw[hya]at hct
  refine Vs 1 O ?_
  refine Vw [900,904,1000,2000,5,6] [] O ?_
  refine Vb [0,1,2,3,4,5,6] 0 (by kernel_rfl) O O O (by omega) ?_
  refine znv 7 902 0 (x2.next.toNat) ts3 O (by kernel_rfl) O O (by omega) (by simp;omega) ?_
  refine VD.done (by kernel_rfl) ?_
  refine Vs 2 O ?_
  refine znJ 902 O (e':=.row 3 1 (.slice (some ⟨br,0,none⟩) ro.length cr) (ro.set x2.next.toNat 0).length ((ro.set x2.next.toNat 0).map zb)) (by rw[zqC,zqv]<;>rfl) ?_
  refine Vs 9 O ?_
  refine zlt tr48 O (fun w hI=>⟨_,rfl,(vl,ro.set x2.next.toNat 0,ov),⟨rfl,rfl,hpass (hnk (by omega)),zqv,hct⟩,hI.back 0 O O O rfl⟩)
 refine Vs 6 O ?_
 refine zld O (fun k5=>?_) (fun k5=>?_)
 .
  obtain⟨h1,h2,h3⟩:=hat (by omega)
  have hc0:=hro n x2 hx k5
  have hN:=((vd.step _ (zoU h2)).2.2 ((vd.part hx).2.2 k5))
  have hcost:=(vd.step _ (zoU h2)).1.cost
  obtain rfl:st=zO f x2.at_:=hst.trans h3
  refine Vs 2 O ?_
  refine Vq (by kernel_rfl) ?_
  refine Va 6 O (by omega) ?_
  refine V.rlQ 902 (n) tg3 O (by omega) (show _=some (Value.int .i64 (rd x2.at_)) by rw[zpa,hc0];rfl) ?_
  refine Vs 5 O ?_
  refine zld O (fun c=>?_) (fun c=>?_)
  .
   have hp:yS f (ya f r) x2 (zO f x2.at_) σ rd=(x2.other,σ,rd):=by unfold yS;rw[zp3 (by omega),zp3 (by omega),zp3 k4,zp4 ⟨k5,c⟩]
   rw[hp]
   refine Vs 11 O ?_
   refine zlt tr48 O (fun w hI=>⟨_,rfl,(vl,ro,ov),⟨rfl,rfl,hpass (hnk (by omega)),rfl,hro⟩,hI.back 0 O O O rfl⟩)
  have hp:yS f (ya f r) x2 (zO f x2.at_) σ rd=(if qp σ.vals (zO f x2.at_).term ≠ 0 then x2.next else x2.other,{ σ with time:=σ.time+(zO f x2.at_).cost },zcO rd x2.at_ (rd x2.at_+1)):=by unfold yS;rw[zp3 (by omega),zp3 (by omega),zp3 k4,zp3 (fun h=>c h.2),zp4 k5]
  rw[hp]
  have hct:=hro.set vd hrl hx k5 (rd x2.at_+1)
  have hrd:rdB f x2=true:=by unfold rdB;simp[k5]
  refine Va 10 O (by omega) ?_
  refine znt 902 (n) tg3 O (by omega) (show _=some (Value.int .i64 (rd x2.at_)) by rw[zpa,hc0];rfl) ?_
  refine Va 2 O (by omega) ?_
  refine znu 902 (n) ts3 O (by omega) (by simp;omega) ?_
  refine znJ 902 O (e':=.row 3 1 (.slice (some ⟨br,0,none⟩) ro.length cr) (ro.set n (rd x2.at_+1)).length ((ro.set n (rd x2.at_+1)).map zb)) (by rw[zqC,zqv]<;>rfl) ?_
  refine Vs 3 O ?_
  refine Vw [900,904,1000,2000,5,6] [11] O ?_
  refine Vb [0,1,2,3,4,5,6,7,8,9,10] 0 (by kernel_rfl) O O O (by omega) ?_
  refine Vl 11 O (by kernel_rfl) O ?_
  refine VDx.done (by kernel_rfl) ?_
  refine Vs 6 O ?_
  refine znw Tryz.call92 O (fun w hI=>hterm hrd (by omega) _ ro w hI.k0 (hI.at 900 O).cells (hI.at 901 O)) ?_
  refine Vs 3 O ?_
  refine zld O (fun z=>?_) (fun z=>?_)
  .
   rw[zp3 (zpg z)]
   refine Vs 11 O ?_
   refine zlt tr48 O (fun w hI=>⟨_,rfl,(vl,ro.set n (rd x2.at_+1),ov),⟨rfl,rfl,hpass (hnk (by omega)),zqv,hct⟩,hI.back 0 O O O rfl⟩)
  rw[zp4 z]
  refine Vs 12 O ?_
  refine zlt tr48 O (fun w hI=>⟨_,rfl,(vl,ro.set n (rd x2.at_+1),ov),⟨rfl,rfl,hpass (hnk (by omega)),zqv,hct⟩,hI.back 0 O O O rfl⟩)
 refine Vs 6 O ?_
 refine zld O (fun k3=>?_) (fun k3=>?_)
 .
  obtain⟨h1,h2,h3⟩:=hat (by omega)
  have hcost:=(vd.step _ (zoU h2)).1.cost
  obtain rfl:st=zO f x2.at_:=hst.trans h3
  have hp:yS f (ya f r) x2 (zO f x2.at_) σ rd=(if qp σ.vals (zO f x2.at_).term ≠ 0 then x2.next else x2.other,{ σ with time:=σ.time+(zO f x2.at_).cost },rd):=by unfold yS;rw[zp3 (by omega),zp3 (by omega),zp3 k4,zp3 (fun h=>k5 h.1),zp3 k5]
  rw[hp]
  have hrd:rdB f x2=true:=by unfold rdB;simp[k3]
  refine Vs 1 O ?_
  refine Vw [900,904,1000,2000,5,6] [11] O ?_
  refine Vb [0,1,2,3,4,5,6,7,8,9,10] 0 (by kernel_rfl) O O O (by omega) ?_
  refine Vl 11 O (by kernel_rfl) O ?_
  refine VDx.done (by kernel_rfl) ?_
  refine Vs 6 O ?_
  refine znw Tryz.call92 O (fun w hI=>hterm hrd (by omega) _ ro w hI.k0 (hI.at 900 O).cells (hI.at 901 O)) ?_
  refine Vs 3 O ?_
  refine zld O (fun z=>?_) (fun z=>?_)
  .
   rw[zp3 (zpg z)]
   refine Vs 11 O ?_
   refine zlt tr48 O (fun w hI=>⟨_,rfl,(vl,ro,ov),⟨rfl,rfl,hpass (hnk (by omega)),rfl,hro⟩,hI.back 0 O O O rfl⟩)
  rw[zp4 z]
  refine Vs 12 O ?_
  refine zlt tr48 O (fun w hI=>⟨_,rfl,(vl,ro,ov),⟨rfl,rfl,hpass (hnk (by omega)),rfl,hro⟩,hI.back 0 O O O rfl⟩)
 refine Vs 6 O ?_
 refine zld O (fun k2=>?_) (fun k2=>?_)
 .
  obtain⟨h1,h2,h3⟩:=hat (by omega)
  have hcost:=(vd.step _ (zoU h2)).1.cost
  obtain rfl:st=zO f x2.at_:=hst.trans h3
  have hp:yS f (ya f r) x2 (zO f x2.at_) σ rd=(x2.next,xU f (ya f r) (zO f x2.at_) σ,rd):=by unfold yS;rw[zp3 (by omega),zp4 k2]
  rw[hp]
  refine Vs 1 O ?_
  refine Vw [900,904,1000,2000,5,6] [11] O ?_
  refine Vb [0,1,2,3,4,5,6,7,8,9,10] 0 (by kernel_rfl) O O O (by omega) ?_
  refine Vl 11 O (by kernel_rfl) O ?_
  refine VDx.done (by kernel_rfl) ?_
  refine Vs 5 O ?_
  refine zop [900,901,902,903] (Hn:=fun y:List Int × Value=>[(900,.own b [.pointer (some ⟨gb,0,none⟩),ofv,nodv,vv,hv,.slice (some ⟨br,0,none⟩) ro.length cr,y.2,.int .i64 (xU f (ya f r) (zO f x2.at_) σ).time] 107),(901,.row 3 1 vv y.1.length (y.1.map zb)),(902,.row 3 1 (.slice (some ⟨br,0,none⟩) ro.length cr) ro.length (ro.map zb)),(903,.row 3 1 y.2 (xU f (ya f r) (zO f x2.at_) σ).outs.length ((xU f (ya f r) (zO f x2.at_) σ).outs.map zb))]) [(0,some (900,0)),(5,some (5,0)),(6,some (6,0)),(7,some (900,0)),(8,some (900,0)),(9,some (900,0)),(10,some (904,0)),(11,some (904,0)),(12,some (904,3)),(15,some (1000,0)),(17,some (900,0)),(18,some (900,0)),(19,some (900,0)),(20,some (904,0)),(21,some (904,0)),(22,some (904,4)),(25,some (2000,0)),(27,some (5,0)),(105,some (900,0)),(106,some (900,0)),(107,some (900,6)),(108,some (900,7)),(110,some (6,1)),(113,some (900,0)),(114,some (900,6)),(115,some (900,7)),(116,some (900,0))] Tryz.call93 O (fun _ _=>rfl) (fun _=>rfl) (fun w hI=>zbA O O (zkF (zk3 f s vd hR (ya f r) hhl n x2 hx k2 σ hV (by omega) vl ro hvl hInv b gb ofv nodv vv hv _ ov D Dh w (hI.held O O O) (hS.keep hI.k0 fun q hq _ h=>hlow q h hq) (hG.keep hI.k0 fun q hq _ h=>hlow q h hq) (hh.keep ze hI.k0 fun q hq _ h=>hlow2 q h hq) (hI.offE 0 O O (fun q h=>hDb q (.inl h)) hlow) (hI.offE 0 O O (fun q h=>hDb q (.inr h)) hlow2) _ _ _ _ _ _ _ _ (hb_st.keep ze hI.k0 fun q hq _ h=>hlow q h hq)))) ?_
  rintro _ ⟨vl',ov'⟩ ⟨rfl,hl',hpre⟩
  refine Vs 11 O ?_
  refine zlt tr48 O (fun w hI=>⟨_,rfl,(vl',ro,ov'),⟨rfl,hl',hpre,rfl,hro⟩,hI.back 0 O O O rfl⟩)
 have k0:x2.kind=0:=by omega
 have hp:yS f (ya f r) x2 (zO f x2.at_) σ rd=(x2.next,σ,rd):=by unfold yS;rw[zp4 k0]
 rw[hp]
 refine Vs 11 O ?_
 refine zlt tr48 O (fun w hI=>⟨_,rfl,(vl,ro,ov),⟨rfl,rfl,hpass (hnk (by omega)),rfl,hro⟩,hI.back 0 O O O rfl⟩)
end Go.Proofs.YtckdhgbepmpgiaaGreat
namespace Go.GL
abbrev MIP (m:Nat) (l:List (Int × Value)):HE:=.res (fun q=>q=m) (fun w=>MapI w m l)
abbrev MEP (m:Nat) (l:List (Int × Value)) (k:Int) (st:Nat):HE:=.res (fun q=>q=m) (fun w=>MapE w m l k st)
theorem MapE.lt {w:World} {m st:Nat} {k:Int} {l:List (Int × Value)} (h:MapE w m l k st):m<w.heap.size:=h.map.lt
theorem MIP.loc {m:Nat} {l:List (Int × Value)}:(MIP m l).loc:=fun w w' T h hk hT=>by
 have h:MapI w m l:=h
 exact h.keep hk (hT m h.lt O)
theorem MEP.loc {m st:Nat} {k:Int} {l:List (Int × Value)}:(MEP m l k st).loc:=fun w w' T h hk hT=>by
 have h:MapE w m l k st:=h
 exact h.keep hk (hT m h.lt O)
section
variable {P:Program} {env:Env} {w:World} {dst:Option Tmp} {ty:TypeId} {pos:String} {aft:Array Edge} {g:Option (Nat × Bool)} {t kt et:TypeId} {m:Nat} {l:List (Int × Value)}
theorem zoJ:yK P ⟨dst,.makeMap t none,ty,pos,aft,g⟩ env w (fun u w'=>∃ b,u=.map (some b)/\MapI w' b []/\Ext w w'/\∀ q,q=b->w.heap.size<=q/\q<w'.heap.size):=by
 obtain⟨u,w',h0,b,h1,h2,h3,h4,h5⟩:=M.makeMap (P:=P) (env:=env) (w:=w) (dst:=dst) (ty:=ty) (pos:=pos) (aft:=aft) (g:=g) (t:=t)
 exact⟨u,w',h0,b,h1,h4,h5,fun q hq=>by omega⟩
theorem zoK {x y u:Operand} {k:Int} {v:Value} {l':List (Int × Value)} (h:MapI w m l) (ht:P.underlying t=some (.map kt et)) (hk:P.underlying kt=some (.int .i64)) (hx:ev env x=some (.map (some m))) (hy:ev env y=some (.int .i64 k)) (hu:ev env u=some v) (hl:zfT l k v=l') :
  xL P ⟨dst,.insert t x y u,ty,pos,aft,g⟩ env w (fun w'=>MapI w' m l'/\Keep (fun q=>q=m) w w'/\∀ q,q=m->(q=m\/w.heap.size<=q)/\q<w'.heap.size):=by
 subst hl
 obtain⟨w',h0,h1,h2,h3⟩:=M.insert (dst:=dst) (ty:=ty) (pos:=pos) (aft:=aft) (g:=g) h ht hk hx hy hu
 exact⟨w',h0,h1,h2,fun q hq=>⟨.inl hq,by have:=h1.lt;omega⟩⟩
theorem zoL {x y:Operand} {k:Int} {z v:Value} (h:MapI w m l) (hv:(zja l k).getD z=v) (ht:P.underlying t=some (.map kt et)) (hk:P.underlying kt=some (.int .i64)) (hz:∀ w,(zeroValue et).run P w=.ok z w) (hx:ev env x=some (.map (some m))) (hy:ev env y=some (.int .i64 k)) :
  yo P ⟨dst,.lookup t x y false,ty,pos,aft,g⟩ env w v w:=hv ▸ zo0 h ht hk hz hx hy
theorem zoM {x y:Operand} {k:Int} {v:Value} (h:MapI w m l) (hv:zja l k=some v) (ht:P.underlying t=some (.map kt et)) (hk:P.underlying kt=some (.int .i64)) (hx:ev env x=some (.map (some m))) (hy:ev env y=some (.int .i64 k)) :
  yK P ⟨dst,.mapEntry t x y,ty,pos,aft,g⟩ env w (fun u w'=>∃ st:Nat,u=.tuple #[v,.int .i64 st]/\MapE w' m l k st/\Keep (fun q=>q=m) w w'/\∀ q,q=m->(q=m\/w.heap.size<=q)/\q<w'.heap.size):=by
 obtain⟨u,w',h0,st,h1,h2,h3,h4⟩:=M.mapEntry (dst:=dst) (ty:=ty) (pos:=pos) (aft:=aft) (g:=g) h hv ht hk hx hy
 exact⟨u,w',h0,st,h1,h2,h3,fun q hq=>⟨.inl hq,by have:=h2.lt;omega⟩⟩
theorem zoN {x y u:Operand} {k:Int} {st:Nat} {v:Value} {l':List (Int × Value)} (h:MapE w m l k st) (hx:ev env x=some (.map (some m))) (hy:ev env y=some (.int .i64 st)) (hu:ev env u=some v) (hl:zfT l k v=l') :
  xL P ⟨dst,.entryStore t x y u,ty,pos,aft,g⟩ env w (fun w'=>MapI w' m l'/\Keep (fun q=>q=m) w w'/\∀ q,q=m->(q=m\/w.heap.size<=q)/\q<w'.heap.size):=by
 subst hl
 obtain⟨w',h0,h1,h2,h3⟩:=M.entryStore (dst:=dst) (ty:=ty) (pos:=pos) (aft:=aft) (g:=g) (t:=t) h hx hy hu
 exact⟨w',h0,h1,h2,fun q hq=>⟨.inl hq,by have:=h1.lt;omega⟩⟩
end
end Go.GL
namespace Go.Proofs.YtckdhgbepmpgiaaGreat
open Go.GL
def zcM (q:Int->Value):List (Int × Value):=[(1,q 1),(2,q 2),(3,q 3)]
theorem zdK {q:Int->Value} {k:Int} (hk:1<=k/\k<=3):zja (zcM q) k=some (q k):=by
 rcases (show k=1\/k=2\/k=3 by omega) with rfl | rfl | rfl<;>rfl
theorem zhy {q:Int->Value} {k:Int} {u:Value} (hk:1<=k/\k<=3):zfT (zcM q) k u=zcM (fun j=>if j=k then u else q j):=by
 rcases (show k=1\/k=2\/k=3 by omega) with rfl | rfl | rfl<;>rfl
theorem zj2 (f:Fl) (r:Ins) (v1 v2 v3 s1 s2 s3:Value) (D:Nat->Prop) (W:World) (hf:RFl D W f v1 v2 v3) (hi1:SlR 1 yc D W s1 r.secret) (hi2:SlR 1 yc D W s2 r.pub) (hi3:SlR 1 yc D W s3 r.random) (hkd:∀ v ∈ f.vars,0<=v.kind/\v.kind<=3) (hlen:f.vars.length<=1000) (hb:∀ k,(xy r k).length<=1000000000) :
  Calls Tryz.prog 44 #[.agg #[v1,v2,v3],.agg #[s1,s2,s3]] W (Ret fun rr w'=>(∃ u,rr=.tuple #[u,.int .i64 (zB f.vars r)]/\(zB f.vars r=0->SlR 1 yc (fun b=>W.heap.size<=b) w' u (zG f.vars r)))/\Ext W w'):=by
 have hvs:=hf.vars
 obtain⟨av,cv,rfl⟩:=hvs.form
 have hmx:=hvs.max
 refine zn2 Tryz.func44 O Tryz.ntmps44 O (znb ?_)
 refine Vs 2 O ?_
 refine V.box 2 O O (fun b2=>?_)
 refine V.box 3 O O (fun b3=>?_)
 refine Vs 6 O ?_
 refine zos 901 (E:=fun m=>MIP m []) (u:=fun m=>.map (some m)) O (fun _=>⟨MIP.loc,fun _ h=>h⟩) (fun w hI=>zoJ) (fun m901=>?_)
 refine Vs 2 O ?_
 refine zo2 901 (e':=MIP m901 [(1,s1)]) O (MIP.loc) (fun _ h=>h) (fun w hI=>zoK (hI.at 901 O) tu156 tu100 O O O O) ?_
 refine Vs 2 O ?_
 refine zo2 901 (e':=MIP m901 [(1,s1),(2,s2)]) O (MIP.loc) (fun _ h=>h) (fun w hI=>zoK (hI.at 901 O) tu156 tu100 O O O O) ?_
 refine Vs 2 O ?_
 refine zo2 901 (e':=MIP m901 [(1,s1),(2,s2),(3,s3)]) O (MIP.loc) (fun _ h=>h) (fun w hI=>zoK (hI.at 901 O) tu156 tu100 O O O O) ?_
 refine Vs 5 O ?_
 refine zno 902 3 1 O ?_
 refine Vs 19 O ?_
 refine znK (σ:=Nat × StS × (Int->Value) × Bool × Value) [6,22,23] [] [] O (fun e ⟨i,s,q,o,u⟩=>(7,u)::(8,.bool o)::(24,.int .i64 i)::e) (fun e ⟨i,s,q,o,u⟩=>(901,MIP m901 (zcM q))::(902,.row 3 1 u s.vals.length (s.vals.map zb))::e) (fun⟨i,s,q,o,u⟩=>i<=f.vars.length/\(f.vars.take i).foldl (zw r) (some ⟨[],0,0,0⟩)=some s/\LeftOk D W r s q/\o=((f.vars.take i).zip s.vals).all inB) (fun⟨i,s,q,o,u⟩=>f.vars.length - i) ((0,⟨[],0,0,0⟩,fun k=>if k=1 then s1 else if k=2 then s2 else s3,true,.slice none 0 0)) (Sub.of O) (Has.of O) (fun _=>rfl) (fun _=>rfl) (fun _=>rfl) (⟨zp8 _,rfl,fun k h1 h3=>by rcases (show k=1\/k=2\/k=3 by omega) with rfl | rfl | rfl<;>assumption,rfl⟩) ?_
 rintro⟨i,s,q,o,u⟩ ⟨hi,hS,hL,ho⟩
 show V _ _ _ _ _ ((7,u)::(8,.bool o)::(24,.int .i64 i)::_) _ ((901,MIP m901 (zcM q))::(902,.row 3 1 u s.vals.length (s.vals.map zb))::_) _
 refine Vs 6 O ?_
 refine zld O (fun hlt=>?_) (fun hlt=>?_)
 .
  refine Vs 6 O ?_
  obtain⟨x,he_x,hm_x⟩:=gE_ f.vars (i) (by omega)
  obtain⟨b_x,o_x,c_x,ha_x,_,hc_x,hR_x⟩:=hvs.at he_x
  obtain rfl:=hR_x
  refine znH 1000 0 O O hc_x ?_
  refine znk 1000 tR22 ts142 O ha_x (by omega) (_) (rfl) O ?_
  obtain⟨hlv,_⟩:=zbV i s hi hS
  have hkx:=hkd x hm_x
  refine Vs 1 O ?_
  refine V.alloc 10 tz142 O O (fun b10=>?_)
  refine Vs 11 O ?_
  refine znL (σ:=Int × (Int->Value) × StS) [6,7,8,10,22,23,24] [10,902] [10] O (fun e ⟨n,q',s'⟩=>(11,.int .i64 n)::e) (fun e ⟨n,q',s'⟩=>(901,MIP m901 (zcM q'))::e) (fun⟨n,q',s'⟩=>zw r (some s) x=some s'/\s'.vals=s.vals++[n]/\LeftOk D W r s' q') (fun _=>rfl) (fun _=>rfl) ?_ ?_
  .
   refine Vs 7 O ?_
   refine zld O (fun hk=>?_) (fun hk=>?_)
   .
    have hk3:1<=x.kind/\x.kind<=3:=by omega
    obtain⟨rest,hrest⟩:∃ rest,rest=(xy r x.kind).drop (zae s x.kind):=⟨_,rfl⟩
    have hq:=hL x.kind hk3.1 hk3.2
    rw[<- hrest]at hq
    obtain⟨aq,cq,hqf⟩:=hq.form
    rw[hqf]at hq
    have hg0:=zii hk3 hrest.symm
    refine Vs 5 O ?_
    refine zmS O (fun w hI=>zoL (v:=.slice aq rest.length cq) (hI.at 901 O) (by rw[zdK hk3,hqf];rfl) tu156 tu100 tz27 O O) ?_
    refine Vs 11 O ?_
    refine zld O (fun z=>?_) (fun z=>?_)
    .
     have hn:(f.vars.take (i+1)).foldl (zw r) (some ⟨[],0,0,0⟩)=none:=by
      rw[zd he_x,zqn,hS]
      exact zgJ hk3 (by rw[hg0,zph (by omega)])
     have h1:zB f.vars r=1:=by unfold zB;rw[ze9 hn]
     refine Vs 15 O ?_
     refine zlw tr44 O O (fun w hI=>⟨_,rfl,⟨_,by rw[h1],fun h=>by rw[h1]at h;cases h⟩,hI.k0⟩)
    obtain⟨y,he_y,hm_y⟩:=gE_ rest (0) (by omega)
    obtain⟨b_y,o_y,c_y,ha_y,_,hc_y,hR_y⟩:=hq.at he_y
    obtain rfl:=hR_y
    refine znH 2000 0 O O hc_y ?_
    have hy0:(xy r x.kind)[zae s x.kind]?=some y:=by rw[hg0,he_y]
    refine Vs 2 O ?_
    refine Vw [1000,10,2000] [9] O ?_
    refine Vd [0,1,2,3,6] 0 (by kernel_rfl) O O O ?_
    refine znl 4 2000 tR27 ts3 O (by kernel_rfl) O ha_y (by omega) (_) (rfl) O ?_
    refine Vd [5,8] 0 (by kernel_rfl) O O O ?_
    refine znQ 7 O (by kernel_rfl) O (fun w=>zlR tR27 ts3 O O (by omega)) ?_
    refine zoB 9 901 0 (E':=fun st=>MEP m901 (zcM q) x.kind st) (r:=fun st=>.tuple #[q x.kind,.int .i64 st]) O (by kernel_rfl) O O (fun _=>⟨MEP.loc,fun _ h=>h⟩) (fun w hI=>zoM (hI.at 901 O) (zdK hk3) tu156 tu100 O O) (fun st=>?_)
    refine Vd [10] 0 (by kernel_rfl) O O O ?_
    refine zo3 11 901 0 (e':=MIP m901 (zcM fun j=>if j=x.kind then (.slice (if cq=1 then aq else aq.map (·.add (1*1))) (rest.length - 1) (cq - 1)) else q j)) O (by kernel_rfl) O O (MIP.loc) (fun _ h=>h) (fun w hI=>zoN (hI.at 901 O) O O O (zhy hk3)) ?_
    refine VD.done (by kernel_rfl) ?_
    refine zlq (⟨y,fun j=>if j=x.kind then (.slice (if cq=1 then aq else aq.map (·.add (1*1))) (rest.length - 1) (cq - 1)) else q j,zbJ s x.kind y⟩) (Sub.of O) (Has.of O) (⟨zij hk3 hy0,zfk _ _ _,hL.next hk3 hrest hq (by omega)⟩) 0 O O
   refine Vs 1 O ?_
   refine zlq (⟨x.init,q,⟨s.vals++[x.init],s.a,s.b,s.c⟩⟩) (Sub.of O) (Has.of O) (⟨zgI (by omega),rfl,hL⟩) 0 O O
  rintro⟨n,q',s'⟩ ⟨hst,hvl,hL'⟩
  show V _ _ _ _ _ ((11,.int .i64 n)::_) _ ((901,MIP m901 (zcM q'))::_) _
  refine Vs 2 O ?_
  refine znL (σ:=Bool) [6,7,11,22,23,24] [901,902] [] O (fun e o'=>(8,.bool o')::e) (fun e o'=>e) (fun o'=>o'=(o&&inB (x,n))) (fun _=>rfl) (fun _=>rfl) ?_ ?_
  .
   refine Vs 3 O ?_
   refine V.sb 51 O (fun b1=>?_) (fun b1=>?_)
   .
    subst b1
    refine Vs 6 O ?_
    refine V.sp 57 O (fun b2=>?_) (fun b2=>?_)
    .
     refine Vs 7 O ?_
     refine zlq ((decide (n<=x.high))) (Sub.of O) (Has.of O) (by simp[inB,b2]) 0 O O
    refine Vs 7 O ?_
    refine zlq (false) (Sub.of O) (Has.of O) (by simp[inB];omega) 0 O O
   subst b1
   refine Vs 13 O ?_
   refine zlq (false) (Sub.of O) (Has.of O) (by simp) 0 O O
  rintro o' ho'
  show V _ _ _ _ _ ((8,.bool o')::_) _ (_) _
  refine Vs 4 O ?_
  refine V.bs 65 [(0,_)] tR27 ts3 tz3 (by decide) O O (by kernel_rfl) (fun b65=>?_)
  refine znp 902 65 tu27 Tryz.el3 O (by decide) O O (by omega) (by omega) (fun u902=>?_)
  refine Va 8 O (by omega) ?_
  refine znJ 902 O (e':=.row 3 1 u902 s'.vals.length (s'.vals.map zb)) (by rw[hvl];simp[zb]) ?_
  refine V.back (⟨i+1,s',q',o',u902⟩) (Sub.of O) (Has.of O) (⟨by omega,zfq he_x hS hst,hL',by rw[ho',ho,hvl,zi4 he_x s.vals hlv n]⟩) (by first | omega | (dsimp only;omega)) 0 O O
 obtain rfl:i=f.vars.length:=by omega
 rw[zoY]at hS ho
 have hS':zaf f.vars r=some s:=hS
 obtain⟨a1,c1,e1⟩:=(hL 1 (by decide) (by decide)).form
 obtain⟨a2,c2,e2⟩:=(hL 2 (by decide) (by decide)).form
 obtain⟨a3,c3,e3⟩:=(hL 3 (by decide) (by decide)).form
 have hsv:zG f.vars r=s.vals:=by unfold zG;rw[hS']
 have hm:∀ k,((xy r k).drop (zae s k)).length<=1000000000:=fun k=>by rw[zqr];have:=hb k;omega
 have hm1:=hm 1
 have hm2:=hm 2
 have hm3:=hm 3
 refine Vs 9 O ?_
 refine zmS O (fun w hI=>zoL (v:=.slice a1 ((xy r 1).drop (zae s 1)).length c1) (hI.at 901 O) (by rw[<- e1];rfl) tu156 tu100 tz27 O O) ?_
 refine Vs 2 O ?_
 refine zmS O (fun w hI=>zoL (v:=.slice a2 ((xy r 2).drop (zae s 2)).length c2) (hI.at 901 O) (by rw[<- e2];rfl) tu156 tu100 tz27 O O) ?_
 refine Va 3 O (by omega) ?_
 refine zmS O (fun w hI=>zoL (v:=.slice a3 ((xy r 3).drop (zae s 3)).length c3) (hI.at 901 O) (by rw[<- e3];rfl) tu156 tu100 tz27 O O) ?_
 refine Va 5 O (by omega) ?_
 refine zld O (fun z=>?_) (fun z=>?_)
 .
  have h1:zB f.vars r=1:=by
   rcases (show 0<((xy r 1).drop (zae s 1)).length\/0<((xy r 2).drop (zae s 2)).length\/0<((xy r 3).drop (zae s 3)).length by omega) with h | h | h
   . exact za1 hS' (k:=1) (by decide) h
   . exact za1 hS' (k:=2) (by decide) h
   exact za1 hS' (k:=3) (by decide) h
  refine Vs 8 O ?_
  refine zlw tr44 O O (fun w hI=>⟨_,rfl,⟨_,by rw[h1],fun h=>by rw[h1]at h;cases h⟩,hI.k0⟩)
 have hc:=zgK hS' hkd (fun k h1 h3=>by rcases (show k=1\/k=2\/k=3 by omega) with rfl | rfl | rfl<;>omega)
 rw[<- ho]at hc
 refine Vs 6 O ?_
 refine zmS O (fun w hI=>zms O (by first | exact za | rfl)) ?_
 refine Vs 2 O ?_
 refine V.bool O (fun y=>?_) (fun y=>?_)
 .
  have h3:zB f.vars r=3:=by rw[hc];cases o;(· rfl);cases y
  refine Vs 8 O ?_
  refine zlw tr44 O O (fun w hI=>⟨_,rfl,⟨_,by rw[h3],fun h=>by rw[h3]at h;cases h⟩,hI.k0⟩)
 have h0:zB f.vars r=0:=by rw[hc];cases o;(· cases y);rfl
 refine Vs 10 O ?_
 refine zlw tr44 O O (fun w hI=>⟨_,rfl,⟨_,by rw[h0],fun _=>hsv ▸ zmj (R:=yc) (D:=fun b=>W.heap.size<=b) zb (fun _ _=>rfl) (hI.at 902 O) (fun q hq=>hI.own 902 0 O O q hq)⟩,hI.k0⟩)
end Go.Proofs.YtckdhgbepmpgiaaGreat
namespace Go.GL
open Go.RowKit Go.Row
section
variable {P:Program} {env:Env} {w:World} {dst:Option Tmp} {ty:TypeId} {pos:String} {aft:Array Edge} {gu:Option (Nat × Bool)}
theorem zoO {t e:TypeId} {by':Nat} {z:Value} {x y:Operand} {m g c:Nat} {xs news zs:List Value} {a0:Addr} {j cs:Nat} (hu:P.underlying t=some (.slice e)) (he:(P.info? e).map (fun i=>(i.zero,i.size,i.bytes))=some (some z,1,by'))
  (hx:ev env x=some (.slice (some ⟨g,0,none⟩) m c)) (hy:ev env y=some (.slice (some a0) j cs)) (hown:(HE.row e 1 (.slice (some ⟨g,0,none⟩) m c) m xs).holds w) (hl:news.length=j) (hjm:j<=m) (hnews:∀ q u,news[q]?=some u->w.cell? (a0.add q)=some u) (h1:∀ u ∈ news,u.oneCell'=true) (hz:news++xs.drop j=zs) :
  yK P ⟨dst,.call ⟨.builtin .copy,#[x,y],#[t,t]⟩,ty,pos,aft,gu⟩ env w (fun u w'=>u=.int .i64 (j:Int)/\(HE.row e 1 (.slice (some ⟨g,0,none⟩) m c) m zs).holds w'/\Keep (HE.row e 1 (.slice (some ⟨g,0,none⟩) m c) m xs).S w w'/\∀ q,(HE.row e 1 (.slice (some ⟨g,0,none⟩) m c) m zs).S q->((HE.row e 1 (.slice (some ⟨g,0,none⟩) m c) m xs).S q\/w.heap.size<=q)/\q<w'.heap.size):=by
 subst hz
 have hown:w.ownsRow 0 e 1 (.slice (some ⟨g,0,none⟩) m c) m xs:=hown
 obtain⟨i,hi,hz0,hz1,hz2⟩:=info_parts he
 obtain⟨hlen,h2⟩:=hown
 rcases h2 with⟨h2,_⟩ | ⟨g0,cap,cur,hv,hbg,hg,hc,hcm,hcs,htake⟩
 . cases h2
 cases hv
 rw[zrm]at hcs htake hlen
 have hr:=run_copy_row (P:=P) w t t ty e g 0 m c a0 j cs cur e news hu (by rw[hi];simp[hz1]) hg (by rw[hl];exact(Nat.min_eq_left hjm).symm) hnews (by omega) h1
 have hlt:=(Array.getElem?_eq_some_iff.1 hg).1
 refine⟨.int .i64 (j:Int),w.setRow g (cur.toList.take 0++news++cur.toList.drop (0+news.length)).toArray,fun n a ha=>?_,rfl,⟨?_,.inr ⟨g,c,_,rfl,hbg,setRow_heap w g cur _ e _ hg,hc,hcm,?_,?_⟩⟩,⟨rfl,rfl,rfl,zpi _,by simp,fun k _ hk=>setRow_other w g k _ (fun e=>hk (by simp[HE.S,Value.ownBlock,e]))⟩,fun q hq=>⟨.inl hq,?_⟩⟩
 .
  rw[<- hl]
  simp[execOp,resolve,invoke,builtin,ha.eval hx,ha.eval hy,hr,goInt]
 . rw[zp1,zqr,zrm];omega
 .
  simp only[zr1,zp1,zpn,zqr,zpr]
  omega
 .
  rw[zrm,zra,zqM,zrq,hl]
  show (news++cur.toList.drop j).take m=_
  rw[List.take_append,zr7 (by omega),hl,<- htake,List.drop_take]
 have hq:some g=some q:=hq
 cases hq
 simpa using hlt
theorem zoP {t e:TypeId} {by':Nat} {z:Value} {x y:Operand} {m g c:Nat} {xs zs:List Value} {l:List Int} {vy:Value} {D:Nat->Prop} (hu:P.underlying t=some (.slice e)) (he:(P.info? e).map (fun i=>(i.zero,i.size,i.bytes))=some (some z,1,by'))
  (hx:ev env x=some (.slice (some ⟨g,0,none⟩) m c)) (hy:ev env y=some vy) (hown:(HE.row e 1 (.slice (some ⟨g,0,none⟩) m c) m xs).holds w) (hsl:SlR 1 yc D w vy l) (hjm:l.length<=m) (hz:l.map (Value.int .i64)++xs.drop l.length=zs) :
  yK P ⟨dst,.call ⟨.builtin .copy,#[x,y],#[t,t]⟩,ty,pos,aft,gu⟩ env w (fun u w'=>u=.int .i64 (l.length:Int)/\(HE.row e 1 (.slice (some ⟨g,0,none⟩) m c) m zs).holds w'/\Keep (HE.row e 1 (.slice (some ⟨g,0,none⟩) m c) m xs).S w w'/\∀ q,(HE.row e 1 (.slice (some ⟨g,0,none⟩) m c) m zs).S q->((HE.row e 1 (.slice (some ⟨g,0,none⟩) m c) m xs).S q\/w.heap.size<=q)/\q<w'.heap.size):=by
 obtain⟨ao,cap,rfl⟩:=hsl.form
 cases l with
 | nil =>
  have hz:xs=zs:=hz
  subst hz
  obtain⟨i,hi,hz0,hz1,hz2⟩:=info_parts he
  have hr:=run_copy_none (P:=P) w t t ty e (some ⟨g,0,none⟩) ao m c 0 cap hu (by rw[hi];simp[hz1]) (by simp)
  refine⟨.int .i64 0,w,fun n a ha=>?_,rfl,hown,Keep.refl _ _,fun q hq=>⟨.inl hq,qj (show w.ownsRow 0 e 1 _ m _ from hown) hq⟩⟩
  have hr':(Builtin.copy_ #[t,t] ty #[.slice (some ⟨g,0,none⟩) m c,.slice ao ([]:List Int).length cap]).run P w=.ok (goInt 0) w:=hr
  simp[execOp,resolve,invoke,builtin,ha.eval hx,ha.eval hy,hr,goInt]
 | cons v0 l =>
  obtain⟨b,o,cs,rfl,_⟩:=hsl.at (i:=0) (x:=v0) rfl
  refine zoO hu he hx hy hown (zpd _) hjm (fun q u hq=>?_) (fun u hu=>?_) hz
  .
   rw[zpa]at hq
   obtain⟨v,hv,rfl⟩:=zrv.1 hq
   obtain⟨b',o',cs,e1,_,h3,h4⟩:=hsl.at hv
   cases e1
   obtain rfl:cs=[.int .i64 v]:=h4
   have:=h3 0 _ rfl
   by_cases hq0:q=0
   . subst hq0;simpa[Addr.add] using this
   simpa[Addr.add,hq0] using this
  obtain⟨v,_,rfl⟩:=zqI.1 hu
  rfl
end
section
variable {P:Program} {n:Nat} {Q:Exit->Act->World->Prop} {ks:List Fr} {env:Env} {A:Tgs} {H Hs:Hp} {Bs B0:zC} {ops:Array Oper} {L:List Nat} {fuel:Nat} {listed:Array Bool} {v:Value}
def VT (P:Program) (n:Nat) (Q:Exit->Act->World->Prop) (ks:List Fr) (ops:Array Oper) (Hs:Hp) (B0:zC) (L:List Nat) (fuel:Nat) (listed:Array Bool) (env:Env) (A:Tgs) (H:Hp) (Bs:zC) (i:Nat):Prop :=
 Has Hs H->TgOk A env H->∀ w,VI Bs H w->∀ a,Ok n env a->wpOp P ops (NQ (QK P Q ks)) i (fun a' w'=>(i ∉ L->VI B0 Hs w->VI B0 Hs w')/\jP P .any ops (NQ (QK P Q ks)) (VI B0 Hs) L fuel (listed.setIfInBounds i true) a' w') a w
def VTs (P:Program) (n:Nat) (Q:Exit->Act->World->Prop) (ks:List Fr) (ops:Array Oper) (Hs:Hp) (B0:zC) (L:List Nat) (fuel:Nat) (listed:Array Bool) (env:Env) (A:Tgs) (H:Hp) (Bs:zC):List Nat->Prop
 | []=>True
 | i::r=>VT P n Q ks ops Hs B0 L fuel listed env A H Bs i/\VTs P n Q ks ops Hs B0 L fuel listed env A H Bs r
theorem VTs.all:∀ {l:List Nat},VTs P n Q ks ops Hs B0 L fuel listed env A H Bs l->∀ i ∈ l,VT P n Q ks ops Hs B0 L fuel listed env A H Bs i
 | x::r,h,i,hi=>by
  rcases zp9.1 hi with rfl | hi
  . exact h.1
  exact VTs.all h.2 i hi
theorem zoQ (i:Nat) (r:List Nat) (hr:Region.ready .any ops listed=i::r) (h:VTs P n Q ks ops Hs B0 L fuel listed env A H Bs (i::r)):VD P n Q ks ops Hs B0 L (fuel+1) listed env A H Bs:=by
 intro hH hA w hI a ha
 exact⟨fun h0=>(by rw[hr]at h0;cases h0),fun k hk=>h.all k (hr ▸ hk) hH hA w hI a ha⟩
variable {d:Nat} {op:Op} {ty:TypeId} {ps:String} {aft:Array Edge} {g:Option (Nat × Bool)}
theorem znE {i:Nat} (hi:ops[i]?=some ⟨some d,op,ty,ps,aft,g⟩) (hn:Nat.blt d n=true) (hg:gd ops env g=some true) {R:World->Value->World->Prop}
  (hm:∀ w,VI Bs H w->Does P ⟨some d,op,ty,ps,aft,g⟩ env w (R w)) (h:Has Hs H->TgOk A env H->∀ w,VI Bs H w->∀ v w',R w v w'->VI B0 Hs w'/\WD P n ops (QK P Q ks) (VI B0 Hs) L fuel (listed.setIfInBounds i true) ((d,v)::env) w'):VT P n Q ks ops Hs B0 L fuel listed env A H Bs i:=by
 intro hH hA w hI a ha
 have hd:=hm w hI
 have h:=h hH hA w hI
 unfold wpOp
 simp only[hi]
 rw[zp4 (qs hg a ha)]
 refine .inl ?_
 unfold Oper.wp
 rcases hd with⟨v,w',hrun,hR⟩ | ⟨f,args,hm,hc⟩
 .
  rw[hrun n a ha,Oper.upon_value]
  exact⟨fun _ _=>(h v w' hR).1,(h v w' hR).2 _ (ha.put hn)⟩
 rw[hm n a ha,Oper.upon_enter]
 refine hc.mono ?_
 rintro e w' ⟨v,rfl,hR⟩
 exact⟨fun _ _=>(h v w' hR).1,(h v w' hR).2 _ (ha.put hn)⟩
theorem znA (i j:Nat) {f:FuncId} {xs:Array Operand} {ts:Array TypeId} {vs:List Value} {Φ:Value->World->World->Prop} (hf:∀ args w,(callFunc f args).run P w=.ok (.enter f args) w) (hi:ops[i]?=some ⟨some d,.call ⟨.value (.func f),xs,ts⟩,ty,ps,aft,g⟩) (hn:(Nat.blt d n,gd ops env g,qM env xs.toList,qu (Hs.map (·.1)))=(true,some true,some vs,true)) (hB:Bs.drop j=B0)
  (hc:∀ w,VI Bs H w->Calls P f vs.toArray w (Ret fun r w'=>Φ r w w'/\Ext w w'))
  (h:∀ r w w',VI Bs H w->Ext w w'->Φ r w w'->(∀ q,HS H q->q<w.heap.size)->VD P n Q ks ops Hs B0 L fuel (listed.setIfInBounds i true) ((d,r)::env) ((d,none)::A) H ((w',HS H)::Bs)):VT P n Q ks ops Hs B0 L fuel listed env A H Bs i:=by
 simp only[Prod.mk.injEq]at hn
 subst hB
 refine znE hi hn.1 hn.2.1 (fun w hI=>.inr ⟨f,_,F.call hf (yT hn.2.2.1),hc w hI⟩) fun hH hA w hI=>?_
 rintro r w' ⟨hP,hk⟩
 exact⟨((hI.ext hk).drop j).pick hH hn.2.2.2,h r w w' hI hk hP (fun q ⟨x,hx,hq⟩=>hI.low x hx q hq) hH hA.none w' (hI.ext hk).here⟩
theorem zm8 (i k j:Nat) {t e:TypeId} {kk by' m:Nat} {z:Value} {x y:Operand} {kl kc:IntKind} {zs:List Value} (hu:P.underlying t=some (.slice e)) (he:(P.info? e).map (fun i=>(i.zero,i.size,i.bytes))=some (some z,kk,by'))
  (hi:ops[i]?=some ⟨some d,.makeSlice t x y,ty,ps,aft,g⟩) (hn:(Nat.blt d n,gd ops env g,(hget H k).isNone,ev env x,ev env y,qu (Hs.map (·.1)))=(true,some true,true,some (.int kl (m:Int)),some (.int kc (m:Int)),true)) (hB:Bs.drop j=B0)
  (hb:by'*m<=281474976710656) (hm:m<=9223372036854775807) (hz:madeCells z.cells (m*kk)=zs.toArray) (hl:zs.length=m*kk)
  (h:∀ b,VD P n Q ks ops Hs B0 L fuel (listed.setIfInBounds i true) ((d,.slice (some ⟨b,0,none⟩) m m)::env) ((d,none)::A) ((k,.row e kk (.slice (some ⟨b,0,none⟩) m m) m zs)::H) Bs):VT P n Q ks ops Hs B0 L fuel listed env A H Bs i:=by
 simp only[Prod.mk.injEq,zrt]at hn
 subst hB
 obtain⟨h1,h2,h3,h4,h5,h6⟩:=hn
 refine znE hi h1 h2 (fun w hI=>.inl (zm5 hu he h4 h5 hb hm hz)) fun hH hA w hI=>?_
 rintro _ w1 ⟨b,rfl,hN⟩
 have hI1:=hI.row k hm hl hN
 have hH1:Has Hs ((k,.row e kk (.slice (some ⟨b,0,none⟩) m m) m zs)::H):=hH.new h3
 exact⟨(hI1.drop j).pick hH1 h6,h b hH1 (TgOk.none (hA.new h3)) w1 hI1⟩
end
end Go.GL
