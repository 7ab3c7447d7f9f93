/-
  Contracts and the mathematics that the proof needs. Nothing here is a claim.
-/
import Derived.Test.YtckdhgbepmpgiaaGreatKF8
import Derived.Test.YtckdhgbepmpgiaaGreatRows
import Derived.ProofKit
import Derived.OpenShut
import Derived.ReadAgain
import Derived.ChangeBears
import Derived.Test.YtckdhgbepmpgiaaGreatProg
namespace Go.GL
abbrev zwA:=@World.cells?_some
end Go.GL
namespace Go.GL
open Go.ChangeShapes Go.WideShapes Go.ChangeAt Go.RowKit
section
variable {H:Type} {enc:TypeId × Value->H} {P:Program} {w w' W W':World} {base:Nat} {sp:Nat->Bool} {held:Bool}
theorem zww (h:Ext W W') (may:MemPlace->Prop):W.keptBut W' may:=by
 refine⟨h.os,h.output,fun i hi=>?_⟩;rw[h.block i hi (fun h=>h)];cases hx:W.heap[i]? with
 | none=>rfl
 | some o=>cases o<;>simp
theorem zwx (h:Ext W W') {p:MemPlace} (hp:p.block<W.heap.size):W.sameAt W' p:=by
 cases p with
 | cell b off=>exact World.cell?_of_block (w:=W) (w':=W') (a:=⟨b,off,none⟩) (h.block b hp (fun h=>h))
 | map b=>exact h.block b hp (fun h=>h)
theorem zwy (h:Ext W W') {b off:Nat} (hb:b<W.heap.size):W'.frozen? ⟨b,off,none⟩=W.frozen? ⟨b,off,none⟩:=by
 unfold World.frozen?;rw[h.block b hb (fun h=>h)]
theorem zwz:∀ {ts:List TypeId} {vs:List Value} {ds:List (DataW H)} {ps:List MemPlace},DataW.TrodAll enc P w base sp held ts vs ds ps->(∀ p ∈ ps,w.sameAt w' p)->DataW.TrodAll enc P w' base sp held ts vs ds ps
 | [],[],[],_,h,_=>h
 | _::_,_::_,_::_,_,⟨p,q,⟨n,h1⟩,h2,e⟩,hs =>
  ⟨p,q,⟨n,DataW.trod_carry n _ _ _ h1 (fun x hx=>hs x (by rw[e];exact zv2 _ hx))⟩,zwz h2 (fun x hx=>hs x (by rw[e];exact zv3 _ hx)),e⟩
theorem zwm {f:Func} {s:ChangeSpec} {apart fresh handsOn again:Bool} {args:Array Value} {ds gs:List (DataW H)} {before:List MemPlace} {tb:TypeId}
  (hl:laidOutB P=true) (hm:mapsRowed P=true) (hz:((List.range P.types.size).all fun t=>match P.underlying t with | some (.slice e)=>decide (0<P.cellsOf e) | _=>true)=true)
  (hK:∀ t ∈ f.params.toList,t<P.types.size) (hv:s.vars=[]) (hr:f.resultTypes=#[tb]) (hF:P.underlying tb=some .bool)
  (hW:DataW.Whole enc P f.params.toList s.vars apart W args.toList ds gs before) (hs:(s.fn H (ds++gs)).results=[.lit (.bool true)]/\(s.fn H (ds++gs)).args=ds/\(s.fn H (ds++gs)).vars=[]) (hk:Ext W W') :
  s.post enc P f apart fresh handsOn again W args (.bool true) W':=by
 have hD:=hW.lt;have hL:=hW;obtain⟨p,q,hA,hV,rfl,hG,hn⟩:=hL;rw[hv]at hV;obtain⟨rfl,rfl⟩:=trodVars_none hV;rw[zu3]at hD hG hn;simp only[zu3]at hs;have hw:∀ x ∈ p,W.sameAt W' x:=fun x hx=>zwx hk (hD x hx)
 have ho:∀ sp:Nat->Bool,(∀ x ∈ p,sp x.block=true)->DataW.TrodAll enc P W' 0 sp true f.params.toList args.toList ds p:=fun sp hM =>
  zwz (DataW.TrodAll.respare (kids_rows hl hm) (slices_full_of P hz) hK hA hM) hw
 have hC:∀ (b:Nat) (sp:Nat->Bool) (hd:Bool),DataW.TrodAll enc P W' b sp hd f.resultTypes.toList ((Value.bool true).resultList f.resultTypes.size) [.lit (.bool true)] []:=by
  intro b sp hd;rw[hr];exact trodAll_cons_mk (shut_bool hF _) trodAll_mk0
 have hH:∀ sp:Nat->Bool,DataW.TrodVars enc P W' sp s.vars [] []:=fun sp=>by rw[hv];rfl
 have hN:∀ (j:Nat) (t:TypeId) (r:Value),f.resultTypes[j]?=some t->((Value.bool true).resultList f.resultTypes.size)[j]?=some r->Value.okWide P W' .any 0 t r :=
  ok_one hr rfl (okWide_bool_mk hF _)
 have hE:∀ x ∈ p,(fun b=>decide (b<W.heap.size)) x.block=true:=fun x hx=>by simpa using hD x hx
 refine⟨ds,[],p++[],[],p,[],hW,?_,?_,?_,zww hk _,fun _=>?_⟩
 . rw[zu3,hs.1];exact hC _ _ _
 . rw[zu3,hs.2.1];exact ho _ hE
 . rw[zu3,hs.2.2];exact hH _
 refine⟨hN,_,_,([]++p)++[],⟨[]++p,[],trodAll_append (ho _ (fun _ _=>rfl)) (hC _ _ _),hH _,rfl,?_,?_⟩,?_⟩
 .
  intro b off hp;have hJ:MemPlace.cell b off ∈ p:=by simpa using hp
  exact(zwy hk (show b<W.heap.size from hD _ hJ)).trans (hG b off hJ)
 .
  intro ha;simpa using hn ha
 intro x hx _;simpa using hx
theorem zwd {b o n:Nat} {cs:List Value} (h:w.cells? base ⟨b,o,none⟩ n=some cs):cs.length=n/\Cells w b o cs:=by
 obtain⟨_,h1,h2⟩:=zwA h;refine⟨h1,fun j v hv=>?_⟩;have hj:j<n:=by rw[<- h1];exact(zt4.1 hv).1
 have:=h2 j hj;rw[hv]at this;rw[<- this,xd]
theorem zwg {α:Type} {R:Rel α} {t e:TypeId} {c fuel:Nat} {cs:List Value} {x:DataW H × List MemPlace} (Q:DataW H->Prop) (ht:P.underlying t=some (.slice e)) (hc:P.cellsOf e=c) (hF:0<c) (hQ:∀ es rs,x.1=.slice es rs->∀ d ∈ es,Q d)
  (hR:∀ (n:Nat) (cs:List Value) (y:DataW H × List MemPlace),Q y.1->DataW.trod enc P w base sp held n e cs=some y->∃ z,R (fun _=>True) w z cs) (h:DataW.trod enc P w base sp held fuel t cs=some x):∃ v l,cs=[v]/\SlR c R (fun _=>True) w v l/\(l=[]\/∃ es rs,x.1=.slice es rs/\es.length=l.length):=by
 rcases DataW.trod_slice ht h with⟨rfl,_⟩ | ⟨a,len,cap,elems,rest,n,_,rfl,rfl,_,hG,hH,hJ,hD,_⟩
 . exact⟨_,[],rfl,SlR.nil,.inl rfl⟩
 rw[hc]at hD
 have hw:∀ i:Nat,i<len->∃ z cs',w.cells? base (a.add (i*c)) c=some cs'/\R (fun _=>True) w z cs':=by
  intro i hi;have h1:=hD i hi;obtain⟨y,hy⟩:∃ y,elems[i]?=some y:=⟨_,zsQ tO⟩;rw[hy,zw0]at h1;obtain⟨cs',h2,h3⟩:=h1;obtain⟨z,hz⟩:=hR n cs' y (hQ _ _ rfl _ (zv8.2 ⟨y,zsR hy,rfl⟩)) h3;exact⟨z,cs',h2,hz⟩
 have hC:∀ k,k<=len->∃ l:List α,l.length=k/\∀ (i:Nat) z,l[i]?=some z->∃ cs',w.cells? base (a.add (i*c)) c=some cs'/\R (fun _=>True) w z cs':=by
  intro k;induction k with
  | zero=>intro _;exact⟨[],rfl,fun i z h=>by simp at h⟩
  | succ k ih =>
   intro hk;obtain⟨l,h1,h2⟩:=ih tO;obtain⟨z,cs',h3,h4⟩:=hw k tO;refine⟨l++[z],by simp[h1],fun i y hy=>?_⟩;by_cases e:i<l.length
   . rw[ztg e]at hy;exact h2 i y hy
   rw[zth tO]at hy
   have hi:i=k:=by
    have:=(zt4.1 hy).1;simp at this;omega
   subst hi;rw[h1,zvX]at hy;simp at hy;subst hy;exact⟨cs',h3,h4⟩
 obtain⟨l,hl,hK⟩:=hC len (ztf _);subst hl;refine⟨_,l,rfl,⟨some a,cap,rfl,hG,by simpa[maxLen] using hH,fun i z hz=>?_⟩,.inr ⟨_,_,rfl,by simp[hJ]⟩⟩;obtain⟨cs',h3,h4⟩:=hK i z hz;obtain⟨_,h5,h6⟩:=zwA h3
 have ho:a.spot=none:=by
  have hi:0<l.length:=by have:=(zt4.1 hz).1;omega
  obtain⟨_,cs0,h7,_⟩:=hw 0 hi;obtain⟨_,h8,h9⟩:=zwA h7;have hE:=h9 0 hF;obtain⟨u,hu⟩:∃ u,cs0[0]?=some u:=⟨_,zsQ tO⟩;rw[hu]at hE;have hL:=World.cell?_spot hE;simpa[Addr.add] using hL
 obtain⟨b,o,s⟩:=a;simp at ho;subst ho;exact⟨b,o,cs',rfl,trivial,h5,(zwd (by rw[xd]at h3;exact h3)).2,h4⟩
theorem zwe {α:Type} {R:Rel α} {t e:TypeId} {c fuel:Nat} {cs:List Value} {x:DataW H × List MemPlace} (ht:P.underlying t=some (.slice e)) (hc:P.cellsOf e=c) (ho:0<c)
  (hR:∀ (n:Nat) (cs:List Value) (y:DataW H × List MemPlace),DataW.trod enc P w base sp held n e cs=some y->∃ z,R (fun _=>True) w z cs) (h:DataW.trod enc P w base sp held fuel t cs=some x):∃ v l,cs=[v]/\SlR c R (fun _=>True) w v l:=by
 obtain⟨v,l,h1,h2,_⟩:=zwg (fun _=>True) ht hc ho (fun _ _ _ _ _=>trivial) (fun n cs y _=>hR n cs y) h;exact⟨v,l,h1,h2⟩
theorem zw9 {e:TypeId} {n:Nat} {cs:List Value} {y:DataW H × List MemPlace} (he:P.underlying e=some (.int .i64)) (h:DataW.trod enc P w base sp held n e cs=some y):∃ z,zw (fun _=>True) w z cs:=by
 obtain⟨z,h1,_⟩:=DataW.trod_int he h;exact⟨z,h1⟩
end
end Go.GL
namespace Go.Proofs.YtckdhgbepmpgiaaGreat
open Go.GL Go.ChangeShapes Go.WideShapes Go.ChangeAt Go.RowKit
theorem own:ownKnob Tryz.prog.godebug=none:=tK
end Go.Proofs.YtckdhgbepmpgiaaGreat
namespace Go.GL
open Go.ChangeShapes Go.WideShapes Go.ChangeAt Go.RowKit
section
variable {H:Type} {enc:TypeId × Value->H} {P:Program} {w w' W W':World} {base:Nat} {sp:Nat->Bool} {held:Bool}
theorem zwa {α:Type} {R:Rel α} {t e:TypeId} {c fuel:Nat} {cs:List Value} {x:DataW H × List MemPlace} (ht:P.underlying t=some (.slice e)) (hc:P.cellsOf e=c) (hF:0<c)
  (hR:∀ (n:Nat),fuel=n+1->∀ (cs:List Value) (y:DataW H × List MemPlace),DataW.trod enc P w base sp held n e cs=some y->∃ z,R (fun _=>True) w z cs) (h:DataW.trod enc P w base sp held fuel t cs=some x):∃ v l,cs=[v]/\SlR c R (fun _=>True) w v l:=by
 rcases DataW.trod_slice ht h with⟨rfl,_⟩ | ⟨a,len,cap,elems,rest,n,hG,rfl,_,_,hH,hJ,hM,hD,_⟩
 . exact⟨_,[],rfl,SlR.nil⟩
 rw[hc]at hD
 have hw:∀ i:Nat,i<len->∃ z cs',w.cells? base (a.add (i*c)) c=some cs'/\R (fun _=>True) w z cs':=by
  intro i hi;have h1:=hD i hi;obtain⟨y,hy⟩:∃ y,elems[i]?=some y:=⟨_,zsQ tO⟩;rw[hy,zw0]at h1;obtain⟨cs',h2,h3⟩:=h1;obtain⟨z,hz⟩:=hR n hG cs' y h3;exact⟨z,cs',h2,hz⟩
 have hC:∀ k,k<=len->∃ l:List α,l.length=k/\∀ (i:Nat) z,l[i]?=some z->∃ cs',w.cells? base (a.add (i*c)) c=some cs'/\R (fun _=>True) w z cs':=by
  intro k;induction k with
  | zero=>intro _;exact⟨[],rfl,fun i z h=>by simp at h⟩
  | succ k ih =>
   intro hk;obtain⟨l,h1,h2⟩:=ih tO;obtain⟨z,cs',h3,h4⟩:=hw k tO;refine⟨l++[z],by simp[h1],fun i y hy=>?_⟩;by_cases e:i<l.length
   . rw[ztg e]at hy;exact h2 i y hy
   rw[zth tO]at hy
   have hi:i=k:=by
    have:=(zt4.1 hy).1;simp at this;omega
   subst hi;rw[h1,zvX]at hy;simp at hy;subst hy;exact⟨cs',h3,h4⟩
 obtain⟨l,hl,hK⟩:=hC len (ztf _);subst hl;refine⟨_,l,rfl,some a,cap,rfl,hH,by simpa[maxLen] using hJ,fun i z hz=>?_⟩;obtain⟨cs',h3,h4⟩:=hK i z hz;obtain⟨_,h5,h6⟩:=zwA h3
 have ho:a.spot=none:=by
  have hi:0<l.length:=by have:=(zt4.1 hz).1;omega
  obtain⟨_,cs0,h7,_⟩:=hw 0 hi;obtain⟨_,h8,h9⟩:=zwA h7;have hE:=h9 0 hF;obtain⟨u,hu⟩:∃ u,cs0[0]?=some u:=⟨_,zsQ tO⟩;rw[hu]at hE;have hL:=World.cell?_spot hE;simpa[Addr.add] using hL
 obtain⟨b,o,s⟩:=a;simp at ho;subst ho;exact⟨b,o,cs',rfl,trivial,h5,(zwd (by rw[xd]at h3;exact h3)).2,h4⟩
theorem zox {fs:Array Field} {m:Nat} {cs:List Value} {xs:List (DataW H × List MemPlace)} (hx:xs.length=fs.size) (ho:∀ (i:Nat) (f:Field),fs[i]?=some f->DataW.trod enc P w base sp held m f.type ((cs.drop f.offset).take (P.cellsOf f.type))=xs[i]?) (i:Nat) {f:Field} (hf:fs[i]?=some f) {c:Nat} (hc:P.cellsOf f.type=c) :
  ∃ y,DataW.trod enc P w base sp held m f.type ((cs.drop f.offset).take c)=some y:=by
 have h:=ho i f hf;have hi:=(zts.1 hf).1;rw[zsQ (show i<xs.length by omega),hc]at h;exact⟨_,h⟩
end
end Go.GL
namespace Go.Proofs.YtckdhgbepmpgiaaGreat
open Go.GL Go.ChangeShapes Go.WideShapes Go.ChangeAt Go.RowKit
section
variable {H:Type} {enc:TypeId × Value->H} {w:World} {base:Nat} {sp:Nat->Bool} {held:Bool}
theorem zw6:Tryz.prog.cellsOf 3=1:=tK
theorem zwh:Tryz.prog.cellsOf 70=3:=tK
theorem zwb:Tryz.prog.cellsOf 72=10:=tK
set_option maxRecDepth 100000 in
theorem zwi:∀ (k:Nat) (cs:List Value) (x:DataW H × List MemPlace),DataW.trod enc Tryz.prog w base sp held k 70 cs=some x->∃ t,RTm (fun _=>True) w t cs:=by
 intro k;induction k using Nat.strongRecOn with
 | _ k ih =>
 intro cs x h;obtain⟨xs,m,hk,_,hl,hx,ho⟩:=DataW.trod_struct Tryz.underlying70 h;rw[zwh]at hl
 match cs,hl with
 | [c0,c1,c2],_ =>
  obtain⟨y0,h0⟩:=zox hx ho 0 rfl (c:=1) tK;obtain⟨y1,h1⟩:=zox hx ho 1 rfl (c:=1) tK;obtain⟨y2,h2⟩:=zox hx ho 2 rfl (c:=1) tK;obtain⟨n0,e0,_⟩:=DataW.trod_int Tryz.underlying67 h0;obtain⟨n1,e1,_⟩:=DataW.trod_int tu3 h1;obtain⟨v,l,e2,hw⟩:=zwa Tryz.underlying68 zwh tS (fun n hn cs y hy=>ih n tO cs y hy) h2;simp at e0 e1 e2;subst e0;subst e1;subst e2;exact⟨.mk n0 n1 l,RTm.put (t:=.mk n0 n1 l) hw⟩
set_option maxRecDepth 100000 in
theorem zwq:∀ (k:Nat) (cs:List Value) (x:DataW H × List MemPlace),DataW.trod enc Tryz.prog w base sp held k 72 cs=some x->∃ t,RSt (fun _=>True) w t cs:=by
 intro k;induction k using Nat.strongRecOn with
 | _ k ih =>
 intro cs x h;obtain⟨xs,m,hk,_,hl,hx,ho⟩:=DataW.trod_struct Tryz.underlying72 h;rw[zwb]at hl
 match cs,hl with
 | [c0,c1,c2,c3,c4,c5,c6,c7,c8,c9],_ =>
  obtain⟨y0,h0⟩:=zox hx ho 0 rfl (c:=1) tK;obtain⟨y1,h1⟩:=zox hx ho 1 rfl (c:=1) tK;obtain⟨y2,h2⟩:=zox hx ho 2 rfl (c:=1) tK;obtain⟨y3,h3⟩:=zox hx ho 3 rfl (c:=1) tK;obtain⟨y4,h4⟩:=zox hx ho 4 rfl (c:=3) tK;obtain⟨y5,h5⟩:=zox hx ho 5 rfl (c:=1) tK;obtain⟨y6,h6⟩:=zox hx ho 6 rfl (c:=1) tK;obtain⟨y7,h7⟩:=zox hx ho 7 rfl (c:=1) tK;obtain⟨n0,e0,_⟩:=DataW.trod_int Tryz.underlying66 h0;obtain⟨n1,e1,_⟩:=DataW.trod_int tu3 h1;obtain⟨n2,e2,_⟩:=DataW.trod_int tu3 h2;obtain⟨n3,e3,_⟩:=DataW.trod_int tu3 h3;obtain⟨t,ht⟩:=zwi _ _ _ h4;obtain⟨v4,e4,hw⟩:=ht.get;obtain⟨v5,l5,e5,hC⟩:=zwa tu24 zwb tS (fun n hn cs y hy=>ih n tO cs y hy) h5;obtain⟨v6,l6,e6,hD⟩:=zwa tu24 zwb tS (fun n hn cs y hy=>ih n tO cs y hy) h6;obtain⟨v7,l7,e7,hE⟩:=zwa tu27 zw6 tS (fun n hn cs y hy=>zw9 tu3 hy) h7;simp at e0 e1 e2 e3 e4 e5 e6 e7;obtain⟨e4,e42,e43⟩:=e4;subst e0;subst e1;subst e2;subst e3;subst e4;subst e42;subst e43;subst e5;subst e6;subst e7;exact⟨.mk n0 n1 n2 n3 t l5 l6 l7,RSt.put (s:=.mk n0 n1 n2 n3 t l5 l6 l7) hw hC hD hE⟩
set_option maxRecDepth 100000 in
theorem zwr (k:Nat) (cs:List Value) (x:DataW H × List MemPlace) (h:DataW.trod enc Tryz.prog w base sp held k 142 cs=some x):∃ t,RVr (fun _=>True) w t cs:=by
 obtain⟨xs,m,hk,_,hl,hx,ho⟩:=DataW.trod_struct Tryz.underlying142 h;rw[show Tryz.prog.cellsOf 142=5 by kernel_rfl]at hl
 match cs,hl with
 | [c0,c1,c2,c3,c4],_ =>
  obtain⟨y0,h0⟩:=zox hx ho 0 rfl (c:=1) tK;obtain⟨y1,h1⟩:=zox hx ho 1 rfl (c:=1) tK;obtain⟨y2,h2⟩:=zox hx ho 2 rfl (c:=1) tK;obtain⟨y3,h3⟩:=zox hx ho 3 rfl (c:=1) tK;obtain⟨y4,h4⟩:=zox hx ho 4 rfl (c:=1) tK;obtain⟨n0,e0,_⟩:=DataW.trod_string tu9 h0;obtain⟨n1,e1,_⟩:=DataW.trod_int tu100 h1;obtain⟨n2,e2,_⟩:=DataW.trod_int tu3 h2;obtain⟨n3,e3,_⟩:=DataW.trod_int tu3 h3;obtain⟨n4,e4,_⟩:=DataW.trod_int tu3 h4;simp at e0 e1 e2 e3 e4;subst e0;subst e1;subst e2;subst e3;subst e4;exact⟨⟨n0,n1,n2,n3,n4⟩,rfl⟩
set_option maxRecDepth 100000 in
theorem zws (k:Nat) (cs:List Value) (x:DataW H × List MemPlace) (h:DataW.trod enc Tryz.prog w base sp held k 109 cs=some x):∃ t,RHt (fun _=>True) w t cs:=by
 obtain⟨xs,m,hk,_,hl,hx,ho⟩:=DataW.trod_struct Tryz.underlying109 h;rw[show Tryz.prog.cellsOf 109=6 by kernel_rfl]at hl
 match cs,hl with
 | [c0,c1,c2,c3,c4,c5],_ =>
  obtain⟨y0,h0⟩:=zox hx ho 0 rfl (c:=1) tK;obtain⟨y1,h1⟩:=zox hx ho 1 rfl (c:=1) tK;obtain⟨y2,h2⟩:=zox hx ho 2 rfl (c:=1) tK;obtain⟨y3,h3⟩:=zox hx ho 3 rfl (c:=3) tK;obtain⟨n0,e0,_⟩:=DataW.trod_string tu9 h0;obtain⟨n1,e1,_⟩:=DataW.trod_int tu3 h1;obtain⟨n2,e2,_⟩:=DataW.trod_int tu3 h2;obtain⟨t,ht⟩:=zwi _ _ _ h3;obtain⟨v3,e3,hw⟩:=ht.get;simp at e0 e1 e2 e3;obtain⟨e3,e32,e33⟩:=e3;subst e0;subst e1;subst e2;subst e3;subst e32;subst e33;exact⟨⟨n0,n1,n2,t⟩,_,rfl,hw⟩
set_option maxRecDepth 100000 in
theorem zwt (k:Nat) (cs:List Value) (x:DataW H × List MemPlace) (h:DataW.trod enc Tryz.prog w base sp held k 65 cs=some x):∃ t,RNd (fun _=>True) w t cs:=by
 obtain⟨xs,m,hk,_,hl,hx,ho⟩:=DataW.trod_struct Tryz.underlying65 h;rw[show Tryz.prog.cellsOf 65=4 by kernel_rfl]at hl
 match cs,hl with
 | [c0,c1,c2,c3],_ =>
  obtain⟨y0,h0⟩:=zox hx ho 0 rfl (c:=1) tK;obtain⟨y1,h1⟩:=zox hx ho 1 rfl (c:=1) tK;obtain⟨y2,h2⟩:=zox hx ho 2 rfl (c:=1) tK;obtain⟨y3,h3⟩:=zox hx ho 3 rfl (c:=1) tK;obtain⟨n0,e0,_⟩:=DataW.trod_int Tryz.underlying63 h0;obtain⟨n1,e1,_⟩:=DataW.trod_int tu3 h1;obtain⟨n2,e2,_⟩:=DataW.trod_int tu3 h2;obtain⟨n3,e3,_⟩:=DataW.trod_int tu3 h3;simp at e0 e1 e2 e3;subst e0;subst e1;subst e2;subst e3;exact⟨⟨n0,n1,n2,n3⟩,rfl⟩
set_option maxRecDepth 100000 in
theorem zwj {r:Reach} {b0:Nat} {v:Value} {d:DataW H} {ps:List MemPlace} (ho:Value.okWide Tryz.prog w r b0 26 v) (hd:DataW.Trod enc Tryz.prog w base sp held 26 v d ps) :
  ∃ f v1 v2 v3,v=.agg #[v1,v2,v3]/\RFl (fun _=>True) w f v1 v2 v3:=by
 unfold Value.okWide at ho;rw[Tryz.underlying26]at ho;obtain⟨cs,rfl,hC,_⟩:=ho;obtain⟨k,hn⟩:=hd;obtain⟨xs,m,_,_,hl,hx,hw⟩:=DataW.trod_struct Tryz.underlying26 hn;rw[show Tryz.prog.cellsOf 26=3 by kernel_rfl]at hC;obtain⟨l⟩:=cs
 match l,hC with
 | [c0,c1,c2],_ =>
  obtain⟨y0,h0⟩:=zox hx hw 0 rfl (c:=1) tK;obtain⟨y1,h1⟩:=zox hx hw 1 rfl (c:=1) tK;obtain⟨y2,h2⟩:=zox hx hw 2 rfl (c:=1) tK;obtain⟨v0,l0,e0,hD⟩:=zwe Tryz.underlying22 (show Tryz.prog.cellsOf 142=5 by kernel_rfl) tS (fun n cs y hy=>zwr n cs y hy) h0;obtain⟨v1,l1,e1,hE⟩:=zwe Tryz.underlying23 (show Tryz.prog.cellsOf 109=6 by kernel_rfl) tS (fun n cs y hy=>zws n cs y hy) h1;obtain⟨v2,l2,e2,hF⟩:=zwe tu24 zwb tS (fun n cs y hy=>zwq n cs y hy) h2;simp[Value.cells]at e0 e1 e2;subst e0;subst e1;subst e2;exact⟨⟨l0,l1,l2⟩,_,_,_,rfl,hD,hE,hF⟩
set_option maxRecDepth 100000 in
theorem zwn {r:Reach} {b0:Nat} {v:Value} {d:DataW H} {ps:List MemPlace} (ho:Value.okWide Tryz.prog w r b0 36 v) (hd:DataW.Trod enc Tryz.prog w base sp held 36 v d ps) :
  ∃ g gv,v=.agg #[gv]/\SlR 4 RNd (fun _=>True) w gv g:=by
 unfold Value.okWide at ho;rw[Tryz.underlying36]at ho;obtain⟨cs,rfl,hw,_⟩:=ho;obtain⟨k,hn⟩:=hd;obtain⟨xs,m,_,_,hl,hx,hC⟩:=DataW.trod_struct Tryz.underlying36 hn;rw[show Tryz.prog.cellsOf 36=1 by kernel_rfl]at hw;obtain⟨l⟩:=cs
 match l,hw with
 | [c0],_ =>
  obtain⟨y0,h0⟩:=zox hx hC 0 rfl (c:=1) tK;obtain⟨v0,l0,e0,hD⟩:=zwe tu34 (show Tryz.prog.cellsOf 65=4 by kernel_rfl) tS (fun n cs y hy=>zwt n cs y hy) h0;simp[Value.cells]at e0;subst e0;exact⟨l0,_,rfl,hD⟩
end
open Go.GL Go.ChangeShapes Go.WideShapes Go.ChangeAt Go.RowKit
section
variable {H:Type} {enc:TypeId × Value->H} {w:World} {base:Nat} {sp:Nat->Bool} {held:Bool}
def wtB (P:Program) (t:TypeId) (d:DataW H):Prop:=∀ n ∈ d.weights P t,n<=reachBytes
theorem wtB.field {P:Program} {t:TypeId} {fs:Array Field} {parts:List (DataW H)} (h:wtB P t (.agg parts)) (ht:P.underlying t=some (.struct fs)) {i:Nat} {f:Field} {d:DataW H} (hf:fs[i]?=some f) (hd:parts[i]?=some d):wtB P f.type d:=fun n hn=>by
 refine h n ?_;rw[DataW.weights,ht];exact DataW.weights_mem_each (j:=i) (by simp[hf]) hd n hn
theorem zoy {P:Program} {e:TypeId} {d:DataW H} {n:Nat}:∀ {l:List (DataW H)},d ∈ l->n ∈ d.weights P e->n ∈ DataW.weightsAll P e l
 | x::l,h,hn=>by
  rw[DataW.weightsAll,zt9];rcases zt6.1 h with rfl | h
  . exact .inl hn
  exact .inr (zoy h hn)
theorem wtB.slice {P:Program} {t e:TypeId} {es rs:List (DataW H)} (h:wtB P t (.slice es rs)) (ht:P.underlying t=some (.slice e)):es.length*P.bytesOf e<=reachBytes/\∀ d ∈ es,wtB P e d:=by
 refine⟨zsW (zvU _ (Nat.le_add_right es.length rs.length)) (h _ (by rw[DataW.weights,ht];exact zsU ..)),fun d hd n hn=>h n ?_⟩;rw[DataW.weights,ht];exact zsT _ (zv2 _ (zoy hd hn))
theorem zwu {P:Program} {ts:List TypeId} {ds:List (DataW H)} (h:(DataW.weightsEach P ts ds).all (·<=reachBytes)=true) {j:Nat} {t:TypeId} {d:DataW H} (ht:ts[j]?=some t) (hd:ds[j]?=some d):wtB P t d:=fun n hn=>by
 simpa using ztZ.1 h _ (DataW.weights_mem_each ht hd n hn)
theorem zw7 {P:Program} {fs:Array Field} {m:Nat} {cs:List Value} {xs:List (DataW H × List MemPlace)} (hx:xs.length=fs.size) (ho:∀ (i:Nat) (f:Field),fs[i]?=some f->DataW.trod enc P w base sp held m f.type ((cs.drop f.offset).take (P.cellsOf f.type))=xs[i]?) (i:Nat) {f:Field} (hf:fs[i]?=some f) {c:Nat} (hc:P.cellsOf f.type=c) :
  ∃ y,DataW.trod enc P w base sp held m f.type ((cs.drop f.offset).take c)=some y/\(xs.map (·.1))[i]?=some y.1:=by
 have h:=ho i f hf;have hi:=(zts.1 hf).1;rw[zsQ (show i<xs.length by omega),hc]at h;exact⟨_,h,by rw[zt7,zsQ (show i<xs.length by omega)];rfl⟩
theorem zwc {α:Type} {R:Rel α} {P:Program} {t e:TypeId} {c fuel m:Nat} {cs:List Value} {x:DataW H × List MemPlace} (ht:P.underlying t=some (.slice e)) (hc:P.cellsOf e=c) (ho:0<c) (hm:P.bytesOf e=m) (hw:8<=m) (hB:wtB P t x.1)
  (hR:∀ (n:Nat) (cs:List Value) (y:DataW H × List MemPlace),wtB P e y.1->DataW.trod enc P w base sp held n e cs=some y->∃ z,R (fun _=>True) w z cs) (h:DataW.trod enc P w base sp held fuel t cs=some x):∃ v l,cs=[v]/\SlR c R (fun _=>True) w v l/\l.length<=1152921504606846976:=by
 obtain⟨v,l,h1,h2,h3⟩:=zwg (R:=R) (fun d=>wtB P e d) ht hc ho (fun es rs he d hd=>by rw[he]at hB;exact(hB.slice ht).2 d hd) (fun n cs y hq hy=>hR n cs y hq hy) h;refine⟨v,l,h1,h2,?_⟩;rcases h3 with e0 | ⟨es,rs,e1,e2⟩
 . rw[e0];exact zt5 _
 rw[e1]at hB;have h4:=(hB.slice ht).1;rw[hm,e2]at h4;have h5:reachBytes<2 ^ 47:=reachBytes_lt;have h6:l.length*8<=l.length*m:=Nat.mul_le_mul_left _ hw;omega
end
open Go.GL Go.ChangeShapes Go.WideShapes Go.ChangeAt Go.RowKit
section
variable {H:Type} {enc:TypeId × Value->H} {w:World} {base:Nat} {sp:Nat->Bool} {held:Bool}
set_option maxRecDepth 100000 in
theorem zwk {r:Reach} {b0:Nat} {v:Value} {d:DataW H} {ps:List MemPlace} (hB:wtB Tryz.prog 45 d) (ho:Value.okWide Tryz.prog w r b0 45 v) (hd:DataW.Trod enc Tryz.prog w base sp held 45 v d ps) :
  ∃ (i:Ins) (s1 s2 s3:Value),v=.agg #[s1,s2,s3]/\SlR 1 zw (fun _=>True) w s1 i.secret/\SlR 1 zw (fun _=>True) w s2 i.pub/\SlR 1 zw (fun _=>True) w s3 i.random/\i.secret.length<=1152921504606846976/\i.pub.length<=1152921504606846976/\i.random.length<=1152921504606846976:=by
 unfold Value.okWide at ho;rw[Tryz.underlying45]at ho;obtain⟨cs,rfl,hC,_⟩:=ho;obtain⟨k,hn⟩:=hd;obtain⟨xs,m,_,hd,hl,hx,hw⟩:=DataW.trod_struct Tryz.underlying45 hn;rw[show Tryz.prog.cellsOf 45=3 by kernel_rfl]at hC;obtain rfl:=(Prod.mk.inj hd).1;obtain⟨l⟩:=cs
 match l,hC with
 | [c0,c1,c2],_ =>
  obtain⟨y0,h0,b0⟩:=zw7 hx hw 0 rfl (c:=1) tK;obtain⟨y1,h1,b1⟩:=zw7 hx hw 1 rfl (c:=1) tK;obtain⟨y2,h2,b2⟩:=zw7 hx hw 2 rfl (c:=1) tK;obtain⟨v0,l0,e0,s0,q0⟩:=zwc tu27 zw6 tS (show Tryz.prog.bytesOf 3=8 by kernel_rfl) tS (hB.field (i:=0) Tryz.underlying45 rfl b0) (fun n cs y _ hy=>zw9 tu3 hy) h0;obtain⟨v1,l1,e1,s1,q1⟩:=zwc tu27 zw6 tS (show Tryz.prog.bytesOf 3=8 by kernel_rfl) tS (hB.field (i:=1) Tryz.underlying45 rfl b1) (fun n cs y _ hy=>zw9 tu3 hy) h1;obtain⟨v2,l2,e2,s2,q2⟩:=zwc tu27 zw6 tS (show Tryz.prog.bytesOf 3=8 by kernel_rfl) tS (hB.field (i:=2) Tryz.underlying45 rfl b2) (fun n cs y _ hy=>zw9 tu3 hy) h2;simp[Value.cells]at e0 e1 e2;subst e0;subst e1;subst e2;exact⟨⟨l0,l1,l2⟩,_,_,_,rfl,s0,s1,s2,q0,q1,q2⟩
end
open Go.GL
abbrev emS:Sf:=⟨[],[]⟩
theorem zwo (n:Nat):zm emS n=⟨[],[],-1⟩:=zao tZ
theorem zwf (n:Nat):(LP emS n).length=0:=by
 rw[zuQ];unfold LP;rw[List.flatMap_eq_nil_iff];intro i _;rw[zwo];simp[dP]
theorem zwp (f:Fl) (g:List Nd) (n:Nat):(yq f g emS n).length+muN emS n (List.replicate emS.of_.length false)<=1000000000:=by
 have:=zeZ (f:=f) (g:=g) (s:=emS) n;simp at this;simp[this,muN]
theorem zwv (f:Fl) (rd:Nat->List Int):¬ RightF f (zd f) emS rd:=fun h=>by
 have:=h.len;simp[zd]at this
theorem zwl (g h:List Nd) (gv hv:Value) (D D':Nat->Prop) (w:World) (hg:SlR 4 RNd D w gv g) (hh:SlR 4 RNd D' w hv h) (hm:g.length<=1000000):Calls Tryz.prog 30 #[.agg #[gv],.agg #[hv]] w (Ret fun r w'=>r=.bool (decide (g=h))/\Ext w w'):=by
 obtain⟨ag,cg,rfl⟩:=hg.form;obtain⟨ah,ch,rfl⟩:=hh.form;refine zqr Tryz.func30 O Tryz.ntmps30 O (V.inn (Vs 2 O (V.box 2 O O (fun b2=>?_))));refine V.box 3 O O (fun b3=>(Vs 15 O (zoC O (fun hl=>?_) (fun hl=>?_))))
 . refine Vs 7 O (zr9 0 Tryz.results30 O O (by rw[zt3 (fun e=>hl (by rw[e]))]))
 refine Vs 12 O (zrm (σ:=Nat) [2,3,15] [2,3] [2,3] O (fun e i=>(16,.int .i64 i)::e) (fun e i=>e) (fun i=>i<=g.length/\g.take i=h.take i) (fun i=>g.length - i) 0 (Sub.of O) (Has.of O) (fun _=>rfl) (fun _=>rfl) (fun _=>rfl) ⟨zt5 _,rfl⟩ ?_);rintro i ⟨hi,ht⟩;refine Vs 6 O (zoC O (fun lt=>?_) (fun lt=>?_))
 .
  refine zri 1000 0 i tO hg O O O (fun x hJ hK hL ho hG hC hD=>?_);obtain rfl:=hD;refine zri 2000 0 i tO hh O O O (fun y hM hN hO hw hH hE hF=>?_);obtain rfl:=hF;refine Vs 11 O (Vq tK (Vs 3 O ?_));refine zqT 1000 tR34 ts65 O hC tO _ rfl O (Vs 4 O ?_);refine zqT 2000 tR34 ts65 O hE tO _ rfl O (Vs 1 O (zrA O (fun w hI=>zot (a:=x) (b:=y) O O) (Vs 2 O (zoC O (fun ne=>?_) (fun ne=>?_)))))
  . refine Vs 11 O (zr9 0 Tryz.results30 O O (by rw[zt3 (fun e=>ne (by rw[e,hw]at ho;exact(Option.some.inj ho).symm))]))
  refine Va 7 O tO (V.back (i+1) (Sub.of O) (Has.of O) ⟨tO,by rw[ze ho,ze hw,ht,zsZ.1 ne]⟩ tR 0 O O)
 obtain rfl:i=g.length:=tO;refine Vs 11 O (zr9 0 Tryz.results30 O O (by rw[zt2 (by rw[zsV,show g.length=h.length by omega,zsV]at ht;exact ht)]))
theorem zw8 (f:Fl) (g:List Nd) (r:Ins) (v1 v2 v3 gv s1 s2 s3:Value) (D Dg D1 D2 D3:Nat->Prop) (W:World) (hf:RFl D W f v1 v2 v3) (hg:SlR 4 RNd Dg W gv g) (hG:SlR 1 zw D1 W s1 r.secret) (hH:SlR 1 zw D2 W s2 r.pub) (hJ:SlR 1 zw D3 W s3 r.random) (dl:r.secret.length<=1152921504606846976) (dm:r.pub.length<=1152921504606846976) (dn:r.random.length<=1152921504606846976) :
  Calls Tryz.prog 10 #[.agg #[v1,v2,v3],.agg #[gv],.agg #[s1,s2,s3]] W (Ret fun r w'=>r=.bool true/\Ext W w'):=by
 have hw:=hf;obtain⟨a1,c1,rfl⟩:=hf.vars.form;obtain⟨a2,c2,rfl⟩:=hf.hatches.form;obtain⟨a3,c3,rfl⟩:=hf.body.form;obtain⟨ag,cg,rfl⟩:=hg.form;obtain⟨b1,d1,rfl⟩:=hG.form;obtain⟨b2,d2,rfl⟩:=hH.form;obtain⟨b3,d3,rfl⟩:=hJ.form;have dp:=hg.max;refine zqs Tryz.func10 O Tryz.ntmps10 O (V.inn (Vs 2 O (V.box 3 O O (fun b3=>?_))));refine V.box 4 O O (fun b4=>(V.box 5 O O (fun b5=>?_)));refine Vs 6 O (zr2 Tryz.call11 O (fun w hI=>zhJ w) (zqh O (fun w hI=>zpQ O (by first | exact za | rfl)) (Vs 2 O (V.bool O (fun k0=>?_) (fun k0=>?_)))))
 . cases k0
 refine Vs 6 O (zr2 Tryz.call28 O (fun w hI=>zkj f 12 120 _ _ _ D w (Tr1 hI.k0 hw) ⟨tO,tO⟩ tO) (zqh O (fun w hI=>zpQ O (by first | exact za | rfl)) (Vs 1 O (zqb 23 O (fun q0=>?_) (fun q0=>?_)))))
 . refine Vs 29 O (zr9 0 tr10 O O rfl)
 have hP:(f.vars.length:Int)<=12/\(f.hatches.length:Int)<=12/\((sbulk f.body+zp f.hatches:Nat):Int)<=120:=by simpa using q0
 refine Vs 6 O (zq9 29 O (fun q1=>?_) (fun q1=>?_))
 . refine Vs 23 O (zr9 0 tr10 O O rfl)
 refine Va 15 O tO (zoC O (fun q2=>?_) (fun q2=>?_))
 . refine Vs 7 O (zr9 0 tr10 O O rfl)
 have dq:=zec f.body;have hC:snodes f.body+zp f.hatches<=1024:=tO;have hD:sbulk f.body<=1000000:=tO;have dr:=zax f.body;have dt:=xi f.body;have hZ:Valid f->(zd f).length<=999:=fun vd=>by have:=yw f vd.plain;omega
 have hU:∀ k,(yV r k).length<=1000000000:=fun k=>by unfold yV;split<;>(try split)<;>omega
 refine Vs 5 O (zr2 Tryz.call29 O (fun w hI=>zbL f _ _ _ D w (Tr1 hI.k0 hw) hC hD) (Vs 5 O (zrn (σ:=Unit) [3,4,5,7] [3,4,5] [3,4,5] O (fun e u=>(53,.bool (decide (ya f=0/\¬ g=zd f)))::e) (fun e u=>e) (fun u=>True) (fun _=>rfl) (fun _=>rfl) ?_ ?_)))
 .
  refine Vw [3,4,5] [] O (Vd [0,1,2] 0 tK O O O (zqa 47 O (fun z0=>?_) (fun z0=>?_)))
  .
   refine Vd [3,4] 0 tK O O O (zr5 5 0 Tryz.call14 O tK O O (fun w hI=>zf1 f _ _ _ D w (Tr1 hI.k0 hw) tO) ?_);rintro rr w1 w2 du da ⟨nv,rfl,db⟩ hK;refine zr3 6 1 Tryz.call30 O tK O O (fun w hI=>zwl g (zd f) _ _ _ _ w (Tr1 hI.k1 hg) (db.keep zo hI.k0 (fun b hb _ hs=>by have:=hK b hs;omega)) tO) (zqi 7 1 O tK O O (fun w hI=>zpQ O za) (Vd [8] 1 tK O O O (VD.done tK (zoQ () (Sub.cons (by exact xa (by simp[z0])) (Sub.of O)) (Has.of O) trivial 1 O O))))
  refine Vd [3,4] 0 tK O O O (VD.skip 5 0 O tK O O (VD.skip 6 0 O tK O O (Vd [7,8] 0 tK O O O (VD.done tK (zoQ () (Sub.cons (by exact xa (by simp[z0])) (Sub.of O)) (Has.of O) trivial 0 O O)))))
 rintro u _;refine Vs 1 O (zrn (σ:=Unit) [3,4,5] [3,4,5] [3,4,5] O (fun e u=>(7,.int .i64 (zN f g))::e) (fun e u=>e) (fun u=>True) (fun _=>rfl) (fun _=>rfl) ?_ ?_)
 .
  refine zoC O (fun e=>?_) (fun e=>?_)
  . refine Vs 3 O (zoQ () (Sub.cons (xB O (by unfold zN;rw[zt0 (ztd e.1),zt0 (fun h=>e.2 h.symm)])) (Sub.of O)) (Has.of O) trivial 0 O O)
  refine Vs 1 O (zoQ () (Sub.cons (xB O (by unfold zN;grind)) (Sub.of O)) (Has.of O) trivial 0 O O)
 rintro u _;refine Vs 5 O (zr4 Tryz.call24 O (fun w hI=>zg7 f g hC hD hZ _ _ _ _ (fun q=>q<w.heap.size) w (RFl.now (Tr1 hI.k0 hw)) (hg.now zo xc hI.k0 (fun _ _ h=>h.elim)) (fun q h=>h)) ?_);rintro rr w7 w8 dv dc ⟨s,u1,u2,rfl,hS,dd,de⟩ ho;obtain⟨ao,co,rfl⟩:=hS.of_.form;obtain⟨am,cm,rfl⟩:=hS.nodes.form;refine Vs 3 O (V.alloc 8 tz30 O O (fun b8=>?_));refine Vs 11 O (zq9 63 O (fun y0=>?_) (fun y0=>?_))
 . exact absurd O y0
 refine Vs 3 O (zq9 66 O (fun y1=>?_) (fun y1=>?_))
 .
  obtain rfl:=dd y1;refine Vs 5 O (zq9 71 O (fun y2=>?_) (fun y2=>?_))
  . exact absurd O y2
  refine Vs 9 O (zoC O (fun y3=>?_) (fun y3=>?_))
  . exact absurd O y3
  refine Vs 9 O (zoC O (fun y4=>?_) (fun y4=>?_))
  .
   have e1:zaN f g emS r=zN f g:=by unfold zaN;rw[zod y1,zt1 y1]
   refine Vs 6 O (zr4 Tryz.call18 O (fun w hI=>zfQ f g emS r hC hD ⟨tZ,by rw[zwf];omega⟩ hU _ _ _ _ _ _ _ _ _ (fun q=>q<w.heap.size) w (RFl.now (Tr1 hI.k1 hw)) (hg.now zo xc hI.k1 (fun _ _ h=>h.elim)) (RSf.now (hS.keep hI.k0 (fun b hb _ hs=>by have:=ho b hs;omega))) (hG.now zc ym hI.k1 (fun _ _ h=>h.elim)) (hH.now zc ym hI.k1 (fun _ _ h=>h.elim)) (hJ.now zc ym hI.k1 (fun _ _ h=>h.elim)) (fun q h=>h)) ?_);rintro rr w9 wa df hL ⟨ov,t,rfl,hM,_⟩ hE;obtain⟨rfl,rfl⟩:=hM (by rw[e1];exact y1);refine Vs 3 O (V.alloc 10 tz47 O O (fun b10=>?_));refine Vs 9 O (zr4 Tryz.call21 O (fun w hI=>zcQ f g emS hC hD ⟨tZ,by rw[zwf];omega⟩ (zwp f g _) tZ _ _ _ _ _ _ (fun q=>q<w.heap.size) w (RFl.now (Tr1 hI.k2 hw)) (hg.now zo xc hI.k2 (fun _ _ h=>h.elim)) (RSf.now (hS.keep hI.k1 (fun b hb _ hs=>by have:=ho b hs;omega))) (fun q h=>h)) ?_);rintro rr wb wc dg hN ⟨u,rfl,_,_⟩ hF;refine Vs 12 O (zr2 tc16 O (fun w hI=>qN f g emS hC hD ⟨tZ,by rw[zwf];omega⟩ _ _ _ _ _ _ (fun q=>q<w.heap.size) w (RFl.now (Tr1 hI.k3 hw)) (hg.now zo xc hI.k3 (fun _ _ h=>h.elim)) (RSf.now (hS.keep hI.k2 (fun b hb _ hs=>by have:=ho b hs;omega))) (fun q h=>h)) ?_);rw[e1,zod y1];refine Vs 3 O (zq9 102 O (fun x1=>?_) (fun x1=>?_))
   .
    refine Vs 5 O (zq9 107 O (fun x2=>?_) (fun x2=>?_))
    . refine Vs 9 O (zr9 3 tr10 O O tZ)
    exact absurd O x2
   exact absurd O x1
  exact absurd y1 y4
 have hX:zN f g=0:=zsZ.1 y1;refine Vs 24 O (zoC O (fun y4=>?_) (fun y4=>?_))
 . exact absurd hX y4
 obtain⟨dh,rfl⟩:=qq y1;obtain⟨hR,hO⟩:=de hX;obtain⟨hT,hY⟩:=zk6 hR hO;refine Vs 8 O (zr4 Tryz.call18 O (fun w hI=>zfQ f (zd f) s r hC hD hT hU _ _ _ _ _ _ _ _ _ (fun q=>q<w.heap.size) w (RFl.now (Tr1 hI.k1 hw)) (hg.now zo xc hI.k1 (fun _ _ h=>h.elim)) (RSf.now (hS.keep hI.k0 (fun b hb _ hs=>by have:=ho b hs;omega))) (hG.now zc ym hI.k1 (fun _ _ h=>h.elim)) (hH.now zc ym hI.k1 (fun _ _ h=>h.elim)) (hJ.now zc ym hI.k1 (fun _ _ h=>h.elim)) (fun q h=>h)) ?_);rintro rr w9 wa df hL ⟨ov,t,rfl,hM,di⟩ hE
 obtain⟨ao1,lo1,co1,rfl⟩:∃ a l c,ov=.slice a l c:=by
  by_cases e:zaN f (zd f) s r=0
  . obtain⟨a,c,h⟩:=(di e).1.form;exact⟨_,_,_,h⟩
  exact⟨_,_,_,(hM e).1⟩
 refine Vs 3 O (V.alloc 14 tz47 O O (fun b14=>?_));refine Vs 8 O (zr4 Tryz.call19 O (fun w hI=>ziK f r _ _ _ _ _ _ D D1 D2 D3 w (Tr1 hI.k2 hw) (Tr1 hI.k2 hG) (Tr1 hI.k2 hH) (Tr1 hI.k2 hJ) hC hD) ?_);rintro rr wb wc dg hN ⟨ov2,t2,rfl,dj,dk⟩ hF
 obtain⟨ao2,lo2,co2,rfl⟩:∃ a l c,ov2=.slice a l c:=by
  by_cases e:xe f r=0
  . obtain⟨a,c,h⟩:=(dk e).2.form;exact⟨_,_,_,h⟩
  exact⟨_,_,_,(dj e).1⟩
 have e1:zaN f (zd f) s r=xe f r:=by unfold zaN xe;rw[zjc y1 hR,zt0 tS,zt0 (ztd dh)]
 rw[e1];refine Vs 3 O (V.alloc 16 tz47 O O (fun b16=>?_));refine Vs 10 O (zq9 129 O (fun y5=>?_) (fun y5=>?_))
 .
  refine Vs 2 O (zrt [Value.slice none 0 0,Value.slice none 0 0] [(0,1),(1,1)] [] O O (fun _=>tK) (zr2 tc16 O (fun w hI=>qN f (zd f) emS hC hD ⟨tZ,by rw[zwf];omega⟩ _ _ _ _ _ _ (fun q=>q<w.heap.size) w (RFl.now (Tr1 hI.k3 hw)) (hg.now zo xc hI.k3 (fun _ _ h=>h.elim)) ⟨SlR.nil,SlR.nil⟩ (fun q h=>h)) ?_));rw[zfM y1 (zwv f _)];refine Vs 6 O (zr9 3 tr10 O O rfl)
 exact absurd O y5
end Go.Proofs.YtckdhgbepmpgiaaGreat
