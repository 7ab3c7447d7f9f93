/-
  Contracts and the mathematics that the proof needs. Nothing here is a claim.
-/
import Derived.Test.YtckdhgbepmpgiaaGreatKV8
import Derived.Test.YtckdhgbepmpgiaaGreatRows
import Derived.ProofKit
import Derived.OpenShut
import Derived.ReadAgain
import Derived.ChangeBears
import Derived.Test.YtckdhgbepmpgiaaGreatProg
namespace Go.GL
abbrev zx0:=@World.cells?_some
end Go.GL
namespace Go.GL
open Go.ChangeShapes Go.WideShapes Go.ChangeAt Go.RowKit
section
variable {H:Type} {enc:TypeId × Value->H} {P:Program} {w w' W W':World} {base:Nat} {sp:Nat->Bool} {held:Bool}
theorem zwW (h:Ext W W') (may:MemPlace->Prop):W.keptBut W' may:=by
 refine⟨h.os,h.output,fun i hi=>?_⟩;rw[h.block i hi (fun h=>h)];cases hx:W.heap[i]? with
 | none=>rfl
 | some o=>cases o<;>simp
theorem zwX (h:Ext W W') {p:MemPlace} (hp:p.block<W.heap.size):W.sameAt W' p:=by
 cases p with
 | cell b off=>exact World.cell?_of_block (w:=W) (w':=W') (a:=⟨b,off,none⟩) (h.block b hp (fun h=>h))
 | map b=>exact h.block b hp (fun h=>h)
theorem zwY (h:Ext W W') {b off:Nat} (hb:b<W.heap.size):W'.frozen? ⟨b,off,none⟩=W.frozen? ⟨b,off,none⟩:=by
 unfold World.frozen?;rw[h.block b hb (fun h=>h)]
theorem zwZ:∀ {ts:List TypeId} {vs:List Value} {ds:List (DataW H)} {ps:List MemPlace},DataW.TrodAll enc P w base sp held ts vs ds ps->(∀ p ∈ ps,w.sameAt w' p)->DataW.TrodAll enc P w' base sp held ts vs ds ps
 | [],[],[],_,h,_=>h
 | _::_,_::_,_::_,_,⟨p,q,⟨n,h1⟩,h2,e⟩,hs =>
  ⟨p,q,⟨n,DataW.trod_carry n _ _ _ h1 (fun x hx=>hs x (by rw[e];exact zvC _ hx))⟩,zwZ h2 (fun x hx=>hs x (by rw[e];exact zvD _ hx)),e⟩
theorem zwP {f:Func} {s:ChangeSpec} {apart fresh handsOn again:Bool} {args:Array Value} {ds gs:List (DataW H)} {before:List MemPlace} {tb:TypeId}
  (hl:laidOutB P=true) (hm:mapsRowed P=true) (hz:((List.range P.types.size).all fun t=>match P.underlying t with | some (.slice e)=>decide (0<P.cellsOf e) | _=>true)=true)
  (hH:∀ t ∈ f.params.toList,t<P.types.size) (hv:s.vars=[]) (hr:f.resultTypes=#[tb]) (hD:P.underlying tb=some .bool)
  (hW:DataW.Whole enc P f.params.toList s.vars apart W args.toList ds gs before) (hs:(s.fn H (ds++gs)).results=[.lit (.bool true)]/\(s.fn H (ds++gs)).args=ds/\(s.fn H (ds++gs)).vars=[]) (hk:Ext W W') :
  s.post enc P f apart fresh handsOn again W args (.bool true) W':=by
 have hB:=hW.lt;have hJ:=hW;obtain⟨p,q,hA,hV,rfl,hE,hn⟩:=hJ;rw[hv]at hV;obtain⟨rfl,rfl⟩:=trodVars_none hV;rw[zuF]at hB hE hn;simp only[zuF]at hs;have hh:∀ x ∈ p,W.sameAt W' x:=fun x hx=>zwX hk (hB x hx)
 have hg:∀ sp:Nat->Bool,(∀ x ∈ p,sp x.block=true)->DataW.TrodAll enc P W' 0 sp true f.params.toList args.toList ds p:=fun sp hK =>
  zwZ (DataW.TrodAll.respare (kids_rows hl hm) (slices_full_of P hz) hH hA hK) hh
 have hw:∀ (b:Nat) (sp:Nat->Bool) (hd:Bool),DataW.TrodAll enc P W' b sp hd f.resultTypes.toList ((Value.bool true).resultList f.resultTypes.size) [.lit (.bool true)] []:=by
  intro b sp hd;rw[hr];exact trodAll_cons_mk (shut_bool hD _) trodAll_mk0
 have hF:∀ sp:Nat->Bool,DataW.TrodVars enc P W' sp s.vars [] []:=fun sp=>by rw[hv];rfl
 have hL:∀ (j:Nat) (t:TypeId) (r:Value),f.resultTypes[j]?=some t->((Value.bool true).resultList f.resultTypes.size)[j]?=some r->Value.okWide P W' .any 0 t r :=
  ok_one hr rfl (okWide_bool_mk hD _)
 have hC:∀ x ∈ p,(fun b=>decide (b<W.heap.size)) x.block=true:=fun x hx=>by simpa using hB x hx
 refine⟨ds,[],p++[],[],p,[],hW,?_,?_,?_,zwW hk _,fun _=>?_⟩
 . rw[zuF,hs.1];exact hw _ _ _
 . rw[zuF,hs.2.1];exact hg _ hC
 . rw[zuF,hs.2.2];exact hF _
 refine⟨hL,_,_,([]++p)++[],⟨[]++p,[],trodAll_append (hg _ (fun _ _=>rfl)) (hw _ _ _),hF _,rfl,?_,?_⟩,?_⟩
 .
  intro b off hp;have hG:MemPlace.cell b off ∈ p:=by simpa using hp
  exact(zwY hk (show b<W.heap.size from hB _ hG)).trans (hE b off hG)
 .
  intro ha;simpa using hn ha
 intro x hx _;simpa using hx
theorem zwK {b o n:Nat} {cs:List Value} (h:w.cells? base ⟨b,o,none⟩ n=some cs):cs.length=n/\Cells w b o cs:=by
 obtain⟨_,h1,h2⟩:=zx0 h;refine⟨h1,fun j v hv=>?_⟩;have hj:j<n:=by rw[<- h1];exact(ztB.1 hv).1
 have:=h2 j hj;rw[hv]at this;rw[<- this,xg]
theorem zwR {α:Type} {R:Rel α} {t e:TypeId} {c fuel:Nat} {cs:List Value} {x:DataW H × List MemPlace} (Q:DataW H->Prop) (ht:P.underlying t=some (.slice e)) (hc:P.cellsOf e=c) (hD:0<c) (hQ:∀ es rs,x.1=.slice es rs->∀ d ∈ es,Q d)
  (hR:∀ (n:Nat) (cs:List Value) (y:DataW H × List MemPlace),Q y.1->DataW.trod enc P w base sp held n e cs=some y->∃ z,R (fun _=>True) w z cs) (h:DataW.trod enc P w base sp held fuel t cs=some x):∃ v l,cs=[v]/\SlR c R (fun _=>True) w v l/\(l=[]\/∃ es rs,x.1=.slice es rs/\es.length=l.length):=by
 rcases DataW.trod_slice ht h with⟨rfl,_⟩ | ⟨a,len,cap,elems,rest,n,_,rfl,rfl,_,hE,hF,hG,hB,_⟩
 . exact⟨_,[],rfl,SlR.nil,.inl rfl⟩
 rw[hc]at hB
 have hh:∀ i:Nat,i<len->∃ z cs',w.cells? base (a.add (i*c)) c=some cs'/\R (fun _=>True) w z cs':=by
  intro i hi;have h1:=hB i hi;obtain⟨y,hy⟩:∃ y,elems[i]?=some y:=⟨_,ztn tO⟩;rw[hy,zwD]at h1;obtain⟨cs',h2,h3⟩:=h1;obtain⟨z,hz⟩:=hR n cs' y (hQ _ _ rfl _ (zvI.2 ⟨y,zto hy,rfl⟩)) h3;exact⟨z,cs',h2,hz⟩
 have hw:∀ k,k<=len->∃ l:List α,l.length=k/\∀ (i:Nat) z,l[i]?=some z->∃ cs',w.cells? base (a.add (i*c)) c=some cs'/\R (fun _=>True) w z cs':=by
  intro k;induction k with
  | zero=>intro _;exact⟨[],rfl,fun i z h=>by simp at h⟩
  | succ k ih =>
   intro hk;obtain⟨l,h1,h2⟩:=ih tO;obtain⟨z,cs',h3,h4⟩:=hh k tO;refine⟨l++[z],by simp[h1],fun i y hy=>?_⟩;by_cases e:i<l.length
   . rw[ztN e]at hy;exact h2 i y hy
   rw[ztO tO]at hy
   have hi:i=k:=by
    have:=(ztB.1 hy).1;simp at this;omega
   subst hi;rw[h1,zwA]at hy;simp at hy;subst hy;exact⟨cs',h3,h4⟩
 obtain⟨l,hl,hH⟩:=hw len (ztM _);subst hl;refine⟨_,l,rfl,⟨some a,cap,rfl,hE,by simpa[maxLen] using hF,fun i z hz=>?_⟩,.inr ⟨_,_,rfl,by simp[hG]⟩⟩;obtain⟨cs',h3,h4⟩:=hH i z hz;obtain⟨_,h5,h6⟩:=zx0 h3
 have hg:a.spot=none:=by
  have hi:0<l.length:=by have:=(ztB.1 hz).1;omega
  obtain⟨_,cs0,h7,_⟩:=hh 0 hi;obtain⟨_,h8,h9⟩:=zx0 h7;have hC:=h9 0 hD;obtain⟨u,hu⟩:∃ u,cs0[0]?=some u:=⟨_,ztn tO⟩;rw[hu]at hC;have hJ:=World.cell?_spot hC;simpa[Addr.add] using hJ
 obtain⟨b,o,s⟩:=a;simp at hg;subst hg;exact⟨b,o,cs',rfl,trivial,h5,(zwK (by rw[xg]at h3;exact h3)).2,h4⟩
theorem zwL {α:Type} {R:Rel α} {t e:TypeId} {c fuel:Nat} {cs:List Value} {x:DataW H × List MemPlace} (ht:P.underlying t=some (.slice e)) (hc:P.cellsOf e=c) (hg:0<c)
  (hR:∀ (n:Nat) (cs:List Value) (y:DataW H × List MemPlace),DataW.trod enc P w base sp held n e cs=some y->∃ z,R (fun _=>True) w z cs) (h:DataW.trod enc P w base sp held fuel t cs=some x):∃ v l,cs=[v]/\SlR c R (fun _=>True) w v l:=by
 obtain⟨v,l,h1,h2,_⟩:=zwR (fun _=>True) ht hc hg (fun _ _ _ _ _=>trivial) (fun n cs y _=>hR n cs y) h;exact⟨v,l,h1,h2⟩
theorem zwS {e:TypeId} {n:Nat} {cs:List Value} {y:DataW H × List MemPlace} (he:P.underlying e=some (.int .i64)) (h:DataW.trod enc P w base sp held n e cs=some y):∃ z,zv (fun _=>True) w z cs:=by
 obtain⟨z,h1,_⟩:=DataW.trod_int he h;exact⟨z,h1⟩
end
end Go.GL
namespace Go.Proofs.YtckdhgbepmpgiaaGreat
open Go.GL Go.ChangeShapes Go.WideShapes Go.ChangeAt Go.RowKit
theorem own:ownKnob Tryz.prog.godebug=none:=tK
end Go.Proofs.YtckdhgbepmpgiaaGreat
namespace Go.GL
open Go.ChangeShapes Go.WideShapes Go.ChangeAt Go.RowKit
section
variable {H:Type} {enc:TypeId × Value->H} {P:Program} {w w' W W':World} {base:Nat} {sp:Nat->Bool} {held:Bool}
theorem zoZ {α:Type} {R:Rel α} {t e:TypeId} {c fuel:Nat} {cs:List Value} {x:DataW H × List MemPlace} (ht:P.underlying t=some (.slice e)) (hc:P.cellsOf e=c) (hD:0<c)
  (hR:∀ (n:Nat),fuel=n+1->∀ (cs:List Value) (y:DataW H × List MemPlace),DataW.trod enc P w base sp held n e cs=some y->∃ z,R (fun _=>True) w z cs) (h:DataW.trod enc P w base sp held fuel t cs=some x):∃ v l,cs=[v]/\SlR c R (fun _=>True) w v l:=by
 rcases DataW.trod_slice ht h with⟨rfl,_⟩ | ⟨a,len,cap,elems,rest,n,hE,rfl,_,_,hF,hG,hK,hB,_⟩
 . exact⟨_,[],rfl,SlR.nil⟩
 rw[hc]at hB
 have hh:∀ i:Nat,i<len->∃ z cs',w.cells? base (a.add (i*c)) c=some cs'/\R (fun _=>True) w z cs':=by
  intro i hi;have h1:=hB i hi;obtain⟨y,hy⟩:∃ y,elems[i]?=some y:=⟨_,ztn tO⟩;rw[hy,zwD]at h1;obtain⟨cs',h2,h3⟩:=h1;obtain⟨z,hz⟩:=hR n hE cs' y h3;exact⟨z,cs',h2,hz⟩
 have hw:∀ k,k<=len->∃ l:List α,l.length=k/\∀ (i:Nat) z,l[i]?=some z->∃ cs',w.cells? base (a.add (i*c)) c=some cs'/\R (fun _=>True) w z cs':=by
  intro k;induction k with
  | zero=>intro _;exact⟨[],rfl,fun i z h=>by simp at h⟩
  | succ k ih =>
   intro hk;obtain⟨l,h1,h2⟩:=ih tO;obtain⟨z,cs',h3,h4⟩:=hh k tO;refine⟨l++[z],by simp[h1],fun i y hy=>?_⟩;by_cases e:i<l.length
   . rw[ztN e]at hy;exact h2 i y hy
   rw[ztO tO]at hy
   have hi:i=k:=by
    have:=(ztB.1 hy).1;simp at this;omega
   subst hi;rw[h1,zwA]at hy;simp at hy;subst hy;exact⟨cs',h3,h4⟩
 obtain⟨l,hl,hH⟩:=hw len (ztM _);subst hl;refine⟨_,l,rfl,some a,cap,rfl,hF,by simpa[maxLen] using hG,fun i z hz=>?_⟩;obtain⟨cs',h3,h4⟩:=hH i z hz;obtain⟨_,h5,h6⟩:=zx0 h3
 have hg:a.spot=none:=by
  have hi:0<l.length:=by have:=(ztB.1 hz).1;omega
  obtain⟨_,cs0,h7,_⟩:=hh 0 hi;obtain⟨_,h8,h9⟩:=zx0 h7;have hC:=h9 0 hD;obtain⟨u,hu⟩:∃ u,cs0[0]?=some u:=⟨_,ztn tO⟩;rw[hu]at hC;have hJ:=World.cell?_spot hC;simpa[Addr.add] using hJ
 obtain⟨b,o,s⟩:=a;simp at hg;subst hg;exact⟨b,o,cs',rfl,trivial,h5,(zwK (by rw[xg]at h3;exact h3)).2,h4⟩
theorem zoX {fs:Array Field} {m:Nat} {cs:List Value} {xs:List (DataW H × List MemPlace)} (hx:xs.length=fs.size) (hg:∀ (i:Nat) (f:Field),fs[i]?=some f->DataW.trod enc P w base sp held m f.type ((cs.drop f.offset).take (P.cellsOf f.type))=xs[i]?) (i:Nat) {f:Field} (hf:fs[i]?=some f) {c:Nat} (hc:P.cellsOf f.type=c) :
  ∃ y,DataW.trod enc P w base sp held m f.type ((cs.drop f.offset).take c)=some y:=by
 have h:=hg i f hf;have hi:=(ztZ.1 hf).1;rw[ztn (show i<xs.length by omega),hc]at h;exact⟨_,h⟩
end
end Go.GL
namespace Go.Proofs.YtckdhgbepmpgiaaGreat
open Go.GL Go.ChangeShapes Go.WideShapes Go.ChangeAt Go.RowKit
section
variable {H:Type} {enc:TypeId × Value->H} {w:World} {base:Nat} {sp:Nat->Bool} {held:Bool}
theorem zwQ:Tryz.prog.cellsOf 3=1:=tK
theorem zwM:Tryz.prog.cellsOf 70=3:=tK
theorem zp0:Tryz.prog.cellsOf 72=10:=tK
set_option maxRecDepth 100000 in
theorem zwN:∀ (k:Nat) (cs:List Value) (x:DataW H × List MemPlace),DataW.trod enc Tryz.prog w base sp held k 70 cs=some x->∃ t,RTm (fun _=>True) w t cs:=by
 intro k;induction k using Nat.strongRecOn with
 | _ k ih =>
 intro cs x h;obtain⟨xs,m,hk,_,hl,hx,hg⟩:=DataW.trod_struct Tryz.underlying70 h;rw[zwM]at hl
 match cs,hl with
 | [c0,c1,c2],_ =>
  obtain⟨y0,h0⟩:=zoX hx hg 0 rfl (c:=1) tK;obtain⟨y1,h1⟩:=zoX hx hg 1 rfl (c:=1) tK;obtain⟨y2,h2⟩:=zoX hx hg 2 rfl (c:=1) tK;obtain⟨n0,e0,_⟩:=DataW.trod_int Tryz.underlying67 h0;obtain⟨n1,e1,_⟩:=DataW.trod_int tu3 h1;obtain⟨v,l,e2,hh⟩:=zoZ Tryz.underlying68 zwM tS (fun n hn cs y hy=>ih n tO cs y hy) h2;simp at e0 e1 e2;subst e0;subst e1;subst e2;exact⟨.mk n0 n1 l,RTm.put (t:=.mk n0 n1 l) hh⟩
set_option maxRecDepth 100000 in
theorem zwT:∀ (k:Nat) (cs:List Value) (x:DataW H × List MemPlace),DataW.trod enc Tryz.prog w base sp held k 72 cs=some x->∃ t,RSt (fun _=>True) w t cs:=by
 intro k;induction k using Nat.strongRecOn with
 | _ k ih =>
 intro cs x h;obtain⟨xs,m,hk,_,hl,hx,hg⟩:=DataW.trod_struct Tryz.underlying72 h;rw[zp0]at hl
 match cs,hl with
 | [c0,c1,c2,c3,c4,c5,c6,c7,c8,c9],_ =>
  obtain⟨y0,h0⟩:=zoX hx hg 0 rfl (c:=1) tK;obtain⟨y1,h1⟩:=zoX hx hg 1 rfl (c:=1) tK;obtain⟨y2,h2⟩:=zoX hx hg 2 rfl (c:=1) tK;obtain⟨y3,h3⟩:=zoX hx hg 3 rfl (c:=1) tK;obtain⟨y4,h4⟩:=zoX hx hg 4 rfl (c:=3) tK;obtain⟨y5,h5⟩:=zoX hx hg 5 rfl (c:=1) tK;obtain⟨y6,h6⟩:=zoX hx hg 6 rfl (c:=1) tK;obtain⟨y7,h7⟩:=zoX hx hg 7 rfl (c:=1) tK;obtain⟨n0,e0,_⟩:=DataW.trod_int Tryz.underlying66 h0;obtain⟨n1,e1,_⟩:=DataW.trod_int tu3 h1;obtain⟨n2,e2,_⟩:=DataW.trod_int tu3 h2;obtain⟨n3,e3,_⟩:=DataW.trod_int tu3 h3;obtain⟨t,ht⟩:=zwN _ _ _ h4;obtain⟨v4,e4,hh⟩:=ht.get;obtain⟨v5,l5,e5,hw⟩:=zoZ tu24 zp0 tS (fun n hn cs y hy=>ih n tO cs y hy) h5;obtain⟨v6,l6,e6,hB⟩:=zoZ tu24 zp0 tS (fun n hn cs y hy=>ih n tO cs y hy) h6;obtain⟨v7,l7,e7,hC⟩:=zoZ tu27 zwQ tS (fun n hn cs y hy=>zwS tu3 hy) h7;simp at e0 e1 e2 e3 e4 e5 e6 e7;obtain⟨e4,e42,e43⟩:=e4;subst e0;subst e1;subst e2;subst e3;subst e4;subst e42;subst e43;subst e5;subst e6;subst e7;exact⟨.mk n0 n1 n2 n3 t l5 l6 l7,RSt.put (s:=.mk n0 n1 n2 n3 t l5 l6 l7) hh hw hB hC⟩
set_option maxRecDepth 100000 in
theorem zwU (k:Nat) (cs:List Value) (x:DataW H × List MemPlace) (h:DataW.trod enc Tryz.prog w base sp held k 142 cs=some x):∃ t,RVr (fun _=>True) w t cs:=by
 obtain⟨xs,m,hk,_,hl,hx,hg⟩:=DataW.trod_struct Tryz.underlying142 h;rw[show Tryz.prog.cellsOf 142=5 by kernel_rfl]at hl
 match cs,hl with
 | [c0,c1,c2,c3,c4],_ =>
  obtain⟨y0,h0⟩:=zoX hx hg 0 rfl (c:=1) tK;obtain⟨y1,h1⟩:=zoX hx hg 1 rfl (c:=1) tK;obtain⟨y2,h2⟩:=zoX hx hg 2 rfl (c:=1) tK;obtain⟨y3,h3⟩:=zoX hx hg 3 rfl (c:=1) tK;obtain⟨y4,h4⟩:=zoX hx hg 4 rfl (c:=1) tK;obtain⟨n0,e0,_⟩:=DataW.trod_string tu9 h0;obtain⟨n1,e1,_⟩:=DataW.trod_int tu100 h1;obtain⟨n2,e2,_⟩:=DataW.trod_int tu3 h2;obtain⟨n3,e3,_⟩:=DataW.trod_int tu3 h3;obtain⟨n4,e4,_⟩:=DataW.trod_int tu3 h4;simp at e0 e1 e2 e3 e4;subst e0;subst e1;subst e2;subst e3;subst e4;exact⟨⟨n0,n1,n2,n3,n4⟩,rfl⟩
set_option maxRecDepth 100000 in
theorem zwV (k:Nat) (cs:List Value) (x:DataW H × List MemPlace) (h:DataW.trod enc Tryz.prog w base sp held k 109 cs=some x):∃ t,RHt (fun _=>True) w t cs:=by
 obtain⟨xs,m,hk,_,hl,hx,hg⟩:=DataW.trod_struct Tryz.underlying109 h;rw[show Tryz.prog.cellsOf 109=6 by kernel_rfl]at hl
 match cs,hl with
 | [c0,c1,c2,c3,c4,c5],_ =>
  obtain⟨y0,h0⟩:=zoX hx hg 0 rfl (c:=1) tK;obtain⟨y1,h1⟩:=zoX hx hg 1 rfl (c:=1) tK;obtain⟨y2,h2⟩:=zoX hx hg 2 rfl (c:=1) tK;obtain⟨y3,h3⟩:=zoX hx hg 3 rfl (c:=3) tK;obtain⟨n0,e0,_⟩:=DataW.trod_string tu9 h0;obtain⟨n1,e1,_⟩:=DataW.trod_int tu3 h1;obtain⟨n2,e2,_⟩:=DataW.trod_int tu3 h2;obtain⟨t,ht⟩:=zwN _ _ _ h3;obtain⟨v3,e3,hh⟩:=ht.get;simp at e0 e1 e2 e3;obtain⟨e3,e32,e33⟩:=e3;subst e0;subst e1;subst e2;subst e3;subst e32;subst e33;exact⟨⟨n0,n1,n2,t⟩,_,rfl,hh⟩
set_option maxRecDepth 100000 in
theorem zwO {r:Reach} {b0:Nat} {v:Value} {d:DataW H} {ps:List MemPlace} (hg:Value.okWide Tryz.prog w r b0 26 v) (hd:DataW.Trod enc Tryz.prog w base sp held 26 v d ps) :
  ∃ f v1 v2 v3,v=.agg #[v1,v2,v3]/\RFl (fun _=>True) w f v1 v2 v3:=by
 unfold Value.okWide at hg;rw[Tryz.underlying26]at hg;obtain⟨cs,rfl,hw,_⟩:=hg;obtain⟨k,hn⟩:=hd;obtain⟨xs,m,_,_,hl,hx,hh⟩:=DataW.trod_struct Tryz.underlying26 hn;rw[show Tryz.prog.cellsOf 26=3 by kernel_rfl]at hw;obtain⟨l⟩:=cs
 match l,hw with
 | [c0,c1,c2],_ =>
  obtain⟨y0,h0⟩:=zoX hx hh 0 rfl (c:=1) tK;obtain⟨y1,h1⟩:=zoX hx hh 1 rfl (c:=1) tK;obtain⟨y2,h2⟩:=zoX hx hh 2 rfl (c:=1) tK;obtain⟨v0,l0,e0,hB⟩:=zwL Tryz.underlying22 (show Tryz.prog.cellsOf 142=5 by kernel_rfl) tS (fun n cs y hy=>zwU n cs y hy) h0;obtain⟨v1,l1,e1,hC⟩:=zwL Tryz.underlying23 (show Tryz.prog.cellsOf 109=6 by kernel_rfl) tS (fun n cs y hy=>zwV n cs y hy) h1;obtain⟨v2,l2,e2,hD⟩:=zwL tu24 zp0 tS (fun n cs y hy=>zwT n cs y hy) h2;simp[Value.cells]at e0 e1 e2;subst e0;subst e1;subst e2;exact⟨⟨l0,l1,l2⟩,_,_,_,rfl,hB,hC,hD⟩
end
open Go.GL
theorem zoY (f:Fl) (v1 v2 v3:Value) (D:Nat->Prop) (W:World) (hf:RFl D W f v1 v2 v3) :
  Calls Tryz.prog 8 #[.agg #[v1,v2,v3]] W (Ret fun r w'=>r=.bool true/\Ext W w'):=by
 have hD:=hf;obtain⟨a1,c1,rfl⟩:=hf.vars.form;obtain⟨a2,c2,rfl⟩:=hf.hatches.form;obtain⟨a3,c3,rfl⟩:=hf.body.form;refine zqQ Tryz.func8 O Tryz.ntmps8 O (V.inn (Vs 2 O (V.box 1 O O (fun b1=>?_))));refine Vs 6 O (zrs Tryz.call11 O (fun w hI=>zi6 w) (zqH O (fun w hI=>zqi O (by first | exact za | rfl)) (Vs 2 O (V.bool O (fun k0=>?_) (fun k0=>?_)))))
 . cases k0
 refine Vs 6 O (zru Tryz.call12 O (fun w hI=>zlL f _ _ _ D w (Tr1 hI.k0 hf)) ?_);rintro rr w1 w2 dA db ⟨q,rfl,hq⟩ dc;refine zqH O (fun w hI=>zqi O (by first | exact za | rfl)) (Vs 2 O (V.bool O (fun q0=>?_) (fun q0=>?_)))
 . refine Vs 7 O (zrz 1 Tryz.results8 O O rfl)
 have hB:FitC f 16 4 4:=hq tD;have vd:=hB.vd;have hL:=vd.lens;have dB:=hB.small;have dC:=zaL f.body;have dD:=zaK f.body;have dE:=yD f vd.plain;have dF:=xk f.body;have hk:GOk f (zd f):=vd.gOk;have hM:=ztw.1 (zda vd);refine Vs 5 O (zru Tryz.call14 O (fun w hI=>zfj f _ _ _ D w (Tr1 hI.k1 hf) tO) ?_);rintro rr w5 w6 dG dd ⟨nv,rfl,hE⟩ hN;obtain⟨an,cn,rfl⟩:=hE.form;refine V.alloc 3 tz36 O O (fun b3=>(Vs 7 O (zru Tryz.call24 O (fun w hI=>zgp f (zd f) vd.size vd.bulk (fun _=>tO) _ _ _ _ (fun q=>q<w.heap.size) w (RFl.now (Tr1 hI.k2 hD)) (hE.now zC qS hI.k0 (fun b hb hs=>tD)) (fun q h=>h)) ?_)));rintro rr w7 w8 dH de ⟨s,u1,u2,rfl,hS,_,df⟩ hO;obtain⟨hR,hF⟩:=df hM;obtain⟨hG,hP⟩:=zkt hR hF;obtain⟨ao,co,rfl⟩:=hS.of_.form;obtain⟨am,cm,rfl⟩:=hS.nodes.form;rw[hM];have dI:yG f (zd f) s=0:=zjx (zda vd) hR;refine Vs 3 O (V.alloc 4 tz30 O O (fun b4=>?_));refine Vs 11 O (zp4 O (fun e0=>?_) (fun e0=>?_))
 . omega
 refine Vs 6 O (zru Tryz.call17 O (fun w hI=>zky f hB _ _ _ D w (Tr1 hI.k3 hD)) ?_);rintro rr w9 wa dJ dg ⟨l,dh,hl⟩ hT;obtain⟨al,cl,rfl⟩:=hl.form;have dK:=hl.max;refine Vs 5 O (zrM (σ:=Nat) [1,3,4,28,29] [1,3,4] [1,3,4] O (fun e i=>(30,.int .i64 i)::e) (fun e i=>e) (fun i=>i<=l.length) (fun i=>l.length - i) 0 (Sub.of O) (Has.of O) (fun _=>rfl) (fun _=>rfl) (fun _=>rfl) (ztC _) ?_);rintro i hi;refine Vs 6 O (zp4 O (fun di=>?_) (fun di=>?_))
 .
  refine Vs 6 O (zrH 1000 0 i tO hl O O O (fun b_ d_ h_=>tD) (fun x dL dM dN dj hH hJ dk hK=>?_));obtain⟨dl,dm,dn,rfl,hg,hh,hw⟩:=hK;obtain⟨dp,dq,rfl⟩:=hg.form;obtain⟨dr,dt,rfl⟩:=hh.form;obtain⟨du,dv,rfl⟩:=hw.form;refine zrg 1000 tR42 ts45 O hJ tO _ rfl O ?_;obtain⟨dw,dO,dP,dQ⟩:=dh x hH;refine Vs 1 O (V.alloc 7 tz45 O O (fun b7=>?_));refine Vs 9 O (zru Tryz.call18 O (fun w hI=>zjQ f (zd f) s x vd.size vd.bulk hG (fun k=>by unfold yR;split<;>(try split)<;>omega) _ _ _ _ _ _ _ _ _ (fun q=>q<w.heap.size) w (RFl.now (Tr1 hI.k4 hD)) (hE.now zC qS hI.k2 (fun b hb hs=>tD)) (RSf.now (hS.keep hI.k1 (fun b hb _ hs=>tD))) (hg.now zc yt hI.k0 (fun b hb hs=>tD)) (hh.now zc yt hI.k0 (fun b hb hs=>tD)) (hw.now zc yt hI.k0 (fun b hb hs=>tD)) (fun q h=>h)) ?_);rintro rr wb wc dR dx ⟨ov,t,rfl,dS,hU⟩ hX
  obtain⟨ao1,lo1,co1,rfl⟩:∃ a l c,ov=.slice a l c:=by
   by_cases e:zcE f (zd f) s x=0
   . obtain⟨a,c,h⟩:=(hU e).1.form;exact⟨_,_,_,h⟩
   grind
  have hY:zh f.vars x=0:=dw.start vd;have hc:zcE f (zd f) s x=0:=by unfold zcE;rw[ztx tO,hY]
  have hp:xD f x=0:=by unfold xD;rw[ztx (ztK vd.ok),hY]
  obtain⟨hZ,rfl⟩:=hU hc;obtain⟨_,_,ho⟩:=hZ.form;cases ho;rw[hc];refine Vs 3 O (V.alloc 8 tz47 O O (fun b8=>?_));refine Vs 8 O (zru Tryz.call19 O (fun w hI=>zj7 f x _ _ _ _ _ _ D _ _ _ w (Tr1 hI.k5 hD) (hg.keep zc hI.k1 (fun b hb _ hs=>tD)) (hh.keep zc hI.k1 (fun b hb _ hs=>tD)) (hw.keep zc hI.k1 (fun b hb _ hs=>tD)) vd.size vd.bulk) ?_);rintro rr wd we dT dy ⟨ov2,t2,rfl,_,dz⟩ da;obtain⟨rfl,hC⟩:=dz hp;obtain⟨ao2,co2,rfl⟩:=hC.form;rw[hp];refine Vs 3 O (V.alloc 10 tz47 O O (fun b10=>?_));refine Vs 9 O (V.sp 50 O (fun y0=>?_) (fun y0=>?_))
  . omega
  refine Vs 2 O (zrs Tryz.call20 O (fun w hI=>znL (zaz f x).outs (zaz f x).outs _ _ _ _ _ _ w (hZ.keep zc hI.k1 (fun b hb _ hs=>tD)) (hC.keep zc hI.k0 (fun b hb _ hs=>tD))) (zqH O (fun w hI=>zqi O (by first | exact za | rfl)) (Vs 3 O (V.bool O (fun y1=>?_) (fun y1=>?_)))))
  . grind
  refine Va 7 O tO (V.back (i+1) (Sub.of O) (Has.of O) tO tO 2 O O)
 refine Vs 11 O (zrz 4 Tryz.results8 O O rfl)
end Go.Proofs.YtckdhgbepmpgiaaGreat
