/-
  Contracts and the mathematics that the proof needs. Nothing here is a claim.
-/
import Derived.Test.YtckdhgbepmpgiaaGreatKB8
import Derived.Test.YtckdhgbepmpgiaaGreatRows
import Derived.ProofKit
import Derived.OpenShut
import Derived.ReadAgain
import Derived.ChangeBears
import Derived.Test.YtckdhgbepmpgiaaGreatProg
namespace Go.GL
abbrev zwl:=@World.cells?_some
end Go.GL
namespace Go.GL
open Go.ChangeShapes Go.WideShapes Go.ChangeAt Go.RowKit
section
variable {H:Type} {enc:TypeId × Value->H} {P:Program} {w w' W W':World} {base:Nat} {sp:Nat->Bool} {held:Bool}
theorem zwh (h:Ext W W') (may:MemPlace->Prop):W.keptBut W' may:=by
 refine⟨h.os,h.output,fun i hi=>?_⟩;rw[h.block i hi (fun h=>h)];cases hx:W.heap[i]? with
 | none=>rfl
 | some o=>cases o<;>simp
theorem zwi (h:Ext W W') {p:MemPlace} (hp:p.block<W.heap.size):W.sameAt W' p:=by
 cases p with
 | cell b off=>exact World.cell?_of_block (w:=W) (w':=W') (a:=⟨b,off,none⟩) (h.block b hp (fun h=>h))
 | map b=>exact h.block b hp (fun h=>h)
theorem zwj (h:Ext W W') {b off:Nat} (hb:b<W.heap.size):W'.frozen? ⟨b,off,none⟩=W.frozen? ⟨b,off,none⟩:=by
 unfold World.frozen?;rw[h.block b hb (fun h=>h)]
theorem zwk:∀ {ts:List TypeId} {vs:List Value} {ds:List (DataW H)} {ps:List MemPlace},DataW.TrodAll enc P w base sp held ts vs ds ps->(∀ p ∈ ps,w.sameAt w' p)->DataW.TrodAll enc P w' base sp held ts vs ds ps
 | [],[],[],_,h,_=>h
 | _::_,_::_,_::_,_,⟨p,q,⟨n,h1⟩,h2,e⟩,hs =>
  ⟨p,q,⟨n,DataW.trod_carry n _ _ _ h1 (fun x hx=>hs x (by rw[e];exact zv0 _ hx))⟩,zwk h2 (fun x hx=>hs x (by rw[e];exact zv1 _ hx)),e⟩
theorem zwa {f:Func} {s:ChangeSpec} {apart fresh handsOn again:Bool} {args:Array Value} {ds gs:List (DataW H)} {before:List MemPlace} {tb:TypeId}
  (hl:laidOutB P=true) (hm:mapsRowed P=true) (hz:((List.range P.types.size).all fun t=>match P.underlying t with | some (.slice e)=>decide (0<P.cellsOf e) | _=>true)=true)
  (hG:∀ t ∈ f.params.toList,t<P.types.size) (hv:s.vars=[]) (hr:f.resultTypes=#[tb]) (hC:P.underlying tb=some .bool)
  (hW:DataW.Whole enc P f.params.toList s.vars apart W args.toList ds gs before) (hs:(s.fn H (ds++gs)).results=[.lit (.bool true)]/\(s.fn H (ds++gs)).args=ds/\(s.fn H (ds++gs)).vars=[]) (hk:Ext W W') :
  s.post enc P f apart fresh handsOn again W args (.bool true) W':=by
 have hw:=hW.lt;have hH:=hW;obtain⟨p,q,hA,hV,rfl,hD,hn⟩:=hH;rw[hv]at hV;obtain⟨rfl,rfl⟩:=trodVars_none hV;rw[zu1]at hw hD hn;simp only[zu1]at hs;have hh:∀ x ∈ p,W.sameAt W' x:=fun x hx=>zwi hk (hw x hx)
 have hg:∀ sp:Nat->Bool,(∀ x ∈ p,sp x.block=true)->DataW.TrodAll enc P W' 0 sp true f.params.toList args.toList ds p:=fun sp hJ =>
  zwk (DataW.TrodAll.respare (kids_rows hl hm) (slices_full_of P hz) hG hA hJ) hh
 have ho:∀ (b:Nat) (sp:Nat->Bool) (hd:Bool),DataW.TrodAll enc P W' b sp hd f.resultTypes.toList ((Value.bool true).resultList f.resultTypes.size) [.lit (.bool true)] []:=by
  intro b sp hd;rw[hr];exact trodAll_cons_mk (shut_bool hC _) trodAll_mk0
 have hE:∀ sp:Nat->Bool,DataW.TrodVars enc P W' sp s.vars [] []:=fun sp=>by rw[hv];rfl
 have hK:∀ (j:Nat) (t:TypeId) (r:Value),f.resultTypes[j]?=some t->((Value.bool true).resultList f.resultTypes.size)[j]?=some r->Value.okWide P W' .any 0 t r :=
  ok_one hr rfl (okWide_bool_mk hC _)
 have hB:∀ x ∈ p,(fun b=>decide (b<W.heap.size)) x.block=true:=fun x hx=>by simpa using hw x hx
 refine⟨ds,[],p++[],[],p,[],hW,?_,?_,?_,zwh hk _,fun _=>?_⟩
 . rw[zu1,hs.1];exact ho _ _ _
 . rw[zu1,hs.2.1];exact hg _ hB
 . rw[zu1,hs.2.2];exact hE _
 refine⟨hK,_,_,([]++p)++[],⟨[]++p,[],trodAll_append (hg _ (fun _ _=>rfl)) (ho _ _ _),hE _,rfl,?_,?_⟩,?_⟩
 .
  intro b off hp;have hF:MemPlace.cell b off ∈ p:=by simpa using hp
  exact(zwj hk (show b<W.heap.size from hw _ hF)).trans (hD b off hF)
 .
  intro ha;simpa using hn ha
 intro x hx _;simpa using hx
theorem zoA {b o n:Nat} {cs:List Value} (h:w.cells? base ⟨b,o,none⟩ n=some cs):cs.length=n/\Cells w b o cs:=by
 obtain⟨_,h1,h2⟩:=zwl h;refine⟨h1,fun j v hv=>?_⟩;have hj:j<n:=by rw[<- h1];exact(zt5.1 hv).1
 have:=h2 j hj;rw[hv]at this;rw[<- this,xg]
theorem zwc {α:Type} {R:Rel α} {t e:TypeId} {c fuel:Nat} {cs:List Value} {x:DataW H × List MemPlace} (Q:DataW H->Prop) (ht:P.underlying t=some (.slice e)) (hc:P.cellsOf e=c) (hC:0<c) (hQ:∀ es rs,x.1=.slice es rs->∀ d ∈ es,Q d)
  (hR:∀ (n:Nat) (cs:List Value) (y:DataW H × List MemPlace),Q y.1->DataW.trod enc P w base sp held n e cs=some y->∃ z,R (fun _=>True) w z cs) (h:DataW.trod enc P w base sp held fuel t cs=some x):∃ v l,cs=[v]/\SlR c R (fun _=>True) w v l/\(l=[]\/∃ es rs,x.1=.slice es rs/\es.length=l.length):=by
 rcases DataW.trod_slice ht h with⟨rfl,_⟩ | ⟨a,len,cap,elems,rest,n,_,rfl,rfl,_,hD,hE,hF,hw,_⟩
 . exact⟨_,[],rfl,SlR.nil,.inl rfl⟩
 rw[hc]at hw
 have hh:∀ i:Nat,i<len->∃ z cs',w.cells? base (a.add (i*c)) c=some cs'/\R (fun _=>True) w z cs':=by
  intro i hi;have h1:=hw i hi;obtain⟨y,hy⟩:∃ y,elems[i]?=some y:=⟨_,zsR tO⟩;rw[hy,zvZ]at h1;obtain⟨cs',h2,h3⟩:=h1;obtain⟨z,hz⟩:=hR n cs' y (hQ _ _ rfl _ (zv6.2 ⟨y,zsS hy,rfl⟩)) h3;exact⟨z,cs',h2,hz⟩
 have ho:∀ k,k<=len->∃ l:List α,l.length=k/\∀ (i:Nat) z,l[i]?=some z->∃ cs',w.cells? base (a.add (i*c)) c=some cs'/\R (fun _=>True) w z cs':=by
  intro k;induction k with
  | zero=>intro _;exact⟨[],rfl,fun i z h=>by simp at h⟩
  | succ k ih =>
   intro hk;obtain⟨l,h1,h2⟩:=ih tO;obtain⟨z,cs',h3,h4⟩:=hh k tO;refine⟨l++[z],by simp[h1],fun i y hy=>?_⟩;by_cases e:i<l.length
   . rw[zth e]at hy;exact h2 i y hy
   rw[zti tO]at hy
   have hi:i=k:=by
    have:=(zt5.1 hy).1;simp at this;omega
   subst hi;rw[h1,zvW]at hy;simp at hy;subst hy;exact⟨cs',h3,h4⟩
 obtain⟨l,hl,hG⟩:=ho len (ztg _);subst hl;refine⟨_,l,rfl,⟨some a,cap,rfl,hD,by simpa[maxLen] using hE,fun i z hz=>?_⟩,.inr ⟨_,_,rfl,by simp[hF]⟩⟩;obtain⟨cs',h3,h4⟩:=hG i z hz;obtain⟨_,h5,h6⟩:=zwl h3
 have hg:a.spot=none:=by
  have hi:0<l.length:=by have:=(zt5.1 hz).1;omega
  obtain⟨_,cs0,h7,_⟩:=hh 0 hi;obtain⟨_,h8,h9⟩:=zwl h7;have hB:=h9 0 hC;obtain⟨u,hu⟩:∃ u,cs0[0]?=some u:=⟨_,zsR tO⟩;rw[hu]at hB;have hH:=World.cell?_spot hB;simpa[Addr.add] using hH
 obtain⟨b,o,s⟩:=a;simp at hg;subst hg;exact⟨b,o,cs',rfl,trivial,h5,(zoA (by rw[xg]at h3;exact h3)).2,h4⟩
theorem zw5 {α:Type} {R:Rel α} {t e:TypeId} {c fuel:Nat} {cs:List Value} {x:DataW H × List MemPlace} (ht:P.underlying t=some (.slice e)) (hc:P.cellsOf e=c) (hg:0<c)
  (hR:∀ (n:Nat) (cs:List Value) (y:DataW H × List MemPlace),DataW.trod enc P w base sp held n e cs=some y->∃ z,R (fun _=>True) w z cs) (h:DataW.trod enc P w base sp held fuel t cs=some x):∃ v l,cs=[v]/\SlR c R (fun _=>True) w v l:=by
 obtain⟨v,l,h1,h2,_⟩:=zwc (fun _=>True) ht hc hg (fun _ _ _ _ _=>trivial) (fun n cs y _=>hR n cs y) h;exact⟨v,l,h1,h2⟩
theorem zwd {e:TypeId} {n:Nat} {cs:List Value} {y:DataW H × List MemPlace} (he:P.underlying e=some (.int .i64)) (h:DataW.trod enc P w base sp held n e cs=some y):∃ z,zG (fun _=>True) w z cs:=by
 obtain⟨z,h1,_⟩:=DataW.trod_int he h;exact⟨z,h1⟩
end
end Go.GL
namespace Go.Proofs.YtckdhgbepmpgiaaGreat
open Go.GL Go.ChangeShapes Go.WideShapes Go.ChangeAt Go.RowKit
theorem own:ownKnob Tryz.prog.godebug=none:=tK
end Go.Proofs.YtckdhgbepmpgiaaGreat
namespace Go.GL
open Go.ChangeShapes Go.WideShapes Go.ChangeAt Go.RowKit
section
variable {H:Type} {enc:TypeId × Value->H} {P:Program} {w w' W W':World} {base:Nat} {sp:Nat->Bool} {held:Bool}
theorem zoy {α:Type} {R:Rel α} {t e:TypeId} {c fuel:Nat} {cs:List Value} {x:DataW H × List MemPlace} (ht:P.underlying t=some (.slice e)) (hc:P.cellsOf e=c) (hC:0<c)
  (hR:∀ (n:Nat),fuel=n+1->∀ (cs:List Value) (y:DataW H × List MemPlace),DataW.trod enc P w base sp held n e cs=some y->∃ z,R (fun _=>True) w z cs) (h:DataW.trod enc P w base sp held fuel t cs=some x):∃ v l,cs=[v]/\SlR c R (fun _=>True) w v l:=by
 rcases DataW.trod_slice ht h with⟨rfl,_⟩ | ⟨a,len,cap,elems,rest,n,hD,rfl,_,_,hE,hF,hJ,hw,_⟩
 . exact⟨_,[],rfl,SlR.nil⟩
 rw[hc]at hw
 have hh:∀ i:Nat,i<len->∃ z cs',w.cells? base (a.add (i*c)) c=some cs'/\R (fun _=>True) w z cs':=by
  intro i hi;have h1:=hw i hi;obtain⟨y,hy⟩:∃ y,elems[i]?=some y:=⟨_,zsR tO⟩;rw[hy,zvZ]at h1;obtain⟨cs',h2,h3⟩:=h1;obtain⟨z,hz⟩:=hR n hD cs' y h3;exact⟨z,cs',h2,hz⟩
 have ho:∀ k,k<=len->∃ l:List α,l.length=k/\∀ (i:Nat) z,l[i]?=some z->∃ cs',w.cells? base (a.add (i*c)) c=some cs'/\R (fun _=>True) w z cs':=by
  intro k;induction k with
  | zero=>intro _;exact⟨[],rfl,fun i z h=>by simp at h⟩
  | succ k ih =>
   intro hk;obtain⟨l,h1,h2⟩:=ih tO;obtain⟨z,cs',h3,h4⟩:=hh k tO;refine⟨l++[z],by simp[h1],fun i y hy=>?_⟩;by_cases e:i<l.length
   . rw[zth e]at hy;exact h2 i y hy
   rw[zti tO]at hy
   have hi:i=k:=by
    have:=(zt5.1 hy).1;simp at this;omega
   subst hi;rw[h1,zvW]at hy;simp at hy;subst hy;exact⟨cs',h3,h4⟩
 obtain⟨l,hl,hG⟩:=ho len (ztg _);subst hl;refine⟨_,l,rfl,some a,cap,rfl,hE,by simpa[maxLen] using hF,fun i z hz=>?_⟩;obtain⟨cs',h3,h4⟩:=hG i z hz;obtain⟨_,h5,h6⟩:=zwl h3
 have hg:a.spot=none:=by
  have hi:0<l.length:=by have:=(zt5.1 hz).1;omega
  obtain⟨_,cs0,h7,_⟩:=hh 0 hi;obtain⟨_,h8,h9⟩:=zwl h7;have hB:=h9 0 hC;obtain⟨u,hu⟩:∃ u,cs0[0]?=some u:=⟨_,zsR tO⟩;rw[hu]at hB;have hH:=World.cell?_spot hB;simpa[Addr.add] using hH
 obtain⟨b,o,s⟩:=a;simp at hg;subst hg;exact⟨b,o,cs',rfl,trivial,h5,(zoA (by rw[xg]at h3;exact h3)).2,h4⟩
theorem zow {fs:Array Field} {m:Nat} {cs:List Value} {xs:List (DataW H × List MemPlace)} (hx:xs.length=fs.size) (hg:∀ (i:Nat) (f:Field),fs[i]?=some f->DataW.trod enc P w base sp held m f.type ((cs.drop f.offset).take (P.cellsOf f.type))=xs[i]?) (i:Nat) {f:Field} (hf:fs[i]?=some f) {c:Nat} (hc:P.cellsOf f.type=c) :
  ∃ y,DataW.trod enc P w base sp held m f.type ((cs.drop f.offset).take c)=some y:=by
 have h:=hg i f hf;have hi:=(ztt.1 hf).1;rw[zsR (show i<xs.length by omega),hc]at h;exact⟨_,h⟩
end
end Go.GL
namespace Go.Proofs.YtckdhgbepmpgiaaGreat
open Go.GL Go.ChangeShapes Go.WideShapes Go.ChangeAt Go.RowKit
section
variable {H:Type} {enc:TypeId × Value->H} {w:World} {base:Nat} {sp:Nat->Bool} {held:Bool}
theorem zwb:Tryz.prog.cellsOf 3=1:=tK
theorem zw6:Tryz.prog.cellsOf 70=3:=tK
theorem zoz:Tryz.prog.cellsOf 72=10:=tK
set_option maxRecDepth 100000 in
theorem zw7:∀ (k:Nat) (cs:List Value) (x:DataW H × List MemPlace),DataW.trod enc Tryz.prog w base sp held k 70 cs=some x->∃ t,RTm (fun _=>True) w t cs:=by
 intro k;induction k using Nat.strongRecOn with
 | _ k ih =>
 intro cs x h;obtain⟨xs,m,hk,_,hl,hx,hg⟩:=DataW.trod_struct Tryz.underlying70 h;rw[zw6]at hl
 match cs,hl with
 | [c0,c1,c2],_ =>
  obtain⟨y0,h0⟩:=zow hx hg 0 rfl (c:=1) tK;obtain⟨y1,h1⟩:=zow hx hg 1 rfl (c:=1) tK;obtain⟨y2,h2⟩:=zow hx hg 2 rfl (c:=1) tK;obtain⟨n0,e0,_⟩:=DataW.trod_int Tryz.underlying67 h0;obtain⟨n1,e1,_⟩:=DataW.trod_int tu3 h1;obtain⟨v,l,e2,hh⟩:=zoy Tryz.underlying68 zw6 tS (fun n hn cs y hy=>ih n tO cs y hy) h2;simp at e0 e1 e2;subst e0;subst e1;subst e2;exact⟨.mk n0 n1 l,RTm.put (t:=.mk n0 n1 l) hh⟩
set_option maxRecDepth 100000 in
theorem zwe:∀ (k:Nat) (cs:List Value) (x:DataW H × List MemPlace),DataW.trod enc Tryz.prog w base sp held k 72 cs=some x->∃ t,RSt (fun _=>True) w t cs:=by
 intro k;induction k using Nat.strongRecOn with
 | _ k ih =>
 intro cs x h;obtain⟨xs,m,hk,_,hl,hx,hg⟩:=DataW.trod_struct Tryz.underlying72 h;rw[zoz]at hl
 match cs,hl with
 | [c0,c1,c2,c3,c4,c5,c6,c7,c8,c9],_ =>
  obtain⟨y0,h0⟩:=zow hx hg 0 rfl (c:=1) tK;obtain⟨y1,h1⟩:=zow hx hg 1 rfl (c:=1) tK;obtain⟨y2,h2⟩:=zow hx hg 2 rfl (c:=1) tK;obtain⟨y3,h3⟩:=zow hx hg 3 rfl (c:=1) tK;obtain⟨y4,h4⟩:=zow hx hg 4 rfl (c:=3) tK;obtain⟨y5,h5⟩:=zow hx hg 5 rfl (c:=1) tK;obtain⟨y6,h6⟩:=zow hx hg 6 rfl (c:=1) tK;obtain⟨y7,h7⟩:=zow hx hg 7 rfl (c:=1) tK;obtain⟨n0,e0,_⟩:=DataW.trod_int Tryz.underlying66 h0;obtain⟨n1,e1,_⟩:=DataW.trod_int tu3 h1;obtain⟨n2,e2,_⟩:=DataW.trod_int tu3 h2;obtain⟨n3,e3,_⟩:=DataW.trod_int tu3 h3;obtain⟨t,ht⟩:=zw7 _ _ _ h4;obtain⟨v4,e4,hh⟩:=ht.get;obtain⟨v5,l5,e5,ho⟩:=zoy tu24 zoz tS (fun n hn cs y hy=>ih n tO cs y hy) h5;obtain⟨v6,l6,e6,hw⟩:=zoy tu24 zoz tS (fun n hn cs y hy=>ih n tO cs y hy) h6;obtain⟨v7,l7,e7,hB⟩:=zoy tu27 zwb tS (fun n hn cs y hy=>zwd tu3 hy) h7;simp at e0 e1 e2 e3 e4 e5 e6 e7;obtain⟨e4,e42,e43⟩:=e4;subst e0;subst e1;subst e2;subst e3;subst e4;subst e42;subst e43;subst e5;subst e6;subst e7;exact⟨.mk n0 n1 n2 n3 t l5 l6 l7,RSt.put (s:=.mk n0 n1 n2 n3 t l5 l6 l7) hh ho hw hB⟩
set_option maxRecDepth 100000 in
theorem zwf (k:Nat) (cs:List Value) (x:DataW H × List MemPlace) (h:DataW.trod enc Tryz.prog w base sp held k 142 cs=some x):∃ t,RVr (fun _=>True) w t cs:=by
 obtain⟨xs,m,hk,_,hl,hx,hg⟩:=DataW.trod_struct Tryz.underlying142 h;rw[show Tryz.prog.cellsOf 142=5 by kernel_rfl]at hl
 match cs,hl with
 | [c0,c1,c2,c3,c4],_ =>
  obtain⟨y0,h0⟩:=zow hx hg 0 rfl (c:=1) tK;obtain⟨y1,h1⟩:=zow hx hg 1 rfl (c:=1) tK;obtain⟨y2,h2⟩:=zow hx hg 2 rfl (c:=1) tK;obtain⟨y3,h3⟩:=zow hx hg 3 rfl (c:=1) tK;obtain⟨y4,h4⟩:=zow hx hg 4 rfl (c:=1) tK;obtain⟨n0,e0,_⟩:=DataW.trod_string tu9 h0;obtain⟨n1,e1,_⟩:=DataW.trod_int tu100 h1;obtain⟨n2,e2,_⟩:=DataW.trod_int tu3 h2;obtain⟨n3,e3,_⟩:=DataW.trod_int tu3 h3;obtain⟨n4,e4,_⟩:=DataW.trod_int tu3 h4;simp at e0 e1 e2 e3 e4;subst e0;subst e1;subst e2;subst e3;subst e4;exact⟨⟨n0,n1,n2,n3,n4⟩,rfl⟩
set_option maxRecDepth 100000 in
theorem zwg (k:Nat) (cs:List Value) (x:DataW H × List MemPlace) (h:DataW.trod enc Tryz.prog w base sp held k 109 cs=some x):∃ t,RHt (fun _=>True) w t cs:=by
 obtain⟨xs,m,hk,_,hl,hx,hg⟩:=DataW.trod_struct Tryz.underlying109 h;rw[show Tryz.prog.cellsOf 109=6 by kernel_rfl]at hl
 match cs,hl with
 | [c0,c1,c2,c3,c4,c5],_ =>
  obtain⟨y0,h0⟩:=zow hx hg 0 rfl (c:=1) tK;obtain⟨y1,h1⟩:=zow hx hg 1 rfl (c:=1) tK;obtain⟨y2,h2⟩:=zow hx hg 2 rfl (c:=1) tK;obtain⟨y3,h3⟩:=zow hx hg 3 rfl (c:=3) tK;obtain⟨n0,e0,_⟩:=DataW.trod_string tu9 h0;obtain⟨n1,e1,_⟩:=DataW.trod_int tu3 h1;obtain⟨n2,e2,_⟩:=DataW.trod_int tu3 h2;obtain⟨t,ht⟩:=zw7 _ _ _ h3;obtain⟨v3,e3,hh⟩:=ht.get;simp at e0 e1 e2 e3;obtain⟨e3,e32,e33⟩:=e3;subst e0;subst e1;subst e2;subst e3;subst e32;subst e33;exact⟨⟨n0,n1,n2,t⟩,_,rfl,hh⟩
set_option maxRecDepth 100000 in
theorem zw8 {r:Reach} {b0:Nat} {v:Value} {d:DataW H} {ps:List MemPlace} (hg:Value.okWide Tryz.prog w r b0 26 v) (hd:DataW.Trod enc Tryz.prog w base sp held 26 v d ps) :
  ∃ f v1 v2 v3,v=.agg #[v1,v2,v3]/\RFl (fun _=>True) w f v1 v2 v3:=by
 unfold Value.okWide at hg;rw[Tryz.underlying26]at hg;obtain⟨cs,rfl,ho,_⟩:=hg;obtain⟨k,hn⟩:=hd;obtain⟨xs,m,_,_,hl,hx,hh⟩:=DataW.trod_struct Tryz.underlying26 hn;rw[show Tryz.prog.cellsOf 26=3 by kernel_rfl]at ho;obtain⟨l⟩:=cs
 match l,ho with
 | [c0,c1,c2],_ =>
  obtain⟨y0,h0⟩:=zow hx hh 0 rfl (c:=1) tK;obtain⟨y1,h1⟩:=zow hx hh 1 rfl (c:=1) tK;obtain⟨y2,h2⟩:=zow hx hh 2 rfl (c:=1) tK;obtain⟨v0,l0,e0,hw⟩:=zw5 Tryz.underlying22 (show Tryz.prog.cellsOf 142=5 by kernel_rfl) tS (fun n cs y hy=>zwf n cs y hy) h0;obtain⟨v1,l1,e1,hB⟩:=zw5 Tryz.underlying23 (show Tryz.prog.cellsOf 109=6 by kernel_rfl) tS (fun n cs y hy=>zwg n cs y hy) h1;obtain⟨v2,l2,e2,hC⟩:=zw5 tu24 zoz tS (fun n cs y hy=>zwe n cs y hy) h2;simp[Value.cells]at e0 e1 e2;subst e0;subst e1;subst e2;exact⟨⟨l0,l1,l2⟩,_,_,_,rfl,hw,hB,hC⟩
end
open Go.GL
theorem zw9 {f:Fl} {s:Sf} (hR:RightF f (zd f) s (rdV f (zd f))) (h:s.of_.length<=200000):(s.of_.length<=1000000/\(LP s (zd f).length).length<=1000000)/\(s.of_.length<=1000000/\(LP s s.nodes.length).length<=1000000):=by
 have h1:=znZ hR;have h2:=hR.len;rw[h2];omega
theorem zox (f:Fl) (v1 v2 v3:Value) (D:Nat->Prop) (W:World) (hf:RFl D W f v1 v2 v3) :
  Calls Tryz.prog 7 #[.agg #[v1,v2,v3]] W (Ret fun r w'=>r=.bool true/\Ext W w'):=by
 have hD:=hf;obtain⟨a1,c1,rfl⟩:=hf.vars.form;obtain⟨a2,c2,rfl⟩:=hf.hatches.form;obtain⟨a3,c3,rfl⟩:=hf.body.form;refine zqq Tryz.func7 O Tryz.ntmps7 O (V.inn (Vs 2 O (V.box 1 O O (fun b1=>?_))));refine Vs 6 O (zr2 Tryz.call11 O (fun w hI=>zhM w) (zqh O (fun w hI=>zpS O (by first | exact za | rfl)) (Vs 2 O (V.bool O (fun k0=>?_) (fun k0=>?_)))))
 . cases k0
 refine Vs 6 O (zr4 Tryz.call12 O (fun w hI=>zlp f _ _ _ D w (Tr1 hI.k0 hf)) ?_);rintro rr w1 w2 hP hH ⟨q,rfl,hq⟩ hJ;refine zqh O (fun w hI=>zpS O (by first | exact za | rfl)) (Vs 2 O (V.bool O (fun q0=>?_) (fun q0=>?_)))
 . refine Vs 7 O (zr9 1 Tryz.results7 O O rfl)
 have hh:FitC f 16 4 4:=hq (by simpa using q0);have vd:=hh.vd;have hE:=vd.lens;have hT:=hh.small;have hU:=zaF f.body;have hX:=zaE f.body;have hY:=yA f vd.plain;have hZ:=xj f.body;have hk:GOk f (zd f):=vd.gOk;have hF:=zt0.1 (zhN vd);refine Vs 5 O (zr4 Tryz.call14 O (fun w hI=>zeW f _ _ _ D w (Tr1 hI.k1 hf) tO) ?_);rintro rr w5 w6 da hK ⟨nv,rfl,hB⟩ hg;obtain⟨an,cn,rfl⟩:=hB.form;refine V.alloc 3 tz36 O O (fun b3=>(Vs 7 O (zr4 Tryz.call24 O (fun w hI=>zg2 f (zd f) vd.size vd.bulk (fun _=>tO) _ _ _ _ (fun q=>q<w.heap.size) w (RFl.now (Tr1 hI.k2 hD)) (hB.now zC qP hI.k0 (fun b hb hs=>by have:=hg b hs;omega)) (fun q h=>h)) ?_)));rintro rr w7 w8 db hL ⟨s,u1,u2,rfl,hS,_,hM⟩ ho;obtain⟨hR,hC⟩:=hM hF;obtain⟨hN,hw⟩:=zw9 hR hC;obtain⟨ao,co,rfl⟩:=hS.of_.form;obtain⟨am,cm,rfl⟩:=hS.nodes.form;rw[hF];refine Vs 3 O (V.alloc 4 tz30 O O (fun b4=>?_));refine Vs 9 O (V.sp 21 O (fun y0=>?_) (fun y0=>?_))
 .
  refine Vs 3 O (zr4 Tryz.call15 O (fun w hI=>zjx f (zd f) s hk tO tO tO tO hw _ _ _ _ _ _ (fun q=>q<w.heap.size) w (RFl.now (Tr1 hI.k3 hD)) (hB.now zC qP hI.k1 (fun b hb hs=>by have:=hg b hs;omega)) (RSf.now (hS.keep hI.k0 (fun b hb _ hs=>by have:=ho b hs;omega)))) ?_);rintro rr w9 wa dc hO ⟨z,rfl,hz⟩ hG;refine Vs 5 O (zr9 4 Tryz.results7 O O (by rw[hz.2 hR]))
 exact absurd O y0
end Go.Proofs.YtckdhgbepmpgiaaGreat
