/-
  Contracts and the mathematics that the proof needs. Nothing here is a claim.
-/
import Derived.Test.YtckdhgbepmpgiaaGreatKX7
import Derived.WalkKit
import Derived.Deep.Quiet
import Derived.Deep.LoopGhost
import Derived.Below
import Derived.OrdersHeld
import Derived.KernelRfl
import Derived.WalkSpells
import Derived.ChangeKeysEq
import Derived.Lib.SliceRun
import Derived.Test.YtckdhgbepmpgiaaGreatRows
import Derived.ProofKit
import Derived.OpenShut
import Derived.ReadAgain
import Derived.ChangeBears
import Derived.Laws.Strings
import Derived.Test.YtckdhgbepmpgiaaGreatProg
import Derived.Maps.RangeRun
import Derived.MapKept
import Derived.Shelf.Sort.Plain
import Derived.Ground.Names2Prog
import Derived.Shelf.Slices.In.SortNone
import Derived.Lib.AppendStr
import Derived.Lib.SmallJoins
import Derived.SizedLaws
import Derived.WideKeyMaps
import Derived.Lib.ItoaNum
import Derived.Lib.ItoaMem
import Derived.Laws.CopyRow
import Derived.Laws.IdiomCopy
namespace Go.GL
abbrev G.sb:=@zn8
end Go.GL
namespace Go.GL
open Go.ChangeShapes Go.WideShapes Go.ChangeAt Go.RowKit
section
variable {H:Type} {enc:TypeId × Value->H} {P:Program} {w w' W W':World} {base:Nat} {sp:Nat->Bool} {held:Bool}
theorem zsy (h:Ext W W') (may:MemPlace->Prop):W.keptBut W' may:=by
 refine⟨h.os,h.output,fun i hi=>?_⟩
 rw[h.block i hi (fun h=>h)]
 cases hx:W.heap[i]? with
 | none=>rfl
 | some o=>cases o<;>simp
theorem zsz (h:Ext W W') {p:MemPlace} (hp:p.block<W.heap.size):W.sameAt W' p:=by
 cases p with
 | cell b off=>exact World.cell?_of_block (w:=W) (w':=W') (a:=⟨b,off,none⟩) (h.block b hp (fun h=>h))
 | map b=>exact h.block b hp (fun h=>h)
theorem zsA (h:Ext W W') {b off:Nat} (hb:b<W.heap.size):W'.frozen? ⟨b,off,none⟩=W.frozen? ⟨b,off,none⟩:=by
 unfold World.frozen?
 rw[h.block b hb (fun h=>h)]
theorem zsB:∀ {ts:List TypeId} {vs:List Value} {ds:List (DataW H)} {ps:List MemPlace},DataW.TrodAll enc P w base sp held ts vs ds ps->(∀ p ∈ ps,w.sameAt w' p)->DataW.TrodAll enc P w' base sp held ts vs ds ps
 | [],[],[],_,h,_=>h
 | _::_,_::_,_::_,_,⟨p,q,⟨n,h1⟩,h2,e⟩,hs =>
  ⟨p,q,⟨n,DataW.trod_carry n _ _ _ h1 (fun x hx=>hs x (by rw[e];exact zra _ hx))⟩,zsB h2 (fun x hx=>hs x (by rw[e];exact zrb _ hx)),e⟩
theorem zsq {f:Func} {s:ChangeSpec} {apart fresh handsOn again:Bool} {args:Array Value} {ds gs:List (DataW H)} {before:List MemPlace} {tb:TypeId}
  (hl:laidOutB P=true) (hm:mapsRowed P=true) (hz:((List.range P.types.size).all fun t=>match P.underlying t with | some (.slice e)=>decide (0<P.cellsOf e) | _=>true)=true)
  (hJ:∀ t ∈ f.params.toList,t<P.types.size) (hv:s.vars=[]) (hr:f.resultTypes=#[tb]) (hE:P.underlying tb=some .bool)
  (hW:DataW.Whole enc P f.params.toList s.vars apart W args.toList ds gs before) (hs:(s.fn H (ds++gs)).results=[.lit (.bool true)]/\(s.fn H (ds++gs)).args=ds/\(s.fn H (ds++gs)).vars=[]) (hk:Ext W W') :
  s.post enc P f apart fresh handsOn again W args (.bool true) W':=by
 have hC:=hW.lt
 have hK:=hW
 obtain⟨p,q,hA,hV,rfl,hF,hn⟩:=hK
 rw[hv]at hV
 obtain⟨rfl,rfl⟩:=trodVars_none hV
 rw[zqz]at hC hF hn
 simp only[zqz]at hs
 have hh:∀ x ∈ p,W.sameAt W' x:=fun x hx=>zsz hk (hC x hx)
 have hg:∀ sp:Nat->Bool,(∀ x ∈ p,sp x.block=true)->DataW.TrodAll enc P W' 0 sp true f.params.toList args.toList ds p:=fun sp hL =>
  zsB (DataW.TrodAll.respare (kids_rows hl hm) (slices_full_of P hz) hJ hA hL) hh
 have hw:∀ (b:Nat) (sp:Nat->Bool) (hd:Bool),DataW.TrodAll enc P W' b sp hd f.resultTypes.toList ((Value.bool true).resultList f.resultTypes.size) [.lit (.bool true)] []:=by
  intro b sp hd
  rw[hr]
  exact trodAll_cons_mk (shut_bool hE _) trodAll_mk0
 have hG:∀ sp:Nat->Bool,DataW.TrodVars enc P W' sp s.vars [] []:=fun sp=>by rw[hv];rfl
 have hM:∀ (j:Nat) (t:TypeId) (r:Value),f.resultTypes[j]?=some t->((Value.bool true).resultList f.resultTypes.size)[j]?=some r->Value.okWide P W' .any 0 t r :=
  ok_one hr rfl (okWide_bool_mk hE _)
 have hD:∀ x ∈ p,(fun b=>decide (b<W.heap.size)) x.block=true:=fun x hx=>by simpa using hC x hx
 refine⟨ds,[],p++[],[],p,[],hW,?_,?_,?_,zsy hk _,fun _=>?_⟩
 . rw[zqz,hs.1];exact hw _ _ _
 . rw[zqz,hs.2.1];exact hg _ hD
 . rw[zqz,hs.2.2];exact hG _
 refine⟨hM,_,_,([]++p)++[],⟨[]++p,[],trodAll_append (hg _ (fun _ _=>rfl)) (hw _ _ _),hG _,rfl,?_,?_⟩,?_⟩
 .
  intro b off hp
  have hH:MemPlace.cell b off ∈ p:=by simpa using hp
  exact(zsA hk (show b<W.heap.size from hC _ hH)).trans (hF b off hH)
 .
  intro ha
  simpa using hn ha
 intro x hx _
 simpa using hx
theorem zsj {b o n:Nat} {cs:List Value} (h:w.cells? base ⟨b,o,none⟩ n=some cs):cs.length=n/\Cells w b o cs:=by
 obtain⟨_,h1,h2⟩:=World.cells?_some h
 refine⟨h1,fun j v hv=>?_⟩
 have hj:j<n:=by rw[<- h1];exact(zpy.1 hv).1
 have:=h2 j hj
 rw[hv]at this
 rw[<- this,xz]
theorem zsl {α:Type} {R:Rel α} {t e:TypeId} {c fuel:Nat} {cs:List Value} {x:DataW H × List MemPlace} (Q:DataW H->Prop) (ht:P.underlying t=some (.slice e)) (hc:P.cellsOf e=c) (hE:0<c) (hQ:∀ es rs,x.1=.slice es rs->∀ d ∈ es,Q d)
  (hR:∀ (n:Nat) (cs:List Value) (y:DataW H × List MemPlace),Q y.1->DataW.trod enc P w base sp held n e cs=some y->∃ z,R (fun _=>True) w z cs) (h:DataW.trod enc P w base sp held fuel t cs=some x):∃ v l,cs=[v]/\SlR c R (fun _=>True) w v l/\(l=[]\/∃ es rs,x.1=.slice es rs/\es.length=l.length):=by
 rcases DataW.trod_slice ht h with⟨rfl,_⟩ | ⟨a,len,cap,elems,rest,n,_,rfl,rfl,_,hF,hG,hH,hC,_⟩
 . exact⟨_,[],rfl,SlR.nil,.inl rfl⟩
 rw[hc]at hC
 have hh:∀ i:Nat,i<len->∃ z cs',w.cells? base (a.add (i*c)) c=some cs'/\R (fun _=>True) w z cs':=by
  intro i hi
  have h1:=hC i hi
  obtain⟨y,hy⟩:∃ y,elems[i]?=some y:=⟨_,zpk (by omega)⟩
  rw[hy,zs5]at h1
  obtain⟨cs',h2,h3⟩:=h1
  obtain⟨z,hz⟩:=hR n cs' y (hQ _ _ rfl _ (zrf.2 ⟨y,zpl hy,rfl⟩)) h3
  exact⟨z,cs',h2,hz⟩
 have hw:∀ k,k<=len->∃ l:List α,l.length=k/\∀ (i:Nat) z,l[i]?=some z->∃ cs',w.cells? base (a.add (i*c)) c=some cs'/\R (fun _=>True) w z cs':=by
  intro k
  induction k with
  | zero=>intro _;exact⟨[],rfl,fun i z h=>by simp at h⟩
  | succ k ih =>
   intro hk
   obtain⟨l,h1,h2⟩:=ih (by omega)
   obtain⟨z,cs',h3,h4⟩:=hh k (by omega)
   refine⟨l++[z],by simp[h1],fun i y hy=>?_⟩
   by_cases e:i<l.length
   . rw[zpK e]at hy;exact h2 i y hy
   rw[zpL (by omega)]at hy
   have hi:i=k:=by
    have:=(zpy.1 hy).1
    simp at this;omega
   subst hi
   rw[h1,zs0]at hy
   simp at hy
   subst hy
   exact⟨cs',h3,h4⟩
 obtain⟨l,hl,hJ⟩:=hw len (zpJ _)
 subst hl
 refine⟨_,l,rfl,⟨some a,cap,rfl,hF,by simpa[maxLen] using hG,fun i z hz=>?_⟩,.inr ⟨_,_,rfl,by simp[hH]⟩⟩
 obtain⟨cs',h3,h4⟩:=hJ i z hz
 obtain⟨_,h5,h6⟩:=World.cells?_some h3
 have hg:a.spot=none:=by
  have hi:0<l.length:=by have:=(zpy.1 hz).1;omega
  obtain⟨_,cs0,h7,_⟩:=hh 0 hi
  obtain⟨_,h8,h9⟩:=World.cells?_some h7
  have hD:=h9 0 hE
  obtain⟨u,hu⟩:∃ u,cs0[0]?=some u:=⟨_,zpk (by omega)⟩
  rw[hu]at hD
  have hK:=World.cell?_spot hD
  simpa[Addr.add] using hK
 obtain⟨b,o,s⟩:=a
 simp at hg
 subst hg
 exact⟨b,o,cs',rfl,trivial,h5,(zsj (by rw[xz]at h3;exact h3)).2,h4⟩
theorem zsk {α:Type} {R:Rel α} {t e:TypeId} {c fuel:Nat} {cs:List Value} {x:DataW H × List MemPlace} (ht:P.underlying t=some (.slice e)) (hc:P.cellsOf e=c) (hg:0<c)
  (hR:∀ (n:Nat) (cs:List Value) (y:DataW H × List MemPlace),DataW.trod enc P w base sp held n e cs=some y->∃ z,R (fun _=>True) w z cs) (h:DataW.trod enc P w base sp held fuel t cs=some x):∃ v l,cs=[v]/\SlR c R (fun _=>True) w v l:=by
 obtain⟨v,l,h1,h2,_⟩:=zsl (fun _=>True) ht hc hg (fun _ _ _ _ _=>trivial) (fun n cs y _=>hR n cs y) h
 exact⟨v,l,h1,h2⟩
theorem zsf {e:TypeId} {n:Nat} {cs:List Value} {y:DataW H × List MemPlace} (he:P.underlying e=some (.int .i64)) (h:DataW.trod enc P w base sp held n e cs=some y):∃ z,zC (fun _=>True) w z cs:=by
 obtain⟨z,h1,_⟩:=DataW.trod_int he h
 exact⟨z,h1⟩
end
end Go.GL
namespace Go.Proofs.YtckdhgbepmpgiaaGreat
open Go.GL Go.ChangeShapes Go.WideShapes Go.ChangeAt Go.RowKit
theorem own:ownKnob Tryz.prog.godebug=none:=by kernel_rfl
end Go.Proofs.YtckdhgbepmpgiaaGreat
namespace Go.GL
open Go.ChangeShapes Go.WideShapes Go.ChangeAt Go.RowKit
section
variable {H:Type} {enc:TypeId × Value->H} {P:Program} {w w' W W':World} {base:Nat} {sp:Nat->Bool} {held:Bool}
theorem zsg {α:Type} {R:Rel α} {t e:TypeId} {c fuel:Nat} {cs:List Value} {x:DataW H × List MemPlace} (ht:P.underlying t=some (.slice e)) (hc:P.cellsOf e=c) (hE:0<c)
  (hR:∀ (n:Nat),fuel=n+1->∀ (cs:List Value) (y:DataW H × List MemPlace),DataW.trod enc P w base sp held n e cs=some y->∃ z,R (fun _=>True) w z cs) (h:DataW.trod enc P w base sp held fuel t cs=some x):∃ v l,cs=[v]/\SlR c R (fun _=>True) w v l:=by
 rcases DataW.trod_slice ht h with⟨rfl,_⟩ | ⟨a,len,cap,elems,rest,n,hF,rfl,_,_,hG,hH,hL,hC,_⟩
 . exact⟨_,[],rfl,SlR.nil⟩
 rw[hc]at hC
 have hh:∀ i:Nat,i<len->∃ z cs',w.cells? base (a.add (i*c)) c=some cs'/\R (fun _=>True) w z cs':=by
  intro i hi
  have h1:=hC i hi
  obtain⟨y,hy⟩:∃ y,elems[i]?=some y:=⟨_,zpk (by omega)⟩
  rw[hy,zs5]at h1
  obtain⟨cs',h2,h3⟩:=h1
  obtain⟨z,hz⟩:=hR n hF cs' y h3
  exact⟨z,cs',h2,hz⟩
 have hw:∀ k,k<=len->∃ l:List α,l.length=k/\∀ (i:Nat) z,l[i]?=some z->∃ cs',w.cells? base (a.add (i*c)) c=some cs'/\R (fun _=>True) w z cs':=by
  intro k
  induction k with
  | zero=>intro _;exact⟨[],rfl,fun i z h=>by simp at h⟩
  | succ k ih =>
   intro hk
   obtain⟨l,h1,h2⟩:=ih (by omega)
   obtain⟨z,cs',h3,h4⟩:=hh k (by omega)
   refine⟨l++[z],by simp[h1],fun i y hy=>?_⟩
   by_cases e:i<l.length
   . rw[zpK e]at hy;exact h2 i y hy
   rw[zpL (by omega)]at hy
   have hi:i=k:=by
    have:=(zpy.1 hy).1
    simp at this;omega
   subst hi
   rw[h1,zs0]at hy
   simp at hy
   subst hy
   exact⟨cs',h3,h4⟩
 obtain⟨l,hl,hJ⟩:=hw len (zpJ _)
 subst hl
 refine⟨_,l,rfl,some a,cap,rfl,hG,by simpa[maxLen] using hH,fun i z hz=>?_⟩
 obtain⟨cs',h3,h4⟩:=hJ i z hz
 obtain⟨_,h5,h6⟩:=World.cells?_some h3
 have hg:a.spot=none:=by
  have hi:0<l.length:=by have:=(zpy.1 hz).1;omega
  obtain⟨_,cs0,h7,_⟩:=hh 0 hi
  obtain⟨_,h8,h9⟩:=World.cells?_some h7
  have hD:=h9 0 hE
  obtain⟨u,hu⟩:∃ u,cs0[0]?=some u:=⟨_,zpk (by omega)⟩
  rw[hu]at hD
  have hK:=World.cell?_spot hD
  simpa[Addr.add] using hK
 obtain⟨b,o,s⟩:=a
 simp at hg
 subst hg
 exact⟨b,o,cs',rfl,trivial,h5,(zsj (by rw[xz]at h3;exact h3)).2,h4⟩
theorem zlB {fs:Array Field} {m:Nat} {cs:List Value} {xs:List (DataW H × List MemPlace)} (hx:xs.length=fs.size) (hg:∀ (i:Nat) (f:Field),fs[i]?=some f->DataW.trod enc P w base sp held m f.type ((cs.drop f.offset).take (P.cellsOf f.type))=xs[i]?) (i:Nat) {f:Field} (hf:fs[i]?=some f) {c:Nat} (hc:P.cellsOf f.type=c) :
  ∃ y,DataW.trod enc P w base sp held m f.type ((cs.drop f.offset).take c)=some y:=by
 have h:=hg i f hf
 have hi:=(Array.getElem?_eq_some_iff.1 hf).1
 rw[zpk (show i<xs.length by omega),hc]at h
 exact⟨_,h⟩
end
end Go.GL
namespace Go.Proofs.YtckdhgbepmpgiaaGreat
open Go.GL Go.ChangeShapes Go.WideShapes Go.ChangeAt Go.RowKit
section
variable {H:Type} {enc:TypeId × Value->H} {w:World} {base:Nat} {sp:Nat->Bool} {held:Bool}
theorem zsd:Tryz.prog.cellsOf 3=1:=by kernel_rfl
theorem zsm:Tryz.prog.cellsOf 70=3:=by kernel_rfl
theorem zsh:Tryz.prog.cellsOf 72=10:=by kernel_rfl
set_option maxRecDepth 100000 in
theorem zsn:∀ (k:Nat) (cs:List Value) (x:DataW H × List MemPlace),DataW.trod enc Tryz.prog w base sp held k 70 cs=some x->∃ t,RTm (fun _=>True) w t cs:=by
 intro k
 induction k using Nat.strongRecOn with
 | _ k ih =>
 intro cs x h
 obtain⟨xs,m,hk,_,hl,hx,hg⟩:=DataW.trod_struct Tryz.underlying70 h
 rw[zsm]at hl
 match cs,hl with
 | [c0,c1,c2],_ =>
  obtain⟨y0,h0⟩:=zlB hx hg 0 rfl (c:=1) (by kernel_rfl)
  obtain⟨y1,h1⟩:=zlB hx hg 1 rfl (c:=1) (by kernel_rfl)
  obtain⟨y2,h2⟩:=zlB hx hg 2 rfl (c:=1) (by kernel_rfl)
  obtain⟨n0,e0,_⟩:=DataW.trod_int Tryz.underlying67 h0
  obtain⟨n1,e1,_⟩:=DataW.trod_int Tryz.underlying3 h1
  obtain⟨v,l,e2,hh⟩:=zsg Tryz.underlying68 zsm (by decide) (fun n hn cs y hy=>ih n (by omega) cs y hy) h2
  simp at e0 e1 e2
  subst e0;subst e1;subst e2
  exact⟨.mk n0 n1 l,RTm.put (t:=.mk n0 n1 l) hh⟩
set_option maxRecDepth 100000 in
theorem zst:∀ (k:Nat) (cs:List Value) (x:DataW H × List MemPlace),DataW.trod enc Tryz.prog w base sp held k 72 cs=some x->∃ t,RSt (fun _=>True) w t cs:=by
 intro k
 induction k using Nat.strongRecOn with
 | _ k ih =>
 intro cs x h
 obtain⟨xs,m,hk,_,hl,hx,hg⟩:=DataW.trod_struct Tryz.underlying72 h
 rw[zsh]at hl
 match cs,hl with
 | [c0,c1,c2,c3,c4,c5,c6,c7,c8,c9],_ =>
  obtain⟨y0,h0⟩:=zlB hx hg 0 rfl (c:=1) (by kernel_rfl)
  obtain⟨y1,h1⟩:=zlB hx hg 1 rfl (c:=1) (by kernel_rfl)
  obtain⟨y2,h2⟩:=zlB hx hg 2 rfl (c:=1) (by kernel_rfl)
  obtain⟨y3,h3⟩:=zlB hx hg 3 rfl (c:=1) (by kernel_rfl)
  obtain⟨y4,h4⟩:=zlB hx hg 4 rfl (c:=3) (by kernel_rfl)
  obtain⟨y5,h5⟩:=zlB hx hg 5 rfl (c:=1) (by kernel_rfl)
  obtain⟨y6,h6⟩:=zlB hx hg 6 rfl (c:=1) (by kernel_rfl)
  obtain⟨y7,h7⟩:=zlB hx hg 7 rfl (c:=1) (by kernel_rfl)
  obtain⟨n0,e0,_⟩:=DataW.trod_int Tryz.underlying66 h0
  obtain⟨n1,e1,_⟩:=DataW.trod_int Tryz.underlying3 h1
  obtain⟨n2,e2,_⟩:=DataW.trod_int Tryz.underlying3 h2
  obtain⟨n3,e3,_⟩:=DataW.trod_int Tryz.underlying3 h3
  obtain⟨t,ht⟩:=zsn _ _ _ h4
  obtain⟨v4,e4,hh⟩:=ht.get
  obtain⟨v5,l5,e5,hw⟩:=zsg tu24 zsh (by decide) (fun n hn cs y hy=>ih n (by omega) cs y hy) h5
  obtain⟨v6,l6,e6,hC⟩:=zsg tu24 zsh (by decide) (fun n hn cs y hy=>ih n (by omega) cs y hy) h6
  obtain⟨v7,l7,e7,hD⟩:=zsg tu27 zsd (by decide) (fun n hn cs y hy=>zsf Tryz.underlying3 hy) h7
  simp at e0 e1 e2 e3 e4 e5 e6 e7
  obtain⟨e4,e42,e43⟩:=e4
  subst e0;subst e1;subst e2;subst e3;subst e4;subst e42;subst e43;subst e5;subst e6;subst e7
  exact⟨.mk n0 n1 n2 n3 t l5 l6 l7,RSt.put (s:=.mk n0 n1 n2 n3 t l5 l6 l7) hh hw hC hD⟩
set_option maxRecDepth 100000 in
theorem zsu (k:Nat) (cs:List Value) (x:DataW H × List MemPlace) (h:DataW.trod enc Tryz.prog w base sp held k 142 cs=some x):∃ t,RVr (fun _=>True) w t cs:=by
 obtain⟨xs,m,hk,_,hl,hx,hg⟩:=DataW.trod_struct Tryz.underlying142 h
 rw[show Tryz.prog.cellsOf 142=5 by kernel_rfl]at hl
 match cs,hl with
 | [c0,c1,c2,c3,c4],_ =>
  obtain⟨y0,h0⟩:=zlB hx hg 0 rfl (c:=1) (by kernel_rfl)
  obtain⟨y1,h1⟩:=zlB hx hg 1 rfl (c:=1) (by kernel_rfl)
  obtain⟨y2,h2⟩:=zlB hx hg 2 rfl (c:=1) (by kernel_rfl)
  obtain⟨y3,h3⟩:=zlB hx hg 3 rfl (c:=1) (by kernel_rfl)
  obtain⟨y4,h4⟩:=zlB hx hg 4 rfl (c:=1) (by kernel_rfl)
  obtain⟨n0,e0,_⟩:=DataW.trod_string tu9 h0
  obtain⟨n1,e1,_⟩:=DataW.trod_int tu100 h1
  obtain⟨n2,e2,_⟩:=DataW.trod_int Tryz.underlying3 h2
  obtain⟨n3,e3,_⟩:=DataW.trod_int Tryz.underlying3 h3
  obtain⟨n4,e4,_⟩:=DataW.trod_int Tryz.underlying3 h4
  simp at e0 e1 e2 e3 e4
  subst e0;subst e1;subst e2;subst e3;subst e4
  exact⟨⟨n0,n1,n2,n3,n4⟩,rfl⟩
set_option maxRecDepth 100000 in
theorem zsv (k:Nat) (cs:List Value) (x:DataW H × List MemPlace) (h:DataW.trod enc Tryz.prog w base sp held k 109 cs=some x):∃ t,RHt (fun _=>True) w t cs:=by
 obtain⟨xs,m,hk,_,hl,hx,hg⟩:=DataW.trod_struct Tryz.underlying109 h
 rw[show Tryz.prog.cellsOf 109=6 by kernel_rfl]at hl
 match cs,hl with
 | [c0,c1,c2,c3,c4,c5],_ =>
  obtain⟨y0,h0⟩:=zlB hx hg 0 rfl (c:=1) (by kernel_rfl)
  obtain⟨y1,h1⟩:=zlB hx hg 1 rfl (c:=1) (by kernel_rfl)
  obtain⟨y2,h2⟩:=zlB hx hg 2 rfl (c:=1) (by kernel_rfl)
  obtain⟨y3,h3⟩:=zlB hx hg 3 rfl (c:=3) (by kernel_rfl)
  obtain⟨n0,e0,_⟩:=DataW.trod_string tu9 h0
  obtain⟨n1,e1,_⟩:=DataW.trod_int Tryz.underlying3 h1
  obtain⟨n2,e2,_⟩:=DataW.trod_int Tryz.underlying3 h2
  obtain⟨t,ht⟩:=zsn _ _ _ h3
  obtain⟨v3,e3,hh⟩:=ht.get
  simp at e0 e1 e2 e3
  obtain⟨e3,e32,e33⟩:=e3
  subst e0;subst e1;subst e2;subst e3;subst e32;subst e33
  exact⟨⟨n0,n1,n2,t⟩,_,rfl,hh⟩
set_option maxRecDepth 100000 in
theorem zso {r:Reach} {b0:Nat} {v:Value} {d:DataW H} {ps:List MemPlace} (hg:Value.okWide Tryz.prog w r b0 26 v) (hd:DataW.Trod enc Tryz.prog w base sp held 26 v d ps) :
  ∃ f v1 v2 v3,v=.agg #[v1,v2,v3]/\RFl (fun _=>True) w f v1 v2 v3:=by
 unfold Value.okWide at hg
 rw[Tryz.underlying26]at hg
 obtain⟨cs,rfl,hw,_⟩:=hg
 obtain⟨k,hn⟩:=hd
 obtain⟨xs,m,_,_,hl,hx,hh⟩:=DataW.trod_struct Tryz.underlying26 hn
 rw[show Tryz.prog.cellsOf 26=3 by kernel_rfl]at hw
 obtain⟨l⟩:=cs
 match l,hw with
 | [c0,c1,c2],_ =>
  obtain⟨y0,h0⟩:=zlB hx hh 0 rfl (c:=1) (by kernel_rfl)
  obtain⟨y1,h1⟩:=zlB hx hh 1 rfl (c:=1) (by kernel_rfl)
  obtain⟨y2,h2⟩:=zlB hx hh 2 rfl (c:=1) (by kernel_rfl)
  obtain⟨v0,l0,e0,hC⟩:=zsk Tryz.underlying22 (show Tryz.prog.cellsOf 142=5 by kernel_rfl) (by decide) (fun n cs y hy=>zsu n cs y hy) h0
  obtain⟨v1,l1,e1,hD⟩:=zsk Tryz.underlying23 (show Tryz.prog.cellsOf 109=6 by kernel_rfl) (by decide) (fun n cs y hy=>zsv n cs y hy) h1
  obtain⟨v2,l2,e2,hE⟩:=zsk tu24 zsh (by decide) (fun n cs y hy=>zst n cs y hy) h2
  simp[Value.cells]at e0 e1 e2
  subst e0;subst e1;subst e2
  exact⟨⟨l0,l1,l2⟩,_,_,_,rfl,hC,hD,hE⟩
end
open Go.GL Go.ChangeShapes Go.WideShapes Go.ChangeAt Go.RowKit
section
variable {H:Type} {enc:TypeId × Value->H} {w:World} {base:Nat} {sp:Nat->Bool} {held:Bool}
def wtB (P:Program) (t:TypeId) (d:DataW H):Prop:=∀ n ∈ d.weights P t,n<=reachBytes
theorem wtB.field {P:Program} {t:TypeId} {fs:Array Field} {parts:List (DataW H)} (h:wtB P t (.agg parts)) (ht:P.underlying t=some (.struct fs)) {i:Nat} {f:Field} {d:DataW H} (hf:fs[i]?=some f) (hd:parts[i]?=some d):wtB P f.type d:=fun n hn=>by
 refine h n ?_
 rw[DataW.weights,ht]
 exact DataW.weights_mem_each (j:=i) (by simp[hf]) hd n hn
theorem zsc {P:Program} {e:TypeId} {d:DataW H} {n:Nat}:∀ {l:List (DataW H)},d ∈ l->n ∈ d.weights P e->n ∈ DataW.weightsAll P e l
 | x::l,h,hn=>by
  rw[DataW.weightsAll,zpD]
  rcases zpA.1 h with rfl | h
  . exact .inl hn
  exact .inr (zsc h hn)
theorem wtB.slice {P:Program} {t e:TypeId} {es rs:List (DataW H)} (h:wtB P t (.slice es rs)) (ht:P.underlying t=some (.slice e)):es.length*P.bytesOf e<=reachBytes/\∀ d ∈ es,wtB P e d:=by
 refine⟨zpq (zrX _ (Nat.le_add_right es.length rs.length)) (h _ (by rw[DataW.weights,ht];exact zpo ..)),fun d hd n hn=>h n ?_⟩
 rw[DataW.weights,ht]
 exact zpn _ (zra _ (zsc hd hn))
theorem zsx {P:Program} {ts:List TypeId} {ds:List (DataW H)} (h:(DataW.weightsEach P ts ds).all (·<=reachBytes)=true) {j:Nat} {t:TypeId} {d:DataW H} (ht:ts[j]?=some t) (hd:ds[j]?=some d):wtB P t d:=fun n hn=>by
 simpa using zqv.1 h _ (DataW.weights_mem_each ht hd n hn)
theorem zlC {P:Program} {fs:Array Field} {m:Nat} {cs:List Value} {xs:List (DataW H × List MemPlace)} (hx:xs.length=fs.size) (hg:∀ (i:Nat) (f:Field),fs[i]?=some f->DataW.trod enc P w base sp held m f.type ((cs.drop f.offset).take (P.cellsOf f.type))=xs[i]?) (i:Nat) {f:Field} (hf:fs[i]?=some f) {c:Nat} (hc:P.cellsOf f.type=c) :
  ∃ y,DataW.trod enc P w base sp held m f.type ((cs.drop f.offset).take c)=some y/\(xs.map (·.1))[i]?=some y.1:=by
 have h:=hg i f hf
 have hi:=(Array.getElem?_eq_some_iff.1 hf).1
 rw[zpk (show i<xs.length by omega),hc]at h
 exact⟨_,h,by rw[zpB,zpk (show i<xs.length by omega)];rfl⟩
theorem zse {α:Type} {R:Rel α} {P:Program} {t e:TypeId} {c fuel m:Nat} {cs:List Value} {x:DataW H × List MemPlace} (ht:P.underlying t=some (.slice e)) (hc:P.cellsOf e=c) (hg:0<c) (hm:P.bytesOf e=m) (hh:8<=m) (hB:wtB P t x.1)
  (hR:∀ (n:Nat) (cs:List Value) (y:DataW H × List MemPlace),wtB P e y.1->DataW.trod enc P w base sp held n e cs=some y->∃ z,R (fun _=>True) w z cs) (h:DataW.trod enc P w base sp held fuel t cs=some x):∃ v l,cs=[v]/\SlR c R (fun _=>True) w v l/\l.length<=1152921504606846976:=by
 obtain⟨v,l,h1,h2,h3⟩:=zsl (R:=R) (fun d=>wtB P e d) ht hc hg (fun es rs he d hd=>by rw[he]at hB;exact(hB.slice ht).2 d hd) (fun n cs y hq hy=>hR n cs y hq hy) h
 refine⟨v,l,h1,h2,?_⟩
 rcases h3 with e0 | ⟨es,rs,e1,e2⟩
 . rw[e0];exact zpz _
 rw[e1]at hB
 have h4:=(hB.slice ht).1
 rw[hm,e2]at h4
 have h5:reachBytes<2 ^ 47:=reachBytes_lt
 have h6:l.length*8<=l.length*m:=Nat.mul_le_mul_left _ hh
 omega
set_option maxRecDepth 100000 in
theorem zsr (k:Nat) (cs:List Value) (x:DataW H × List MemPlace) (h:DataW.trod enc Tryz.prog w base sp held k 85 cs=some x):∃ t,zb1 (fun _=>True) w t cs:=by
 obtain⟨xs,m,hk,rfl,hl,hx,hg⟩:=DataW.trod_struct Tryz.underlying85 h
 rw[show Tryz.prog.cellsOf 85=2 by kernel_rfl]at hl
 match cs,hl with
 | [c0,c1],_ =>
  obtain⟨y0,h0⟩:=zlB hx hg 0 rfl (c:=1) (by kernel_rfl)
  obtain⟨y1,h1⟩:=zlB hx hg 1 rfl (c:=1) (by kernel_rfl)
  obtain⟨n0,e0,_⟩:=DataW.trod_int Tryz.underlying3 h0
  obtain⟨n1,e1,_⟩:=DataW.trod_int Tryz.underlying3 h1
  simp at e0 e1
  subst e0;subst e1
  exact⟨(n0,n1),rfl⟩
set_option maxRecDepth 100000 in
theorem zss (k:Nat) (cs:List Value) (x:DataW H × List MemPlace) (hB:wtB Tryz.prog 88 x.1) (h:DataW.trod enc Tryz.prog w base sp held k 88 cs=some x):∃ t,zkf (fun _=>True) w t cs/\t.frm.length<=1152921504606846976/\t.args.length<=1152921504606846976:=by
 obtain⟨xs,m,hk,rfl,hl,hx,hg⟩:=DataW.trod_struct Tryz.underlying88 h
 rw[show Tryz.prog.cellsOf 88=4 by kernel_rfl]at hl
 match cs,hl with
 | [c0,c1,c2,c3],_ =>
  obtain⟨y0,h0⟩:=zlB hx hg 0 rfl (c:=1) (by kernel_rfl)
  obtain⟨y1,h1⟩:=zlB hx hg 1 rfl (c:=1) (by kernel_rfl)
  obtain⟨y2,h2,b2⟩:=zlC hx hg 2 rfl (c:=1) (by kernel_rfl)
  obtain⟨y3,h3,b3⟩:=zlC hx hg 3 rfl (c:=1) (by kernel_rfl)
  obtain⟨n0,e0,_⟩:=DataW.trod_int Tryz.underlying3 h0
  obtain⟨n1,e1,_⟩:=DataW.trod_int Tryz.underlying3 h1
  obtain⟨v2,l2,e2,s2,q2⟩:=zse tu27 zsd (by decide) (show Tryz.prog.bytesOf 3=8 by kernel_rfl) (by decide) (hB.field (i:=2) Tryz.underlying88 rfl b2) (fun n cs y _ hy=>zsf Tryz.underlying3 hy) h2
  obtain⟨v3,l3,e3,s3,q3⟩:=zse tu27 zsd (by decide) (show Tryz.prog.bytesOf 3=8 by kernel_rfl) (by decide) (hB.field (i:=3) Tryz.underlying88 rfl b3) (fun n cs y _ hy=>zsf Tryz.underlying3 hy) h3
  simp at e0 e1 e2 e3
  subst e0;subst e1;subst e2;subst e3
  exact⟨⟨n0,n1,l2,l3⟩,⟨_,_,rfl,s2,s3⟩,q2,q3⟩
set_option maxRecDepth 100000 in
theorem zsw (k:Nat) (cs:List Value) (x:DataW H × List MemPlace) (hB:wtB Tryz.prog 59 x.1) (h:DataW.trod enc Tryz.prog w base sp held k 59 cs=some x):∃ t,RSn (fun _=>True) w t cs/\t.uses.length<=1152921504606846976/\∀ p ∈ t.phis,p.frm.length<=1152921504606846976/\p.args.length<=1152921504606846976:=by
 obtain⟨xs,m,hk,rfl,hl,hx,hg⟩:=DataW.trod_struct Tryz.underlying59 h
 rw[show Tryz.prog.cellsOf 59=3 by kernel_rfl]at hl
 match cs,hl with
 | [c0,c1,c2],_ =>
  obtain⟨y0,h0,b0⟩:=zlC hx hg 0 rfl (c:=1) (by kernel_rfl)
  obtain⟨y1,h1,b1⟩:=zlC hx hg 1 rfl (c:=1) (by kernel_rfl)
  obtain⟨y2,h2⟩:=zlB hx hg 2 rfl (c:=1) (by kernel_rfl)
  obtain⟨v0,l0,e0,s0,_⟩:=zse (R:=(fun D w q cs=>zkf D w q cs/\q.frm.length<=1152921504606846976/\q.args.length<=1152921504606846976:Rel Phn)) Tryz.underlying56 (show Tryz.prog.cellsOf 88=4 by kernel_rfl) (by decide) (show Tryz.prog.bytesOf 88=64 by kernel_rfl) (by decide) (hB.field (i:=0) Tryz.underlying59 rfl b0) (fun n cs y hq hy=>zss n cs y hq hy) h0
  obtain⟨v1,l1,e1,s1,q1⟩:=zse Tryz.underlying57 (show Tryz.prog.cellsOf 85=2 by kernel_rfl) (by decide) (show Tryz.prog.bytesOf 85=16 by kernel_rfl) (by decide) (hB.field (i:=1) Tryz.underlying59 rfl b1) (fun n cs y _ hy=>zsr n cs y hy) h1
  obtain⟨n2,e2,_⟩:=DataW.trod_int Tryz.underlying3 h2
  simp at e0 e1 e2
  subst e0;subst e1;subst e2
  refine⟨⟨l0,l1,n2⟩,⟨_,_,rfl,s0.map fun _ _ _ h=>h.1,s1⟩,q1,fun p hp=>?_⟩
  obtain⟨a2,c2,rfl⟩:=s0.form
  obtain⟨i,hi⟩:=zre.1 hp
  obtain⟨_,_,_,_,_,_,_,h8⟩:=s0.at hi
  exact h8
set_option maxRecDepth 100000 in
theorem zsp {r:Reach} {b0:Nat} {v:Value} {d:DataW H} {ps:List MemPlace} (hB:wtB Tryz.prog 30 d) (hg:Value.okWide Tryz.prog w r b0 30 v) (hd:DataW.Trod enc Tryz.prog w base sp held 30 v d ps) :
  ∃ s v1 v2,v=.agg #[v1,v2]/\RSf (fun _=>True) w s v1 v2/\zlz s:=by
 unfold Value.okWide at hg
 rw[Tryz.underlying30]at hg
 obtain⟨cs,rfl,hh,_⟩:=hg
 obtain⟨k,hn⟩:=hd
 obtain⟨xs,m,_,hd,hl,hx,hw⟩:=DataW.trod_struct Tryz.underlying30 hn
 rw[show Tryz.prog.cellsOf 30=2 by kernel_rfl]at hh
 obtain rfl:=(Prod.mk.inj hd).1
 obtain⟨l⟩:=cs
 match l,hh with
 | [c0,c1],_ =>
  obtain⟨y0,h0⟩:=zlB hx hw 0 rfl (c:=1) (by kernel_rfl)
  obtain⟨y1,h1,b1⟩:=zlC hx hw 1 rfl (c:=1) (by kernel_rfl)
  obtain⟨v0,l0,e0,hC⟩:=zsk tu27 zsd (by decide) (fun n cs y hy=>zsf Tryz.underlying3 hy) h0
  obtain⟨v1,l1,e1,s1,_⟩:=zse (R:=(fun D w q cs=>RSn D w q cs/\q.uses.length<=1152921504606846976/\∀ p ∈ q.phis,p.frm.length<=1152921504606846976/\p.args.length<=1152921504606846976:Rel Sn)) Tryz.underlying28 (show Tryz.prog.cellsOf 59=3 by kernel_rfl) (by decide) (show Tryz.prog.bytesOf 59=56 by kernel_rfl) (by decide) (hB.field (i:=1) Tryz.underlying30 rfl b1) (fun n cs y hq hy=>zsw n cs y hq hy) h1
  simp[Value.cells]at e0 e1
  subst e0;subst e1
  refine⟨⟨l0,l1⟩,_,_,rfl,⟨hC,s1.map fun _ _ _ h=>h.1⟩,fun p hp=>?_⟩
  obtain⟨a2,c2,rfl⟩:=s1.form
  obtain⟨i,hi⟩:=zre.1 hp
  obtain⟨_,_,_,_,_,_,_,h8⟩:=s1.at hi
  exact h8
end
end Go.Proofs.YtckdhgbepmpgiaaGreat
namespace Go.GL.Dfs
inductive Reach (R:List (List Int)) (root:Nat):Nat->Prop
 | refl:Reach R root root
 | step {a b:Nat}:Reach R root a->Edge R a b->Reach R root b
end Go.GL.Dfs
namespace Go.Proofs.YtckdhgbepmpgiaaGreat
open Go.GL
theorem zsi (f:Fl) (s:Sf) (di:zlz s) (v1 v2 v3 ofv nodv:Value) (D:Nat->Prop) (W:World) (hf:RFl D W f v1 v2 v3) (hS:RSf D W s ofv nodv) :
  Calls Tryz.prog 4 #[.agg #[v1,v2,v3],.agg #[ofv,nodv]] W (Ret fun r w'=>r=.bool true/\Ext W w'):=by
 have hZ:=hf
 have da:=hS
 obtain⟨a1,c1,rfl⟩:=hf.vars.form
 obtain⟨a2,c2,rfl⟩:=hf.hatches.form
 obtain⟨a3,c3,rfl⟩:=hf.body.form
 obtain⟨ao,co,rfl⟩:=hS.of_.form
 obtain⟨am,cm,rfl⟩:=hS.nodes.form
 have dJ:=hS.of_.max
 have dK:=hS.nodes.max
 refine znl Tryz.func4 O Tryz.ntmps4 O (znE (Vs 2 O (V.box 2 O O (fun b2=>?_))))
 refine V.box 3 O O (fun b3=>(Vs 6 O (znZ Tryz.call11 O (fun w hI=>zgy w) (znb O (fun w hI=>zmT O (by first | exact za | rfl)) (Vs 2 O (V.bool O (fun k0=>?_) (fun k0=>?_)))))))
 . cases k0
 refine Vs 6 O (zo1 Tryz.call12 O (fun w hI=>zjC f _ _ _ D w (Tr1 hI.k0 hf)) ?_)
 rintro rr w1 w2 dL dj ⟨q,rfl,hq⟩ dk
 refine znb O (fun w hI=>zmT O (by first | exact za | rfl)) (Vs 1 O (V.sb 18 O (fun q0=>?_) (fun q0=>?_)))
 . refine Vs 14 O (zlW tr4 O (fun w hI=>⟨_,rfl,rfl,hI.k1⟩))
 have hE:FitC f 16 4 4:=hq (by simpa using q0)
 refine Vs 1 O (zo1 Tryz.call13 O (fun w hI=>zku s di _ _ D w (Tr1 hI.k1 hS)) ?_)
 rintro rr w3 w4 dM dl ⟨q2,rfl,dm⟩ db
 refine znb O (fun w hI=>zmT O (by first | exact za | rfl)) (Vs 3 O (V.bool O (fun q1=>?_) (fun q1=>?_)))
 . refine Vs 7 O (zlW tr4 O (fun w hI=>⟨_,rfl,rfl,hI.k2⟩))
 have hF:FewS s:=dm (by simpa using q1)
 have vd:=hE.vd
 have dc:=vd.lens
 have dN:=vd.ssize
 have dO:=yI f vd.plain
 have dP:=xe f.body
 have hM:=hF.big (zk f).length
 have hG:=hF.big s.nodes.length
 have hk:GOk f (zk f):=vd.gOk
 refine Vs 5 O (zo1 Tryz.call14 O (fun w hI=>zeq f _ _ _ D w (Tr1 hI.k2 hf) (by omega)) ?_)
 rintro rr w5 w6 dQ dn ⟨nv,rfl,hN⟩ hD
 obtain⟨an,cn,rfl⟩:=hN.form
 refine V.alloc 5 tz36 O O (fun b5=>(Vs 8 O (zo1 Tryz.call15 O (fun w hI=>zib f (zk f) s hk (by omega) (by omega) (by omega) (by omega) hG _ _ _ _ _ _ (fun q=>q<w.heap.size) w (RFl.now (Tr1 hI.k3 hZ)) (hN.now zH qE hI.k0 (fun b hb hs=>by have:=hD b hs;omega)) (RSf.now (Tr1 hI.k3 da))) ?_)))
 rintro rr w7 w8 dR dp ⟨z,rfl,hz⟩ dd
 refine Vs 7 O (zo1 Tryz.call17 O (fun w hI=>zid f hE _ _ _ D w (Tr1 hI.k4 hf)) ?_)
 rintro rr w9 wa dS dq ⟨l,dr,hl⟩ hg
 obtain⟨al,cl,rfl⟩:=hl.form
 have dT:=hl.max
 refine Vs 5 O (zoe (σ:=Nat) [2,3,5,6,30,31] [2,3,5] [2,3,5] O (fun e i=>(32,.int .i64 i)::e) (fun e i=>e) (fun i=>i<=l.length) (fun i=>l.length - i) (0) (Sub.of O) (Has.of O) (fun _=>rfl) (fun _=>rfl) (fun _=>rfl) (zpz _) ?_)
 rintro i hi
 refine Vs 6 O (zlG O (fun dt=>?_) (fun dt=>?_))
 .
  refine Vs 6 O ?_
  obtain⟨x,hO,hP⟩:=gE_ l (i) (by omega)
  obtain⟨dU,dV,dW,hT,hU,hX,hY⟩:=hl.atD hO
  obtain⟨du,dv,dw,rfl,hh,hw,hC⟩:=hY
  obtain⟨dx,dy,rfl⟩:=hh.form
  obtain⟨dz,dA,rfl⟩:=hw.form
  obtain⟨dB,dC,rfl⟩:=hC.form
  refine zob 1000 0 O O (fun h_=>by have dD:=hg _ h_;have dE:=hU;first | omega | exact dD dE) hX ?_
  refine znN 1000 tR42 ts45 O hT (by omega) (_) (rfl) O ?_
  obtain⟨dF,dX,dY,dZ⟩:=dr x hP
  refine Vs 1 O (V.alloc 8 tz45 O O (fun b8=>?_))
  refine Vs 9 O (zo1 Tryz.call18 O (fun w hI=>zia f (zk f) s x vd.size vd.bulk hM (fun k=>by unfold yF;split<;>(try split)<;>omega) _ _ _ _ _ _ _ _ _ (fun q=>q<w.heap.size) w (RFl.now (Tr1 hI.k5 hZ)) (hN.now zH qE hI.k2 (fun b hb hs=>by have:=hD b hs;omega)) (RSf.now (Tr1 hI.k5 da)) (hh.now zb yl hI.k0 (fun b hb hs=>by have:=hg b hs;omega)) (hw.now zb yl hI.k0 (fun b hb hs=>by have:=hg b hs;omega)) (hC.now zb yl hI.k0 (fun b hb hs=>by have:=hg b hs;omega)) (fun q h=>h)) ?_)
  rintro rr wb wc d2 dG ⟨ov,t,rfl,de,df⟩ hH
  obtain⟨ao1,lo1,co1,rfl⟩:∃ a l c,ov=.slice a l c:=by
   by_cases e:zaJ f (zk f) s x=0
   . obtain⟨a,c,h⟩:=(df e).1.form;exact⟨_,_,_,h⟩
   exact⟨_,_,_,(de e).1⟩
  refine Vs 3 O (V.alloc 9 tz47 O O (fun b9=>?_))
  refine Vs 8 O (znb O (fun w hI=>zmT O (by first | exact za | rfl)) (Vs 2 O (V.bool O (fun z0=>?_) (fun z0=>?_))))
  .
   have hR:¬ RightF f (zk f) s (rdV f (zk f)):=fun h=>by rw[hz.2 h]at z0;cases z0
   have hL:yq f (zk f) s=13:=zf0 (zcz vd) hR
   have hc:zaJ f (zk f) s x=13:=by unfold zaJ;rw[zpv (by rw[hL];decide),hL]
   obtain⟨ho,rfl⟩:=de (by rw[hc];decide)
   cases ho
   rw[hc]
   refine Vs 5 O (V.sp 48 O (fun y0=>?_) (fun y0=>?_))
   .
    refine Vs 6 O (V.sp 54 O (fun y1=>?_) (fun y1=>?_))
    . refine Vs 14 O (zlW tr4 O (fun w hI=>⟨_,rfl,rfl,hI.k6⟩))
    exact absurd O y1
   exact absurd O y0
  have hR:=hz.1 (by simpa using z0)
  have hL:yq f (zk f) s=0:=zhJ (zcz vd) hR
  have dg:zl f.vars x=0:=dF.start vd
  have hc:zaJ f (zk f) s x=0:=by unfold zaJ;rw[zpu (by rw[hL];decide),dg]
  have hp:xi f x=0:=by unfold xi;rw[zpu (zpH vd.ok),dg]
  obtain⟨dh,rfl⟩:=df hc
  obtain⟨_,_,ho⟩:=dh.form
  cases ho
  rw[hc]
  refine Vs 6 O (zo1 Tryz.call19 O (fun w hI=>zha f x _ _ _ _ _ _ D _ _ _ w (Tr1 hI.k6 hf) (hh.keep zb hI.k1 (fun b hb _ hs=>by have:=hg b hs;omega)) (hw.keep zb hI.k1 (fun b hb _ hs=>by have:=hg b hs;omega)) (hC.keep zb hI.k1 (fun b hb _ hs=>by have:=hg b hs;omega)) vd.size vd.bulk) ?_)
  rintro rr wd we d3 dH ⟨ov2,t2,rfl,_,dI⟩ hJ
  obtain⟨rfl,hK⟩:=dI hp
  obtain⟨ao2,co2,rfl⟩:=hK.form
  rw[hp]
  refine Vs 3 O (V.alloc 11 tz47 O O (fun b11=>?_))
  refine Vs 9 O (V.sp 67 O (fun y0=>?_) (fun y0=>?_))
  . exact absurd O y0
  refine Vs 2 O (znZ Tryz.call20 O (fun w hI=>zkG (zak f x).outs (zak f x).outs _ _ _ _ _ _ w (dh.keep zb hI.k1 (fun b hb _ hs=>by have:=hH b hs;omega)) (hK.keep zb hI.k0 (fun b hb _ hs=>by have:=hJ b hs;omega))) (znb O (fun w hI=>zmT O (by first | exact za | rfl)) (Vs 3 O (V.bool O (fun y1=>?_) (fun y1=>?_)))))
  . simp at y1
  refine Va 7 O (by omega) (V.back (i+1) (Sub.of O) (Has.of O) (by omega) (by first | omega | (dsimp only;omega)) 2 O O)
 refine Vs 11 O (zlW tr4 O (fun w hI=>⟨_,rfl,rfl,hI.k5⟩))
end Go.Proofs.YtckdhgbepmpgiaaGreat
