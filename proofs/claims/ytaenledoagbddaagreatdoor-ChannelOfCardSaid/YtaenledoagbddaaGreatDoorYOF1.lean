/-
  Contracts and the mathematics that the proof needs. Nothing here is a claim.
-/
import Derived.Test.YtaenledoagbddaaGreatDoorKY6
import Derived.WalkKit
import Derived.Deep.Quiet
import Derived.Deep.LoopGhost
import Derived.Below
import Derived.OrdersHeld
import Derived.KernelRfl
import Derived.WalkSpells
import Derived.ChangeKeysEq
import Derived.Lib.SliceRun
import Derived.Test.YtaenledoagbddaaGreatDoorRows
import Derived.ProofKit
import Derived.OpenShut
import Derived.ReadAgain
import Derived.ChangeBears
import Derived.Laws.Strings
import Derived.Test.YtaenledoagbddaaGreatDoorProg
import Derived.Lib.AppendStr
import Derived.Lib.SmallJoins
import Derived.Lib.Builder
import Derived.Lib.UnsafeStr
import Derived.Laws.Externs
import Derived.Lib.ItoaNum
import Derived.Lib.ItoaMem
import Derived.Maps.RangeRun
import Derived.MapKept
import Derived.Shelf.Strings.BuilderK
import Derived.Shelf.LaysM
import Derived.Shelf.Strconv.Itoa3
import Derived.Lib.ItoaLen
import Derived.Handed
import Derived.LaidLaws
import Derived.WideKeyMaps
import Derived.DeepKeys4
import Derived.Shelf.SlSortCmp.WholeK
import Derived.Ground.SlsfProg
import Derived.Shelf.SlSortCmp.NoneTotal
import Derived.Shelf.SlSortCmp.Whole1
import Derived.Test.YtaenledoagbddaaGreatDoorTie
import Derived.Test.YtaenledoagbddaaGreatDoorCards
namespace Go.GL
abbrev G.sb:=@zlZ
abbrev VD.rs:=@zmA
abbrev V.call2:=@zmD
abbrev V.apS:=@zmQ
end Go.GL
namespace Go.GL
section
variable {P:Program} {n:Nat} {ops:Array Oper} {Q:Exit->Act->World->Prop} {o:Oper} {rest:List Oper} {env:Env} {w w':World} {v:Value}
theorem WO.no {j dj d:Nat} {b c:Bool} {op:Op} {ty:TypeId} {pos:String} {aft:Array Edge} (hj:(ops[j]?).bind (·.dst)=some dj) (zl:get env dj=some (.bool c)) (hc:c=!b) (hn:Nat.blt d n=true)
  (h:WO P n ops Q rest ((d,undef)::env) w):WO P n ops Q (⟨some d,op,ty,pos,aft,some (j,b)⟩::rest) env w:=by
 intro a ha
 have hy:yielded ops a.tmps j=some c:=by
  have:=ha.get dj _ zl
  simp [yielded,hj,this]
 unfold wpList
 have e2:Region.wanted ⟨some d,op,ty,pos,aft,some (j,b)⟩ (yielded ops a.tmps)=false:=by simp [Region.wanted,hy,hc]
 rw [zo3 (by rw [e2];simp)]
 exact h _ (ha.put hn)
end
open Go.RowKit
section
variable {P:Program} {n:Nat} {ops:Array Oper} {Q:Exit->Act->World->Prop} {o:Oper} {rest:List Oper} {env:Env} {w:World}
theorem zqw {R:Value->World->Prop} (hg:o.guard=none) (hd:o.dst=none) (hr:yh P o env w R) (h:∀ v w',R v w'->WO P n ops Q rest env w'):WO P n ops Q (o::rest) env w:=by
 obtain⟨v,w',h1,h2⟩:=hr
 intro a ha
 refine wpList_plain hg fun K hK=>?_
 unfold Oper.wp
 rw [h1 n a ha,Oper.upon_value,hd]
 exact hK _ _ (h v w' h2 _ ha.put0)
end
section
variable {P:Program} {n:Nat} {ops:Array Oper} {Q:Exit->Act->World->Prop} {o:Oper} {rest:List Oper} {env:Env} {w:World} {v:Value}
theorem WQ.no {j dj d:Nat} {b c:Bool} {op:Op} {ty:TypeId} {pos:String} {aft:Array Edge} (hj:(ops[j]?).bind (·.dst)=some dj) (zl:get env dj=some (.bool c)) (hc:c=!b) (hn:Nat.blt d n=true)
  (h:WQ P n ops Q w rest ((d,undef)::env)):WQ P n ops Q w (⟨some d,op,ty,pos,aft,some (j,b)⟩::rest) env:=by
 intro a ha
 have hy:yielded ops a.tmps j=some c:=by
  have:=ha.get dj _ zl
  simp [yielded,hj,this]
 unfold wpQuiet
 have e2:Region.wanted ⟨some d,op,ty,pos,aft,some (j,b)⟩ (yielded ops a.tmps)=false:=by simp [Region.wanted,hy,hc]
 rw [zo3 (by rw [e2];simp)]
 exact h _ (ha.put hn)
end
section
variable {α:Type} {c:Nat} {enc:α->List Value}
theorem zoA (hc:∀ x,(enc x).length=c):∀ (k:Nat) (L:List α),(L.flatMap enc).take (k*c)=(L.take k).flatMap enc
 | 0,L=>by simp
 | k+1,[]=>by simp
 | k+1,x::r=>by
  rw [List.take_succ_cons,List.flatMap_cons,List.flatMap_cons,Nat.succ_mul,Nat.add_comm,List.take_append,hc]
  rw [List.take_of_length_le (by rw [hc];omega),show c+k*c - c=k*c from by omega,zoA hc k r]
theorem zk3 (hc:∀ x,(enc x).length=c) {w:World} {b:Nat} {e:TypeId} {L:List α} {sp:List Value} (hb:Blk w b (L.flatMap enc++sp) e) {i:Nat} {x:α} (hx:L[i]?=some x):Cells w b (0+i*c) (enc x) :=
 hb.cells.part (i*c) (zhX hc hx sp)
theorem zpR (hc:∀ x,(enc x).length=c) {w:World} {e:TypeId} {g cap k:Nat} {L:List α} {sp:List Value} (hb:Blk w g (L.flatMap enc++sp) e) (hl:(L.flatMap enc++sp).length=cap*c) (hk:k<=L.length) (hkc:k<=cap) (hm:cap<=9223372036854775807) :
  w.ownsRow 0 e c (.slice (some ⟨g,0,none⟩) k cap) k ((L.take k).flatMap enc):=by
 have h:=yG (k:=c) hb hkc hm hl
 have h1:k*c<=L.length*c:=Nat.mul_le_mul_right _ hk
 rw [List.take_append_of_le_length (by rw [js hc];exact h1),zoA hc] at h
 exact h
end
section
variable {P:Program} {env:Env} {w:World} {dst:Option Tmp} {ty:TypeId} {pos:String} {aft:Array Edge} {g:Option (Nat × Bool)}
theorem zqy {t e:TypeId} {k:Nat} {x lo:Operand} {ao:Option Addr} {b o l c:Nat} {kd:IntKind} {i:Int} (hu:∀ w,(underlying t).run P w=.ok (.slice e) w) (hs:∀ w,(sizeOf e).run P w=.ok k w) (hx:ev env x=some (.slice ao l c)) (hy:ev env lo=some (.int kd i)) (hao:ao=some ⟨b,o,none⟩) (h0:0<=i/\i<=l) (h1:i<c) :
  yf P ⟨dst,.slice t x (some lo) none none,ty,pos,aft,g⟩ env w (.slice (some ⟨b,o+i.toNat*k,none⟩) (l - i.toNat) (c - i.toNat)) w:=by
 have h:=zkS (dst:=dst) (ty:=ty) (pos:=pos) (aft:=aft) (g:=g) (w:=w) hu hs hx hy h0
 rw [zo3 (by omega),hao] at h
 simpa [xl] using h
end
open Go.ChangeShapes Go.WideShapes Go.ChangeAt Go.RowKit
section
variable {H:Type} {enc:TypeId × Value->H} {P:Program} {w w' W W':World} {base:Nat} {sp:Nat->Bool} {held:Bool}
theorem zpb {b o n:Nat} {cs:List Value} (h:w.cells? base ⟨b,o,none⟩ n=some cs):cs.length=n/\Cells w b o cs:=by
 obtain⟨_,h1,h2⟩:=World.cells?_some h
 refine⟨h1,fun j v hv=>?_⟩
 have hj:j<n:=by rw [<- h1];exact (zo7.1 hv).1
 have:=h2 j hj
 rw [hv] at this
 rw [<- this,xl]
theorem zq9 {α:Type} {R:Rel α} {t e:TypeId} {c fuel:Nat} {cs:List Value} {x:DataW H × List MemPlace} (Q:DataW H->Prop) (ht:P.underlying t=some (.slice e)) (hc:P.cellsOf e=c) (hc0:0<c) (hQ:∀ es rs,x.1=.slice es rs->∀ d ∈ es,Q d)
  (hR:∀ (n:Nat) (cs:List Value) (y:DataW H × List MemPlace),Q y.1->DataW.trod enc P w base sp held n e cs=some y->∃ z,R (fun _=>True) w z cs) (h:DataW.trod enc P w base sp held fuel t cs=some x):∃ v l,cs=[v]/\SlR c R (fun _=>True) w v l/\(l=[]\/∃ es rs,x.1=.slice es rs/\es.length=l.length):=by
 rcases DataW.trod_slice ht h with⟨rfl,_⟩ | ⟨a,len,cap,elems,rest,n,_,rfl,rfl,_,hlc,hcm,hel,hat,_⟩
 . exact⟨_,[],rfl,SlR.nil,.inl rfl⟩
 ·
  rw [hc] at hat
  have zl:∀ i:Nat,i<len->∃ z cs',w.cells? base (a.add (i*c)) c=some cs'/\R (fun _=>True) w z cs':=by
   intro i hi
   have h1:=hat i hi
   obtain⟨y,hy⟩:∃ y,elems[i]?=some y:=⟨_,znT (by omega)⟩
   rw [hy,Option.bind_eq_some_iff] at h1
   obtain⟨cs',h2,h3⟩:=h1
   obtain⟨z,hz⟩:=hR n cs' y (hQ _ _ rfl _ (List.mem_map.2 ⟨y,znU hy,rfl⟩)) h3
   exact⟨z,cs',h2,hz⟩
  have hlist:∀ k,k<=len->∃ l:List α,l.length=k/\∀ (i:Nat) z,l[i]?=some z->∃ cs',w.cells? base (a.add (i*c)) c=some cs'/\R (fun _=>True) w z cs':=by
   intro k
   induction k with
   | zero=>intro _;exact⟨[],rfl,fun i z h=>by simp at h⟩
   | succ k ih =>
    intro hk
    obtain⟨l,h1,h2⟩:=ih (by omega)
    obtain⟨z,cs',h3,h4⟩:=zl k (by omega)
    refine⟨l++[z],by simp [h1],fun i y hy=>?_⟩
    by_cases e:i<l.length
    . rw [zoj e] at hy;exact h2 i y hy
    ·
     rw [zok (by omega)] at hy
     have hi:i=k:=by
      have:=(zo7.1 hy).1
      simp at this;omega
     subst hi
     rw [h1,Nat.sub_self] at hy
     simp at hy
     subst hy
     exact⟨cs',h3,h4⟩
  obtain⟨l,hl,hle⟩:=hlist len (zoi _)
  subst hl
  refine⟨_,l,rfl,⟨some a,cap,rfl,hlc,by simpa [maxLen] using hcm,fun i z hz=>?_⟩,.inr ⟨_,_,rfl,by simp [hel]⟩⟩
  obtain⟨cs',h3,h4⟩:=hle i z hz
  obtain⟨_,h5,h6⟩:=World.cells?_some h3
  have hspot:a.spot=none:=by
   have hi:0<l.length:=by have:=(zo7.1 hz).1;omega
   obtain⟨_,cs0,h7,_⟩:=zl 0 hi
   obtain⟨_,h8,h9⟩:=World.cells?_some h7
   have h10:=h9 0 hc0
   obtain⟨u,hu⟩:∃ u,cs0[0]?=some u:=⟨_,znT (by omega)⟩
   rw [hu] at h10
   have h11:=World.cell?_spot h10
   simpa [Addr.add] using h11
  obtain⟨b,o,s⟩:=a
  simp at hspot
  subst hspot
  exact⟨b,o,cs',rfl,trivial,h5,(zpb (by rw [xl] at h3;exact h3)).2,h4⟩
theorem zpc {α:Type} {R:Rel α} {t e:TypeId} {c fuel:Nat} {cs:List Value} {x:DataW H × List MemPlace} (ht:P.underlying t=some (.slice e)) (hc:P.cellsOf e=c) (hc0:0<c)
  (hR:∀ (n:Nat) (cs:List Value) (y:DataW H × List MemPlace),DataW.trod enc P w base sp held n e cs=some y->∃ z,R (fun _=>True) w z cs) (h:DataW.trod enc P w base sp held fuel t cs=some x):∃ v l,cs=[v]/\SlR c R (fun _=>True) w v l:=by
 obtain⟨v,l,h1,h2,_⟩:=zq9 (fun _=>True) ht hc hc0 (fun _ _ _ _ _=>trivial) (fun n cs y _=>hR n cs y) h
 exact⟨v,l,h1,h2⟩
theorem zpy {e:TypeId} {n:Nat} {cs:List Value} {y:DataW H × List MemPlace} (he:P.underlying e=some (.int .i64)) (h:DataW.trod enc P w base sp held n e cs=some y):∃ z,zB (fun _=>True) w z cs:=by
 obtain⟨z,h1,_⟩:=DataW.trod_int he h
 exact⟨z,h1⟩
end
open Go.ChangeShapes Go.WideShapes Go.ChangeAt Go.RowKit
section
variable {H:Type} {enc:TypeId × Value->H} {P:Program} {w w' W W':World} {base:Nat} {sp:Nat->Bool} {held:Bool}
theorem zoN {α:Type} {R:Rel α} {t e:TypeId} {c fuel:Nat} {cs:List Value} {x:DataW H × List MemPlace} (ht:P.underlying t=some (.slice e)) (hc:P.cellsOf e=c) (hc0:0<c)
  (hR:∀ (n:Nat),fuel=n+1->∀ (cs:List Value) (y:DataW H × List MemPlace),DataW.trod enc P w base sp held n e cs=some y->∃ z,R (fun _=>True) w z cs) (h:DataW.trod enc P w base sp held fuel t cs=some x):∃ v l,cs=[v]/\SlR c R (fun _=>True) w v l:=by
 rcases DataW.trod_slice ht h with⟨rfl,_⟩ | ⟨a,len,cap,elems,rest,n,hfu,rfl,_,_,hlc,hcm,hel,hat,_⟩
 . exact⟨_,[],rfl,SlR.nil⟩
 ·
  rw [hc] at hat
  have zl:∀ i:Nat,i<len->∃ z cs',w.cells? base (a.add (i*c)) c=some cs'/\R (fun _=>True) w z cs':=by
   intro i hi
   have h1:=hat i hi
   obtain⟨y,hy⟩:∃ y,elems[i]?=some y:=⟨_,znT (by omega)⟩
   rw [hy,Option.bind_eq_some_iff] at h1
   obtain⟨cs',h2,h3⟩:=h1
   obtain⟨z,hz⟩:=hR n hfu cs' y h3
   exact⟨z,cs',h2,hz⟩
  have hlist:∀ k,k<=len->∃ l:List α,l.length=k/\∀ (i:Nat) z,l[i]?=some z->∃ cs',w.cells? base (a.add (i*c)) c=some cs'/\R (fun _=>True) w z cs':=by
   intro k
   induction k with
   | zero=>intro _;exact⟨[],rfl,fun i z h=>by simp at h⟩
   | succ k ih =>
    intro hk
    obtain⟨l,h1,h2⟩:=ih (by omega)
    obtain⟨z,cs',h3,h4⟩:=zl k (by omega)
    refine⟨l++[z],by simp [h1],fun i y hy=>?_⟩
    by_cases e:i<l.length
    . rw [zoj e] at hy;exact h2 i y hy
    ·
     rw [zok (by omega)] at hy
     have hi:i=k:=by
      have:=(zo7.1 hy).1
      simp at this;omega
     subst hi
     rw [h1,Nat.sub_self] at hy
     simp at hy
     subst hy
     exact⟨cs',h3,h4⟩
  obtain⟨l,hl,hle⟩:=hlist len (zoi _)
  subst hl
  refine⟨_,l,rfl,some a,cap,rfl,hlc,by simpa [maxLen] using hcm,fun i z hz=>?_⟩
  obtain⟨cs',h3,h4⟩:=hle i z hz
  obtain⟨_,h5,h6⟩:=World.cells?_some h3
  have hspot:a.spot=none:=by
   have hi:0<l.length:=by have:=(zo7.1 hz).1;omega
   obtain⟨_,cs0,h7,_⟩:=zl 0 hi
   obtain⟨_,h8,h9⟩:=World.cells?_some h7
   have h10:=h9 0 hc0
   obtain⟨u,hu⟩:∃ u,cs0[0]?=some u:=⟨_,znT (by omega)⟩
   rw [hu] at h10
   have h11:=World.cell?_spot h10
   simpa [Addr.add] using h11
  obtain⟨b,o,s⟩:=a
  simp at hspot
  subst hspot
  exact⟨b,o,cs',rfl,trivial,h5,(zpb (by rw [xl] at h3;exact h3)).2,h4⟩
theorem zjY {fs:Array Field} {m:Nat} {cs:List Value} {xs:List (DataW H × List MemPlace)} (hx:xs.length=fs.size) (hat:∀ (i:Nat) (f:Field),fs[i]?=some f->DataW.trod enc P w base sp held m f.type ((cs.drop f.offset).take (P.cellsOf f.type))=xs[i]?) (i:Nat) {f:Field} (hf:fs[i]?=some f) {c:Nat} (hc:P.cellsOf f.type=c) :
  ∃ y,DataW.trod enc P w base sp held m f.type ((cs.drop f.offset).take c)=some y:=by
 have h:=hat i f hf
 have hi:=(Array.getElem?_eq_some_iff.1 hf).1
 rw [znT (show i<xs.length by omega),hc] at h
 exact⟨_,h⟩
end
end Go.GL
namespace Go.Proofs.YtaenledoagbddaaGreatDoor
open Go.GL Go.ChangeShapes Go.WideShapes Go.ChangeAt Go.RowKit
section
variable {H:Type} {enc:TypeId × Value->H} {w:World} {base:Nat} {sp:Nat->Bool} {held:Bool}
theorem zpd:Tryz.prog.cellsOf 3=1:=by kernel_rfl
theorem zpz:Tryz.prog.cellsOf 86=3:=by kernel_rfl
theorem zoO:Tryz.prog.cellsOf 92=10:=by kernel_rfl
set_option maxRecDepth 100000 in
theorem zpA:∀ (k:Nat) (cs:List Value) (x:DataW H × List MemPlace),DataW.trod enc Tryz.prog w base sp held k 86 cs=some x->∃ t,RTm (fun _=>True) w t cs:=by
 intro k
 induction k using Nat.strongRecOn with
 | _ k ih =>
 intro cs x h
 obtain⟨xs,m,hk,_,hl,hx,hat⟩:=DataW.trod_struct Tryz.underlying86 h
 rw [zpz] at hl
 match cs,hl with
 | [c0,c1,c2],_ =>
  obtain⟨y0,h0⟩:=zjY hx hat 0 rfl (c:=1) (by kernel_rfl)
  obtain⟨y1,h1⟩:=zjY hx hat 1 rfl (c:=1) (by kernel_rfl)
  obtain⟨y2,h2⟩:=zjY hx hat 2 rfl (c:=1) (by kernel_rfl)
  obtain⟨n0,e0,_⟩:=DataW.trod_int Tryz.underlying83 h0
  obtain⟨n1,e1,_⟩:=DataW.trod_int tu3 h1
  obtain⟨v,l,e2,hsl⟩:=zoN Tryz.underlying84 zpz (by decide) (fun n hn cs y hy=>ih n (by omega) cs y hy) h2
  simp at e0 e1 e2
  subst e0;subst e1;subst e2
  exact⟨.mk n0 n1 l,RTm.put (t:=.mk n0 n1 l) hsl⟩
set_option maxRecDepth 100000 in
theorem zqa:∀ (k:Nat) (cs:List Value) (x:DataW H × List MemPlace),DataW.trod enc Tryz.prog w base sp held k 92 cs=some x->∃ t,RSt (fun _=>True) w t cs:=by
 intro k
 induction k using Nat.strongRecOn with
 | _ k ih =>
 intro cs x h
 obtain⟨xs,m,hk,_,hl,hx,hat⟩:=DataW.trod_struct Tryz.underlying92 h
 rw [zoO] at hl
 match cs,hl with
 | [c0,c1,c2,c3,c4,c5,c6,c7,c8,c9],_ =>
  obtain⟨y0,h0⟩:=zjY hx hat 0 rfl (c:=1) (by kernel_rfl)
  obtain⟨y1,h1⟩:=zjY hx hat 1 rfl (c:=1) (by kernel_rfl)
  obtain⟨y2,h2⟩:=zjY hx hat 2 rfl (c:=1) (by kernel_rfl)
  obtain⟨y3,h3⟩:=zjY hx hat 3 rfl (c:=1) (by kernel_rfl)
  obtain⟨y4,h4⟩:=zjY hx hat 4 rfl (c:=3) (by kernel_rfl)
  obtain⟨y5,h5⟩:=zjY hx hat 5 rfl (c:=1) (by kernel_rfl)
  obtain⟨y6,h6⟩:=zjY hx hat 6 rfl (c:=1) (by kernel_rfl)
  obtain⟨y7,h7⟩:=zjY hx hat 7 rfl (c:=1) (by kernel_rfl)
  obtain⟨n0,e0,_⟩:=DataW.trod_int Tryz.underlying90 h0
  obtain⟨n1,e1,_⟩:=DataW.trod_int tu3 h1
  obtain⟨n2,e2,_⟩:=DataW.trod_int tu3 h2
  obtain⟨n3,e3,_⟩:=DataW.trod_int tu3 h3
  obtain⟨t,ht⟩:=zpA _ _ _ h4
  obtain⟨v4,e4,hks⟩:=ht.get
  obtain⟨v5,l5,e5,hs5⟩:=zoN Tryz.underlying24 zoO (by decide) (fun n hn cs y hy=>ih n (by omega) cs y hy) h5
  obtain⟨v6,l6,e6,hs6⟩:=zoN Tryz.underlying24 zoO (by decide) (fun n hn cs y hy=>ih n (by omega) cs y hy) h6
  obtain⟨v7,l7,e7,hs7⟩:=zoN tu27 zpd (by decide) (fun n hn cs y hy=>zpy tu3 hy) h7
  simp at e0 e1 e2 e3 e4 e5 e6 e7
  obtain⟨e4,e42,e43⟩:=e4
  subst e0;subst e1;subst e2;subst e3;subst e4;subst e42;subst e43;subst e5;subst e6;subst e7
  exact⟨.mk n0 n1 n2 n3 t l5 l6 l7,RSt.put (s:=.mk n0 n1 n2 n3 t l5 l6 l7) hks hs5 hs6 hs7⟩
set_option maxRecDepth 100000 in
theorem zqb (k:Nat) (cs:List Value) (x:DataW H × List MemPlace) (h:DataW.trod enc Tryz.prog w base sp held k 89 cs=some x):∃ t,RVr (fun _=>True) w t cs:=by
 obtain⟨xs,m,hk,_,hl,hx,hat⟩:=DataW.trod_struct Tryz.underlying89 h
 rw [show Tryz.prog.cellsOf 89=5 by kernel_rfl] at hl
 match cs,hl with
 | [c0,c1,c2,c3,c4],_ =>
  obtain⟨y0,h0⟩:=zjY hx hat 0 rfl (c:=1) (by kernel_rfl)
  obtain⟨y1,h1⟩:=zjY hx hat 1 rfl (c:=1) (by kernel_rfl)
  obtain⟨y2,h2⟩:=zjY hx hat 2 rfl (c:=1) (by kernel_rfl)
  obtain⟨y3,h3⟩:=zjY hx hat 3 rfl (c:=1) (by kernel_rfl)
  obtain⟨y4,h4⟩:=zjY hx hat 4 rfl (c:=1) (by kernel_rfl)
  obtain⟨n0,e0,_⟩:=DataW.trod_string tu9 h0
  obtain⟨n1,e1,_⟩:=DataW.trod_int Tryz.underlying53 h1
  obtain⟨n2,e2,_⟩:=DataW.trod_int tu3 h2
  obtain⟨n3,e3,_⟩:=DataW.trod_int tu3 h3
  obtain⟨n4,e4,_⟩:=DataW.trod_int tu3 h4
  simp at e0 e1 e2 e3 e4
  subst e0;subst e1;subst e2;subst e3;subst e4
  exact⟨⟨n0,n1,n2,n3,n4⟩,rfl⟩
set_option maxRecDepth 100000 in
theorem zqc (k:Nat) (cs:List Value) (x:DataW H × List MemPlace) (h:DataW.trod enc Tryz.prog w base sp held k 95 cs=some x):∃ t,RHt (fun _=>True) w t cs:=by
 obtain⟨xs,m,hk,_,hl,hx,hat⟩:=DataW.trod_struct Tryz.underlying95 h
 rw [show Tryz.prog.cellsOf 95=6 by kernel_rfl] at hl
 match cs,hl with
 | [c0,c1,c2,c3,c4,c5],_ =>
  obtain⟨y0,h0⟩:=zjY hx hat 0 rfl (c:=1) (by kernel_rfl)
  obtain⟨y1,h1⟩:=zjY hx hat 1 rfl (c:=1) (by kernel_rfl)
  obtain⟨y2,h2⟩:=zjY hx hat 2 rfl (c:=1) (by kernel_rfl)
  obtain⟨y3,h3⟩:=zjY hx hat 3 rfl (c:=3) (by kernel_rfl)
  obtain⟨n0,e0,_⟩:=DataW.trod_string tu9 h0
  obtain⟨n1,e1,_⟩:=DataW.trod_int tu3 h1
  obtain⟨n2,e2,_⟩:=DataW.trod_int tu3 h2
  obtain⟨t,ht⟩:=zpA _ _ _ h3
  obtain⟨v3,e3,hks⟩:=ht.get
  simp at e0 e1 e2 e3
  obtain⟨e3,e32,e33⟩:=e3
  subst e0;subst e1;subst e2;subst e3;subst e32;subst e33
  exact⟨⟨n0,n1,n2,t⟩,_,rfl,hks⟩
set_option maxRecDepth 100000 in
theorem zpB {r:Reach} {b0:Nat} {v:Value} {d:DataW H} {ps:List MemPlace} (hval:Value.okWide Tryz.prog w r b0 26 v) (hd:DataW.Trod enc Tryz.prog w base sp held 26 v d ps) :
  ∃ f v1 v2 v3,v=.agg #[v1,v2,v3]/\RFl (fun _=>True) w f v1 v2 v3:=by
 unfold Value.okWide at hval
 rw [Tryz.underlying26] at hval
 obtain⟨cs,rfl,hsz,_⟩:=hval
 obtain⟨k,hn⟩:=hd
 obtain⟨xs,m,_,_,hl,hx,hat⟩:=DataW.trod_struct Tryz.underlying26 hn
 rw [show Tryz.prog.cellsOf 26=3 by kernel_rfl] at hsz
 obtain⟨l⟩:=cs
 match l,hsz with
 | [c0,c1,c2],_ =>
  obtain⟨y0,h0⟩:=zjY hx hat 0 rfl (c:=1) (by kernel_rfl)
  obtain⟨y1,h1⟩:=zjY hx hat 1 rfl (c:=1) (by kernel_rfl)
  obtain⟨y2,h2⟩:=zjY hx hat 2 rfl (c:=1) (by kernel_rfl)
  obtain⟨v0,l0,e0,hs0⟩:=zpc Tryz.underlying22 (show Tryz.prog.cellsOf 89=5 by kernel_rfl) (by decide) (fun n cs y hy=>zqb n cs y hy) h0
  obtain⟨v1,l1,e1,hs1⟩:=zpc Tryz.underlying23 (show Tryz.prog.cellsOf 95=6 by kernel_rfl) (by decide) (fun n cs y hy=>zqc n cs y hy) h1
  obtain⟨v2,l2,e2,hs2⟩:=zpc Tryz.underlying24 zoO (by decide) (fun n cs y hy=>zqa n cs y hy) h2
  simp [Value.cells] at e0 e1 e2
  subst e0;subst e1;subst e2
  exact⟨⟨l0,l1,l2⟩,_,_,_,rfl,hs0,hs1,hs2⟩
end
end Go.Proofs.YtaenledoagbddaaGreatDoor
namespace Go.GL
section
variable {P:Program} {T:Tab} {n:Nat} {Q:Exit->Act->World->Prop} {ks ks':List Fr} {env env':Env} {w w':World} {pos pos':Pos} {ob:Option Prop} {ops:Array Oper} {rest:List Oper} {v:Value}
section
variable {d:Nat} {op:Op} {ty:TypeId} {ps:String} {aft:Array Edge} {g:Option (Nat × Bool)}
theorem zqx {R:Value->World->Prop} (hg:gd ops env g=some true) (hr:yh P ⟨none,op,ty,ps,aft,none⟩ env w R) (h:∀ v w',R v w'->G P n Q ks (.o ops rest) env w'):G P n Q ks (.o ops (⟨none,op,ty,ps,aft,g⟩::rest)) env w :=
 qL hg (zqw rfl rfl hr h)
theorem G.no {j dj:Nat} {b c:Bool} (hj:(ops[j]?).bind (·.dst)=some dj) (zl:get env dj=some (.bool c)) (hc:c=!b) (hn:Nat.blt d n=true) (h:G P n Q ks (.o ops rest) ((d,undef)::env) w):G P n Q ks (.o ops (⟨some d,op,ty,ps,aft,some (j,b)⟩::rest)) env w:=WO.no hj zl hc hn h
end
end
open Go.RowKit
def zpx:Hp->Nat->Hp
 | [],_=>[]
 | (k,e)::r,j=>cond (Nat.beq k j) r ((k,e)::zpx r j)
section
variable {Bs:zP} {H:Hp} {w w':World} {k:Nat} {e e':HE} {T:Nat->Prop}
theorem VI.offF {F:Nat->Prop} {p:World->Prop} (h:VI Bs H w) (k:Nat) (hg:zl H k=some (.dat F p)):∀ b,F b->¬ HS H b:=fun b hb ⟨y,hy,hs⟩=>h.froz _ (zi hg) y hy b hb hs
theorem hdel_sub:∀ {H:Hp} {k:Nat},(zpx H k).Sublist H
 | [],_=>List.Sublist.refl _
 | (k',e)::r,k=>by
  simp only [zpx]
  cases Nat.beq k' k with
  | true=>exact List.sublist_cons_self ..
  | false=>exact hdel_sub.cons_cons _
theorem VI.del (h:VI Bs H w) (k:Nat):VI Bs (zpx H k) w:=h.few (fun _ hx=>hdel_sub.subset hx) (h.apart.sublist hdel_sub)
end
section
variable {P:Program} {T:Tab} {Z:Szs} {n:Nat} {Q:Exit->Act->World->Prop} {ks:List Fr} {pos:Pos} {env:Env} {A:Tgs} {H:Hp} {Bs:zP} {ops:Array Oper} {v:Value}
theorem zoP:∀ {H:Hp} {k j:Nat},Nat.beq k j=false->zl (zpx H k) j=zl H j
 | [],_,_,_=>rfl
 | (k1,e1)::r,k,j,h=>by
  simp only [zpx]
  cases hb:Nat.beq k1 k with
  | true =>
   have:=zo0 hb
   subst this
   simp only [zl,h,cond_false,cond_true]
  | false=>simp only [zl,cond_false];rw [zoP h]
theorem V.del (k:Nat) (hn:qt H k=none) (h:V P n Q ks pos env A (zpx H k) Bs):V P n Q ks pos env A H Bs:=by
 refine fun hA w hI=>h (hA.heap (fun j b o hj=>?_)) w (hI.del k)
 have hkj:Nat.beq k j=false:=by
  cases hb:Nat.beq k j with
  | true=>rw [<- zo0 hb,hn] at hj;cases hj
  | false=>rfl
 unfold qt at hj ⊢
 rw [zoP hkj]
 exact hj
theorem zpe:∀ {H:Hp} {k:Nat} {e':HE},∀ y ∈ zpx H k,y ∈ hset H k e'
 | [],_,_,_,h=>by cases h
 | (k1,e1)::r,k,e',y,h=>by
  simp only [zpx] at h
  simp only [hset]
  cases hb:Nat.beq k1 k with
  | true=>rw [hb] at h;exact znW _ h
  | false =>
   rw [hb] at h
   rcases zo9.1 h with rfl | h
   . exact znX ..
   . exact znW _ (zpe y h)
theorem zpf:∀ {H:Hp} {k:Nat} {e e':HE},zl H k=some e->(k,e') ∈ hset H k e'
 | [],_,_,_,h=>by cases h
 | (k1,e1)::r,k,e,e',h=>by
  simp only [zl] at h
  simp only [hset]
  cases hb:Nat.beq k1 k with
  | true=>rw [zo0 hb];exact znX ..
  | false=>rw [hb] at h;exact znW _ (zpf h)
theorem zqz {α:Type} {R:Rel α} [Dt R] (k k2:Nat) {t:TypeId} {m:Nat} {l:List α} (enc:α->Value) (hR:∀ D w x,R D w x [enc x]) (hg:zl H k=some (.row t 1 v m (l.map enc))) (hn:(zl (zpx H k) k2).isNone=true)
  (h:V P n Q ks pos env A ((k2,.dat (fun b=>v.ownBlock=some b) (fun w=>SlR 1 R (fun b=>v.ownBlock=some b) w v l))::zpx H k) Bs):V P n Q ks pos env A H Bs:=by
 rw [Option.isNone_iff_eq_none] at hn
 refine fun hA w hI=>?_
 have ho:w.ownsRow 0 t 1 v m (l.map enc):=hI.at k hg
 have he:HE.holds w (.dat (fun b=>v.ownBlock=some b) (fun w=>SlR 1 R (fun b=>v.ownBlock=some b) w v l)):=⟨zlh enc (fun x _=>hR _ _ x) ho (fun g hg=>hg),fun q hq=>xi ho hq⟩
 have hl:HE.loc (.dat (fun b=>v.ownBlock=some b) (fun w=>SlR 1 R (fun b=>v.ownBlock=some b) w v l)):=fun w w' T h1 h2 h3=>h1.keep Dt.s h2 (fun q hq _=>h3 q hq)
 have hF:=hI.freeze hg he hl (fun _ h=>h) (fun _ h=>h)
 have hA':TgOk A env (zpx H k):=hA.heap (fun j b o hj=>by
  have hkj:Nat.beq k j=false:=by
   cases hb:Nat.beq k j with
   | true=>rw [<- zo0 hb] at hj;simp [qt,hg] at hj
   | false=>rfl
  unfold qt at hj ⊢
  rw [zoP hkj]
  exact hj)
 exact h (hA'.new hn) w ((hI.del k).frz k2 he hl (fun _ h=>h) (fun b hb x hx=>hF.froz _ (zpf hg) x (zpe x hx) b hb))
end
open Go.RowKit
theorem zqA (w:World) (S:Nat->Prop):VI [(w,S)] [] w where
 holds:=fun _ h=>by cases h
 loc:=fun _ h=>by cases h
 apart:=List.Pairwise.nil
 froz:=fun _ h=>by cases h
 low:=fun _ h=>by cases h
 base:=fun p hp=>by
  rw [zob] at hp
  subst hp
  exact⟨Keep.refl _ _,fun _ h=>by cases h⟩
section
variable {P:Program} {T:Tab} {Z:Szs} {n:Nat} {Q:Exit->Act->World->Prop} {ks:List Fr} {pos:Pos} {env:Env} {A:Tgs} {H Hs:Hp} {Bs B0:zP} {ops:Array Oper} {rest:List Oper} {v:Value} {L:List Nat} {fuel:Nat} {listed:Array Bool}
variable {d:Nat} {op:Op} {ty:TypeId} {ps:String} {aft:Array Edge} {g:Option (Nat × Bool)}
theorem V.inM {w:World} (k:Nat) (e:HE) (he:e.holds w) (hl:e.loc) (hz:∀ b,¬ e.fz b) (hS:∀ q,e.S q->q<w.heap.size) (h:V P n Q ks pos env [] [(k,e)] [(w,e.S)]):G P n Q ks pos env w :=
 h TgOk.nil w ((zqA w e.S).add k he hl hz fun q hq=>⟨hS q hq,fun p hp=>by rw [zob] at hp;subst hp;exact .inl hq,fun x hx=>by cases hx⟩)
end
end Go.GL
namespace Go.Proofs
theorem Tryz.el37:(Tryz.prog.info? 37).map (fun i=>(i.zero,i.size,i.bytes))=some (some ((Value.slice none 0 0)),1,24):=by kernel_rfl
end Go.Proofs
namespace Go.Proofs.YtaenledoagbddaaGreatDoor
open Go.GL
theorem zot (a b c:Int) (w:World):Calls Tryz.prog 183 #[.int .i64 a,.int .i64 b,.int .i64 c] w (Ret fun r w'=>r=.int .i64 (qp a b c)/\Ext w w'):=by
 refine zmc Tryz.func183 O Tryz.ntmps183 O (Gs 13 O (zk6 O (fun h=>?_) (fun h=>?_)))
 . refine Gs 8 O (zkq Tryz.results183 O ⟨_,rfl,by rw [qp,zo4 h],Keep.refl _ _⟩)
 ·
  refine Gs 10 O (zk6 O (fun h2=>?_) (fun h2=>?_))
  . refine Gs 8 O (zkq Tryz.results183 O ⟨_,rfl,by rw [qp,zo3 h,zo4 h2],Keep.refl _ _⟩)
  . refine Gs 9 O (zkq Tryz.results183 O ⟨_,rfl,by rw [qp,zo3 h,zo3 h2],Keep.refl _ _⟩)
theorem zjZ (p:Bool) (w:World):Calls Tryz.prog 192 #[.bool p] w (Ret fun r w'=>r=.int .i64 (if p then 1 else 0)/\Ext w w'):=by
 refine zma Tryz.func192 O Tryz.ntmps192 O (Gs 11 O (G.bool O (fun h=>?_) (fun h=>?_)))
 . refine Gs 7 O (zkq Tryz.results192 O ⟨_,rfl,by rw [h];rfl,Keep.refl _ _⟩)
 . refine Gs 8 O (zkq Tryz.results192 O ⟨_,rfl,by rw [h];rfl,Keep.refl _ _⟩)
end Go.Proofs.YtaenledoagbddaaGreatDoor
namespace Go.GL.Gr
section
variable {α:Type} [DecidableEq α]
def cstep (acc:List α) (x:α):List α:=if acc.getLast?=some x then acc else acc++[x]
def compactL (l:List α):List α:=l.foldl cstep []
theorem zoQ (acc:List α) (x:α):(cstep acc x).getLast?=some x:=by
 unfold cstep
 split
 . assumption
 . simp
theorem zoR (l:List α) (x:α):compactL (l++[x])=cstep (compactL l) x:=by simp [compactL]
theorem compactL_take {l:List α} {k:Nat} {x:α} (hx:l[k]?=some x):compactL (l.take (k+1))=cstep (compactL (l.take k)) x:=by
 obtain⟨hk,rfl⟩:=zo7.1 hx
 rw [List.take_succ_eq_append_getElem hk,zoR]
theorem compactL_last {l:List α} {k:Nat} {x:α} (hx:l[k]?=some x):(compactL (l.take (k+1))).getLast?=some x:=by
 rw [compactL_take hx,zoQ]
theorem compactL_len (l:List α):(compactL l).length<=l.length:=by
 have:∀ (l acc:List α),(l.foldl cstep acc).length<=acc.length+l.length:=by
  intro l
  induction l with
  | nil=>intro acc;simp
  | cons x r ih =>
   intro acc
   have h1:=ih (cstep acc x)
   have h2:(cstep acc x).length<=acc.length+1:=by unfold cstep;split <;> simp
   simp only [List.foldl_cons,zom]
   omega
 simpa [compactL] using this l []
theorem compactL_mem (l:List α) (x:α):x ∈ compactL l ↔ x ∈ l:=by
 have:∀ (l acc:List α),x ∈ l.foldl cstep acc ↔ x ∈ acc\/x ∈ l:=by
  intro l
  induction l with
  | nil=>intro acc;simp
  | cons y r ih =>
   intro acc
   rw [List.foldl_cons,ih]
   have h2:x ∈ cstep acc y ↔ x ∈ acc\/x=y:=by
    unfold cstep
    split
    ·
     rename_i h
     constructor
     . exact .inl
     ·
      rintro (h' | rfl)
      . exact h'
      . exact List.mem_of_getLast? h
    . simp
   rw [h2]
   simp [or_assoc]
 simpa [compactL] using this l []
theorem compactL_strict {le:α->α->Prop} (hanti:∀ a b,le a b->le b a->a=b) {l:List α} (h:l.Pairwise le):(compactL l).Pairwise (fun a b=>le a b/\a ≠ b):=by
 have:∀ (l acc:List α),acc.Pairwise (fun a b=>le a b/\a ≠ b)->(∀ a ∈ acc,∀ b ∈ l,le a b)->l.Pairwise le->(l.foldl cstep acc).Pairwise (fun a b=>le a b/\a ≠ b):=by
  intro l
  induction l with
  | nil=>intro acc h1 _ _;exact h1
  | cons x r ih =>
   intro acc h1 h2 h3
   rw [List.pairwise_cons] at h3
   rw [List.foldl_cons]
   refine ih _ ?_ ?_ h3.2
   ·
    unfold cstep
    split
    . exact h1
    ·
     rename_i hne
     rw [List.pairwise_append]
     refine⟨h1,List.pairwise_singleton _ _,?_⟩
     intro a ha b hb
     rw [zob] at hb
     subst hb
     refine⟨h2 a ha _ (znX ..),?_⟩
     rintro rfl
     apply hne
     obtain⟨z,hz⟩:∃ z,acc.getLast?=some z:=by
      cases hacc:acc.getLast? with
      | none=>rw [List.getLast?_eq_none_iff] at hacc;subst hacc;simp at ha
      | some z=>exact⟨z,rfl⟩
     rw [hz]
     have hzm:=List.mem_of_getLast? hz
     have hza:=h2 z hzm a (znX ..)
     by_cases e:a=z
     . rw [e]
     ·
      obtain⟨ini,rfl⟩:∃ ini,acc=ini++[z]:=by
       rw [List.getLast?_eq_some_iff] at hz;obtain⟨ys,h⟩:=hz;exact⟨ys,h⟩
      rw [zoc,zob] at ha
      rcases ha with ha | ha
      ·
       rw [List.pairwise_append] at h1
       have:=(h1.2.2 a ha z (by simp)).1
       rw [hanti a z this hza]
      . exact absurd ha e
   ·
    intro a ha b hb
    have:a ∈ acc\/a=x:=by
     unfold cstep at ha
     split at ha
     . exact .inl ha
     . simpa using ha
    rcases this with ha | rfl
    . exact h2 a ha b (znW _ hb)
    . exact h3.1 b hb
 exact this l [] List.Pairwise.nil (by simp) h
end
end Go.GL.Gr
namespace Go.Proofs.YtaenledoagbddaaGreatDoor
open Go.GL
theorem zou (a b:Int) (w:World) (ha:zgu a) (hb:zgu b):Calls Tryz.prog 231 #[.int .i64 a,.int .i64 b] w (Ret fun r w'=>r=.int .i64 (a.fdiv b)/\Ext w w'):=by
 have hE:=Keep.refl (fun _=>False) w
 refine zmb Tryz.func231 O Tryz.ntmps231 O (Gs 12 O (zk6 O (fun h0=>?_) (fun h0=>?_)))
 ·
  subst h0
  refine Gs 7 O (zkq Tryz.results231 O ⟨_,rfl,by rw [Int.fdiv_zero],hE⟩)
 ·
  have hd:=zfo a b h0
  have hq:(a.tdiv b).natAbs<=a.natAbs:=Int.natAbs_tdiv_le_natAbs a b
  refine Gs 6 O (zm1 O O (R.quo O O h0 (by omega)) (Gs 8 O (zm1 O O (R.rem O O h0 (by omega)) (Gs 2 O (G.sp 15 O (fun h1=>?_) (fun h1=>?_))))))
  ·
   refine Gs 8 O (zk6 O (fun h2=>?_) (fun h2=>?_))
   . refine Ga 13 O (by omega) (zkq Tryz.results231 O ⟨_,rfl,by rw [hd,zo4 ⟨h1,h2⟩],hE⟩)
   . refine Gs 9 O (zkq Tryz.results231 O ⟨_,rfl,by rw [hd,zo3 (fun h=>h2 h.2)],hE⟩)
  . refine Gs 18 O (zkq Tryz.results231 O ⟨_,rfl,by rw [hd,zo3 (fun h=>h1 h.1)],hE⟩)
theorem zoY (a b:Int) (w:World) (ha:zgu a) (hb:zgu b):Calls Tryz.prog 232 #[.int .i64 a,.int .i64 b] w (Ret fun r w'=>r=.int .i64 (if b=0 then 0 else a - b*a.fdiv b)/\Ext w w'):=by
 have hE:=Keep.refl (fun _=>False) w
 refine zmb Tryz.func232 O Tryz.ntmps232 O (Gs 12 O (zk6 O (fun h0=>?_) (fun h0=>?_)))
 . refine Gs 7 O (zkq Tryz.results232 O ⟨_,rfl,by rw [zo4 h0],hE⟩)
 ·
  have hm:=zew a b h0
  refine Gs 8 O (G.call O Tryz.call231 (zou a b _ ha hb) ?_)
  rintro _ wz1 ⟨rfl,hz1⟩
  replace hE:=Tr1 hz1 hE
  refine Ga 6 O (by omega) (zkq Tryz.results232 O ⟨_,rfl,by rw [zo3 h0],hE⟩)
theorem zoZ (op a b:Int) (w:World) (ha:zgu a) (hb:zgu b):Calls Tryz.prog 217 #[.int .i64 op,.int .i64 a,.int .i64 b] w (Ret fun r w'=>r=.int .i64 (jj op a b)/\Ext w w'):=by
 have hE:=Keep.refl (fun _=>False) w
 have hml:=zat ha hb
 refine zmc Tryz.func217 O Tryz.ntmps217 O (Gs 18 O (zk6 O (fun hh1=>?_) (fun hh1=>?_)))
 . refine Ga 11 O (by omega) (zkq Tryz.results217 O ⟨_,rfl,by simp [jj,hh1],hE⟩)
 ·
  refine Gs 6 O (zk6 O (fun hh2=>?_) (fun hh2=>?_))
  . refine Ga 11 O (by omega) (zkq Tryz.results217 O ⟨_,rfl,by simp [jj,hh2],hE⟩)
  ·
   refine Gs 6 O (zk6 O (fun hh3=>?_) (fun hh3=>?_))
   . refine Ga 11 O (by omega) (zkq Tryz.results217 O ⟨_,rfl,by simp [jj,hh3],hE⟩)
   ·
    refine Gs 6 O (zk6 O (fun hh4=>?_) (fun hh4=>?_))
    ·
     refine Gs 4 O (G.call O Tryz.call231 (zou a b _ ha hb) ?_)
     rintro _ wz5 ⟨rfl,hz5⟩
     replace hE:=Tr1 hz5 hE
     refine Gs 6 O (zkq Tryz.results217 O ⟨_,rfl,by simp [jj,hh4],hE⟩)
    ·
     refine Gs 6 O (zk6 O (fun hh6=>?_) (fun hh6=>?_))
     ·
      refine Gs 4 O (G.call O Tryz.call232 (zoY a b _ ha hb) ?_)
      rintro _ wz7 ⟨rfl,hz7⟩
      replace hE:=Tr1 hz7 hE
      refine Gs 6 O (zkq Tryz.results217 O ⟨_,rfl,by simp [jj,hh6],hE⟩)
     ·
      refine Gs 6 O (zk6 O (fun hh8=>?_) (fun hh8=>?_))
      ·
       refine Gs 5 O (G.call O Tryz.call192 (zjZ _ _) ?_)
       rintro _ wz9 ⟨rfl,hz9⟩
       replace hE:=Tr1 hz9 hE
       refine Gs 6 O (zkq Tryz.results217 O ⟨_,rfl,by simp [jj,xh,hh8],hE⟩)
      ·
       refine Gs 6 O (zk6 O (fun hh10=>?_) (fun hh10=>?_))
       ·
        refine Gs 5 O (G.call O Tryz.call192 (zjZ _ _) ?_)
        rintro _ wz11 ⟨rfl,hz11⟩
        replace hE:=Tr1 hz11 hE
        refine Gs 6 O (zkq Tryz.results217 O ⟨_,rfl,by simp [jj,xh,hh10],hE⟩)
       ·
        refine Gs 6 O (zk6 O (fun hh12=>?_) (fun hh12=>?_))
        ·
         refine Gs 5 O (G.call O Tryz.call192 (zjZ _ _) ?_)
         rintro _ wz13 ⟨rfl,hz13⟩
         replace hE:=Tr1 hz13 hE
         refine Gs 6 O (zkq Tryz.results217 O ⟨_,rfl,by simp [jj,xh,hh12],hE⟩)
        ·
         refine Gs 6 O (zk6 O (fun hh14=>?_) (fun hh14=>?_))
         ·
          refine Gs 5 O (G.call O Tryz.call192 (zjZ _ _) ?_)
          rintro _ wz15 ⟨rfl,hz15⟩
          replace hE:=Tr1 hz15 hE
          refine Gs 6 O (zkq Tryz.results217 O ⟨_,rfl,by simp [jj,xh,hh14],hE⟩)
         ·
          refine Gs 6 O (zk6 O (fun hh16=>?_) (fun hh16=>?_))
          ·
           refine Gs 5 O (G.call O Tryz.call192 (zjZ _ _) ?_)
           rintro _ wz17 ⟨rfl,hz17⟩
           replace hE:=Tr1 hz17 hE
           refine Gs 6 O (zkq Tryz.results217 O ⟨_,rfl,by simp [jj,xh,hh16],hE⟩)
          ·
           refine Gs 6 O (zk6 O (fun hh18=>?_) (fun hh18=>?_))
           ·
            refine Gs 5 O (G.call O Tryz.call192 (zjZ _ _) ?_)
            rintro _ wz19 ⟨rfl,hz19⟩
            replace hE:=Tr1 hz19 hE
            refine Gs 6 O (zkq Tryz.results217 O ⟨_,rfl,by simp [jj,xh,hh18],hE⟩)
           ·
            refine Gs 6 O (zk6 O (fun hh20=>?_) (fun hh20=>?_))
            ·
             refine Gs 5 O (G.sp 73 O (fun hh21=>?_) (fun hh21=>?_))
             ·
              refine Gs 3 O (G.call O Tryz.call192 (zjZ _ _) ?_)
              rintro _ wz22 ⟨rfl,hz22⟩
              replace hE:=Tr1 hz22 hE
              refine Gs 6 O (zkq Tryz.results217 O ⟨_,rfl,by simp [jj,xh,hh20,hh21],hE⟩)
             ·
              refine Gs 3 O (G.call O Tryz.call192 (zjZ _ _) ?_)
              rintro _ wz23 ⟨rfl,hz23⟩
              replace hE:=Tr1 hz23 hE
              refine Gs 6 O (zkq Tryz.results217 O ⟨_,rfl,by simp [jj,xh,hh20,hh21],hE⟩)
            ·
             refine Gs 6 O (zk6 O (fun hh24=>?_) (fun hh24=>?_))
             ·
              refine Gs 5 O (G.sp 82 O (fun hh25=>?_) (fun hh25=>?_))
              ·
               refine Gs 3 O (G.call O Tryz.call192 (zjZ _ _) ?_)
               rintro _ wz26 ⟨rfl,hz26⟩
               replace hE:=Tr1 hz26 hE
               refine Gs 6 O (zkq Tryz.results217 O ⟨_,rfl,by simp [jj,xh,hh24,hh25],hE⟩)
              ·
               refine Gs 3 O (G.call O Tryz.call192 (zjZ _ _) ?_)
               rintro _ wz27 ⟨rfl,hz27⟩
               replace hE:=Tr1 hz27 hE
               refine Gs 6 O (zkq Tryz.results217 O ⟨_,rfl,by simp [jj,xh,hh24,hh25],hE⟩)
             ·
              refine Gs 6 O (zk6 O (fun hh28=>?_) (fun hh28=>?_))
              ·
               refine Gs 4 O (G.call O tc111 (zu a b _) ?_)
               rintro _ wz29 ⟨rfl,hz29⟩
               replace hE:=Tr1 hz29 hE
               refine Gs 6 O (zkq Tryz.results217 O ⟨_,rfl,by simp [jj,hh28],hE⟩)
              ·
               refine Gs 7 O (G.call O tc110 (ya a b _) ?_)
               rintro _ wz30 ⟨rfl,hz30⟩
               replace hE:=Tr1 hz30 hE
               refine Gs 4 O (zkq Tryz.results217 O ⟨_,rfl,by simp [jj,hh1,hh2,hh3,hh4,hh6,hh8,hh10,hh12,hh14,hh16,hh18,hh20,hh24,hh28],hE⟩)
theorem zoS (l:List Int) (time:Int) (v:Value) (D:Nat->Prop) (w:World) (hl:SlR 1 zB D w v l):Calls Tryz.prog 182 #[v,.int .i64 time] w (Ret fun r w'=>r=.int .i64 (qG l time)/\Ext w w'):=by
 have hmx:=hl.max
 obtain⟨al,cl,rfl⟩:=hl.form
 refine zmb Tryz.func182 O Tryz.ntmps182 O (Gs 19 O (G.loop (σ:=Nat × Int × Bool) (fun⟨i,b,fd⟩=>[(0,.slice al l.length cl),(1,.int .i64 time),(5,.int .i64 b),(6,.bool fd),(7,.int .i64 i)]) (fun⟨i,b,fd⟩=>fun w'=>i<=l.length/\(b,fd)=(l.take i).foldl (yw time) (time,false)/\Ext w w') (fun⟨i,b,fd⟩=>l.length - i) ((0,time,false)) (zlO O) (⟨zo8 _,rfl,Keep.refl _ _⟩) ?_))
 rintro⟨i,b,fd⟩ w1 ⟨hi,hs,hL1⟩
 show G _ _ _ _ _ [(0,.slice al l.length cl),(1,.int .i64 time),(5,.int .i64 b),(6,.bool fd),(7,.int .i64 i)] _
 replace hl:=Tr1 hL1 hl
 refine Gs 9 O (zk6 O (fun hlt=>?_) (fun hge=>?_))
 ·
  obtain⟨x,he_x⟩:∃ x,l[i]?=some x:=⟨_,znT (by omega)⟩
  obtain⟨bx,ox,cx,hax,_,hcx,rfl⟩:=hl.at he_x
  have hst:=zex (yw time) (time,false) he_x
  rw [<- hs,show yw time (b,fd) x=if time<=x/\(fd=false\/x<b) then (x,true) else (b,fd) from rfl] at hst
  refine Gs 8 O (zm1 O O (zkP tR27 ts3 O O hax (by omega)) (zm5 O tg3 (hcx 0 _ O) (Gs 3 O (G.sp 21 O (fun h1=>?_) (fun h1=>?_)))))
  ·
   refine Gs 1 O (zm1 O O (zly O (by first | exact za | rfl)) (Gs 1 O (zlZ 24 O (fun h2=>?_) (fun h2=>?_))))
   ·
    have h2':fd=false:=by simpa using h2
    refine Gs 14 O (zm1 O O (zkP tR27 ts3 O O hax (by omega)) (zm5 O tg3 (hcx 0 _ O) (Ga 10 O (by omega) (zkh ((i+1,x,true)) (Sub.cons O (Sub.cons O (Sub.cons O (Sub.cons (by first | rfl | (show some (Value.bool true)=some (Value.bool _);simp [*])) (zlO O))))) (⟨by omega,by rw [hst,zo4 ⟨h1,.inl h2'⟩],hL1⟩) (by first | omega | (dsimp only;omega))))))
   ·
    have h2':fd=true:=by simpa using h2
    refine Gs 2 O (zm1 O O (zkP tR27 ts3 O O hax (by omega)) (zm5 O tg3 (hcx 0 _ O) (Gs 6 O (zk6 O (fun h3=>?_) (fun h3=>?_)))))
    . refine Gs 3 O (zm1 O O (zkP tR27 ts3 O O hax (by omega)) (zm5 O tg3 (hcx 0 _ O) (Ga 10 O (by omega) (zkh ((i+1,x,true)) (Sub.cons O (Sub.cons O (Sub.cons O (Sub.cons (by first | rfl | (show some (Value.bool true)=some (Value.bool _);simp [*])) (zlO O))))) (⟨by omega,by rw [hst,zo4 ⟨h1,.inr h3⟩],hL1⟩) (by first | omega | (dsimp only;omega))))))
    . refine Ga 8 O (by omega) (zkh ((i+1,b,fd)) (zlO O) (⟨by omega,by rw [hst,zo3 (fun h=>h.2.elim (fun h4=>by rw [h2'] at h4;cases h4) h3)],hL1⟩) (by first | omega | (dsimp only;omega)))
  . refine Ga 22 O (by omega) (zkh ((i+1,b,fd)) (zlO O) (⟨by omega,by rw [hst,zo3 (fun h=>h1 h.1)],hL1⟩) (by first | omega | (dsimp only;omega)))
 ·
  have:i=l.length:=by omega
  subst this
  rw [znY] at hs
  refine Gs 12 O (zkq Tryz.results182 O ⟨_,rfl,by rw [qG,<- hs],hL1⟩)
def zq8 (vals:List Int) (k:Tm):Prop:=∀ (cs:List Value) (D Dv:Nat->Prop) (w:World) (vv:Value),SlR 1 zB Dv w vv vals->RTm D w k cs->Calls Tryz.prog 181 #[vv,.agg cs.toArray] w (Ret fun r w'=>r=.int .i64 (qq vals k)/\Ext w w')
theorem zk2 {vs:List Vr} {inp:Bool} (hv:∀ v ∈ vs,yp (v.low,v.high)) {vals:List Int} (hV:InV vs vals) (t:Tm):zw vs inp t=true->(rng vs t).isSome=true->zq8 vals t:=by
 induction t using zlF with
 | h t ih =>
 intro hf hr cs D Dv w vv hvv ht
 obtain⟨ok,hkf⟩:=tmOk hv hV hf hr
 have ihk:∀ k ∈ t.kids,zq8 vals k:=fun k hk=>ih k hk (hkf k hk).1 (hkf k hk).2
 obtain⟨kv,rfl,hks⟩:=ht.get
 obtain⟨a3,c3,rfl⟩:=hks.form
 obtain⟨av,cv,rfl⟩:=hvv.form
 have hve:=zfk vals t
 have hops:=ok.ops
 have hE:=Keep.refl (fun _=>False) w
 refine zmb Tryz.func181 O Tryz.ntmps181 O (Gs 2 O (G.mem O O (M.box O O) ?_))
 rintro _ w_b3 ⟨b3,rfl,hg_b3,hs_b3,hB_b3,hk_b3⟩
 have hge_b3:_<=b3:=znZ hE.size (Nat.le_of_eq hg_b3.symm)
 obtain⟨hE,hks,hvv⟩:=Tr3 hk_b3 hE hks hvv
 refine Gs 7 O (zm5 O tg83 (hB_b3.cells 0 _ O) (Gs 9 O ?_))
 have zl:∀ i:Nat,i<t.kids.length->∃ k,t.kids[i]?=some k/\lki (zgU vals t.kids) i=qq vals k/\zgu (qq vals k)/\∃ b o c v,a3=some ⟨b,o,none⟩/\Cells w_b3 b (o+i*3) c/\c=[.int .i64 k.op,.int .i64 k.n,v]/\SlR 3 RTm D w_b3 v k.kids:=fun i hi=>by
  obtain⟨k,hk⟩:∃ k,t.kids[i]?=some k:=⟨_,znT hi⟩
  obtain⟨b,o,c,h1,_,h2,h3⟩:=hks.at hk
  obtain⟨v,h4,h5⟩:=h3.get
  exact⟨k,hk,zdY hk,ok.kid k (znU hk),b,o,c,v,h1,h2,h4,h5⟩
 have hX:=Keep.refl (fun _=>False) w_b3
 refine zk6 O (fun c0=>?_) (fun c0=>?_)
 . refine Gs 3 O (zm5 O tg3 (hB_b3.cells 1 _ O) (Gs 6 O (zkq Tryz.results181 O ⟨_,rfl,by rw [hve,kg,zo4 c0],hE⟩)))
 ·
  refine Gs 6 O (zk6 O (fun c24=>?_) (fun c24=>?_))
  ·
   have hn:=ok.var c24
   have hln:=hV.len
   obtain⟨bx,ox,cx,hax,_,hcx,rfl⟩:=hvv.at (zhJ (l:=vals) (i:=t.n.toNat) (by omega))
   refine Gs 4 O (zm5 O tg3 (hB_b3.cells 1 _ O) (zm1 O O (zkP tR27 ts3 O O hax (by omega)) (zm5 O tg3 (hcx 0 _ O) (Gs 6 O (zkq Tryz.results181 O ⟨_,rfl,by rw [hve,kg,zo3 c0,zo4 c24],hE⟩)))))
  ·
   refine Gs 6 O (zk6 O (fun c6=>?_) (fun c6=>?_))
   ·
    have h1:=ok.k1 (.inl c6)
    obtain⟨k0,hk0,hl0,hi0,b0,o0,_,v0,ha0,hc0,rfl,hs0⟩:=zl 0 (by omega)
    refine Gs 4 O (zm5 O tg84 (hB_b3.cells 2 _ O) (zm1 O O (zkP tR84 ts86 O O ha0 (by omega)) (zm7 O tg86 ts86 (hX.cells hc0 (fun h=>h)) O (G.call O Tryz.call181 (ihk k0 (znU hk0) _ D Dv _ _ hvv (RTm.put (hs0.ext zp hX))) ?_))))
    rintro _ wz1 ⟨rfl,hz1⟩
    obtain⟨hE,hks,hvv,hB_b3,hX⟩:=Tr5 hz1 hE hks hvv hB_b3 hX
    refine Ga 7 O (by omega) (zkq Tryz.results181 O ⟨_,rfl,by rw [hve,kg,zo3 c0,zo3 c24,zo4 c6,hl0],hE⟩)
   ·
    refine Gs 6 O (zk6 O (fun c7=>?_) (fun c7=>?_))
    ·
     have h1:=ok.k1 (.inr c7)
     obtain⟨k0,hk0,hl0,hi0,b0,o0,_,v0,ha0,hc0,rfl,hs0⟩:=zl 0 (by omega)
     refine Gs 4 O (zm5 O tg84 (hB_b3.cells 2 _ O) (zm1 O O (zkP tR84 ts86 O O ha0 (by omega)) (zm7 O tg86 ts86 (hX.cells hc0 (fun h=>h)) O (G.call O Tryz.call181 (ihk k0 (znU hk0) _ D Dv _ _ hvv (RTm.put (hs0.ext zp hX))) ?_))))
     rintro _ wz2 ⟨rfl,hz2⟩
     obtain⟨hE,hks,hvv,hB_b3,hX⟩:=Tr5 hz2 hE hks hvv hB_b3 hX
     refine Gs 1 O (G.call O Tryz.call192 (zjZ _ _) ?_)
     rintro _ wz3 ⟨rfl,hz3⟩
     obtain⟨hE,hks,hvv,hB_b3,hX⟩:=Tr5 hz3 hE hks hvv hB_b3 hX
     refine Gs 6 O (zkq Tryz.results181 O ⟨_,rfl,by rw [hve,kg,zo3 c0,zo3 c24,zo3 c6,zo4 c7,hl0];rfl,hE⟩)
    ·
     refine Gs 6 O (zk6 O (fun c23=>?_) (fun c23=>?_))
     ·
      have h1:=ok.k3 c23
      obtain⟨k0,hk0,hl0,hi0,b0,o0,_,v0,ha0,hc0,rfl,hs0⟩:=zl 0 (by omega)
      obtain⟨k1,hk1,hl1,hi1,b1,o1,_,v1,ha1,hc1,rfl,hs1⟩:=zl 1 (by omega)
      obtain⟨k2,hk2,hl2,hi2,b2,o2,_,v2,ha2,hc2,rfl,hs2⟩:=zl 2 (by omega)
      refine Gs 5 O (zm5 O tg84 (hB_b3.cells 2 _ O) (zm1 O O (zkP tR84 ts86 O O ha0 (by omega)) (zm7 O tg86 ts86 (hX.cells hc0 (fun h=>h)) O (G.call O Tryz.call181 (ihk k0 (znU hk0) _ D Dv _ _ hvv (RTm.put (hs0.ext zp hX))) ?_))))
      rintro _ wz4 ⟨rfl,hz4⟩
      obtain⟨hE,hks,hvv,hB_b3,hX⟩:=Tr5 hz4 hE hks hvv hB_b3 hX
      refine Gs 3 O (zk6 O (fun z=>?_) (fun z=>?_))
      ·
       refine Gs 4 O (zm5 O tg84 (hB_b3.cells 2 _ O) (zm1 O O (zkP tR84 ts86 O O ha1 (by omega)) (zm7 O tg86 ts86 (hX.cells hc1 (fun h=>h)) O (G.call O Tryz.call181 (ihk k1 (znU hk1) _ D Dv _ _ hvv (RTm.put (hs1.ext zp hX))) ?_))))
       rintro _ wz5 ⟨rfl,hz5⟩
       obtain⟨hE,hks,hvv,hB_b3,hX⟩:=Tr5 hz5 hE hks hvv hB_b3 hX
       refine Gs 7 O (zkq Tryz.results181 O ⟨_,rfl,by rw [hve,kg,zo3 c0,zo3 c24,zo3 c6,zo3 c7,zo4 c23,hl0,zo4 z,hl1],hE⟩)
      ·
       refine Gs 6 O (zm5 O tg84 (hB_b3.cells 2 _ O) (zm1 O O (zkP tR84 ts86 O O ha2 (by omega)) (zm7 O tg86 ts86 (hX.cells hc2 (fun h=>h)) O (G.call O Tryz.call181 (ihk k2 (znU hk2) _ D Dv _ _ hvv (RTm.put (hs2.ext zp hX))) ?_))))
       rintro _ wz6 ⟨rfl,hz6⟩
       obtain⟨hE,hks,hvv,hB_b3,hX⟩:=Tr5 hz6 hE hks hvv hB_b3 hX
       refine Gs 6 O (zkq Tryz.results181 O ⟨_,rfl,by rw [hve,kg,zo3 c0,zo3 c24,zo3 c6,zo3 c7,zo4 c23,hl0,zo3 z,hl2],hE⟩)
     ·
      refine Gs 6 O (zk6 O (fun c25=>?_) (fun c25=>?_))
      ·
       have h1:=ok.k25 c25
       obtain⟨k0,hk0,hl0,hi0,b0,o0,_,v0,ha0,hc0,rfl,hs0⟩:=zl 0 (by omega)
       have hcl:=qF (qq vals k0) (show (0:Int)<=(t.kids.length:Int) - 2 by omega)
       obtain⟨kj,hkj,hlj,hij,bj,oj,_,vj,haj,hcj,rfl,hsj⟩:=zl (1+qp (qq vals k0) 0 ((t.kids.length:Int) - 2)).toNat (by omega)
       refine Gs 1 O (Dw (fun q=>Ext w_b3 q) [] (fun wd7 hD _=>?_))
       refine Ds [0,1] (by kernel_rfl) O (WD.take 2 O (by kernel_rfl) O O O hD (fun w1 hw1=>R.load tg84 O ((hw1.blk hB_b3 (fun h=>h)).cells 2 _ O)) (Ds [3,4] (by kernel_rfl) O (WD.take 5 O (by kernel_rfl) O O O hD (fun w1 hw1=>R.load tg84 O ((hw1.blk hB_b3 (fun h=>h)).cells 2 _ O)) (zld 6 O (by kernel_rfl) O O O (fun w1=>zkP tR84 ts86 O O ha0 (by omega)) (WD.take 7 O (by kernel_rfl) O O O hD (fun w1 hw1=>zkR tg86 ts86 O (by rfl) ((hX.ext hw1).cells hc0 (fun h=>h))) ?_)))))
       refine Ds [9] (by kernel_rfl) O (WD.take 10 O (by kernel_rfl) O O O hD (fun w1 hw1=>R.load tg84 O ((hw1.blk hB_b3 (fun h=>h)).cells 2 _ O)) (Da [11,12] (by kernel_rfl) O (by omega) (WD.call 8 O (by kernel_rfl) O O O (F.call (vs:=[_,_]) Tryz.call181 O) (ihk k0 (znU hk0) _ D Dv _ _ (hvv.ext zc hD) (RTm.put (hs0.ext zp (hX.ext hD)))) ?_)))
       rintro _ wz8 ⟨rfl,hz8⟩
       replace hD:=hD.ext hz8
       refine⟨fun _=>hD,?_⟩
       refine WD.call 13 O (by kernel_rfl) O O O (F.call (vs:=[_,_,_]) Tryz.call183 O) (zot _ _ _ _) ?_
       rintro _ wz9 ⟨rfl,hz9⟩
       replace hD:=hD.ext hz9
       refine⟨fun _=>hD,?_⟩
       refine Da [14] (by kernel_rfl) O (by omega) (zld 15 O (by kernel_rfl) O O O (fun w1=>zkP tR84 ts86 O O haj (by omega)) (WD.take 16 O (by kernel_rfl) O O O hD (fun w1 hw1=>zkR tg86 ts86 O (by rfl) ((hX.ext hw1).cells hcj (fun h=>h))) (WD.call 17 O (by kernel_rfl) O O O (F.call (vs:=[_,_]) Tryz.call181 O) (ihk kj (znU hkj) _ D Dv _ _ (hvv.ext zc hD) (RTm.put (hsj.ext zp (hX.ext hD)))) ?_)))
       rintro _ wz10 ⟨rfl,hz10⟩
       replace hD:=hD.ext hz10
       refine⟨fun _=>hD,?_⟩
       refine Ds [18] (by kernel_rfl) O (zla (by kernel_rfl) ?_ _)
       obtain⟨hE,hks,hvv,hB_b3,hX⟩:=Tr5 hD hE hks hvv hB_b3 hX
       refine Gs 4 O (zkq Tryz.results181 O ⟨_,rfl,by rw [hve,kg,zo3 c0,zo3 c24,zo3 c6,zo3 c7,zo3 c23,zo4 c25,hl0,zdX,hlj],hE⟩)
      ·
       have h1:=ok.k2 (by omega)
       obtain⟨k0,hk0,hl0,hi0,b0,o0,_,v0,ha0,hc0,rfl,hs0⟩:=zl 0 (by omega)
       obtain⟨k1,hk1,hl1,hi1,b1,o1,_,v1,ha1,hc1,rfl,hs1⟩:=zl 1 (by omega)
       refine Gs 4 O (Dw (fun q=>Ext w_b3 q) [] (fun wd11 hD _=>?_))
       refine Ds [0] (by kernel_rfl) O (WD.take 1 O (by kernel_rfl) O O O hD (fun w1 hw1=>R.load tg83 O ((hw1.blk hB_b3 (fun h=>h)).cells 0 _ O)) (Ds [2,3] (by kernel_rfl) O (WD.take 4 O (by kernel_rfl) O O O hD (fun w1 hw1=>R.load tg84 O ((hw1.blk hB_b3 (fun h=>h)).cells 2 _ O)) (zld 5 O (by kernel_rfl) O O O (fun w1=>zkP tR84 ts86 O O ha0 (by omega)) (WD.take 6 O (by kernel_rfl) O O O hD (fun w1 hw1=>zkR tg86 ts86 O (by rfl) ((hX.ext hw1).cells hc0 (fun h=>h))) ?_)))))
       refine Ds [8,9] (by kernel_rfl) O (WD.take 10 O (by kernel_rfl) O O O hD (fun w1 hw1=>R.load tg84 O ((hw1.blk hB_b3 (fun h=>h)).cells 2 _ O)) (zld 11 O (by kernel_rfl) O O O (fun w1=>zkP tR84 ts86 O O ha1 (by omega)) (WD.take 12 O (by kernel_rfl) O O O hD (fun w1 hw1=>zkR tg86 ts86 O (by rfl) ((hX.ext hw1).cells hc1 (fun h=>h))) (WD.call 7 O (by kernel_rfl) O O O (F.call (vs:=[_,_]) Tryz.call181 O) (ihk k0 (znU hk0) _ D Dv _ _ (hvv.ext zc hD) (RTm.put (hs0.ext zp (hX.ext hD)))) ?_))))
       rintro _ wz12 ⟨rfl,hz12⟩
       replace hD:=hD.ext hz12
       refine⟨fun _=>hD,?_⟩
       refine WD.call 13 O (by kernel_rfl) O O O (F.call (vs:=[_,_]) Tryz.call181 O) (ihk k1 (znU hk1) _ D Dv _ _ (hvv.ext zc hD) (RTm.put (hs1.ext zp (hX.ext hD)))) ?_
       rintro _ wz13 ⟨rfl,hz13⟩
       replace hD:=hD.ext hz13
       refine⟨fun _=>hD,?_⟩
       refine WD.call 14 O (by kernel_rfl) O O O (F.call (vs:=[_,_,_]) Tryz.call217 O) (zoZ _ _ _ _ hi0 hi1) ?_
       rintro _ wz14 ⟨rfl,hz14⟩
       replace hD:=hD.ext hz14
       refine⟨fun _=>hD,?_⟩
       refine Ds [15] (by kernel_rfl) O (zla (by kernel_rfl) ?_ _)
       obtain⟨hE,hks,hvv,hB_b3,hX⟩:=Tr5 hD hE hks hvv hB_b3 hX
       refine Gs 2 O (zkq Tryz.results181 O ⟨_,rfl,by rw [hve,kg,zo3 c0,zo3 c24,zo3 c6,zo3 c7,zo3 c23,zo3 c25,hl0,hl1],hE⟩)
theorem zqd (l:List Int) (v:Value) (D:Nat->Prop) (w:World) (i:Nat) (h:SlR 1 zB D w v l) :
  Calls Tryz.prog 178 #[v,.int .i64 i] w (Ret fun r w'=>r=.tuple #[.int .i64 (l[i]?.getD 0),.bool (decide (i<l.length))]/\Ext w w'):=by
 obtain⟨av,cv,rfl⟩:=h.form
 refine zmb Tryz.func178 O Tryz.ntmps178 O (zmm ?_)
 refine Vs 15 O ?_
 refine zk7 O (fun hge=>?_) (fun hge=>?_)
 ·
  refine Vs 8 O ?_
  refine zku Tryz.results178 O O (fun w hI=>⟨_,rfl,by rw [zo6 (by omega),zoh (by omega)];rfl,hI.k0⟩)
 ·
  refine Vs 6 O ?_
  obtain⟨x,he_x,hm_x⟩:=gE_ l (i) (by omega)
  obtain⟨b_x,o_x,c_x,ha_x,_,hc_x,hR_x⟩:=h.at he_x
  obtain rfl:=hR_x
  refine zmI 1000 0 O O hc_x ?_
  refine V.ix 1000 tR27 ts3 O ha_x (by omega) (_) (rfl) O ?_
  refine Vs 6 O ?_
  refine zku Tryz.results178 O O (fun w hI=>⟨_,rfl,by rw [zo5 (by omega),he_x];rfl,hI.k0⟩)
theorem zp7 (vs:List Vr) (r:Ins) (vv s1 s2 s3:Value) (Dv D1 D2 D3:Nat->Prop) (w:World) (hvs:SlR 5 RVr Dv w vv vs) (hlen:vs.length<=1000000) (hkv:∀ v ∈ vs,0<=v.kind/\v.kind<=3) (hi1:SlR 1 zB D1 w s1 r.secret) (hi2:SlR 1 zB D2 w s2 r.pub) (hi3:SlR 1 zB D3 w s3 r.random) :
  Calls Tryz.prog 133 #[vv,.agg #[s1,s2,s3]] w (Ret fun rr w'=>(∃ u,rr=.tuple #[u,.int .i64 (zS vs r)]/\(zS vs r ≠ 0->u=.slice none 0 0)/\(zS vs r=0->w'.ownsRow 0 3 1 u (xx vs r).length ((xx vs r).map zd)/\∀ g,u.ownBlock=some g->w.heap.size<=g))/\Ext w w'):=by
 obtain⟨av,cv,rfl⟩:=hvs.form
 obtain⟨a1,c1,rfl⟩:=hi1.form
 obtain⟨a2,c2,rfl⟩:=hi2.form
 obtain⟨a3,c3,rfl⟩:=hi3.form
 refine zmb Tryz.func133 O Tryz.ntmps133 O (zmm ?_)
 refine Vs 2 O ?_
 refine V.box 3 O O (fun b3=>?_)
 refine Vs 13 O ?_
 refine V.bs0 15 tR27 ts3 O (fun b15=>?_)
 refine Vs 15 O ?_
 refine zmL (σ:=Nat × StS × Value × Bool) [0,3] [3] [3] O (fun e ⟨i,s,u,b⟩=>(6,.int .i64 s.a)::(7,.int .i64 s.b)::(8,.int .i64 s.c)::(9,u)::(10,.bool b)::(11,.int .i64 i)::e) (fun e ⟨i,s,u,b⟩=>(15,.row 3 1 u s.vals.length (s.vals.map zd))::e) (fun⟨i,s,u,b⟩=>i<=vs.length/\(vs.take i).foldl (zx r) (some ⟨[],0,0,0⟩)=some s/\b=((vs.take i).zip s.vals).all inB) (fun⟨i,s,u,b⟩=>vs.length - i) ((0,⟨[],0,0,0⟩,.slice (some ⟨b15,0,none⟩) 0 0,true)) (zlO O) (zlP O) (fun _=>rfl) (fun _=>rfl) (fun _=>rfl) (⟨zo8 _,rfl,rfl⟩) ?_
 rintro⟨i,s,u,b⟩ ⟨hi,hs,hb⟩
 show V _ _ _ _ _ ((6,.int .i64 s.a)::(7,.int .i64 s.b)::(8,.int .i64 s.c)::(9,u)::(10,.bool b)::(11,.int .i64 i)::_) _ ((15,.row 3 1 u s.vals.length (s.vals.map zd))::_) _
 obtain⟨hv1,ha,hb1,hc⟩:=zbi i s hi hs
 refine Vs 9 O ?_
 refine zk7 O (fun hlt=>?_) (fun hlt=>?_)
 ·
  refine Vs 8 O ?_
  obtain⟨x,he_x,hm_x⟩:=gE_ vs (i) (by omega)
  obtain⟨b_x,o_x,c_x,ha_x,_,hc_x,hR_x⟩:=hvs.at he_x
  obtain rfl:=hR_x
  refine zmI 1000 0 O O hc_x ?_
  refine V.ix 1000 tR22 ts89 O ha_x (by omega) (_) (rfl) O ?_
  have hst:=zaG he_x hs
  refine Vs 1 O ?_
  refine V.alloc 12 tz89 O O (fun b12=>?_)
  refine Vs 18 O ?_
  have hkx:=hkv x hm_x
  refine zmM (σ:=Bool × Int × Nat × Nat × Nat) [0,3,9,10,11,12] [3,12,15] [3,12] O (fun e ⟨ok,n,a',b',c'⟩=>(13,.int .i64 n)::(14,.bool ok)::(6,.int .i64 a')::(7,.int .i64 b')::(8,.int .i64 c')::e) (fun e ⟨ok,n,a',b',c'⟩=>e) (fun⟨ok,n,a',b',c'⟩=>(vs.take (i+1)).foldl (zx r) (some ⟨[],0,0,0⟩)=if ok then some ⟨s.vals++[n],a',b',c'⟩ else none) (fun _=>rfl) (fun _=>rfl) ?_ ?_
  ·
   refine Vs 7 O ?_
   refine zk7 O (fun k1=>?_) (fun k1=>?_)
   ·
    refine Vs 5 O ?_
    refine zmB Tryz.call178 O (fun w hI=>zqd r.secret _ D1 w s.a (Tr1 hI.k0 hi1)) ?_
    rw [zo3 (by omega),show qr r x.kind=r.secret by unfold qr;rw [zo4 k1],show zaF s x.kind=s.a by unfold zaF;rw [zo4 k1]] at hst
    have hq:(vs.take (i+1)).foldl (zx r) (some ⟨[],0,0,0⟩)=if decide (s.a<r.secret.length) then some ⟨s.vals++[r.secret[s.a]?.getD 0],s.a+1,s.b,s.c⟩ else none:=by
     rw [hst]
     by_cases hl:s.a<r.secret.length
     . rw [zo4 (zo5 hl),znT hl];simp [kP,k1]
     . rw [zo3 (by simp [hl]),zoh (by omega)];rfl
    refine Va 13 O (by omega) ?_
    refine zkn (⟨_,_,s.a+1,s.b,s.c⟩) (zlO O) (zlP O) (hq) 0 O O
   ·
    refine Vs 6 O ?_
    refine zk7 O (fun k2=>?_) (fun k2=>?_)
    ·
     refine Vs 5 O ?_
     refine zmB Tryz.call178 O (fun w hI=>zqd r.pub _ D2 w s.b (Tr1 hI.k0 hi2)) ?_
     rw [zo3 (by omega),show qr r x.kind=r.pub by unfold qr;rw [zo3 k1,zo4 k2],show zaF s x.kind=s.b by unfold zaF;rw [zo3 k1,zo4 k2]] at hst
     have hq:(vs.take (i+1)).foldl (zx r) (some ⟨[],0,0,0⟩)=if decide (s.b<r.pub.length) then some ⟨s.vals++[r.pub[s.b]?.getD 0],s.a,s.b+1,s.c⟩ else none:=by
      rw [hst]
      by_cases hl:s.b<r.pub.length
      . rw [zo4 (zo5 hl),znT hl];simp [kP,k2]
      . rw [zo3 (by simp [hl]),zoh (by omega)];rfl
     refine Va 13 O (by omega) ?_
     refine zkn (⟨_,_,s.a,s.b+1,s.c⟩) (zlO O) (zlP O) (hq) 0 O O
    ·
     refine Vs 6 O ?_
     refine zk7 O (fun k3=>?_) (fun k3=>?_)
     ·
      refine Vs 5 O ?_
      refine zmB Tryz.call178 O (fun w hI=>zqd r.random _ D3 w s.c (Tr1 hI.k0 hi3)) ?_
      rw [zo3 (by omega),show qr r x.kind=r.random by unfold qr;rw [zo3 k1,zo3 k2],show zaF s x.kind=s.c by unfold zaF;rw [zo3 k1,zo3 k2]] at hst
      have hq:(vs.take (i+1)).foldl (zx r) (some ⟨[],0,0,0⟩)=if decide (s.c<r.random.length) then some ⟨s.vals++[r.random[s.c]?.getD 0],s.a,s.b,s.c+1⟩ else none:=by
       rw [hst]
       by_cases hl:s.c<r.random.length
       . rw [zo4 (zo5 hl),znT hl];simp [kP,k1,k2]
       . rw [zo3 (by simp [hl]),zoh (by omega)];rfl
      refine Va 13 O (by omega) ?_
      refine zkn (⟨_,_,s.a,s.b,s.c+1⟩) (zlO O) (zlP O) (hq) 0 O O
     ·
      rw [zo4 (by omega)] at hst
      refine Vs 2 O ?_
      refine zkn (⟨true,x.init,s.a,s.b,s.c⟩) (zlO O) (zlP O) (by rw [hst];rfl) 0 O O
  rintro⟨ok,n,a',b',c'⟩ hq
  show V _ _ _ _ _ ((13,.int .i64 n)::(14,.bool ok)::(6,.int .i64 a')::(7,.int .i64 b')::(8,.int .i64 c')::_) _ (_) _
  dsimp only at hq
  refine Vs 5 O ?_
  refine zm2 O (fun w hI=>zly O (by first | exact za | rfl)) ?_
  refine Vs 2 O ?_
  refine V.bool O (fun hok=>?_) (fun hok=>?_)
  ·
   have hok':ok=false:=by simpa using hok
   have hN:zS vs r=1:=by unfold zS;rw [zdk (by rw [hq,hok'];rfl)]
   refine Vs 13 O ?_
   refine zku Tryz.results133 O O (fun w hI=>⟨_,rfl,⟨_,by rw [hN],fun _=>rfl,fun h=>by omega⟩,hI.k0⟩)
  ·
   have hok':ok=true:=by simpa using hok
   rw [hok',zo4 rfl] at hq
   have hz:∀ c,c=inB (x,n)->(b&&c)=((vs.take (i+1)).zip (s.vals++[n])).all inB:=by
    intro c hc
    rw [zg he_x,List.zip_append (by rw [hv1,zon];omega),List.all_append,<- hb,hc]
    simp
   refine Vs 10 O ?_
   refine V.sp 69 O (fun g1=>?_) (fun g1=>?_)
   ·
    refine Vs 15 O ?_
    refine zmO 77 [(0,_)] tR27 ts3 tz3 (by decide) O O (by kernel_rfl) (fun b77=>?_)
    refine zmv 15 77 tu27 Tryz.el3 O (by decide) O O (by omega) (by omega) (fun u15=>?_)
    refine Va 9 O (by omega) ?_
    refine zmK 15 O (e':=.row 3 1 u15 (s.vals++[n]).length ((s.vals++[n]).map zd)) (by simp [zd]) ?_
    refine zki (⟨i+1,⟨s.vals++[n],a',b',c'⟩,u15,false⟩) (zlO O) (zlP O) (⟨by omega,hq,by rw [<- hz false (by unfold inB;rw [zo6 (p:=x.low<=n) (by omega)];rfl),Bool.and_false]⟩) (by first | omega | (dsimp only;omega)) 0 O O
   ·
    refine Vs 7 O ?_
    refine zk7 O (fun t1=>?_) (fun t1=>?_)
    ·
     refine Vs 7 O ?_
     refine zmO 1077 [(0,_)] tR27 ts3 tz3 (by decide) O O (by kernel_rfl) (fun b1077=>?_)
     refine zmv 15 1077 tu27 Tryz.el3 O (by decide) O O (by omega) (by omega) (fun u15=>?_)
     refine Va 9 O (by omega) ?_
     refine zmK 15 O (e':=.row 3 1 u15 (s.vals++[n]).length ((s.vals++[n]).map zd)) (by simp [zd]) ?_
     refine zki (⟨i+1,⟨s.vals++[n],a',b',c'⟩,u15,false⟩) (zlO O) (zlP O) (⟨by omega,hq,by rw [<- hz false (by unfold inB;rw [zo6 (p:=n<=x.high) (by omega),Bool.and_false]),Bool.and_false]⟩) (by first | omega | (dsimp only;omega)) 0 O O
    ·
     refine Vs 5 O ?_
     refine zmO 2077 [(0,_)] tR27 ts3 tz3 (by decide) O O (by kernel_rfl) (fun b2077=>?_)
     refine zmv 15 2077 tu27 Tryz.el3 O (by decide) O O (by omega) (by omega) (fun u15=>?_)
     refine Va 9 O (by omega) ?_
     refine zmK 15 O (e':=.row 3 1 u15 (s.vals++[n]).length ((s.vals++[n]).map zd)) (by simp [zd]) ?_
     refine zki (⟨i+1,⟨s.vals++[n],a',b',c'⟩,u15,b⟩) (zlO O) (zlP O) (⟨by omega,hq,by rw [<- hz true (by unfold inB;rw [zo5 (p:=x.low<=n) (by omega),zo5 (p:=n<=x.high) (by omega)];rfl),Bool.and_true]⟩) (by first | omega | (dsimp only;omega)) 0 O O
 ·
  have hii:i=vs.length:=by omega
  rw [hii,znY] at hs hb
  have hS:kH vs r=some s:=hs
  have hC:zS vs r=kW vs r s:=by unfold zS;rw [hS]
  have hV:xx vs r=s.vals:=by unfold xx;rw [hS]
  rw [hC,hV]
  refine Vs 14 O ?_
  refine V.sp 84 O (fun e1=>?_) (fun e1=>?_)
  ·
   have hF:kW vs r s=1:=by unfold kW;rw [zo4 (.inl (by omega))]
   rw [hF]
   refine Vs 24 O ?_
   refine zku Tryz.results133 O O (fun w hI=>⟨_,rfl,⟨_,rfl,fun _=>rfl,fun h=>by omega⟩,hI.k0⟩)
  ·
   refine Vs 7 O ?_
   refine V.sp 91 O (fun e2=>?_) (fun e2=>?_)
   ·
    have hF:kW vs r s=1:=by unfold kW;rw [zo4 (.inr (.inl (by omega)))]
    rw [hF]
    refine Vs 17 O ?_
    refine zku Tryz.results133 O O (fun w hI=>⟨_,rfl,⟨_,rfl,fun _=>rfl,fun h=>by omega⟩,hI.k0⟩)
   ·
    refine Vs 8 O ?_
    refine zk7 O (fun e3=>?_) (fun e3=>?_)
    ·
     have hF:kW vs r s=1:=by unfold kW;rw [zo4 (.inr (.inr (by omega)))]
     rw [hF]
     refine Vs 8 O ?_
     refine zku Tryz.results133 O O (fun w hI=>⟨_,rfl,⟨_,rfl,fun _=>rfl,fun h=>by omega⟩,hI.k0⟩)
    ·
     have hF:kW vs r s=if b=true then 0 else 3:=by unfold kW;rw [zo3 (by omega),hb]
     rw [hF]
     refine Vs 6 O ?_
     refine zm2 O (fun w hI=>zly O (by first | exact za | rfl)) ?_
     refine Vs 2 O ?_
     refine V.bool O (fun hb3=>?_) (fun hb3=>?_)
     ·
      have hb':b=false:=by simpa using hb3
      rw [hb',zo3 (by decide)]
      refine Vs 8 O ?_
      refine zku Tryz.results133 O O (fun w hI=>⟨_,rfl,⟨_,rfl,fun _=>rfl,fun h=>by omega⟩,hI.k0⟩)
     ·
      have hb':b=true:=by simpa using hb3
      rw [hb',zo4 rfl]
      refine Vs 10 O ?_
      refine zku Tryz.results133 O O (fun w hI=>⟨_,rfl,⟨_,rfl,fun h=>absurd O h,fun _=>⟨hI.at 15 rfl,hI.own 15 0 O rfl⟩⟩,hI.k0⟩)
theorem zoG (l:List Int):l.flatMap (fun x=>[zd x])=l.map zd:=(kQ l).symm
theorem zp0 (vs:List Vr) (vals:List Int) (n i:Int) (v1 v2 v3 sv:Value) (Dv D:Nat->Prop) (w:World) (hvs:SlR 5 RVr Dv w v1 vs) (hs:SlR 1 zB D w sv vals) (hlen:vals.length=vs.length) (hmx:vs.length<=1000000) (hi:0<=i/\i<vs.length) :
  Calls Tryz.prog 180 #[.agg #[v1,v2,v3],sv,.int .i64 i,.int .i64 n] w (Ret fun rr w'=>(w'.ownsRow 0 3 1 rr vals.length ((zb7 vs vals i n).map zd)/\∀ g,rr.ownBlock=some g->w.heap.size<=g)/\Ext w w'):=by
 obtain⟨av,cv,rfl⟩:=hvs.form
 obtain⟨asl,csl,rfl⟩:=hs.form
 obtain⟨i,rfl⟩:∃ j:Nat,i=j:=⟨i.toNat,by omega⟩
 refine zmd Tryz.func180 O Tryz.ntmps180 O (zmm ?_)
 refine Vs 2 O ?_
 refine V.box 4 O O (fun b4=>?_)
 refine Vs 5 O ?_
 refine V.bs0 10 tR27 ts3 O (fun b10=>?_)
 refine Vs 1 O ?_
 refine zmQ 10 (fun x=>[zd x]) (fun _=>rfl) (by simp [Value.oneCell']) zbO tu27 Tryz.el3 O (by decide) O (fun w hI=>⟨_,Tr1 hI.k0 hs⟩) (by omega) (by omega) (fun u10=>?_)
 refine zmK 10 O (e':=.row 3 1 u10 vals.length (vals.map zd)) (by rw [zoG,Nat.zero_add];rfl) ?_
 refine zmx 10 O (by omega) ?_
 rintro b c rfl hcap_10
 refine Vs 4 O ?_
 obtain⟨x,he_x,hm_x⟩:=gE_ vs (i) (by omega)
 obtain⟨b_x,o_x,c_x,ha_x,_,hc_x,hR_x⟩:=hvs.at he_x
 obtain rfl:=hR_x
 refine zmI 1000 0 O O hc_x ?_
 refine Vw [4,1000] [] O ?_
 refine Vd [0,1,2,3,4,5,9,10,11] 0 (by kernel_rfl) O O O ?_
 refine VD.ix 6 1000 tR22 ts89 O (by kernel_rfl) O ha_x (by omega) (_) (rfl) O ?_
 refine Vd [7,8] 0 (by kernel_rfl) O O O ?_
 refine VD.ix 12 1000 tR22 ts89 O (by kernel_rfl) O ha_x (by omega) (_) (rfl) O ?_
 refine Vd [13,14] 0 (by kernel_rfl) O O O ?_
 refine zmC 15 0 Tryz.call183 O (by kernel_rfl) O O (fun w hI=>zot n x.low x.high w) ?_
 refine Vb [16] 0 (by kernel_rfl) O O O (by omega) ?_
 refine zmA 17 10 0 (i) ts3 O (by kernel_rfl) O O (by omega) (by simp;omega) ?_
 refine zlb (by kernel_rfl) ?_
 refine Vs 8 O ?_
 have hx:zb7 vs vals i n=vals.set i (qp n x.low x.high):=by unfold zb7;rw [zof,he_x]
 refine zmK 10 O (e':=.row 3 1 (.slice (some ⟨b,0,none⟩) vals.length c) vals.length ((zb7 vs vals i n).map zd)) (by rw [hx,List.map_set]) ?_
 refine zkr Tryz.results180 O (fun w hI=>⟨_,rfl,⟨hI.at 10 rfl,hI.own 10 0 O rfl⟩,hI.k0⟩)
theorem zoT (f:Fl) (vals:List Int) (v1 v2 v3 sv:Value) (D Ds:Nat->Prop) (w:World) (hf:RFl D w f v1 v2 v3) (hs:SlR 1 zB Ds w sv vals) (hg:∀ v ∈ f.vars,yp (v.low,v.high)) (hV:InV f.vars vals) (hh:∀ h ∈ f.hatches,zw f.vars false h.term=true/\(rng f.vars h.term).isSome=true) (hmx:f.hatches.length<=1000000) :
  Calls Tryz.prog 135 #[.agg #[v1,v2,v3],sv] w (Ret fun rr w'=>(w'.ownsRow 0 3 1 rr f.hatches.length ((zgY vals f.hatches).map zd)/\∀ g,rr.ownBlock=some g->w.heap.size<=g)/\Ext w w'):=by
 obtain⟨hf1,hf2,hf3⟩:=hf
 obtain⟨ah,ch,rfl⟩:=hf2.form
 refine zmb Tryz.func135 O Tryz.ntmps135 O (zmm ?_)
 refine Vs 2 O ?_
 refine V.box 2 O O (fun b2=>?_)
 refine Vs 5 O ?_
 refine V.bs0 8 tR27 ts3 O (fun b8=>?_)
 refine Vs 10 O ?_
 refine zmL (σ:=Nat × Value) [1,2] [2] [2] O (fun e ⟨i,u⟩=>(5,u)::(6,.int .i64 i)::e) (fun e ⟨i,u⟩=>(8,.row 3 1 u i ((zgY vals (f.hatches.take i)).map zd))::e) (fun⟨i,u⟩=>i<=f.hatches.length) (fun⟨i,u⟩=>f.hatches.length - i) ((0,.slice (some ⟨b8,0,none⟩) 0 0)) (zlO O) (zlP O) (fun _=>rfl) (fun _=>rfl) (fun _=>rfl) (zo8 _) ?_
 rintro⟨i,u⟩ hi
 show V _ _ _ _ _ ((5,u)::(6,.int .i64 i)::_) _ ((8,.row 3 1 u i ((zgY vals (f.hatches.take i)).map zd))::_) _
 refine Vs 10 O ?_
 refine zk7 O (fun hlt=>?_) (fun hlt=>?_)
 ·
  refine Vs 9 O ?_
  obtain⟨x,he_x,hm_x⟩:=gE_ f.hatches (i) (by omega)
  obtain⟨b_x,o_x,c_x,ha_x,_,hc_x,hR_x⟩:=hf2.at he_x
  obtain⟨v1_x,rfl,hk_x⟩:=hR_x
  obtain⟨a1_x,n1_x,rfl⟩:=hk_x.form
  refine zmI 1000 0 O O hc_x ?_
  refine V.ix 1000 tR23 ts95 O ha_x (by omega) (_) (rfl) O ?_
  obtain⟨t1,t2⟩:=hh x hm_x
  refine Vs 1 O ?_
  refine V.alloc 7 tz95 O O (fun b7=>?_)
  refine Vs 3 O ?_
  refine Vw [2,1000,7] [] O ?_
  refine Vd [0,1,2,3,5,6,7,8] 0 (by kernel_rfl) O O O ?_
  refine zmC 4 0 Tryz.call181 O (by kernel_rfl) O O (fun w hI=>zk2 hg hV x.term t1 t2 _ D Ds w _ (Tr1 hI.k0 hs) (RTm.put (Tr1 hI.k0 hk_x))) ?_
  refine zmC 9 0 Tryz.call183 O (by kernel_rfl) O O (fun w hI=>zot _ x.low x.high w) ?_
  refine zmP 10 31 0 [(0,_)] tR27 ts3 tz3 (by decide) O (by kernel_rfl) O O (by kernel_rfl) (fun b31=>?_)
  refine zmw 11 8 31 0 tu27 Tryz.el3 O (by decide) O (by kernel_rfl) O O O (by omega) (by omega) (fun u8=>?_)
  refine Vd [12] 0 (by kernel_rfl) O O O ?_
  refine zlb (by kernel_rfl) ?_
  refine Va 7 O (by omega) ?_
  refine zmK 8 O (e':=.row 3 1 u8 (i+1) ((zgY vals (f.hatches.take (i+1))).map zd)) (by rw [zfx he_x,List.map_append];rfl) ?_
  refine zki ((i+1,u8)) (zlO O) (zlP O) (Nat.succ_le_of_lt (by omega)) (by first | omega | (dsimp only;omega)) 0 O O
 ·
  have hii:i=f.hatches.length:=by omega
  subst hii
  refine Vs 12 O ?_
  refine zkr Tryz.results135 O (fun w hI=>⟨_,rfl,⟨by have h:=hI.at 8 rfl;rwa [znY] at h,hI.own 8 0 O rfl⟩,hI.k0⟩)
theorem zpg (vs:List Vr) (vals:List Int) (i n:Int):(zb7 vs vals i n).length=vals.length:=by
 unfold zb7;split
 . rw [List.length_set]
 . rfl
abbrev sgV (σ:Sg) (a1:Option Addr) (c1:Nat) (a2:Option Addr) (c2:Nat):Value:=.agg #[.slice a1 σ.vals.length c1,.slice a2 σ.outs.length c2,.int .i64 σ.time]
abbrev SlI (D:Nat->Prop) (w:World) (a:Option Addr) (c:Nat) (l:List Int):Prop:=SlR 1 zB D w (.slice a l.length c) l
def zqn (D:Nat->Prop) (w w':World) (σ:Sg) (r:Value):Prop:=∃ a1 c1 a2 c2,r=sgV σ a1 c1 a2 c2/\SlI (fun b=>D b\/w.heap.size<=b) w' a1 c1 σ.vals/\SlI (fun b=>D b\/w.heap.size<=b) w' a2 c2 σ.outs
def zpC (f:Fl) (hs:List Int) (l:List St):Prop:=∀ (N:Nat) (σ:Sg),SgB f N σ->N+nbL l<=100000->∀ (D Df Dh:Nat->Prop) (w:World) (v1 v2 v3 hv lv:Value) (a1:Option Addr) (c1:Nat) (a2:Option Addr) (c2:Nat),(∀ b,D b->b<w.heap.size)->RFl Df w f v1 v2 v3->SlR 1 zB Dh w hv hs->SlR 10 RSt Df w lv l->SlI D w a1 c1 σ.vals->SlI D w a2 c2 σ.outs ->
 Calls Tryz.prog 134 #[.agg #[v1,v2,v3],hv,lv,sgV σ a1 c1 a2 c2] w (Ret fun r w'=>zqn D w w' (exL f hs l σ) r/\Ext w w')
theorem zpD (f:Fl) (hs:List Int) (hg:∀ v ∈ f.vars,yp (v.low,v.high)) (x:St) (ho:StepOk f x) (hn:0<=x.n) (hp:PreOk f x.thn) (ih:zpC f hs x.thn) (N:Nat) (σ:Sg) (hB:SgB f N σ) (hN:N+x.n.toNat*(1+nbL x.thn)<=100000) (D Df Dh:Nat->Prop) (w:World) (v1 v2 v3 hv:Value) (a1:Option Addr) (c1:Nat) (a2:Option Addr) (c2:Nat) (_:∀ b,D b->b<w.heap.size) (hf:RFl Df w f v1 v2 v3) (hh:SlR 1 zB Dh w hv hs) (ax:Option Addr) (nx:Nat) (bx:Option Addr) (mx:Nat) (ex:Option Addr) (ox:Nat) (fx:Option Addr) (px:Nat)
  (hk:SlR 3 RTm Df w (.slice ax x.term.kids.length nx) x.term.kids) (ht:SlR 10 RSt Df w (.slice bx x.thn.length mx) x.thn) (hs1:SlI D w a1 c1 σ.vals) (hs2:SlI D w a2 c2 σ.outs) :
  Calls Tryz.prog 179 #[.agg #[v1,v2,v3],hv,.agg #[.int .i64 x.act,.int .i64 x.cost,.int .i64 x.var,.int .i64 x.n,.int .i64 x.term.op,.int .i64 x.term.n,.slice ax x.term.kids.length nx,.slice bx x.thn.length mx,.slice ex x.els.length ox,.slice fx x.bounds.length px],sgV σ a1 c1 a2 c2] w
   (Ret fun r w'=>zqn D w w' (qf (exL f hs x.thn) x.cost x.term x.n.toNat σ) r/\Ext w w'):=by
 refine zmd Tryz.func179 O Tryz.ntmps179 O (zmm ?_)
 refine Vs 2 O ?_
 refine V.box 4 O O (fun b4=>?_)
 refine V.box 6 O O (fun b6=>?_)
 refine V.box 7 O O (fun b7=>?_)
 refine V.alloc 8 Tryz.zeroValue123 O O (fun b8=>?_)
 refine Vs 9 O ?_
 refine V.dat 900 0 O O O (hs1) (fun _ _ _ h=>h) ?_
 refine V.dat 901 0 O O O (hs2) (fun _ _ _ h=>h) ?_
 refine zmL (σ:=Nat × Sg × Option Addr × Nat × Option Addr × Nat × (Nat->Prop) × (Nat->Prop)) [1,4,6,7,8] [4,6,8] [4,6,7,8] O (fun e ⟨k,s,p1,q1,p2,q2,F1,F2⟩=>(9,.int .i64 k)::e) (fun e ⟨k,s,p1,q1,p2,q2,F1,F2⟩=>(7,.own b7 [.slice p1 s.vals.length q1,.slice p2 s.outs.length q2,.int .i64 s.time] 123)::(900,.dat F1 (fun w=>SlI F1 w p1 q1 s.vals))::(901,.dat F2 (fun w=>SlI F2 w p2 q2 s.outs))::e) (fun⟨k,s,p1,q1,p2,q2,F1,F2⟩=>k<=x.n.toNat/\qf (exL f hs x.thn) x.cost x.term x.n.toNat σ=qf (exL f hs x.thn) x.cost x.term (x.n.toNat - k) s/\SgB f (N+k*(1+nbL x.thn)) s/\(∀ b,F1 b->D b\/w.heap.size<=b)/\(∀ b,F2 b->D b\/w.heap.size<=b)) (fun⟨k,s,p1,q1,p2,q2,F1,F2⟩=>x.n.toNat - k) ((0,σ,a1,c1,a2,c2,fun b=>D b/\b<w.heap.size,fun b=>D b/\b<w.heap.size)) (zlO O) (zlP O) (fun _=>rfl) (fun _=>rfl) (fun _=>rfl) (⟨zo8 _,rfl,by simpa using hB,fun b h=>.inl h.1,fun b h=>.inl h.1⟩) ?_
 rintro⟨k,s,p1,q1,p2,q2,F1,F2⟩ ⟨hk1,hall,hsB,hF1,hF2⟩
 show V _ _ _ _ _ ((9,.int .i64 k)::_) _ ((7,.own b7 [.slice p1 s.vals.length q1,.slice p2 s.outs.length q2,.int .i64 s.time] 123)::(900,.dat F1 (fun w=>SlI F1 w p1 q1 s.vals))::(901,.dat F2 (fun w=>SlI F2 w p2 q2 s.outs))::_) _
 have hcost:=ho.cost
 have ht0:=hsB.t0
 have ht1:=hsB.t1
 refine Vs 9 O ?_
 refine zk7 O (fun hlt=>?_) (fun hlt=>?_)
 ·
  obtain⟨m,hm⟩:∃ m,x.n.toNat - k=m+1:=⟨x.n.toNat - k - 1,by omega⟩
  have hm':x.n.toNat - (k+1)=m:=by omega
  have hkn:(k+1)*(1+nbL x.thn)<=x.n.toNat*(1+nbL x.thn):=Nat.mul_le_mul_right _ (by omega)
  rw [Nat.succ_mul] at hkn
  have hkb:k<=k*(1+nbL x.thn):=Nat.le_mul_of_pos_right _ (by omega)
  rw [hm,qf] at hall
  have hs1':=hsB.cost ho
  refine Va 22 O (by omega) ?_
  refine zmB Tryz.call181 O (fun w hI=>zk2 hg hsB.inv x.term ho.formed ho.ranged _ Df F1 w _ (hI.at 900 O).1 (RTm.put (Tr1 hI.k0 hk))) ?_
  refine Vs 3 O ?_
  refine zk7 O (fun z=>?_) (fun z=>?_)
  ·
   rw [zo4 z] at hall
   rw [hall]
   refine Vs 13 O ?_
   refine zkz Tryz.results179 Tryz.isAgg123 Tryz.sizeOf123 O O O (fun w hI=>⟨_,rfl,⟨_,_,_,_,rfl,(hI.at 900 O).1.wide zc hF1,(hI.at 901 O).1.wide zc hF2⟩,hI.k0⟩)
  ·
   rw [zo3 z] at hall
   refine Vs 8 O ?_
   refine zmD Tryz.call134 O (fun w hI=>ih _ { s with time:=s.time+x.cost } hs1' (by omega) (fun b=>F1 b\/F2 b) Df Dh w v1 v2 v3 hv _ p1 q1 p2 q2 (fun b hb=>hb.elim ((hI.at 900 O).2 b) ((hI.at 901 O).2 b)) (Tr1 hI.k0 hf) (Tr1 hI.k0 hh) (Tr1 hI.k0 ht) ((hI.at 900 O).1.wide zc (fun _ h=>.inl h)) ((hI.at 901 O).1.wide zc (fun _ h=>.inr h))) ?_
   rintro r w1 w2 hI1 hk12 ⟨p1',q1',p2',q2',rfl,hr1,hr2⟩ hlow
   have hoff:∀ b,((F1 b\/F2 b)\/w1.heap.size<=b)->b<w2.heap.size->¬ HS _ b:=fun b hb _=>hb.elim (fun h=>h.elim (hI1.offF 900 rfl b) (hI1.offF 901 rfl b)) (fun h hs=>by have:=hlow b hs;omega)
   have hsz:w.heap.size<=w1.heap.size:=hI1.k0.size
   refine Va 9 O (by omega) ?_
   refine V.del 900 O ?_
   refine V.dat 900 0 O O O (hr1) (hoff) ?_
   refine V.del 901 O ?_
   refine V.dat 901 0 O O O (hr2) (hoff) ?_
   have hFF:∀ b,((F1 b\/F2 b)\/w1.heap.size<=b)/\b<w2.heap.size->D b\/w.heap.size<=b:=fun b hb=>hb.1.elim (fun h=>h.elim (hF1 b) (hF2 b)) (fun h=>.inr (by omega))
   refine zki (⟨k+1,_,p1',q1',p2',q2',_,_⟩) (zlO O) (zlP O) (⟨by omega,by rw [hm'];exact hall,(zaI hg x.thn hp _ _ hs1').mono (by rw [Nat.succ_mul];omega),hFF,hFF⟩) (by first | omega | (dsimp only;omega)) 1 O O
 ·
  have hkk:k=x.n.toNat:=by omega
  rw [hkk,Nat.sub_self,qf] at hall
  rw [hall]
  refine Vs 12 O ?_
  refine zkz Tryz.results179 Tryz.isAgg123 Tryz.sizeOf123 O O O (fun w hI=>⟨_,rfl,⟨_,_,_,_,rfl,(hI.at 900 O).1.wide zc hF1,(hI.at 901 O).1.wide zc hF2⟩,hI.k0⟩)
theorem zpS (f:Fl) (hs:List Int) (hg:∀ v ∈ f.vars,yp (v.low,v.high)) (hlen:hs.length=f.hatches.length) (hvl:f.vars.length<=1000) (l:List St):PreOk f l->zpC f hs l:=by
 induction l using zlH with
 | h l ih =>
 intro hp N σ hB hN D Df Dh w v1 v2 v3 hv lv a1 c1 a2 c2 hD hf hh hl hs1 hs2
 obtain⟨al,cl,rfl⟩:=hl.form
 obtain⟨ahv,chv,rfl⟩:=hh.form
 have hlm:=hl.max
 refine zmd Tryz.func134 O Tryz.ntmps134 O (zmm ?_)
 refine Vs 2 O ?_
 refine V.box 4 O O (fun b4=>?_)
 refine V.box 7 O O (fun b7=>?_)
 refine V.alloc 8 Tryz.zeroValue123 O O (fun b8=>?_)
 refine Vs 9 O ?_
 refine V.dat 900 0 O O O (hs1) (fun _ _ _ h=>h) ?_
 refine V.dat 901 0 O O O (hs2) (fun _ _ _ h=>h) ?_
 refine zmL (σ:=Nat × Sg × Option Addr × Nat × Option Addr × Nat × (Nat->Prop) × (Nat->Prop)) [1,2,4,7,8] [4,8] [4,7,8] O (fun e ⟨i,s,p1,q1,p2,q2,F1,F2⟩=>(9,.int .i64 i)::e) (fun e ⟨i,s,p1,q1,p2,q2,F1,F2⟩=>(7,.own b7 [.slice p1 s.vals.length q1,.slice p2 s.outs.length q2,.int .i64 s.time] 123)::(900,.dat F1 (fun w=>SlI F1 w p1 q1 s.vals))::(901,.dat F2 (fun w=>SlI F2 w p2 q2 s.outs))::e) (fun⟨i,s,p1,q1,p2,q2,F1,F2⟩=>i<=l.length/\s=exL f hs (l.take i) σ/\SgB f (N+nbL (l.take i)) s/\(∀ b,F1 b->D b\/w.heap.size<=b)/\(∀ b,F2 b->D b\/w.heap.size<=b)) (fun⟨i,s,p1,q1,p2,q2,F1,F2⟩=>l.length - i) ((0,σ,a1,c1,a2,c2,fun b=>D b/\b<w.heap.size,fun b=>D b/\b<w.heap.size)) (zlO O) (zlP O) (fun _=>rfl) (fun _=>rfl) (fun _=>rfl) (⟨zo8 _,rfl,by simpa [nbL] using hB,fun b h=>.inl h.1,fun b h=>.inl h.1⟩) ?_
 rintro⟨i,s,p1,q1,p2,q2,F1,F2⟩ ⟨hi,hall,hsB,hF1,hF2⟩
 show V _ _ _ _ _ ((9,.int .i64 i)::_) _ ((7,.own b7 [.slice p1 s.vals.length q1,.slice p2 s.outs.length q2,.int .i64 s.time] 123)::(900,.dat F1 (fun w=>SlI F1 w p1 q1 s.vals))::(901,.dat F2 (fun w=>SlI F2 w p2 q2 s.outs))::_) _
 have ht0:=hsB.t0
 have ht1:=hsB.t1
 have hol:=hsB.ol
 refine Vs 9 O ?_
 refine zk7 O (fun hlt=>?_) (fun hlt=>?_)
 ·
  refine Vs 8 O ?_
  obtain⟨x,he_x,hm_x⟩:=gE_ l (i) (by omega)
  obtain⟨b_x,o_x,c_x,ha_x,_,hc_x,hR_x⟩:=hl.at he_x
  obtain⟨v1_x,v2_x,v3_x,v4_x,rfl,hk_x,ht_x,hs_x,hb_x⟩:=hR_x.get
  obtain⟨a1_x,n1_x,rfl⟩:=hk_x.form
  obtain⟨a2_x,n2_x,rfl⟩:=ht_x.form
  obtain⟨a3_x,n3_x,rfl⟩:=hs_x.form
  obtain⟨a4_x,n4_x,rfl⟩:=hb_x.form
  refine zmI 1000 0 O O hc_x ?_
  refine V.ix 1000 tR24 ts92 O ha_x (by omega) (_) (rfl) O ?_
  obtain⟨⟨ho,hse,hn4⟩,hp1,hp2⟩:=hp.kids hm_x
  obtain⟨i1,i2⟩:=ih x hm_x
  have hcost:=ho.cost
  have hnx:nbL (l.take (i+1))=nbL (l.take i)+nbS x:=by rw [zg he_x,ki];rfl
  have hnl:nbL (l.take (i+1))<=nbL l:=zgZ l (i+1)
  have hnx1:=zic x
  have hex:exL f hs (l.take (i+1)) σ=exS f hs x s:=by rw [zg he_x,zbj,<- hall];rfl
  have hnS:=zdZ x
  have hinv:SgB f (N+nbL (l.take (i+1))) (exS f hs x s):=by
   rw [<- hex]
   exact zaI hg _ (fun s hs=>hp s (by rw [<- List.take_append_drop (i+1) l,jh];simp [hs])) N σ hB
  have hs1':=hsB.cost ho
  have hi1:i+1<=l.length:=by omega
  refine Vs 1 O ?_
  refine V.alloc 10 tz92 O O (fun b10=>?_)
  refine Vs 11 O ?_
  refine zk7 O (fun a4=>?_) (fun a4=>?_)
  ·
   rw [zo3 (by omega),zo4 a4] at hnS
   have hx:exS f hs x s=qf (exL f hs x.thn) x.cost x.term x.n.toNat s:=by rw [jK,zo3 (by omega),zo4 a4]
   refine Vs 6 O ?_
   refine zmD Tryz.call179 O (fun w hI=>zpD f hs hg x ho (hn4 a4) hp1 (i1 hp1) _ s hsB (by omega) (fun b=>F1 b\/F2 b) Df Dh w v1 v2 v3 _ p1 q1 p2 q2 (fun b hb=>hb.elim ((hI.at 900 O).2 b) ((hI.at 901 O).2 b)) (Tr1 hI.k0 hf) (Tr1 hI.k0 hh) _ _ _ _ _ _ _ _ (Tr1 hI.k0 hk_x) (Tr1 hI.k0 ht_x) ((hI.at 900 O).1.wide zc (fun _ h=>.inl h)) ((hI.at 901 O).1.wide zc (fun _ h=>.inr h))) ?_
   rintro r w1 w2 hI1 hk12 ⟨p1',q1',p2',q2',rfl,hr1,hr2⟩ hlow
   have hoff:∀ b,((F1 b\/F2 b)\/w1.heap.size<=b)->b<w2.heap.size->¬ HS _ b:=fun b hb _=>hb.elim (fun h=>h.elim (hI1.offF 900 rfl b) (hI1.offF 901 rfl b)) (fun h hs=>by have:=hlow b hs;omega)
   have hsz:w.heap.size<=w1.heap.size:=hI1.k0.size
   have hFF:∀ b,((F1 b\/F2 b)\/w1.heap.size<=b)/\b<w2.heap.size->D b\/w.heap.size<=b:=fun b hb=>hb.1.elim (fun h=>h.elim (hF1 b) (hF2 b)) (fun h=>.inr (by omega))
   refine Va 12 O (by omega) ?_
   refine V.del 900 O ?_
   refine V.dat 900 0 O O O (hr1) (hoff) ?_
   refine V.del 901 O ?_
   refine V.dat 901 0 O O O (hr2) (hoff) ?_
   refine zki (⟨i+1,_,p1',q1',p2',q2',_,_⟩) (zlO O) (zlP O) (⟨hi1,by rw [hex,hx],by rw [<- hx];exact hinv,hFF,hFF⟩) (by first | omega | (dsimp only;omega)) 1 O O
  ·
   refine Va 26 O (by omega) ?_
   refine zk7 O (fun a0=>?_) (fun a0=>?_)
   ·
    have hx:exS f hs x s={ s with vals:=zb7 f.vars s.vals x.var (qq s.vals x.term),time:=s.time+x.cost }:=by rw [jK,zo3 (by omega),zo3 a4];unfold jk;rw [zo4 a0]
    have hvar:=ho.var (.inl a0)
    refine Vw [4,8,7,1000,10] [12] O ?_
    refine Vd [0,1,2,3,4,5,6,7,8] 0 (by kernel_rfl) O O O ?_
    refine zmC 9 0 Tryz.call181 O (by kernel_rfl) O O (fun w hI=>zk2 hg hsB.inv x.term ho.formed ho.ranged _ Df F1 w _ (hI.at 900 O).1 (RTm.put (Tr1 hI.k0 hk_x))) ?_
    refine VD.call2 10 0 Tryz.call180 O (by kernel_rfl) O O (fun w hI=>zp0 f.vars s.vals _ x.var v1 v2 v3 _ Df F1 w (Tr1 hI.k0 hf.vars) (hI.at 900 O).1 hsB.inv.len (by omega) hvar) ?_
    rintro r w1 w2 hI1 hk12 ⟨hr1,hr2⟩ hlow
    rw [<- zpg f.vars s.vals x.var (qq s.vals x.term)] at hr1
    obtain⟨ar,cr,rfl⟩:=jr hr1
    have hsz:w.heap.size<=w1.heap.size:=hI1.k0.size
    refine Vd [11] 1 (by kernel_rfl) O O O ?_
    refine Vl 12 O (by kernel_rfl) O ?_
    refine zlc (by kernel_rfl) ?_
    refine Va 8 O (by omega) ?_
    refine V.del 900 O ?_
    refine V.dat 900 0 O O O (zlh (R:=zB) (D:=fun b=>w1.heap.size<=b) zd (fun _ _=>rfl) hr1 hr2) (fun b hb _ hs=>by have:=hlow b hs;omega) ?_
    refine zki (⟨i+1,{ s with vals:=zb7 f.vars s.vals x.var (qq s.vals x.term),time:=s.time+x.cost },ar,cr,p2,q2,_,F2⟩) (zlO O) (zlP O) (⟨hi1,by rw [hex,hx],by rw [<- hx];exact hinv,fun b hb=>.inr (by omega),hF2⟩) (by first | omega | (dsimp only;omega)) 1 O O
   ·
    refine Vs 6 O ?_
    refine zk7 O (fun a1=>?_) (fun a1=>?_)
    ·
     have hx:exS f hs x s={ s with outs:=s.outs++[qq s.vals x.term],time:=s.time+x.cost }:=by rw [jK,zo3 (by omega),zo3 a4];unfold jk;rw [zo3 a0,zo4 a1]
     refine Vw [4,8,7,1000,10] [12] O ?_
     refine Vd [1,2,4,5,6,7] 0 (by kernel_rfl) O O O ?_
     refine VD.bs0 0 53 0 tR27 ts3 O (by kernel_rfl) O (fun b53=>?_)
     refine VD.apS 3 53 0 (fun x=>[zd x]) (fun _=>rfl) (by simp [Value.oneCell']) zbO tu27 Tryz.el3 O (by decide) O (by kernel_rfl) O O (fun w hI=>⟨_,(hI.at 901 O).1⟩) (by omega) (by omega) (fun u53=>?_)
     refine zmC 8 0 Tryz.call181 O (by kernel_rfl) O O (fun w hI=>zk2 hg hsB.inv x.term ho.formed ho.ranged _ Df F1 w _ (hI.at 900 O).1 (RTm.put (Tr1 hI.k0 hk_x))) ?_
     refine zmP 9 62 0 [(0,_)] tR27 ts3 tz3 (by decide) O (by kernel_rfl) O O (by kernel_rfl) (fun b62=>?_)
     refine zmw 10 53 62 0 tu27 Tryz.el3 O (by decide) O (by kernel_rfl) O O O (by omega) (by omega) (fun u53=>?_)
     refine Vd [11] 0 (by kernel_rfl) O O O ?_
     refine zmy 53 O (by omega) ?_
     rintro bo co rfl hcap_53
     refine Vl 12 O (by kernel_rfl) O ?_
     refine zlc (by kernel_rfl) ?_
     refine Va 8 O (by omega) ?_
     refine zmK 7 O (e':=.own b7 [.slice p1 s.vals.length q1,.slice (some ⟨bo,0,none⟩) (s.outs++[qq s.vals x.term]).length co,.int .i64 (s.time+x.cost)] 123) (by rw [zo1,Nat.zero_add];rfl) ?_
     refine zmK 53 O (e':=.row 3 1 (.slice (some ⟨bo,0,none⟩) (s.outs++[qq s.vals x.term]).length co) (s.outs++[qq s.vals x.term]).length ((s.outs++[qq s.vals x.term]).map zd)) (by rw [zo1,Nat.zero_add,zoG,List.map_append];rfl) ?_
     refine zmn (p:=w.heap.size<=bo) (fun w hI=>hI.own 53 0 O O bo O) (fun hbo=>?_)
     refine V.del 901 O ?_
     refine zqz 53 901 (R:=zB) zd (fun _ _ _=>rfl) O O ?_
     refine zki (⟨i+1,{ s with outs:=s.outs++[qq s.vals x.term],time:=s.time+x.cost },p1,q1,some ⟨bo,0,none⟩,co,F1,_⟩) (zlO O) (zlP O) (⟨hi1,by rw [hex,hx],by rw [<- hx];exact hinv,hF1,fun b hb=>.inr (by have hb:some bo=some b:=hb;cases hb;exact hbo)⟩) (by first | omega | (dsimp only;omega)) 0 O O
    ·
     refine Vs 6 O ?_
     refine zk7 O (fun a5=>?_) (fun a5=>?_)
     ·
      have hx:exS f hs x s={ s with vals:=zb7 f.vars s.vals x.var (lki hs x.n.toNat),time:=s.time+x.cost }:=by rw [jK,zo3 (by omega),zo3 a4];unfold jk;rw [zo3 a0,zo3 a1,zo4 a5]
      have hvar:=ho.var (.inr a5)
      have hnum:=ho.num a5
      obtain⟨y,he_y,hm_y⟩:=gE_ hs (x.n.toNat) (by omega)
      obtain⟨b_y,o_y,c_y,ha_y,_,hc_y,hR_y⟩:=hh.at he_y
      obtain rfl:=hR_y
      refine zmI 2000 0 O O hc_y ?_
      have hy:lki hs x.n.toNat=y:=zhI he_y
      rw [hy] at hx
      refine Vw [4,8,7,1000,10,2000] [12] O ?_
      refine Vd [0,1,2,3,4,5,6,7] 0 (by kernel_rfl) O O O ?_
      refine VD.ix 8 2000 tR27 ts3 O (by kernel_rfl) O ha_y (by omega) (x.n.toNat) (by omega) O ?_
      refine Vd [9] 0 (by kernel_rfl) O O O ?_
      refine VD.call2 10 0 Tryz.call180 O (by kernel_rfl) O O (fun w hI=>zp0 f.vars s.vals y x.var v1 v2 v3 _ Df F1 w (Tr1 hI.k0 hf.vars) (hI.at 900 O).1 hsB.inv.len (by omega) hvar) ?_
      rintro r w1 w2 hI1 hk12 ⟨hr1,hr2⟩ hlow
      rw [<- zpg f.vars s.vals x.var y] at hr1
      obtain⟨ar,cr,rfl⟩:=jr hr1
      have hsz:w.heap.size<=w1.heap.size:=hI1.k0.size
      refine Vd [11] 1 (by kernel_rfl) O O O ?_
      refine Vl 12 O (by kernel_rfl) O ?_
      refine zlc (by kernel_rfl) ?_
      refine Va 8 O (by omega) ?_
      refine V.del 900 O ?_
      refine V.dat 900 0 O O O (zlh (R:=zB) (D:=fun b=>w1.heap.size<=b) zd (fun _ _=>rfl) hr1 hr2) (fun b hb _ hs=>by have:=hlow b hs;omega) ?_
      refine zki (⟨i+1,{ s with vals:=zb7 f.vars s.vals x.var y,time:=s.time+x.cost },ar,cr,p2,q2,_,F2⟩) (zlO O) (zlP O) (⟨hi1,by rw [hex,hx],by rw [<- hx];exact hinv,fun b hb=>.inr (by omega),hF2⟩) (by first | omega | (dsimp only;omega)) 1 O O
     ·
      refine Vs 6 O ?_
      refine zk7 O (fun a3=>?_) (fun a3=>?_)
      ·
       have hx:=jK f hs x s
       rw [zo4 a3] at hx
       rw [zo4 a3] at hnS
       refine Vs 6 O ?_
       refine zmB Tryz.call181 O (fun w hI=>zk2 hg hsB.inv x.term ho.formed ho.ranged _ Df F1 w _ (hI.at 900 O).1 (RTm.put (Tr1 hI.k0 hk_x))) ?_
       refine Vs 3 O ?_
       refine zk7 O (fun z=>?_) (fun z=>?_)
       ·
        rw [zo4 z] at hx
        refine Vs 6 O ?_
        refine zmD Tryz.call134 O (fun w hI=>i1 hp1 _ { s with time:=s.time+x.cost } hs1' (by omega) (fun b=>F1 b\/F2 b) Df Dh w v1 v2 v3 _ _ p1 q1 p2 q2 (fun b hb=>hb.elim ((hI.at 900 O).2 b) ((hI.at 901 O).2 b)) (Tr1 hI.k0 hf) (Tr1 hI.k0 hh) (Tr1 hI.k0 ht_x) ((hI.at 900 O).1.wide zc (fun _ h=>.inl h)) ((hI.at 901 O).1.wide zc (fun _ h=>.inr h))) ?_
        rintro r w1 w2 hI1 hk12 ⟨p1',q1',p2',q2',rfl,hr1,hr2⟩ hlow
        have hoff:∀ b,((F1 b\/F2 b)\/w1.heap.size<=b)->b<w2.heap.size->¬ HS _ b:=fun b hb _=>hb.elim (fun h=>h.elim (hI1.offF 900 rfl b) (hI1.offF 901 rfl b)) (fun h hs=>by have:=hlow b hs;omega)
        have hsz:w.heap.size<=w1.heap.size:=hI1.k0.size
        have hFF:∀ b,((F1 b\/F2 b)\/w1.heap.size<=b)/\b<w2.heap.size->D b\/w.heap.size<=b:=fun b hb=>hb.1.elim (fun h=>h.elim (hF1 b) (hF2 b)) (fun h=>.inr (by omega))
        refine Va 10 O (by omega) ?_
        refine V.del 900 O ?_
        refine V.dat 900 0 O O O (hr1) (hoff) ?_
        refine V.del 901 O ?_
        refine V.dat 901 0 O O O (hr2) (hoff) ?_
        refine zki (⟨i+1,_,p1',q1',p2',q2',_,_⟩) (zlO O) (zlP O) (⟨hi1,by rw [hex,hx],by rw [<- hx];exact hinv,hFF,hFF⟩) (by first | omega | (dsimp only;omega)) 1 O O
       ·
        rw [zo3 z] at hx
        refine Vs 6 O ?_
        refine zmD Tryz.call134 O (fun w hI=>i2 hp2 _ { s with time:=s.time+x.cost } hs1' (by omega) (fun b=>F1 b\/F2 b) Df Dh w v1 v2 v3 _ _ p1 q1 p2 q2 (fun b hb=>hb.elim ((hI.at 900 O).2 b) ((hI.at 901 O).2 b)) (Tr1 hI.k0 hf) (Tr1 hI.k0 hh) (Tr1 hI.k0 hs_x) ((hI.at 900 O).1.wide zc (fun _ h=>.inl h)) ((hI.at 901 O).1.wide zc (fun _ h=>.inr h))) ?_
        rintro r w1 w2 hI1 hk12 ⟨p1',q1',p2',q2',rfl,hr1,hr2⟩ hlow
        have hoff:∀ b,((F1 b\/F2 b)\/w1.heap.size<=b)->b<w2.heap.size->¬ HS _ b:=fun b hb _=>hb.elim (fun h=>h.elim (hI1.offF 900 rfl b) (hI1.offF 901 rfl b)) (fun h hs=>by have:=hlow b hs;omega)
        have hsz:w.heap.size<=w1.heap.size:=hI1.k0.size
        have hFF:∀ b,((F1 b\/F2 b)\/w1.heap.size<=b)/\b<w2.heap.size->D b\/w.heap.size<=b:=fun b hb=>hb.1.elim (fun h=>h.elim (hF1 b) (hF2 b)) (fun h=>.inr (by omega))
        refine Va 10 O (by omega) ?_
        refine V.del 900 O ?_
        refine V.dat 900 0 O O O (hr1) (hoff) ?_
        refine V.del 901 O ?_
        refine V.dat 901 0 O O O (hr2) (hoff) ?_
        refine zki (⟨i+1,_,p1',q1',p2',q2',_,_⟩) (zlO O) (zlP O) (⟨hi1,by rw [hex,hx],by rw [<- hx];exact hinv,hFF,hFF⟩) (by first | omega | (dsimp only;omega)) 1 O O
      ·
       refine Vs 6 O ?_
       refine zk7 O (fun a6=>?_) (fun a6=>?_)
       ·
        have hx:exS f hs x s={ s with time:=qG x.bounds (s.time+x.cost) }:=by rw [jK,zo3 (by omega),zo3 a4];unfold jk;rw [zo3 a0,zo3 a1,zo3 a5,zo4 a6]
        refine Vs 5 O ?_
        refine zmB Tryz.call182 O (fun w hI=>zoS x.bounds (s.time+x.cost) _ Df w (Tr1 hI.k0 hb_x)) ?_
        refine Va 11 O (by omega) ?_
        refine zki (⟨i+1,{ s with time:=qG x.bounds (s.time+x.cost) },p1,q1,p2,q2,F1,F2⟩) (zlO O) (zlP O) (⟨hi1,by rw [hex,hx],by rw [<- hx];exact hinv,hF1,hF2⟩) (by first | omega | (dsimp only;omega)) 0 O O
       ·
        have hx:exS f hs x s={ s with time:=s.time+x.cost }:=by rw [jK,zo3 (by omega),zo3 a4];unfold jk;rw [zo3 a0,zo3 a1,zo3 a5,zo3 a6]
        refine Va 9 O (by omega) ?_
        refine zki (⟨i+1,{ s with time:=s.time+x.cost },p1,q1,p2,q2,F1,F2⟩) (zlO O) (zlP O) (⟨hi1,by rw [hex,hx],by rw [<- hx];exact hinv,hF1,hF2⟩) (by first | omega | (dsimp only;omega)) 0 O O
 ·
  have hii:i=l.length:=by omega
  subst hii
  rw [znY] at hall
  subst hall
  refine Vs 12 O ?_
  refine zkz Tryz.results134 Tryz.isAgg123 Tryz.sizeOf123 O O O (fun w hI=>⟨_,rfl,⟨_,_,_,_,rfl,(hI.at 900 O).1.wide zc hF1,(hI.at 901 O).1.wide zc hF2⟩,hI.k0⟩)
theorem zqe (f:Fl) (r:Ins) (v1 v2 v3 s1 s2 s3:Value) (D D1 D2 D3:Nat->Prop) (W:World) (hf:RFl D W f v1 v2 v3) (hi1:SlR 1 zB D1 W s1 r.secret) (hi2:SlR 1 zB D2 W s2 r.pub) (hi3:SlR 1 zB D3 W s3 r.random) (hsz:zm f.body+zC f.hatches<=1024) (hbk:zt f.body<=1000000) :
  Calls Tryz.prog 86 #[.agg #[v1,v2,v3],.agg #[s1,s2,s3]] W (Ret fun rr w'=>(∃ st,rr=.tuple #[st,.int .i64 (zV f r)]/\(zV f r ≠ 0->st=.agg #[.slice none 0 0,.slice none 0 0,.int .i64 0])/\(zV f r=0->∃ a1 c1 a2 c2,st=sgV (qs f r) a1 c1 a2 c2/\SlI (fun b=>W.heap.size<=b) w' a1 c1 (qs f r).vals/\SlI (fun b=>W.heap.size<=b) w' a2 c2 (qs f r).outs))/\Ext W w'):=by
 refine zmb Tryz.func86 O Tryz.ntmps86 O (zmm ?_)
 refine Vs 2 O ?_
 refine V.box 2 O O (fun b2=>?_)
 refine V.box 3 O O (fun b3=>?_)
 refine V.alloc 4 Tryz.zeroValue123 O O (fun b4=>?_)
 refine Vs 6 O ?_
 refine zmB Tryz.call14 O (fun w hI=>zaD f v1 v2 v3 D w (Tr1 hI.k0 hf) hsz hbk) ?_
 refine Vs 10 O ?_
 refine zk7 O (fun c0=>?_) (fun c0=>?_)
 ·
  have hc:zV f r=ym f:=zo4 c0
  refine Vs 2 O ?_
  refine zmR [Value.slice none 0 0,Value.slice none 0 0,Value.int IntKind.i64 0] [(0,1),(1,1),(2,1)] [] O O (fun _=>by kernel_rfl) ?_
  refine Vs 7 O ?_
  refine zkC Tryz.results86 Tryz.isAgg123 Tryz.sizeOf123 O O O O (fun w hI=>⟨_,rfl,⟨_,by rw [hc],fun _=>rfl,fun h=>absurd (hc ▸ h) c0⟩,hI.k0⟩)
 ·
  have c0':ym f=0:=by omega
  have vd:Valid f:=⟨c0',hsz,hbk⟩
  have hc:zV f r=zS f.vars r:=zo3 c0
  have hl:=vd.lens
  have hnb:=vd.nb
  rw [hc]
  refine Vs 7 O ?_
  refine zmD Tryz.call133 O (fun w hI=>zp7 f.vars r v1 s1 s2 s3 D D1 D2 D3 w (Tr1 hI.k0 hf.vars) (by omega) vd.kinds (Tr1 hI.k0 hi1) (Tr1 hI.k0 hi2) (Tr1 hI.k0 hi3)) ?_
  rintro rr w1 w2 hI1 hk12 ⟨u,rfl,hu1,hu2⟩ hlow
  refine Vs 14 O ?_
  refine zk7 O (fun e0=>?_) (fun e0=>?_)
  ·
   refine Vs 2 O ?_
   refine zmR [Value.slice none 0 0,Value.slice none 0 0,Value.int IntKind.i64 0] [(0,1),(1,1),(2,1)] [] O O (fun _=>by kernel_rfl) ?_
   refine Vs 7 O ?_
   refine zkC Tryz.results86 Tryz.isAgg123 Tryz.sizeOf123 O O O O (fun w hI=>⟨_,rfl,⟨_,rfl,fun _=>rfl,fun h=>absurd h e0⟩,hI.k1⟩)
  ·
   have e0':zS f.vars r=0:=by omega
   obtain⟨hrow,hfr⟩:=hu2 e0'
   obtain⟨au,cu,rfl⟩:=jr hrow
   have hsz1:W.heap.size<=w1.heap.size:=hI1.k0.size
   refine Vs 3 O ?_
   refine V.dat 900 0 O O O (zlh (R:=zB) (D:=fun b=>w1.heap.size<=b) zd (fun _ _=>rfl) hrow hfr) (fun b hb _ hs=>by have:=hlow b hs;omega) ?_
   refine Vw [2,3,4] [9] O ?_
   refine Vd [0,1,2,4,5,6] 0 (by kernel_rfl) O O O ?_
   refine zmS 7 [Value.slice none 0 0,Value.slice none 0 0,Value.int IntKind.i64 0] [(0,1),(1,1),(2,1)] [(0,_)] O (by kernel_rfl) O O (fun _=>by kernel_rfl) ?_
   refine VD.call2 3 0 Tryz.call135 O (by kernel_rfl) O O (fun w hI=>zoT f (xx f.vars r) v1 v2 v3 _ D _ w (Tr1 hI.k1 hf) (hI.at 900 O).1 vd.good (zcG e0') (fun h hh=>⟨(vd.hatch h hh).1,(vd.hatch h hh).2.1⟩) (by omega)) ?_
   rintro hv w3 w4 hI3 hk34 ⟨hh1,hh2⟩ hlow2
   refine VD.call2 8 1 Tryz.call134 O (by kernel_rfl) O O (fun w hI=>zpS f (jb f r) vd.good (by simp [zgY]) (by omega) f.body (zbP vd) 0 (jl f r) (zaJ e0') (by omega) (fun b=>w1.heap.size<=b/\b<w2.heap.size) D (fun b=>w3.heap.size<=b) w v1 v2 v3 hv _ au cu none 0 (fun b hb=>by have:w2.heap.size<=w.heap.size:=hI.k1.size;omega) (Tr1 hI.k2 hf) (zlh (R:=zB) zd (fun _ _=>rfl) (zT hh1 hI.k0 (fun g hg hs=>by have:=hlow2 g hs;have:=hh2 g hg;omega)) hh2) (Tr1 hI.k2 hf.body) (hI.at 900 O).1 SlR.nil) ?_
   rintro rs w5 w6 hI5 hk56 ⟨a1,c1,a2,c2,rfl,hr1,hr2⟩ hlow3
   refine Vl 9 O (by kernel_rfl) O ?_
   refine Vx [10] (by kernel_rfl) O ?_
   refine zlc (by kernel_rfl) ?_
   refine Vs 2 O ?_
   have hsz5:w1.heap.size<=w5.heap.size:=by have h1:=hk12.size;have h2:w2.heap.size<=w5.heap.size:=hI5.k1.size;omega
   have hoff:∀ b,((w1.heap.size<=b/\b<w2.heap.size)\/w5.heap.size<=b)->b<w6.heap.size->¬ HS _ b:=fun b hb _=>hb.elim (hI5.offF 900 rfl b) (fun h hs=>by have:=hlow3 b hs;omega)
   refine V.dat 901 0 O O O (hr1) (hoff) ?_
   refine V.dat 902 0 O O O (hr2) (hoff) ?_
   have hFF:∀ b,((w1.heap.size<=b/\b<w2.heap.size)\/w5.heap.size<=b)/\b<w6.heap.size->W.heap.size<=b:=fun b hb=>by omega
   refine zkC Tryz.results86 Tryz.isAgg123 Tryz.sizeOf123 O O O O (fun w hI=>⟨_,rfl,⟨_,by rw [e0'];rfl,fun h=>absurd e0' h,fun _=>⟨_,_,_,_,rfl,(hI.at 901 O).1.wide zc hFF,(hI.at 902 O).1.wide zc hFF⟩⟩,hI.k3⟩)
theorem zpE (f:Fl) (r:Ins) (v1 v2 v3 s1 s2 s3:Value) (D D1 D2 D3:Nat->Prop) (W:World) (hf:RFl D W f v1 v2 v3) (hi1:SlR 1 zB D1 W s1 r.secret) (hi2:SlR 1 zB D2 W s2 r.pub) (hi3:SlR 1 zB D3 W s3 r.random) (hsz:zm f.body+zC f.hatches<=1024) (hbk:zt f.body<=1000000) :
  Calls Tryz.prog 33 #[.agg #[v1,v2,v3],.agg #[s1,s2,s3]] W (Ret fun rr w'=>(∃ ov t,rr=.tuple #[.agg #[ov,.int .i64 t],.int .i64 (zV f r)]/\(zV f r ≠ 0->ov=.slice none 0 0/\t=0)/\(zV f r=0->t=(qs f r).time/\SlR 1 zB (fun b=>W.heap.size<=b) w' ov (qs f r).outs))/\Ext W w'):=by
 refine zmb Tryz.func33 O Tryz.ntmps33 O (zmm ?_)
 refine Vs 2 O ?_
 refine V.box 2 O O (fun b2=>?_)
 refine V.box 3 O O (fun b3=>?_)
 refine V.alloc 4 tz55 O O (fun b4=>?_)
 refine Vs 7 O ?_
 refine zmD Tryz.call86 O (fun w hI=>zqe f r v1 v2 v3 s1 s2 s3 D D1 D2 D3 w (Tr1 hI.k0 hf) (Tr1 hI.k0 hi1) (Tr1 hI.k0 hi2) (Tr1 hI.k0 hi3) hsz hbk) ?_
 rintro rr w1 w2 hI1 hk12 ⟨st,rfl,hu1,hu2⟩ hlow
 have hsz1:W.heap.size<=w1.heap.size:=hI1.k0.size
 by_cases c0:zV f r=0
 ·
  obtain⟨a1,c1,a2,c2,rfl,hr1,hr2⟩:=hu2 c0
  rw [c0] at *
  refine Vs 3 O ?_
  refine V.alloc 6 Tryz.zeroValue123 O O (fun b6=>?_)
  refine Vs 11 O ?_
  refine zk7 O (fun e=>?_) (fun e=>?_)
  . exact absurd O e
  ·
   refine V.dat 901 0 O O O (hr2) (fun b hb _ hs=>by have:=hlow b hs;omega) ?_
   refine Vs 8 O ?_
   refine zmR [Value.slice none 0 0,Value.int IntKind.i64 0] [(0,1),(1,1)] [(0,_),(1,_)] O O (fun _=>by kernel_rfl) ?_
   refine Vs 5 O ?_
   refine zkC Tryz.results33 tg55 ts55 O O O O (fun w hI=>⟨_,rfl,⟨_,_,rfl,fun h=>absurd O h,fun _=>⟨rfl,(hI.at 901 O).1.wide zc (fun b hb=>by omega)⟩⟩,hI.k1⟩)
 ·
  obtain rfl:=hu1 c0
  refine Vs 3 O ?_
  refine V.alloc 1006 Tryz.zeroValue123 O O (fun b1006=>?_)
  refine Vs 11 O ?_
  refine zk7 O (fun e=>?_) (fun e=>?_)
  ·
   refine Vs 2 O ?_
   refine zmR [Value.slice none 0 0,Value.int IntKind.i64 0] [(0,1),(1,1)] [] O O (fun _=>by kernel_rfl) ?_
   refine Vs 7 O ?_
   refine zkC Tryz.results33 tg55 ts55 O O O O (fun w hI=>⟨_,rfl,⟨_,_,rfl,fun _=>⟨rfl,rfl⟩,fun h=>absurd h c0⟩,hI.k1⟩)
  . omega
def zpn (a b:Int):Int:=if a<b then -1 else if b<a then 1 else 0
theorem zoU:∀ (i:Nat) (xs ys:List Int),xs.take i=ys.take i->i<=xs.length->i<=ys.length->xL xs ys=xL (xs.drop i) (ys.drop i)
 | 0,_,_,_,_,_=>rfl
 | i+1,[],_,_,h,_=>by simp at h
 | i+1,_::_,[],_,_,h=>by simp at h
 | i+1,x::xs,y::ys,h,h1,h2=>by
  simp only [List.take_succ_cons,List.cons.injEq] at h
  obtain⟨rfl,h⟩:=h
  simp only [zom] at h1 h2
  simp only [List.drop_succ_cons]
  rw [<- zoU i xs ys h (by omega) (by omega)]
  simp [xL]
theorem zow (a b:Int) (W:World):Calls Tryz.prog 137 #[.int .i64 a,.int .i64 b] W (Ret fun r w'=>r=.int .i64 (zpn a b)/\Ext W w'):=by
 refine zmb Tryz.func137 O Tryz.ntmps137 O (zmm ?_)
 refine Vs 13 O ?_
 refine zk7 O (fun h1=>?_) (fun h1=>?_)
 ·
  refine Vs 7 O ?_
  refine zkr Tryz.results137 O (fun w hI=>⟨_,rfl,by unfold zpn;rw [zo4 h1],hI.k0⟩)
 ·
  refine Vs 7 O ?_
  refine zmB Tryz.call192 O (fun w hI=>zjZ (decide (b<a)) w) ?_
  refine Vs 4 O ?_
  refine zkr Tryz.results137 O (fun w hI=>⟨_,rfl,by unfold zpn;rw [zo3 h1];by_cases h:b<a <;> simp [h],hI.k0⟩)
theorem zpT {xs ys X Y:List Int} {t t' p q:Int} (h:xL xs ys=xL (p::X) (q::Y)) (hn:p ≠ q):yF (xs,t) (ys,t')=zpn p q:=by
 have e:xL (p::X) (q::Y)=zpn p q:=by
  unfold zpn
  simp only [xL]
  split
  . rfl
  ·
   split
   . rfl
   . omega
 have n:zpn p q ≠ 0:=by
  unfold zpn
  split
  . decide
  ·
   split
   . decide
   . omega
 unfold yF
 dsimp only
 rw [h,e,zo4 n]
theorem zp1 {xs ys:List Int} {t t':Int} {i:Nat} (h:xL xs ys=xL (xs.drop i) (ys.drop i)) (h1:i<=xs.length) (h2:i<=ys.length) (hi:xs.length<=i\/ys.length<=i) (hn:(xs.length:Int) ≠ ys.length):yF (xs,t) (ys,t')=zpn xs.length ys.length:=by
 rcases hi with hi | hi
 ·
  obtain⟨y,hy⟩:∃ y,ys[i]?=some y:=⟨_,znT (by omega)⟩
  rw [List.drop_of_length_le hi,yU hy] at h
  unfold yF zpn
  dsimp only
  rw [h,zo4 (show (xs.length:Int)<ys.length by omega)]
  rfl
 ·
  obtain⟨x,hx⟩:∃ x,xs[i]?=some x:=⟨_,znT (by omega)⟩
  rw [List.drop_of_length_le hi,yU hx] at h
  unfold yF zpn
  dsimp only
  rw [h,zo3 (show ¬ (xs.length:Int)<ys.length by omega),zo4 (show (ys.length:Int)<xs.length by omega)]
  rfl
theorem zpU {xs ys:List Int} {t t':Int} {i:Nat} (h:xL xs ys=xL (xs.drop i) (ys.drop i)) (hi:xs.length<=i) (hj:ys.length<=i):yF (xs,t) (ys,t')=zpn t t':=by
 rw [List.drop_of_length_le hi,List.drop_of_length_le hj] at h
 unfold yF zpn
 dsimp only
 rw [h]
 rfl
theorem zoB (x y:List Int × Int) (u v:Value) (D D':Nat->Prop) (W:World) (hx:SlR 1 zB D W u x.1) (hy:SlR 1 zB D' W v y.1) :
  Calls Tryz.prog 91 #[.agg #[u,.int .i64 x.2],.agg #[v,.int .i64 y.2]] W (Ret fun r w'=>r=.int .i64 (yF x y)/\Ext W w'):=by
 obtain⟨xs,t⟩:=x
 obtain⟨ys,t'⟩:=y
 dsimp only at hx hy
 obtain⟨ax,cx,rfl⟩:=hx.form
 obtain⟨ay,cy,rfl⟩:=hy.form
 have hmx:=hx.max
 have hmy:=hy.max
 refine zmb Tryz.func91 O Tryz.ntmps91 O (zmm ?_)
 refine Vs 2 O ?_
 refine V.box 2 O O (fun b2=>?_)
 refine V.box 3 O O (fun b3=>?_)
 refine Vs 10 O ?_
 refine zmL (σ:=Nat) [2,3] [2,3] [2,3] O (fun e i=>(5,.int .i64 i)::e) (fun e i=>e) (fun i=>(i<=xs.length/\i<=ys.length)/\xs.take i=ys.take i) (fun i=>xs.length - i) (0) (zlO O) (zlP O) (fun _=>rfl) (fun _=>rfl) (fun _=>rfl) (⟨⟨zo8 _,zo8 _⟩,rfl⟩) ?_
 rintro i ⟨⟨hi,hj⟩,he⟩
 refine Vs 9 O ?_
 refine V.sp 11 O (fun b1=>?_) (fun b1=>?_)
 ·
  refine Vs 8 O ?_
  refine zk7 O (fun b2=>?_) (fun b2=>?_)
  ·
   refine Vs 5 O ?_
   obtain⟨p,he_p,hm_p⟩:=gE_ xs (i) (by omega)
   obtain⟨b_p,o_p,c_p,ha_p,_,hc_p,hR_p⟩:=hx.at he_p
   obtain rfl:=hR_p
   refine zmI 1000 0 O O hc_p ?_
   obtain⟨q,he_q,hm_q⟩:=gE_ ys (i) (by omega)
   obtain⟨b_q,o_q,c_q,ha_q,_,hc_q,hR_q⟩:=hy.at he_q
   obtain rfl:=hR_q
   refine zmI 2000 0 O O hc_q ?_
   have hdx:=yU he_p
   have hdy:=yU he_q
   have hcc:=zoU i xs ys he hi hj
   rw [hdx,hdy] at hcc
   refine Vq (by kernel_rfl) ?_
   refine Vs 3 O ?_
   refine zmt 1000 tR27 ts3 O ha_p (by omega) (_) (rfl) O ?_
   refine Vs 4 O ?_
   refine zmt 2000 tR27 ts3 O ha_q (by omega) (_) (rfl) O ?_
   refine Vs 4 O ?_
   refine zk7 O (fun b3=>?_) (fun b3=>?_)
   ·
    refine Vs 1 O ?_
    refine Vw [2,3,1000,2000] [] O ?_
    refine Vd [0,1,2,5,6,7] 0 (by kernel_rfl) O O O ?_
    refine VD.ix 3 1000 tR27 ts3 O (by kernel_rfl) O ha_p (by omega) (_) (rfl) O ?_
    refine Vd [4] 0 (by kernel_rfl) O O O ?_
    refine VD.ix 8 2000 tR27 ts3 O (by kernel_rfl) O ha_q (by omega) (_) (rfl) O ?_
    refine Vd [9] 0 (by kernel_rfl) O O O ?_
    refine zmC 10 0 Tryz.call137 O (by kernel_rfl) O O (fun w hI=>zow p q w) ?_
    refine Vd [11] 0 (by kernel_rfl) O O O ?_
    refine zlb (by kernel_rfl) ?_
    refine Vs 7 O ?_
    refine zkr Tryz.results91 O (fun w hI=>⟨_,rfl,by rw [zpT hcc b3],hI.k0⟩)
   ·
    refine Va 8 O (by omega) ?_
    refine zki (i+1) (zlO O) (zlP O) (⟨⟨by omega,by omega⟩,by rw [List.take_add_one,List.take_add_one,he,he_p,he_q,zo2.1 b3]⟩) (by first | omega | (dsimp only;omega)) 0 O O
  ·
   have hcc:=zoU i xs ys he hi hj
   refine Vs 17 O ?_
   refine zk7 O (fun b3=>?_) (fun b3=>?_)
   ·
    refine Vs 8 O ?_
    refine zmB Tryz.call137 O (fun w hI=>zow xs.length ys.length w) ?_
    refine Vs 5 O ?_
    refine zkr Tryz.results91 O (fun w hI=>⟨_,rfl,by rw [zp1 hcc hi hj (by omega) b3],hI.k0⟩)
   . exact absurd (by omega) b3
 ·
  have hcc:=zoU i xs ys he hi hj
  refine Vs 26 O ?_
  refine zk7 O (fun b3=>?_) (fun b3=>?_)
  ·
   refine Vs 8 O ?_
   refine zmB Tryz.call137 O (fun w hI=>zow xs.length ys.length w) ?_
   refine Vs 5 O ?_
   refine zkr Tryz.results91 O (fun w hI=>⟨_,rfl,by rw [zp1 hcc hi hj (by omega) b3],hI.k0⟩)
  ·
   refine Vs 8 O ?_
   refine zmB Tryz.call137 O (fun w hI=>zow t t' w) ?_
   refine Vs 4 O ?_
   refine zkr Tryz.results91 O (fun w hI=>⟨_,rfl,by rw [zpU hcc (by omega) (by omega)],hI.k0⟩)
open Go.GL Go.ChangeShapes Go.WideShapes Go.ChangeAt Go.RowKit
section
variable {H:Type} {enc:TypeId × Value->H} {w:World} {base:Nat} {sp:Nat->Bool} {held:Bool}
set_option maxRecDepth 100000 in
theorem zpF {r:Reach} {b0:Nat} {v:Value} {d:DataW H} {ps:List MemPlace} (hval:Value.okWide Tryz.prog w r b0 29 v) (hd:DataW.Trod enc Tryz.prog w base sp held 29 v d ps) :
  ∃ (l:List Int) (t:Bool) (u:Value),v=.agg #[u,.bool t]/\SlR 1 zB (fun _=>True) w u l:=by
 unfold Value.okWide at hval
 rw [Tryz.underlying29] at hval
 obtain⟨cs,rfl,hsz,_⟩:=hval
 obtain⟨k,hn⟩:=hd
 obtain⟨xs,m,hk,_,hl,hx,hat⟩:=DataW.trod_struct Tryz.underlying29 hn
 rw [show Tryz.prog.cellsOf 29=2 by kernel_rfl] at hl
 obtain⟨l⟩:=cs
 match l,hl with
 | [c0,c1],_ =>
  obtain⟨y0,h0⟩:=zjY hx hat 0 rfl (c:=1) (by kernel_rfl)
  obtain⟨y1,h1⟩:=zjY hx hat 1 rfl (c:=1) (by kernel_rfl)
  obtain⟨v0,l0,e0,hs0⟩:=zpc tu27 zpd (by decide) (fun n cs y hy=>zpy tu3 hy) h0
  obtain⟨b1,e1,_⟩:=DataW.trod_bool tu4 h1
  simp [Value.cells] at e0 e1
  subst e0;subst e1
  exact⟨l0,b1,_,rfl,hs0⟩
end
open Go.GL
def zk1:List Vr->Int
 | []=>1
 | v::vs=>(v.high - v.low+1)*zk1 vs
theorem zos:∀ {vs:List Vr},(∀ v ∈ vs,1<=v.high - v.low+1)->1<=zk1 vs
 | [],_=>Int.le_refl _
 | v::vs,h=>by
  have h1:=h v (znX ..)
  have h2:=zos (vs:=vs) fun x hx=>h x (znW _ hx)
  have:(1:Int)*1<=(v.high - v.low+1)*zk1 vs:=Int.mul_le_mul h1 h2 (by omega) (by omega)
  exact this
theorem zoC {k:Int}:∀ (vs:List Vr) (n m:Int),(∀ v ∈ vs,v.kind=k)->zY k vs n=some m->m=n*zk1 vs
 | [],n,m,_,h=>by simp only [zY,Option.some.injEq] at h;rw [<- h,zk1,Int.mul_one]
 | v::vs,n,m,hk,h=>by
  simp only [zY] at h
  rw [zo4 (hk v (znX ..))] at h
  split at h
  . cases h
  . rw [zoC vs _ m (fun x hx=>hk x (znW _ hx)) h,zk1,Int.mul_assoc]
theorem zoH {k:Int} {vs:List Vr} {m:Int} (h:zk k vs=some m):m=zk1 (ze k vs):=by
 unfold zk at h
 rw [<- yJ] at h
 rw [zoC (ze k vs) _ _ (fun v hv=>of_decide_eq_true (List.mem_filter.1 hv).2) h,Int.one_mul]
theorem zpo {n s d:Int} (hn:0<=n) (h0:0<=d) (h1:d<s):(n*s+d).tdiv s=n/\(n*s+d).tmod s=d:=by
 have hs:0<s:=by omega
 have hm:0<=n*s:=zoo hn (by omega)
 rw [Int.tdiv_eq_ediv_of_nonneg (by omega),Int.tmod_eq_emod_of_nonneg (by omega)]
 refine⟨?_,?_⟩
 . rw [Int.add_comm,Int.add_mul_ediv_right _ _ (by omega),Int.ediv_eq_zero_of_lt h0 h1,Int.zero_add]
 . rw [Int.add_comm,Int.add_mul_emod_self_right,Int.emod_eq_of_lt h0 h1]
theorem zoD:∀ {vs:List Vr} {xs:List Int} {n r:Int},xs.length=vs.length->0<=n->zdo vs xs n=some r->yt vs r=(xs,n)
 | [],[],n,r,_,_,h=>by
  simp only [zdo,Option.some.injEq] at h
  rw [<- h];rfl
 | v::vs,x::xs,n,r,hl,hn,h=>by
  unfold zdo at h
  split at h
  . cases h
  ·
   rename_i h1
   have hm:0<=n*(v.high - v.low+1):=zoo hn (by omega)
   have ih:=zoD (vs:=vs) (xs:=xs) (by simpa using hl) (show 0<=n*(v.high - v.low+1)+x - v.low by omega) h
   have hd:=zpo (n:=n) (s:=v.high - v.low+1) (d:=x - v.low) hn (by omega) (by omega)
   rw [show n*(v.high - v.low+1)+(x - v.low)=n*(v.high - v.low+1)+x - v.low by omega] at hd
   simp only [yt,ih,hd.1,hd.2]
   rw [show v.low+(x - v.low)=x by omega]
theorem zoI:∀ {vs:List Vr} {xs:List Int} {n r:Int},xs.length=vs.length->0<=n->zdo vs xs n=some r->n*zk1 vs<=r/\r<(n+1)*zk1 vs
 | [],[],n,r,_,_,h=>by
  simp only [zdo,Option.some.injEq] at h
  rw [<- h,zk1];omega
 | v::vs,x::xs,n,r,hl,hn,h=>by
  unfold zdo at h
  split at h
  . cases h
  ·
   rename_i h1
   have hm:0<=n*(v.high - v.low+1):=zoo hn (by omega)
   obtain⟨h2,h3⟩:=zoI (vs:=vs) (xs:=xs) (by simpa using hl) (show 0<=n*(v.high - v.low+1)+x - v.low by omega) h
   have hp:0<=zk1 vs:=by
    rcases Int.lt_or_le (zk1 vs) 0 with hp | hp
    ·
     have:=Int.mul_lt_mul_of_neg_right (show n*(v.high - v.low+1)+x - v.low<n*(v.high - v.low+1)+x - v.low+1 by omega) hp
     omega
    . exact hp
   have e1:n*(v.high - v.low+1)*zk1 vs<=(n*(v.high - v.low+1)+x - v.low)*zk1 vs:=Int.mul_le_mul_of_nonneg_right (by omega) hp
   have e2:(n*(v.high - v.low+1)+x - v.low+1)*zk1 vs<=((n+1)*(v.high - v.low+1))*zk1 vs:=Int.mul_le_mul_of_nonneg_right (by rw [Int.add_mul];omega) hp
   rw [zk1,<- Int.mul_assoc,<- Int.mul_assoc]
   omega
theorem zoE:∀ {vs:List Vr} {r:Int},0<=r->(∀ v ∈ vs,1<=v.high - v.low+1)->(yt vs r).2=r / zk1 vs
 | [],r,_,_=>by simp [yt,zk1]
 | v::vs,r,h0,h=>by
  have h1:=h v (znX ..)
  have hp:=zos (vs:=vs) fun x hx=>h x (znW _ hx)
  rw [yt]
  simp only
  rw [zoE h0 fun x hx=>h x (znW _ hx),Int.tdiv_eq_ediv_of_nonneg (Int.ediv_nonneg h0 (by omega)),Int.ediv_ediv,zo3 (by omega),zk1,Int.mul_comm (v.high - v.low+1),Int.sub_zero]
theorem zoJ {r:Int} (h0:0<=r):∀ {vs:List Vr} {i:Nat} {x:Vr},(∀ v ∈ vs,1<=v.high - v.low+1)->vs[i]?=some x->(yt vs r).1[i]?=some (x.low+(r / zk1 (vs.drop (i+1))).tmod (x.high - x.low+1))
 | [],_,_,_,hx=>by simp at hx
 | v::vs,0,x,h,hx=>by
  simp only [List.getElem?_cons_zero,Option.some.injEq] at hx
  subst hx
  simp only [yt,List.getElem?_cons_zero,List.drop_succ_cons,List.drop_zero]
  rw [zoE h0 fun x hx=>h x (znW _ hx)]
 | v::vs,i+1,x,h,hx=>by
  simp only [List.getElem?_cons_succ] at hx
  simp only [yt,List.getElem?_cons_succ,List.drop_succ_cons]
  exact zoJ h0 (fun x hx=>h x (znW _ hx)) hx
theorem zp8 {k:Int} {vs:List Vr} {xs:List Int} (h:(qH k vs xs).2=0):zz k vs (qH k vs xs).1=0/\(yt (ze k vs) (qH k vs xs).1).1=xs:=by
 unfold qH at h ⊢
 split at h
 ·
  rename_i hs
  split at h
  ·
   rename_i hl
   cases hr:zdo (ze k vs) xs 0 with
   | none=>rw [hr] at h;cases h
   | some r =>
    rw [zo4 hs,zo4 hl]
    simp only []
    obtain⟨m,hm⟩:=Option.isSome_iff_exists.1 hs
    have hb:=zoI hl (Int.le_refl _) hr
    rw [Int.zero_mul,Int.zero_add,Int.one_mul,<- zoH hm] at hb
    refine⟨?_,by rw [zoD hl (Int.le_refl _) hr]⟩
    unfold zz
    rw [zo4 hs,hm]
    simp only [Option.getD_some]
    rw [zo3 (by omega)]
  . cases h
 . cases h
theorem zoK (vs:List Vr) (k:Int) (r:List Int) (vv rv:Value) (D D':Nat->Prop) (W:World) (hk:0<=k/\k<=3) (hg:∀ v ∈ vs,yp (v.low,v.high)) (hlen:vs.length<=1000000) (hvs:SlR 5 RVr D W vv vs) (hr:SlR 1 zB D' W rv r) :
  Calls Tryz.prog 43 #[vv,.int .i64 k,rv] W (Ret fun rr w'=>rr=.tuple #[.int .i64 (qH k vs r).1,.int .i64 (qH k vs r).2]/\Ext W w'):=by
 obtain⟨ar,cr,rfl⟩:=hr.form
 have hmr:=hr.max
 refine zmc Tryz.func43 O Tryz.ntmps43 O (zmm ?_)
 refine Vs 10 O ?_
 refine zmB Tryz.call36 O (fun w hI=>jp vs k vv D w hk hg hlen (Tr1 hI.k0 hvs)) ?_
 refine Vs 14 O ?_
 refine zk7 O (fun c0=>?_) (fun c0=>?_)
 ·
  have hc:¬ (zk k vs).isSome=true:=fun h=>c0 (zo4 h)
  refine Vs 9 O ?_
  refine zku Tryz.results43 O O (fun w hI=>⟨_,rfl,by unfold qH;rw [zo3 hc,zo3 hc],hI.k0⟩)
 ·
  have hc:(zk k vs).isSome=true:=by
   cases h:(zk k vs).isSome with
   | true=>rfl
   | false=>rw [h] at c0;exact absurd (by decide) c0
  refine Vs 6 O ?_
  refine zmD Tryz.call28 O (fun w hI=>zhb vs k vv D w (Tr1 hI.k0 hvs) hlen) ?_
  rintro l w1 w2 hI1 hk12 hos hlow
  obtain⟨al,cl,rfl⟩:=hos.form
  have hml:=hos.max
  refine Vs 13 O ?_
  refine zk7 O (fun c1=>?_) (fun c1=>?_)
  ·
   refine Vs 8 O ?_
   refine zku Tryz.results43 O O (fun w hI=>⟨_,rfl,by unfold qH;rw [zo4 hc,zo3 (by omega)],hI.k1⟩)
  ·
   have hel:r.length=(ze k vs).length:=by omega
   refine Vs 14 O ?_
   refine zmL (σ:=Nat × Int) [2,10] [] [] O (fun e ⟨i,n⟩=>(11,.int .i64 n)::(12,.int .i64 i)::e) (fun e ⟨i,n⟩=>e) (fun⟨i,n⟩=>i<=(ze k vs).length/\zdo ((ze k vs).drop i) (r.drop i) n=zdo (ze k vs) r 0/\∃ m,zY k ((ze k vs).take i) 1=some m/\0<=n/\n<m) (fun⟨i,n⟩=>(ze k vs).length - i) ((0,0)) (zlO O) (zlP O) (fun _=>rfl) (fun _=>rfl) (fun _=>rfl) (⟨zo8 _,rfl,1,rfl,by omega,by omega⟩) ?_
   rintro⟨i,n⟩ ⟨hi,hrk,m,hm,hn0,hn1⟩
   show V _ _ _ _ _ ((11,.int .i64 n)::(12,.int .i64 i)::_) _ (_) _
   refine Vs 9 O ?_
   refine zk7 O (fun hlt=>?_) (fun hlt=>?_)
   ·
    refine Vs 6 O ?_
    obtain⟨x,he_x,hm_x⟩:=gE_ (ze k vs) (i) (by omega)
    obtain⟨b_x,o_x,c_x,ha_x,hd_x,hc_x,hR_x⟩:=hos.atD he_x
    obtain rfl:=hR_x
    refine zmJ 1000 0 O O (fun h_=>by have h1_:=hlow _ h_;have h2_:=hd_x;first | omega | exact h1_ h2_) hc_x ?_
    obtain⟨y,he_y,hm_y⟩:=gE_ r (i) (by omega)
    obtain⟨b_y,o_y,c_y,ha_y,_,hc_y,hR_y⟩:=hr.at he_y
    obtain rfl:=hR_y
    refine zmI 2000 1 O O hc_y ?_
    have hgx:=hg x (xS hm_x)
    unfold yp at hgx
    dsimp only at hgx
    have hdx:=yU he_x
    have hdy:=yU he_y
    refine Vq (by kernel_rfl) ?_
    refine Vs 2 O ?_
    refine zmt 2000 tR27 ts3 O ha_y (by omega) (_) (rfl) O ?_
    refine Vs 3 O ?_
    refine zmt 1000 tR22 ts89 O ha_x (by omega) (_) (rfl) O ?_
    refine Vs 4 O ?_
    refine V.sp 46 O (fun b1=>?_) (fun b1=>?_)
    ·
     refine Vs 27 O ?_
     refine zku Tryz.results43 O O (fun w hI=>⟨_,rfl,by unfold qH;rw [zo4 hc,zo4 hel,<- hrk,hdx,hdy];unfold zdo;rw [zo4 (by omega)],hI.k1⟩)
    ·
     refine Vs 2 O ?_
     refine zmt 2000 tR27 ts3 O ha_y (by omega) (_) (rfl) O ?_
     refine Vs 3 O ?_
     refine zmt 1000 tR22 ts89 O ha_x (by omega) (_) (rfl) O ?_
     refine Vs 6 O ?_
     refine zk7 O (fun d1=>?_) (fun d1=>?_)
     ·
      refine Vs 13 O ?_
      refine zku Tryz.results43 O O (fun w hI=>⟨_,rfl,by unfold qH;rw [zo4 hc,zo4 hel,<- hrk,hdx,hdy];unfold zdo;rw [zo4 (by omega)],hI.k1⟩)
     ·
      obtain⟨m',hm'⟩:=zeC hc (i+1)
      have hp:=yk k ((ze k vs).take (i+1)) 1 m' (fun v hv=>hg v (xS (List.mem_of_mem_take hv))) (by omega) (by omega) hm'
      have hst:=hm'
      rw [zg he_x,zH,hm] at hst
      have hkx:x.kind=k:=of_decide_eq_true (List.mem_filter.1 hm_x).2
      have hmm:m*(x.high - x.low+1)=m':=by
       simp only [Option.bind,zY] at hst
       rw [zo4 hkx] at hst
       split at hst
       . cases hst
       . exact Option.some.inj hst
      have hrs:=zfC (s:=x.high - x.low+1) (x:=y) (l:=x.low) hn0 hn1 (by omega) (by omega) (by omega)
      refine Vs 2 O ?_
      refine Vq (by kernel_rfl) ?_
      refine Vs 3 O ?_
      refine zmt 1000 tR22 ts89 O ha_x (by omega) (_) (rfl) O ?_
      refine Vs 4 O ?_
      refine zmt 1000 tR22 ts89 O ha_x (by omega) (_) (rfl) O ?_
      refine Va 7 O (by omega) ?_
      refine zmt 2000 tR27 ts3 O ha_y (by omega) (_) (rfl) O ?_
      refine Va 4 O (by omega) ?_
      refine zmt 1000 tR22 ts89 O ha_x (by omega) (_) (rfl) O ?_
      refine Va 12 O (by omega) ?_
      refine zki ((i+1,n*(x.high - x.low+1)+y - x.low)) (zlO O) (zlP O) (⟨by omega,by rw [<- hrk,hdx,hdy];conv=>rhs;unfold zdo;rw [zo3 (by omega)],m',hm',by omega,by omega⟩) (by first | omega | (dsimp only;omega)) 0 O O
   ·
    have:i=(ze k vs).length:=by omega
    subst this
    rw [List.drop_length,<- hel,List.drop_length] at hrk
    refine Vs 13 O ?_
    refine zku Tryz.results43 O O (fun w hI=>⟨_,rfl,by unfold qH;rw [zo4 hc,zo4 hel,<- hrk];rfl,hI.k1⟩)
theorem zoq (vs:List Vr) (k r:Int) (vv:Value) (D:Nat->Prop) (W:World) (hk:0<=k/\k<=3) (hg:∀ v ∈ vs,yp (v.low,v.high)) (hlen:vs.length<=1000000) (hvs:SlR 5 RVr D W vv vs) :
  Calls Tryz.prog 26 #[vv,.int .i64 k,.int .i64 r] W (Ret fun rr w'=>(∃ u,rr=.tuple #[u,.int .i64 (zz k vs r)]/\(zz k vs r ≠ 0->u=.slice none 0 0)/\(zz k vs r=0->SlR 1 zB (fun b=>W.heap.size<=b) w' u (yt (ze k vs) r).1))/\Ext W w'):=by
 have hgo:∀ v ∈ ze k vs,yp (v.low,v.high):=fun v hv=>hg v (List.mem_filter.1 hv).1
 have hgs:∀ v ∈ ze k vs,1<=v.high - v.low+1:=fun v hv=>by have:=hgo v hv;unfold yp at this;dsimp only at this;omega
 have hol:=znZ (xQ k vs) hlen
 have hul:=zaM (ze k vs) r
 refine zmc Tryz.func26 O Tryz.ntmps26 O (zmm ?_)
 refine Vs 10 O ?_
 refine zmB Tryz.call36 O (fun w hI=>jp vs k vv D w hk hg hlen (Tr1 hI.k0 hvs)) ?_
 refine Vs 14 O ?_
 refine zk7 O (fun c0=>?_) (fun c0=>?_)
 ·
  have hc:¬ (zk k vs).isSome=true:=fun h=>c0 (zo4 h)
  have hC:zz k vs r=4:=by unfold zz;rw [zo3 hc]
  refine Vs 9 O ?_
  refine zku Tryz.results26 O O (fun w hI=>⟨_,rfl,⟨_,by rw [hC,zo3 hc],fun _=>rfl,fun h=>by rw [hC] at h;cases h⟩,hI.k0⟩)
 ·
  have hc:(zk k vs).isSome=true:=by
   cases h:(zk k vs).isSome with
   | true=>rfl
   | false=>rw [h] at c0;exact absurd (by decide) c0
  have hN:=zh6 hg hc
  obtain⟨m,hm⟩:=Option.isSome_iff_exists.1 hc
  have hmp:=zoH hm
  have hU:zz k vs r=if r<0\/m<=r then 3 else 0:=by unfold zz;rw [zo4 hc,hm];rfl
  rw [hm] at hN
  simp only [Option.getD_some] at hN
  rw [hm]
  simp only [Option.getD_some]
  refine Vs 8 O ?_
  refine V.sp 25 O (fun r0=>?_) (fun r0=>?_)
  ·
   have hC:zz k vs r=3:=by rw [hU,zo4 (.inl r0)]
   refine Vs 15 O ?_
   refine zku Tryz.results26 O O (fun w hI=>⟨_,rfl,⟨_,by rw [hC],fun _=>rfl,fun h=>by rw [hC] at h;cases h⟩,hI.k0⟩)
  ·
   refine Vs 6 O ?_
   refine zk7 O (fun r1=>?_) (fun r1=>?_)
   ·
    have hC:zz k vs r=3:=by rw [hU,zo4 (.inr r1)]
    refine Vs 8 O ?_
    refine zku Tryz.results26 O O (fun w hI=>⟨_,rfl,⟨_,by rw [hC],fun _=>rfl,fun h=>by rw [hC] at h;cases h⟩,hI.k0⟩)
   ·
    have hC:zz k vs r=0:=by rw [hU,zo3 (by omega)]
    refine Vs 6 O ?_
    refine zmD Tryz.call28 O (fun w hI=>zhb vs k vv D w (Tr1 hI.k0 hvs) hlen) ?_
    rintro l w1 w2 hI1 hk12 hos hlow
    obtain⟨al,cl,rfl⟩:=hos.form
    have hml:=hos.max
    refine Vs 5 O ?_
    refine V.bs0 33 tR27 ts3 O (fun b33=>?_)
    refine Vs 10 O ?_
    refine zmL (σ:=Nat × Int × Value) [2,10] [] [] O (fun e ⟨i,n,v⟩=>(12,.int .i64 i)::(8,.int .i64 n)::(11,v)::e) (fun e ⟨i,n,v⟩=>(33,.row 3 1 v i (((yt (ze k vs) r).1.take i).map zd))::e) (fun⟨i,n,v⟩=>i<=(ze k vs).length/\n=zk1 ((ze k vs).drop i)/\n<=4096) (fun⟨i,n,v⟩=>(ze k vs).length - i) ((0,m,.slice (some ⟨b33,0,none⟩) 0 0)) (zlO O) (zlP O) (fun _=>rfl) (fun _=>rfl) (fun _=>rfl) (⟨zo8 _,hmp,hN⟩) ?_
    rintro⟨i,n,v⟩ ⟨hi,hn,hn4⟩
    show V _ _ _ _ _ ((12,.int .i64 i)::(8,.int .i64 n)::(11,v)::_) _ ((33,.row 3 1 v i (((yt (ze k vs) r).1.take i).map zd))::_) _
    refine Vs 9 O ?_
    refine zk7 O (fun hlt=>?_) (fun hlt=>?_)
    ·
     refine Vs 5 O ?_
     obtain⟨x,he_x,hm_x⟩:=gE_ (ze k vs) (i) (by omega)
     obtain⟨b_x,o_x,c_x,ha_x,hd_x,hc_x,hR_x⟩:=hos.atD he_x
     obtain rfl:=hR_x
     refine zmJ 1000 0 O O (fun h_=>by have h1_:=hlow _ h_;have h2_:=hd_x;first | omega | exact h1_ h2_) hc_x ?_
     have hgx:=hgo x hm_x
     unfold yp at hgx
     dsimp only at hgx
     have hdx:=yU he_x
     have hp1:=zos (vs:=(ze k vs).drop (i+1)) fun y hy=>hgs y (List.mem_of_mem_drop hy)
     have hn':n.tdiv (x.high - x.low+1)=zk1 ((ze k vs).drop (i+1)):=by
      rw [hn,hdx,zk1,Int.mul_tdiv_cancel_left _ (by omega)]
     have hn1:1<=n:=by rw [hn];exact zos fun y hy=>hgs y (List.mem_of_mem_drop hy)
     have hle:=Int.tdiv_le_self (x.high - x.low+1) (show 0<=n by omega)
     have hq0:=Int.tdiv_nonneg (show 0<=r by omega) (show 0<=n.tdiv (x.high - x.low+1) by omega)
     have hq1:=Int.tdiv_le_self (n.tdiv (x.high - x.low+1)) (show 0<=r by omega)
     have hr0:=Int.tmod_nonneg (x.high - x.low+1) hq0
     have hr1:=Int.tmod_lt_of_pos (r.tdiv (n.tdiv (x.high - x.low+1))) (show 0<x.high - x.low+1 by omega)
     have zl:=zoJ (r:=r) (by omega) hgs he_x
     rw [<- Int.tdiv_eq_ediv_of_nonneg (by omega),<- hn'] at zl
     refine Vq (by kernel_rfl) ?_
     refine Vs 2 O ?_
     refine zmt 1000 tR22 ts89 O ha_x (by omega) (_) (rfl) O ?_
     refine Vs 4 O ?_
     refine zmt 1000 tR22 ts89 O ha_x (by omega) (_) (rfl) O ?_
     refine Va 11 O (by omega) ?_
     refine zm2 O (fun w hI=>R.quo O O (by omega) (by omega)) ?_
     refine Vs 3 O ?_
     refine Vw [1000] [] O ?_
     refine Vd [0,1,2,6,7,9] 0 (by kernel_rfl) O O O ?_
     refine VD.ix 3 1000 tR22 ts89 O (by kernel_rfl) O ha_x (by omega) (_) (rfl) O ?_
     refine Vd [4,5] 0 (by kernel_rfl) O O O ?_
     refine VD.pl 8 O (by kernel_rfl) O (fun w=>R.quo O O (by omega) (by omega)) ?_
     refine VD.pl 10 O (by kernel_rfl) O (fun w=>R.rem O O (by omega) (by omega)) ?_
     refine Vb [11] 0 (by kernel_rfl) O O O (by omega) ?_
     refine zmP 12 67 0 [(0,_)] tR27 ts3 tz3 (by decide) O (by kernel_rfl) O O (by kernel_rfl) (fun b67=>?_)
     refine zmw 13 33 67 0 tu27 Tryz.el3 O (by decide) O (by kernel_rfl) O O O (by omega) (by omega) (fun u33=>?_)
     refine Vd [14] 0 (by kernel_rfl) O O O ?_
     refine zlb (by kernel_rfl) ?_
     refine Vs 2 O ?_
     refine zmK 33 O (e':=.row 3 1 u33 (i+1) (((yt (ze k vs) r).1.take (i+1)).map zd)) (by rw [List.take_add_one,zl,List.map_append];rfl) ?_
     refine Va 5 O (by omega) ?_
     refine zki (⟨i+1,n.tdiv (x.high - x.low+1),u33⟩) (zlO O) (zlP O) (⟨by omega,hn',by omega⟩) (by first | omega | (dsimp only;omega)) 0 O O
    ·
     have:i=(ze k vs).length:=by omega
     subst this
     refine zmK 33 O (e':=.row 3 1 v (yt (ze k vs) r).1.length ((yt (ze k vs) r).1.map zd)) (by rw [<- hul,znY]) ?_
     refine Vs 13 O ?_
     refine zku Tryz.results26 O O (fun w hI=>⟨_,rfl,⟨_,by rw [hC],fun h=>absurd hC h,fun _=>zlh zd (fun _ _=>rfl) (hI.at 33 O) (fun b hb=>hI.own 33 1 O O b hb)⟩,hI.k1⟩)
theorem zp2 (vs:List Vr) (s p r:Int) (vv:Value) (D:Nat->Prop) (W:World) (hg:∀ v ∈ vs,yp (v.low,v.high)) (hlen:vs.length<=1000000) (hvs:SlR 5 RVr D W vv vs) :
  Calls Tryz.prog 32 #[vv,.int .i64 s,.int .i64 p,.int .i64 r] W (Ret fun rr w'=>(∃ a b c,rr=.tuple #[.agg #[a,b,c],.int .i64 (zgv vs s p r)]/\(zgv vs s p r ≠ 0->a=.slice none 0 0/\b=.slice none 0 0/\c=.slice none 0 0)/\(zgv vs s p r=0->SlR 1 zB (fun q=>W.heap.size<=q) w' a (yt (ze 1 vs) s).1/\SlR 1 zB (fun q=>W.heap.size<=q) w' b (yt (ze 2 vs) p).1/\SlR 1 zB (fun q=>W.heap.size<=q) w' c (yt (ze 3 vs) r).1))/\Ext W w'):=by
 refine zmd Tryz.func32 O Tryz.ntmps32 O (zmm ?_)
 refine Vs 2 O ?_
 refine V.alloc 8 Tryz.zeroValue61 O O (fun b8=>?_)
 refine Vs 7 O ?_
 refine zmD Tryz.call26 O (fun w hI=>zoq vs 1 s vv D w (by decide) hg hlen (Tr1 hI.k0 hvs)) ?_
 rintro r1 w1 w2 hI1 hk12 ⟨a,rfl,ha0,ha1⟩ hlow
 refine Vs 14 O ?_
 refine zk7 O (fun c1=>?_) (fun c1=>?_)
 ·
  have hc:zgv vs s p r=zz 1 vs s:=zo4 c1
  refine Vs 2 O ?_
  refine zmR [Value.slice none 0 0,Value.slice none 0 0,Value.slice none 0 0] [(0,1),(1,1),(2,1)] [] O O (fun _=>by kernel_rfl) ?_
  refine Vs 7 O ?_
  refine zkC Tryz.results32 tg61 ts61 O O O O (fun w hI=>⟨_,rfl,⟨_,_,_,by rw [hc],fun _=>⟨rfl,rfl,rfl⟩,fun h=>absurd (hc ▸ h) c1⟩,hI.k1⟩)
 ·
  have ha:=ha1 (zo2.1 c1)
  obtain⟨aa,ca,rfl⟩:=ha.form
  refine Vs 6 O ?_
  refine zmD Tryz.call26 O (fun w hI=>zoq vs 2 p vv D w (by decide) hg hlen (Tr1 hI.k1 hvs)) ?_
  rintro r2 w3 w4 hI3 hk34 ⟨b,rfl,hb0,hb1⟩ hlow2
  refine Vs 14 O ?_
  refine zk7 O (fun c2=>?_) (fun c2=>?_)
  ·
   have hc:zgv vs s p r=zz 2 vs p:=by unfold zgv;rw [zo3 c1,zo4 c2]
   refine Vs 2 O ?_
   refine zmR [Value.slice none 0 0,Value.slice none 0 0,Value.slice none 0 0] [(0,1),(1,1),(2,1)] [] O O (fun _=>by kernel_rfl) ?_
   refine Vs 7 O ?_
   refine zkC Tryz.results32 tg61 ts61 O O O O (fun w hI=>⟨_,rfl,⟨_,_,_,by rw [hc],fun _=>⟨rfl,rfl,rfl⟩,fun h=>absurd (hc ▸ h) c2⟩,hI.k2⟩)
  ·
   have hb:=hb1 (zo2.1 c2)
   obtain⟨ab,cb,rfl⟩:=hb.form
   refine Vs 6 O ?_
   refine zmD Tryz.call26 O (fun w hI=>zoq vs 3 r vv D w (by decide) hg hlen (Tr1 hI.k2 hvs)) ?_
   rintro r3 w5 w6 hI5 hk56 ⟨c,rfl,hc0,hc1⟩ hlow3
   have hcc:zgv vs s p r=zz 3 vs r:=by unfold zgv;rw [zo3 c1,zo3 c2]
   refine Vs 14 O ?_
   refine zk7 O (fun c3=>?_) (fun c3=>?_)
   ·
    refine Vs 2 O ?_
    refine zmR [Value.slice none 0 0,Value.slice none 0 0,Value.slice none 0 0] [(0,1),(1,1),(2,1)] [] O O (fun _=>by kernel_rfl) ?_
    refine Vs 7 O ?_
    refine zkC Tryz.results32 tg61 ts61 O O O O (fun w hI=>⟨_,rfl,⟨_,_,_,by rw [hcc],fun _=>⟨rfl,rfl,rfl⟩,fun h=>absurd (hcc ▸ h) c3⟩,hI.k3⟩)
   ·
    have hc:=hc1 (zo2.1 c3)
    obtain⟨ac,cc,rfl⟩:=hc.form
    have e1:W.heap.size<=w1.heap.size:=hI1.k0.size
    have e3:W.heap.size<=w3.heap.size:=hI3.k1.size
    have e5:W.heap.size<=w5.heap.size:=hI5.k2.size
    refine V.dat 900 2 O O O (ha) (fun q hq _ hs=>by have:=hlow q hs;omega) ?_
    refine V.dat 901 1 O O O (hb) (fun q hq _ hs=>by have:=hlow2 q hs;omega) ?_
    refine V.dat 902 0 O O O (hc) (fun q hq _ hs=>by have:=hlow3 q hs;omega) ?_
    refine Vs 7 O ?_
    refine zmR [Value.slice none 0 0,Value.slice none 0 0,Value.slice none 0 0] [(0,1),(1,1),(2,1)] [(0,_),(1,_),(2,_)] O O (fun _=>by kernel_rfl) ?_
    refine Vs 5 O ?_
    refine zkC Tryz.results32 tg61 ts61 O O O O (fun w hI=>⟨_,rfl,⟨_,_,_,by rw [hcc,zo2.1 c3],fun h=>absurd (hcc ▸ zo2.1 c3) h,fun _=>⟨(hI.at 900 O).1.wide zc (fun q hq=>by omega),(hI.at 901 O).1.wide zc (fun q hq=>by omega),(hI.at 902 O).1.wide zc (fun q hq=>by omega)⟩⟩,hI.k3⟩)
end Go.Proofs.YtaenledoagbddaaGreatDoor
namespace Go.GL
open Go.Sort Go.Proofs
section
variable {α:Type} [Inhabited α] {enc:α->List Value} {k:Nat}
theorem zoL (hk:∀ x,(enc x).length=k) (d:Array α):(flatK enc k d).toList=d.toList.flatMap enc:=by
 apply List.ext_getElem?
 intro t
 have hl:(d.toList.flatMap enc).length=d.size*k:=by rw [js hk,Array.length_toList]
 by_cases ht:t<d.size*k
 ·
  have hk0:0<k:=by
   rcases Nat.eq_zero_or_pos k with h | h
   . rw [h] at ht;omega
   . exact h
  have hd:t / k<d.size:=Nat.div_lt_of_lt_mul (by rw [Nat.mul_comm];exact ht)
  have hm:t % k<k:=Nat.mod_lt _ hk0
  have h1:=get_flatK enc k d t ht
  have h2:(flatK enc k d).toList[t]?=some ((flatK enc k d)[t]!):=by
   rw [Array.getElem?_toList,getElem!_pos _ t (by simpa using ht)]
   exact Array.getElem?_eq_getElem (by simpa using ht)
  rw [h2,h1]
  have h3:d.toList[t / k]?=some d[t / k]!:=by
   rw [Array.getElem?_toList,getElem!_pos _ (t / k) hd]
   exact Array.getElem?_eq_getElem hd
  have h4:(enc d[t / k]!)[t % k]?=some ((enc d[t / k]!)[t % k]!):=by
   rw [getElem!_pos _ (t % k) (by rw [hk];exact hm)]
   exact znT (by rw [hk];exact hm)
  have h5:=zhX hk h3 [] (t % k) _ h4
  rw [List.append_nil,Nat.mul_comm,Nat.div_add_mod] at h5
  rw [h5]
 . rw [zoh (by rw [Array.length_toList,size_flatK];omega),zoh (by rw [hl];omega)]
theorem zoV (hk:∀ x,(enc x).length=k) (l:List α) (d:Array α) (sp:List Value) (hs:d.size=l.length):putCells id 0 (flatK enc k d) (l.flatMap enc++sp).toArray=(d.toList.flatMap enc++sp).toArray:=by
 have hl:=js hk l
 have hl':(d.toList.flatMap enc).length=d.size*k:=by rw [js hk,Array.length_toList]
 have hsz:=size_flatK enc k d
 apply Array.ext_getElem?
 intro j
 rw [<- zoL hk d]
 simp only [putCells,Array.getElem?_mapIdx,List.getElem?_toArray]
 by_cases hj:j<d.size*k
 ·
  rw [zoj (by rw [hl,<- hs];exact hj),zoj (by simpa using hj)]
  rw [znT (by rw [hl,<- hs];exact hj)]
  simp only [Option.map_some,zo8,Nat.zero_add,hsz,hj,and_self,if_true,Nat.sub_zero,id]
  rw [Array.getElem?_toList,getElem!_pos _ j (by rw [hsz];exact hj)]
  exact (Array.getElem?_eq_getElem (by rw [hsz];exact hj)).symm
 ·
  rw [zok (by rw [hl,<- hs];omega),zok (by simp;omega)]
  simp only [hl,<- hs,Array.length_toList,hsz,Nat.zero_add,hj,and_false,if_false,Option.map_id']
theorem zpp (hk:∀ x,(enc x).length=k) {w:World} {b:Nat} {l:List α} {sp:List Value} {e:TypeId} (hb:Blk w b (l.flatMap enc++sp) e):HoldsK enc k w b 0 l.toArray:=by
 intro j hj
 rw [size_flatK] at hj
 refine⟨?_,hb.frozen⟩
 have h1:(flatK enc k l.toArray).toList[j]?=some ((flatK enc k l.toArray)[j]!):=by
  rw [Array.getElem?_toList,getElem!_pos _ j (by simpa using hj)]
  exact Array.getElem?_eq_getElem (by simpa using hj)
 rw [zoL hk] at h1
 refine hb.cells j _ ?_
 rw [zoj (zo7.1 h1).1]
 exact h1
theorem zov (hk:∀ x,(enc x).length=k) {w:World} {b:Nat} {l:List α} {sp:List Value} {e:TypeId} (hb:Blk w b (l.flatMap enc++sp) e) (d:Array α) (hs:d.size=l.length) (m:Nat) (os:Array Obj) :
  Blk (sortWorldK enc k w b 0 m d os) b (d.toList.flatMap enc++sp) e/\Keep (fun q=>q=b) w (sortWorldK enc k w b 0 m d os):=by
 have hblk:=hb.lt
 have hsz:(putRow id (Sort.ahead w m) b 0 (flatK enc k d)).heap.size=w.heap.size:=by simp [Sort.ahead]
 have hat:∀ i,i<w.heap.size->(sortWorldK enc k w b 0 m d os).heap[i]?=(putRow id (Sort.ahead w m) b 0 (flatK enc k d)).heap[i]?:=by
  intro i hi
  show ((putRow id (Sort.ahead w m) b 0 (flatK enc k d)).heap++os)[i]?=_
  rw [Array.getElem?_append_left (by rw [hsz];exact hi)]
 refine⟨?_,rfl,rfl,rfl,Nat.le_add_right _ _,?_,?_⟩
 ·
  unfold Blk at *
  rw [hat b hblk]
  show (w.heap.modify b _)[b]?=_
  rw [Array.getElem?_modify,zo4 rfl,hb]
  simp only [Option.map_some,onCells]
  rw [zoV hk l d sp hs]
 ·
  show w.heap.size<=((putRow id (Sort.ahead w m) b 0 (flatK enc k d)).heap++os).size
  rw [Array.size_append,hsz];omega
 ·
  intro i hi hne
  rw [hat i hi]
  show (w.heap.modify b _)[i]?=_
  rw [Array.getElem?_modify,zo3 (fun h=>hne h.symm)]
end
end Go.GL
namespace Go.Proofs.YtaenledoagbddaaGreatDoor
open Go.GL
abbrev ObC (F:Nat->Prop) (w:World):={ x:Ob × Value // SlR 1 zB F w x.2 x.1.1 }
abbrev zpG {F:Nat->Prop} {w:World} (x:ObC F w):List Value:=[x.1.2,.int .i64 x.1.1.2]
theorem zoW {F:Nat->Prop} {w:World}:∀ (l:List Ob) (xs:List Value),xs.length=l.length*2->(∀ (i:Nat) x,l[i]?=some x->ROb F w x ((xs.drop (i*2)).take 2))->∃ es:List (ObC F w),es.map (fun e=>e.1.1)=l/\es.flatMap zpG=xs
 | [],[],_,_=>⟨[],rfl,rfl⟩
 | [],_::_,h,_=>by simp at h
 | x::l,[],h,_=>by simp at h
 | x::l,[_],h,_=>by simp at h;omega
 | x::l,a::b::xs,h,hR=>by
  obtain⟨v,h1,h2⟩:=hR 0 x rfl
  simp only [Nat.zero_mul,List.drop_zero,List.take_succ_cons,List.take_zero,List.cons.injEq,and_true] at h1
  obtain⟨rfl,rfl⟩:=h1
  obtain⟨es,h3,h4⟩:=zoW l xs (by simp at h;omega) (fun i y hy=>by
   have:=hR (i+1) y (by simpa using hy)
   rw [Nat.succ_mul] at this
   simpa using this)
  exact⟨⟨(x,a),h2⟩::es,by simp [h3],by simp [h4]⟩
theorem zpH {F:Nat->Prop} {w w':World} (hk:∀ (v:Value) (x:List Int),SlR 1 zB F w v x->SlR 1 zB F w' v x):∀ (es:List (ObC F w)) (i:Nat) (x:Ob),(es.map (fun e=>e.1.1))[i]?=some x->ROb F w' x (((es.flatMap zpG).drop (i*2)).take 2)
 | [],i,x,h=>by simp at h
 | e::es,0,x,h=>by
  simp only [List.map_cons,List.getElem?_cons_zero,Option.some.injEq] at h
  subst h
  exact⟨e.1.2,by simp,hk _ _ e.2⟩
 | e::es,i+1,x,h=>by
  simp only [List.map_cons,List.getElem?_cons_succ] at h
  have:=zpH hk es i x h
  rw [Nat.succ_mul]
  simpa using this
theorem zpV (f:FuncId) (hf:∀ args w,(callFunc f args).run Tryz.prog w=.ok (.enter f args) w)
  (hcf:∀ (x y:Ob) (u v:Value) (D D':Nat->Prop) (W:World),SlR 1 zB D W u x.1->SlR 1 zB D' W v y.1->Calls Tryz.prog f #[.agg #[u,.int .i64 x.2],.agg #[v,.int .i64 y.2]] W (Ret fun r w'=>r=.int .i64 (yF x y)/\Ext W w'))
  (l:List Ob) (hlen:l.length<=1048576) (v:Value) (F:Nat->Prop) (w:World) (hown:OwH 55 2 ROb F w v l) :
  Calls Tryz.prog 90 #[v,.func (.func f) #[] #[]] w (Ret fun u w'=>u=.tuple #[]/\∃ l':List Ob,l'.Perm l/\l'.Pairwise (fun a b=>¬ yF b a<0)/\OwH 55 2 ROb F w' v l'/\Keep (fun q=>v.ownBlock=some q) w w'):=by
 by_cases h0:l=[]
 ·
  subst h0
  obtain⟨ao,c,rfl,_⟩:=hown.form
  haveI:Inhabited Nat:=⟨0⟩
  refine (Tryz.slices_SortFunc_none (α:=Nat) ao c (.func (.func f) #[] #[]) w).mono ?_
  rintro e w' ⟨rfl,rfl⟩
  exact⟨_,rfl,rfl,[],List.Perm.refl _,List.Pairwise.nil,hown,Keep.refl _ _⟩
 obtain⟨⟨xs,hx1,hx2⟩,hF⟩:=hown
 obtain⟨es,he1,he2⟩:=zoW l xs hx1.1 hx2
 subst he2
 have hel:es.length=l.length:=by rw [<- he1,zod]
 have hes:es ≠ []:=fun h=>h0 (by rw [<- he1,h];rfl)
 obtain⟨g,cap,sp,rfl,_,hnc,hcm,hB,hcl⟩:=zgz (enc:=zpG) (c:=2) (fun _=>rfl) (by omega) hx1 hes
 haveI:Inhabited (ObC F w):=⟨es.head hes⟩
 have hFg:∀ q,F q->q ≠ g:=fun q hq e=>(hF q hq).2 (by rw [e];rfl)
 have hlt':∀ x y:ObC F w,Go.Proofs.ltOf (fun x y:ObC F w=>yF x.1.1 y.1.1) x y=true ↔ yF x.1.1 y.1.1<0:=by
  intro x y
  unfold Go.Proofs.ltOf
  rw [decide_eq_true_eq]
 have hlf:∀ x y:ObC F w,Go.Proofs.ltOf (fun x y:ObC F w=>yF x.1.1 y.1.1) x y=false ↔ ¬ yF x.1.1 y.1.1<0:=by
  intro x y
  rw [<- hlt',Bool.not_eq_true]
 have hswo:Go.Sort.SWO (Go.Proofs.ltOf fun x y:ObC F w=>yF x.1.1 y.1.1):=by
  refine⟨?_,?_,?_⟩
  . intro x;rw [hlf,km];omega
  . intro x y z;rw [hlt',hlt',hlt'];exact jo
  ·
   intro x y z;rw [hlf,hlf,hlf]
   intro h1 h2 h3
   have a1:=xt x.1.1 y.1.1
   have a2:=xt y.1.1 z.1.1
   have a3:=xt x.1.1 z.1.1
   rcases Int.lt_or_le (yF y.1.1 x.1.1) 0 with b | b
   . have:=jo b h3;omega
   ·
    have e:x.1.1=y.1.1:=zaN (by omega)
    rw [e] at h3;exact h2 h3
 have hst:∀ (d:Array (ObC F w)) (m:Nat) (os:Array Obj),d.size=es.length->∀ (v:Value) (x:List Int),SlR 1 zB F w v x->SlR 1 zB F (sortWorldK zpG 2 w g 0 m d os) v x:=fun d m os hd v x hs =>
  hs.keep zc (zov (enc:=zpG) (k:=2) (fun _=>rfl) hB d hd m os).2 (fun q hq _=>hFg q hq)
 have hcon:=Tryz.slices_SortFunc (α:=ObC F w) 2 tg55 ts55 zpG (fun _=>rfl) (fun x v hv=>zja F x.1.1 (zpG x) ⟨x.1.2,rfl,x.2⟩ v hv) (fun x y=>yF x.1.1 y.1.1) hswo f #[] g 0 cap es.toArray w hf
  (fun m os dk hd x y=>by
   have hd':dk.size=es.length:=by simpa using hd
   refine (hcf x.1.1 y.1.1 _ _ F F _ (hst dk m os hd' _ _ x.2) (hst dk m os hd' _ _ y.2)).mono ?_
   rintro e w' ⟨v,rfl,rfl,hk⟩
   exact⟨rfl,zhe hk⟩)
  (zpp (enc:=zpG) (k:=2) (fun _=>rfl) hB) hB.lt (by simp only [List.size_toArray];omega)
 rw [show es.toArray.size=l.length from by simpa using hel] at hcon
 refine hcon.mono ?_
 rintro e w' ⟨rfl,d',q,os,hp,hs,rfl⟩
 have hds:d'.size=es.length:=by have:=hp.1;simpa using this
 have hw:=zov (enc:=zpG) (k:=2) (fun _=>rfl) hB d' hds q os
 have hperm:d'.toList.Perm es:=zds (by rw [show es.toArray.size=l.length from by simpa using hel];exact hp)
 have hdl:d'.toList.length=l.length:=by rw [hperm.length_eq,hel]
 refine⟨_,rfl,rfl,d'.toList.map (fun e=>e.1.1),?_,?_,⟨⟨d'.toList.flatMap zpG,?_,?_⟩,fun q hq=>⟨Nat.lt_of_lt_of_le (hF q hq).1 hw.2.size,(hF q hq).2⟩⟩,hw.2.mono (fun q _ h=>by rw [h];rfl)⟩
 ·
  have:=hperm.map (fun e=>e.1.1)
  rwa [he1] at this
 ·
  rw [List.pairwise_map]
  refine (zbW (by rw [hds,hel]) hs).imp ?_
  intro a b h
  exact (hlf _ _).1 h
 ·
  have h4:=zpR (enc:=zpG) (c:=2) (cap:=cap) (fun _=>rfl) hw.1 (by rw [<- hcl,zo1,zo1,js (c:=2) (fun _=>rfl),js (c:=2) (fun _=>rfl),hperm.length_eq]) (k:=l.length) (by omega) hnc hcm
  rw [List.take_of_length_le (by omega)] at h4
  rw [zod,hdl]
  exact h4
 . exact zpH (hst d' q os hds) d'.toList
theorem zpW (p:(List Int × Int)->Bool) (l:List (List Int × Int)) (v:Value) (D:Nat->Prop) (g:FuncId) (cp:Value) (W:World) (hf:∀ args w,(callFunc g args).run Tryz.prog w=.ok (.enter g args) w) (hl:SlR 2 ROb D W v l)
  (hc:∀ (x:(List Int × Int)) (u:Value) (w:World),Ext W w->x ∈ l->SlR 1 zB D w u x.1->Calls Tryz.prog g #[.agg #[u,.int .i64 x.2],cp] w (Ret fun r w'=>r=.bool (p x)/\Ext w w')) :
  Calls Tryz.prog 93 #[v,.func (.func g) #[] #[cp]] W (Ret fun r w'=>r=.int .i64 (zhP p l)/\Ext W w'):=by
 obtain⟨av,cv,rfl⟩:=hl.form
 have hmx:=hl.max
 refine zmb Tryz.func93 O Tryz.ntmps93 O (zmm ?_)
 refine Vs 14 O ?_
 refine zmL (σ:=Nat) [0,1,7] [] [] O (fun e i=>(8,.int .i64 i)::e) (fun e i=>e) (fun i=>i<=l.length/\(l.take i).any p=false) (fun i=>l.length - i) (0) (zlO O) (zlP O) (fun _=>rfl) (fun _=>rfl) (fun _=>rfl) (⟨zo8 _,by simp⟩) ?_
 rintro i ⟨hi,hno⟩
 refine Vs 6 O ?_
 refine zk7 O (fun hlt=>?_) (fun hlt=>?_)
 ·
  refine Vs 15 O ?_
  obtain⟨x,he_x,hm_x⟩:=gE_ l (i) (by omega)
  obtain⟨b_x,o_x,c_x,ha_x,_,hc_x,hR_x⟩:=hl.at he_x
  obtain⟨v1_x,rfl,hs_x⟩:=hR_x
  obtain⟨a1_x,n1_x,rfl⟩:=hs_x.form
  refine zmI 1000 0 O O hc_x ?_
  refine V.ix 1000 tR37 ts55 O ha_x (by omega) (_) (rfl) O ?_
  refine Vs 1 O ?_
  refine zmY hf O (fun w hI=>hc x _ w hI.k0 hm_x (Tr1 hI.k0 hs_x)) ?_
  refine Vs 2 O ?_
  refine V.bool O (fun hp=>?_) (fun hp=>?_)
  ·
   refine Vs 12 O ?_
   refine zkr Tryz.results93 O (fun w hI=>⟨_,rfl,by rw [zfR hno he_x hp],hI.k0⟩)
  ·
   refine Va 7 O (by omega) ?_
   refine zki (i+1) (zlO O) (zlP O) (⟨by omega,ze5 he_x hno hp⟩) (by first | omega | (dsimp only;omega)) 0 O O
 ·
  obtain rfl:i=l.length:=by omega
  rw [znY] at hno
  refine Vs 11 O ?_
  refine zkr Tryz.results93 O (fun w hI=>⟨_,rfl,by rw [zcQ hno],hI.k0⟩)
theorem zpX (l m:List (List Int × Int)) (v v2:Value) (D D2:Nat->Prop) (g:FuncId) (W:World) (hf:∀ args w,(callFunc g args).run Tryz.prog w=.ok (.enter g args) w) (hl:SlR 2 ROb D W v l) (hm:SlR 2 ROb D2 W v2 m)
  (hc:∀ (x y:(List Int × Int)) (u u2:Value) (w:World),SlR 1 zB D w u x.1->SlR 1 zB D2 w u2 y.1->Calls Tryz.prog g #[.agg #[u,.int .i64 x.2],.agg #[u2,.int .i64 y.2]] w (Ret fun r w'=>r=.bool (decide (x=y))/\Ext w w')) :
  Calls Tryz.prog 45 #[v,v2,.func (.func g) #[] #[]] W (Ret fun r w'=>r=.bool (decide (l=m))/\Ext W w'):=by
 obtain⟨av,cv,rfl⟩:=hl.form
 obtain⟨am,cm,rfl⟩:=hm.form
 have hmx:=hl.max
 have hmm:=hm.max
 refine zmc Tryz.func45 O Tryz.ntmps45 O (zmm ?_)
 refine Vs 15 O ?_
 refine zk7 O (fun e0=>?_) (fun e0=>?_)
 ·
  refine Vs 7 O ?_
  refine zkr Tryz.results45 O (fun w hI=>⟨_,rfl,by rw [zo6 (fun e=>by rw [e] at e0;exact e0 O)],hI.k0⟩)
 ·
  have hel:l.length=m.length:=by omega
  refine Vs 11 O ?_
  refine zmL (σ:=Nat) [1,2,15,16] [] [] O (fun e i=>(17,.int .i64 i)::e) (fun e i=>e) (fun i=>i<=l.length/\l.take i=m.take i) (fun i=>l.length - i) (0) (zlO O) (zlP O) (fun _=>rfl) (fun _=>rfl) (fun _=>rfl) (⟨zo8 _,rfl⟩) ?_
  rintro i ⟨hi,he⟩
  refine Vs 6 O ?_
  refine zk7 O (fun hlt=>?_) (fun hlt=>?_)
  ·
   refine Vs 7 O ?_
   obtain⟨x,he_x,hm_x⟩:=gE_ l (i) (by omega)
   obtain⟨b_x,o_x,c_x,ha_x,_,hc_x,hR_x⟩:=hl.at he_x
   obtain⟨v1_x,rfl,hs_x⟩:=hR_x
   obtain⟨a1_x,n1_x,rfl⟩:=hs_x.form
   refine zmI 1000 0 O O hc_x ?_
   refine V.ix 1000 tR37 ts55 O ha_x (by omega) (_) (rfl) O ?_
   refine Vs 1 O ?_
   refine V.alloc 8 tz55 O O (fun b8=>?_)
   refine Vs 8 O ?_
   obtain⟨y,he_y,hm_y⟩:=gE_ m (i) (by omega)
   obtain⟨b_y,o_y,c_y,ha_y,_,hc_y,hR_y⟩:=hm.at he_y
   obtain⟨v1_y,rfl,hs_y⟩:=hR_y
   obtain⟨a1_y,n1_y,rfl⟩:=hs_y.form
   refine zmI 2000 0 O O hc_y ?_
   refine V.ix 2000 tR37 ts55 O ha_y (by omega) (_) (rfl) O ?_
   refine Vs 1 O ?_
   refine V.alloc 9 tz55 O O (fun b9=>?_)
   refine Vs 8 O ?_
   refine zmY hf O (fun w hI=>hc x y _ _ w (Tr1 hI.k0 hs_x) (Tr1 hI.k0 hs_y)) ?_
   refine zm2 O (fun w hI=>zly O (by first | exact za | rfl)) ?_
   refine Vs 2 O ?_
   refine zk7 O (fun n0=>?_) (fun n0=>?_)
   ·
    refine Vs 11 O ?_
    refine zkr Tryz.results45 O (fun w hI=>⟨_,rfl,by rw [zo6 (fun e=>n0 (by rw [e,he_y] at he_x;exact (Option.some.inj he_x).symm))],hI.k0⟩)
   ·
    refine Va 7 O (by omega) ?_
    refine zki (i+1) (zlO O) (zlP O) (⟨by omega,by rw [zg he_x,zg he_y,he,zo2.1 n0]⟩) (by first | omega | (dsimp only;omega)) 0 O O
  ·
   obtain rfl:i=l.length:=by omega
   rw [znY,hel,znY] at he
   refine Vs 11 O ?_
   refine zkr Tryz.results45 O (fun w hI=>⟨_,rfl,by rw [zo5 he],hI.k0⟩)
section
variable {α:Type} [DecidableEq α]
theorem zpI {β:Type} [DecidableEq β] (f:α->β) (y:β) (x:α):∀ {L:List α},L.Nodup->(L.map fun o=>if f o=y then (if x=o then 1 else 0) else 0).sum=if x ∈ L/\f x=y then 1 else 0
 | [],_=>by simp
 | o::L,h=>by
  rw [List.nodup_cons] at h
  rw [List.map_cons,List.sum_cons,zpI f y x h.2]
  by_cases e:x=o
  ·
   subst e
   rw [zo3 (show ¬ (x ∈ L/\f x=y) from fun g=>h.1 g.1)]
   by_cases g:f x=y
   . rw [zo4 g,zo4 rfl,zo4 ⟨znX ..,g⟩]
   . rw [zo3 g,zo3 (fun k=>g k.2)]
  ·
   have:(if f o=y then (if x=o then 1 else 0) else 0)=0:=by
    rw [zo3 e]
    split <;> rfl
   rw [this,Nat.zero_add]
   by_cases g:x ∈ L/\f x=y
   . rw [zo4 g,zo4 ⟨znW _ g.1,g.2⟩]
   . rw [zo3 g,zo3 (fun k=>g ⟨(zo9.1 k.1).elim (fun h=>absurd h e) id,k.2⟩)]
omit [DecidableEq α] in
theorem zqf {L:List α} (u v:α->Nat):(L.map fun o=>u o+v o).sum=(L.map u).sum+(L.map v).sum:=by
 induction L with
 | nil=>rfl
 | cons o L ih=>rw [List.map_cons,List.sum_cons,ih,List.map_cons,List.sum_cons,List.map_cons,List.sum_cons];omega
theorem zph {β:Type} [DecidableEq β] (f:α->β) (ob:Nat->α) (y:β) {L:List α} (hn:L.Nodup):∀ {n:Nat},(∀ r,r<n->ob r ∈ L)->zgx (fun r=>f (ob r)) n y=(L.map fun o=>if f o=y then zgx ob n o else 0).sum
 | 0,hq=>by
  show 0=_
  have:(L.map fun o=>if f o=y then zgx ob 0 o else 0)=L.map fun _=>0:=List.map_congr_left fun o _=>by
   split <;> rfl
  rw [this]
  clear hn this hq
  induction L with
  | nil=>rfl
  | cons o L ih=>rw [List.map_cons,List.sum_cons,<- ih]
 | n+1,h=>by
  rw [zfS,zph f ob y hn fun r hr=>h r (by omega)]
  have h1:(L.map fun o=>if f o=y then zgx ob (n+1) o else 0)=L.map fun o=>(if f o=y then zgx ob n o else 0)+(if f o=y then (if ob n=o then 1 else 0) else 0):=List.map_congr_left fun o _=>by
   rw [zfS]
   by_cases e:f o=y
   . rw [zo4 e,zo4 e,zo4 e]
   . rw [zo3 e,zo3 e,zo3 e]
  rw [h1,zqf,zpI f y (ob n) hn]
  congr 1
  by_cases e:f (ob n)=y
  . rw [zo4 e,zo4 ⟨h n (by omega),e⟩]
  . rw [zo3 e,zo3 (fun g=>e g.2)]
theorem zpY {ob:Nat->α} {L:List α} {n j:Nat} (hn:L.Nodup) (hj:L[j]?=some (ob n)):(L.map fun o=>zgx ob n o).set j (zgx ob n (ob n)+1)=L.map fun o=>zgx ob (n+1) o:=by
 apply List.ext_getElem?
 intro i
 have hl:=(zo7.1 hj).1
 rw [List.getElem?_set]
 by_cases e:j=i
 ·
  subst e
  rw [zo4 rfl,zo4 (by rw [zod];exact hl),zoa,hj]
  simp only [Option.map_some]
  rw [zfS,zo4 rfl]
 ·
  rw [zo3 e,zoa,zoa]
  cases hi:L[i]? with
  | none=>rfl
  | some o =>
   simp only [Option.map_some]
   rw [zfS,zo3 (fun g=>e (by rw [<- kn hn hj,g,kn hn hi]))]
   rfl
end
open Go.GL
theorem zpq (o:Ob) (t:Bool) (ov:Value) (D:Nat->Prop) (W:World) (ho:SlR 1 zB D W ov o.1) :
  Calls Tryz.prog 34 #[.agg #[ov,.int .i64 o.2],.bool t] W (Ret fun r w'=>r=.agg #[ov,.int .i64 (zfT t o).2]/\Ext W w'):=by
 obtain⟨ao,co,rfl⟩:=ho.form
 refine zmb Tryz.func34 O Tryz.ntmps34 O (zmm ?_)
 refine Vs 2 O ?_
 refine V.box 2 O O (fun b2=>?_)
 refine V.alloc 4 tz55 O O (fun b4=>?_)
 refine Vs 8 O ?_
 refine V.bool O (fun b0=>?_) (fun b0=>?_)
 ·
  subst b0
  refine Vs 8 O ?_
  refine zkz Tryz.results34 tg55 ts55 O O O (fun w hI=>⟨_,rfl,rfl,hI.k0⟩)
 ·
  subst b0
  refine Vs 6 O ?_
  refine zmR [Value.slice none 0 0,Value.int IntKind.i64 0] [(0,1),(1,1)] [(0,_)] O O (fun _=>by kernel_rfl) ?_
  refine Vs 4 O ?_
  refine zkz Tryz.results34 tg55 ts55 O O O (fun w hI=>⟨_,rfl,rfl,hI.k0⟩)
def zqt (c:Mx):Nat:=((yn c).filter fun col=>decide (yq col ≠ 0)).length
theorem zpr (c:Mx) (hv:VMx c) (v:Value) (D:Nat->Prop) (W:World) (hc:SlR 1 (RSl 1 zB) D W v c):Calls Tryz.prog 70 #[v] W (Ret fun r w'=>SlR 1 (RSl 1 zB) (fun b=>W.heap.size<=b) w' r (yn c)/\Ext W w'):=by
 have h1:=hv.r1
 have h2:=hv.r2
 have h3:=hv.w2
 refine (zb1 c h1 hv.wid ⟨by omega,by omega⟩ v D W hc).mono ?_
 rintro _ w' ⟨r,rfl,⟨rv,g1,g2,g3,g4⟩,hk⟩
 exact⟨r,rfl,ziF g1 g2 (fun g hg=>(g3 g hg).1) g4,hk⟩
theorem zpJ (c:Mx) (v:Value) (D:Nat->Prop) (W:World) (hc:SlR 1 (RSl 1 zB) D W v c):Calls Tryz.prog 41 #[.agg #[v]] W (Ret fun r w'=>r=.int .i64 (if VMx c then (zqt c:Int) else 0)/\Ext W w'):=by
 obtain⟨av,cv,rfl⟩:=hc.form
 refine zma Tryz.func41 O Tryz.ntmps41 O (zmm ?_)
 refine Vs 2 O ?_
 refine V.box 1 O O (fun b1=>?_)
 refine Vs 7 O ?_
 refine zmB Tryz.call39 O (fun w hI=>kq c _ D w (Tr1 hI.k0 hc)) ?_
 refine zm2 O (fun w hI=>zly O (by first | exact za | rfl)) ?_
 refine Vs 2 O ?_
 refine zk7 O (fun v0=>?_) (fun v0=>?_)
 ·
  refine Vs 7 O ?_
  refine zkr Tryz.results41 O (fun w hI=>⟨_,rfl,by rw [zo3 v0],hI.k0⟩)
 ·
  have v0:=zo2.1 v0
  have hw2:=v0.w2
  have htl:=qJ c
  refine Vs 12 O ?_
  refine zmD Tryz.call70 O (fun w hI=>zpr c v0 _ D w (Tr1 hI.k0 hc)) ?_
  rintro r1 w1 w2 hI1 hk12 hres hlow
  obtain⟨at_,ct,rfl⟩:=hres.form
  refine Vs 5 O ?_
  refine zmL (σ:=Nat × Nat) [11,12] [] [] O (fun e ⟨i,n⟩=>(13,.int .i64 i)::(3,.int .i64 n)::e) (fun e ⟨i,n⟩=>e) (fun⟨i,n⟩=>i<=(yn c).length/\n=(((yn c).take i).filter fun col=>decide (yq col ≠ 0)).length) (fun⟨i,n⟩=>(yn c).length - i) ((0,0)) (zlO O) (zlP O) (fun _=>rfl) (fun _=>rfl) (fun _=>rfl) (⟨zo8 _,rfl⟩) ?_
  rintro⟨i,n⟩ ⟨hi,hn⟩
  show V _ _ _ _ _ ((13,.int .i64 i)::(3,.int .i64 n)::_) _ (_) _
  refine Vs 6 O ?_
  refine zk7 O (fun hlt=>?_) (fun hlt=>?_)
  ·
   refine Vs 6 O ?_
   obtain⟨col,he_col,hm_col⟩:=gE_ (yn c) (i) (by omega)
   obtain⟨b_col,o_col,c_col,ha_col,hd_col,hc_col,hR_col⟩:=hres.atD he_col
   obtain⟨v1_col,rfl,hs_col⟩:=hR_col
   obtain⟨a1_col,n1_col,rfl⟩:=hs_col.form
   refine zmJ 1000 0 O O (fun h_=>by have h1_:=hlow _ h_;have h2_:=hd_col;first | omega | exact h1_ h2_) hc_col ?_
   refine V.ix 1000 tR34 ts27 O ha_col (by omega) (_) (rfl) O ?_
   have hcb:=zgo v0 hm_col
   have htk:=zg he_col
   have hnle:n<=i:=by
    rw [hn]
    refine znZ (List.length_filter_le _ _) ?_
    rw [zon];omega
   refine Vs 7 O ?_
   refine zmB Tryz.call71 O (fun w hI=>zbm col _ _ w (hs_col.keep zc hI.k0 (fun b hb _ hs=>by have:=hlow b hs;omega)) (fun x hx=>by have:=hcb x hx;omega)) ?_
   have hg:=yS col
   refine Vs 3 O ?_
   refine zk7 O (fun g=>?_) (fun g=>?_)
   ·
    refine Va 11 O (by omega) ?_
    refine zki (⟨i+1,n+1⟩) (zlO O) (zlP O) (⟨by omega,by rw [htk,List.filter_append,zo1,<- hn,List.filter_cons_of_pos (by simp;omega)];rfl⟩) (by first | omega | (dsimp only;omega)) 0 O O
   ·
    refine Va 7 O (by omega) ?_
    refine zki (⟨i+1,n⟩) (zlO O) (zlP O) (⟨by omega,by rw [htk,List.filter_append,zo1,<- hn,List.filter_cons_of_neg (by simp;omega)];rfl⟩) (by first | omega | (dsimp only;omega)) 0 O O
  ·
   obtain rfl:i=(yn c).length:=by omega
   rw [znY] at hn
   refine Vs 12 O ?_
   refine zkr Tryz.results41 O (fun w hI=>⟨_,rfl,by rw [zo4 v0,hn];rfl,hI.k1⟩)
theorem zpK (a b:List Int) (va vb:Value) (Da Db:Nat->Prop) (w:World) (ha:SlR 1 zB Da w va a) (hb:SlR 1 zB Db w vb b) :
  Calls Tryz.prog 87 #[va,vb] w (Ret fun r w'=>r=.bool (decide (a=b))/\Ext w w'):=by
 obtain⟨aa,ca,rfl⟩:=ha.form
 obtain⟨ab,cb,rfl⟩:=hb.form
 have hmx:=ha.max
 refine zmb Tryz.func87 O Tryz.ntmps87 O (zmm ?_)
 refine Vs 15 O ?_
 refine zk7 O (fun hl=>?_) (fun hl=>?_)
 ·
  refine Vs 7 O ?_
  refine zkr Tryz.results87 O (fun w hI=>⟨_,rfl,by rw [zo6 (fun h=>by rw [h] at hl;omega)],hI.k0⟩)
 ·
  refine Vs 9 O ?_
  refine zmL (σ:=Nat) [0,1] [] [] O (fun e i=>(5,.int .i64 i)::e) (fun e i=>e) (fun i=>i<=a.length/\a.take i=b.take i) (fun i=>a.length - i) (0) (zlO O) (zlP O) (fun _=>rfl) (fun _=>rfl) (fun _=>rfl) (⟨zo8 _,by simp⟩) ?_
  rintro i ⟨hi,hall⟩
  refine Vs 9 O ?_
  refine zk7 O (fun hlt=>?_) (fun hlt=>?_)
  ·
   refine Vs 5 O ?_
   refine Vq (by kernel_rfl) ?_
   refine Vs 2 O ?_
   obtain⟨x,he_x,hm_x⟩:=gE_ a (i) (by omega)
   obtain⟨b_x,o_x,c_x,ha_x,_,hc_x,hR_x⟩:=ha.at he_x
   obtain rfl:=hR_x
   refine zmI 1000 0 O O hc_x ?_
   refine zmt 1000 tR27 ts3 O ha_x (by omega) (_) (rfl) O ?_
   refine Vs 3 O ?_
   obtain⟨y,he_y,hm_y⟩:=gE_ b (i) (by omega)
   obtain⟨b_y,o_y,c_y,ha_y,_,hc_y,hR_y⟩:=hb.at he_y
   obtain rfl:=hR_y
   refine zmI 2000 0 O O hc_y ?_
   refine zmt 2000 tR27 ts3 O ha_y (by omega) (_) (rfl) O ?_
   refine Vs 4 O ?_
   refine zk7 O (fun hne=>?_) (fun hne=>?_)
   ·
    refine Vs 11 O ?_
    refine zkr Tryz.results87 O (fun w hI=>⟨_,rfl,by rw [zo6 (fun h=>by rw [h,he_y] at he_x;cases he_x;omega)],hI.k0⟩)
   ·
    obtain rfl:x=y:=by omega
    refine Va 8 O (by omega) ?_
    refine zki (i+1) (zlO O) (zlP O) (⟨by omega,by rw [zg he_x,zg he_y,hall]⟩) (by first | omega | (dsimp only;omega)) 0 O O
  ·
   refine Vs 11 O ?_
   refine zkr Tryz.results87 O (fun w hI=>⟨_,rfl,by rw [zo5 (by rw [List.take_of_length_le (by omega),List.take_of_length_le (by omega)] at hall;exact hall)],hI.k0⟩)
theorem zqg (a b:List Int) (t u:Int) (va vb:Value) (Da Db:Nat->Prop) (w:World) (ha:SlR 1 zB Da w va a) (hb:SlR 1 zB Db w vb b) :
  Calls Tryz.prog 35 #[.agg #[va,.int .i64 t],.agg #[vb,.int .i64 u]] w (Ret fun r w'=>r=.bool (decide (t=u/\a=b))/\Ext w w'):=by
 refine zmb Tryz.func35 O Tryz.ntmps35 O (zmm ?_)
 refine Vs 2 O ?_
 refine V.box 2 O O (fun b2=>?_)
 refine V.box 3 O O (fun b3=>?_)
 refine Vs 11 O ?_
 refine V.sp 10 O (fun e=>?_) (fun e=>?_)
 ·
  refine Vs 4 O ?_
  refine zmB Tryz.call87 O (fun w hI=>zpK a b va vb Da Db w (Tr1 hI.k0 ha) (Tr1 hI.k0 hb)) ?_
  refine Vs 5 O ?_
  refine zkr Tryz.results35 O (fun w hI=>⟨_,rfl,by simp [e],hI.k0⟩)
 ·
  refine Vs 10 O ?_
  refine zkr Tryz.results35 O (fun w hI=>⟨_,rfl,by rw [zo6 (fun h=>e h.1)],hI.k0⟩)
end Go.Proofs.YtaenledoagbddaaGreatDoor
namespace Go.GL
section
variable {P:Program} {n:Nat} {Q:Exit->Act->World->Prop} {ks:List Fr} {env:Env} {A:Tgs} {H Hs:Hp} {Bs B0:zP} {ops:Array Oper} {L:List Nat} {fuel:Nat} {listed:Array Bool} {d:Nat} {ty:TypeId} {ps:String} {aft:Array Edge} {g:Option (Nat × Bool)} {v:Value}
theorem zqB (k:Nat) {e e':HE} {op:Op} {rest:List Oper} (hn:(gd ops env g,zl H k,qt H k)=(some true,some e,none)) (hl:e'.loc) (hz:∀ b,¬ e'.fz b) (hm:∀ w,VI Bs H w->yh P ⟨none,op,ty,ps,aft,none⟩ env w (fun _ w'=>e'.holds w'/\Keep e.S w w'/\∀ q,e'.S q->(e.S q\/w.heap.size<=q)/\q<w'.heap.size))
  (h:V P n Q ks (.o ops rest) env A (hset H k e') Bs):V P n Q ks (.o ops (⟨none,op,ty,ps,aft,g⟩::rest)) env A H Bs:=by
 simp only [Prod.mk.injEq] at hn
 refine fun hA w hI=>zqx hn.1 (hm w hI) ?_
 rintro _ w' ⟨hh,hk,hS⟩
 exact h (hA.res hn.2.1 hn.2.2) w' (hI.set hn.2.1 hk hh hl hz hS)
end
section
variable {P:Program} {env:Env} {w:World} {dst:Option Tmp} {ty:TypeId} {pos:String} {aft:Array Edge} {g:Option (Nat × Bool)}
theorem zqC {t:TypeId} {k:Nat} {x y:Operand} {b o:Nat} {cs us cs':List Value} {e:TypeId} {v:Value} (hs:∀ w,(sizeOf t).run P w=.ok k w) (hb:Blk w b cs e) (hx:ev env x=some (.pointer (some ⟨b,o,none⟩))) (hy:ev env y=some v) (hv:v.cells=us.toArray) (hk:us.length=k) (h1:∀ u ∈ us,u.oneCell'=true) (ho:o+k<=cs.length) (hc:cs.take o++us++cs.drop (o+k)=cs') :
  xD P ⟨dst,.store t x y,ty,pos,aft,g⟩ env w (fun w'=>(BlkP b cs' e).holds w'/\Keep (BlkP b cs e).S w w'/\∀ q,(BlkP b cs' e).S q->((BlkP b cs e).S q\/w.heap.size<=q)/\q<w'.heap.size):=by
 obtain⟨w',hr,h2,h3,h4⟩:=zkZ (dst:=dst) (ty:=ty) (pos:=pos) (aft:=aft) (g:=g) hs hx hy hv hk h1 hb ho
 subst hc
 exact⟨w',hr,h3,h4,fun q hq=>⟨.inl hq,by have hq:q=b:=hq;subst hq;exact h3.lt⟩⟩
theorem zqD {t e:TypeId} {k:Nat} {z:Value} {x:Operand} {b o m c:Nat} {cs:List Value} {zs cs':List Value} (hu:∀ w,(underlying t).run P w=.ok (.slice e) w) (hz:∀ w,(zeroValue e).run P w=.ok z w) (hb:Blk w b cs e) (hx:ev env x=some (.slice (some ⟨b,o,none⟩) m c)) (hm:0<m) (hzs:Builtin.zeroCells z.cells m=zs.toArray) (hl:zs.length=m*k) (h1:∀ u ∈ zs,u.oneCell'=true) (ho:o+m*k<=cs.length) (hc:cs.take o++zs++cs.drop (o+m*k)=cs') :
  yh P ⟨dst,.call ⟨.builtin .clear,#[x],#[t]⟩,ty,pos,aft,g⟩ env w (fun _ w'=>(BlkP b cs' e).holds w'/\Keep (BlkP b cs e).S w w'/\∀ q,(BlkP b cs' e).S q->((BlkP b cs e).S q\/w.heap.size<=q)/\q<w'.heap.size):=by
 obtain⟨u,w',hr,h0,h2,h3,h4⟩:=M.clear (dst:=dst) (ty:=ty) (pos:=pos) (aft:=aft) (g:=g) hu hz hx hm hzs hl h1 hb ho
 subst hc
 exact⟨u,w',hr,h3,h4,fun q hq=>⟨.inl hq,by have hq:q=b:=hq;subst hq;exact h3.lt⟩⟩
end
end Go.GL
namespace Go.Proofs.YtaenledoagbddaaGreatDoor
open Go.GL
theorem zpZ {α:Type} {enc:α->List Value} {k:Nat} (hk:∀ x,(enc x).length=k) {L:List α} {q:Nat} {x z:α} (hz:L[q]?=some z) (sp:List Value):(L.flatMap enc++sp).take (q*k)++enc x++(L.flatMap enc++sp).drop (q*k+k)=(L.set q x).flatMap enc++sp:=by
 obtain⟨hl,_⟩:=zo7.1 hz
 have hL:L=L.take q++z::L.drop (q+1):=by rw [<- yU hz,List.take_append_drop]
 have hS:L.set q x=L.take q++x::L.drop (q+1):=List.set_eq_take_append_cons_drop .. |>.trans (zo4 hl)
 have hlen:((L.take q).flatMap enc).length=q*k:=by rw [js hk,zon,Nat.min_eq_left (by omega)]
 rw [hS]
 conv=>lhs;rw [hL]
 simp only [List.flatMap_append,List.flatMap_cons,List.append_assoc]
 rw [<- hlen,List.take_left' rfl,List.drop_append,List.drop_eq_nil_of_le (by omega),List.nil_append,Nat.add_sub_cancel_left,<- hk z,List.drop_left' rfl]
theorem zox (x y:Ob) (u v:Value) (D D':Nat->Prop) (W:World) (hx:SlR 1 zB D W u x.1) (hy:SlR 1 zB D' W v y.1):Calls Tryz.prog 35 #[.agg #[u,.int .i64 x.2],.agg #[v,.int .i64 y.2]] W (Ret fun r w'=>r=.bool (decide (x=y))/\Ext W w'):=by
 refine (zqg x.1 y.1 x.2 y.2 u v D D' W hx hy).mono ?_
 rintro _ w' ⟨_,rfl,rfl,hk⟩
 refine⟨_,rfl,?_,hk⟩
 congr 1
 rw [zol,Prod.ext_iff]
 exact And.comm
theorem zk0:∀ p,(zjP p).length=2:=fun _=>rfl
def zoF (m:Nat):List Value:=(Builtin.zeroCells (Value.agg #[.slice none 0 0,.int .i64 0]).cells m).toList
theorem zoM (m:Nat):(zoF m).length=m*2:=by simp [zoF,Builtin.zeroCells,Value.cells]
theorem zps (m:Nat):∀ u ∈ zoF m,u.oneCell'=true:=fun u hu=>by
 simp only [zoF,Builtin.zeroCells,Value.cells,Array.toList_map,List.mem_map] at hu
 obtain⟨i,_,rfl⟩:=hu
 have:i % 2<2:=Nat.mod_lt _ (by decide)
 have h2:i % 2=0\/i % 2=1:=by omega
 rcases h2 with h2 | h2 <;> simp [h2,Value.oneCell']
theorem zp9 (es:List (Ob × Value)) (hlen:es.length<=1048576) (g cap:Nat) (sp:List Value) (F:Nat->Prop) (W:World) (hne:es ≠ []) (hB:Blk W g (es.flatMap zjP++sp) 55) (hcl:(es.flatMap zjP++sp).length=cap*2) (hnc:es.length<=cap) (hcm:cap<=9223372036854775807) (hd:∀ p ∈ es,SlR 1 zB F W p.2 p.1.1) (hF:∀ q,F q->q ≠ g) :
  Calls Tryz.prog 92 #[.slice (some ⟨g,0,none⟩) es.length cap,.func (.func 35) #[] #[]] W (Ret fun u w'=>∃ L:List (Ob × Value),(u=.slice (some ⟨g,0,none⟩) L.length cap/\L.map (·.1)=Gr.compactL (es.map (·.1))/\∀ p ∈ L,p ∈ es)/\w'.ownsRow 0 55 2 (.slice (some ⟨g,0,none⟩) L.length cap) L.length (L.flatMap zjP)/\Keep (fun q=>q=g) W w'):=by
 have hpos:0<es.length:=List.length_pos_iff.2 hne
 have hone:∀ p ∈ es,∀ u ∈ zjP p,u.oneCell'=true:=fun p hp u hu=>by
  obtain⟨a,c,h⟩:=(hd p hp).form
  simp only [zjP,zo9,List.not_mem_nil,or_false] at hu
  rcases hu with rfl | rfl
  . rw [h];rfl
  . rfl
 refine zmb Tryz.func92 O Tryz.ntmps92 O (V.inM 900 (BlkP g (es.flatMap zjP++sp) 55) (hB) BlkP.loc (fun _ h=>h) (fun q hq=>by have hq:q=g:=hq;subst hq;exact hB.lt) ?_)
 refine Vs 13 O ?_
 refine zk7 O (fun h2=>?_) (fun h2=>?_)
 ·
  have e1:Gr.compactL (es.map (·.1))=es.map (·.1):=by
   match es,hne,h2 with
   | [x],_,_=>rfl
   | x::y::r,_,h=>simp at h;omega
  refine Vs 8 O ?_
  refine zkr Tryz.results92 O (fun w hI=>⟨_,rfl,es,⟨rfl,e1.symm,fun _ h=>h⟩,(by have:=yG (k:=2) (n:=es.length) (cap:=cap) (hI.at 900 O) hnc hcm hcl;rwa [List.take_left' (by rw [js zk0])] at this),hI.k0.mono (fun q _ h=>h)⟩)
 ·
  have e1:Gr.compactL ((es.map (·.1)).take 1)=(es.map (·.1)).take 1:=by
   match es,hne with
   | x::r,_=>rfl
  refine Vs 9 O ?_
  refine zmL (σ:=Nat) [0,1] [900] [] O (fun e k=>(5,.int .i64 k)::e) (fun e k=>e) (fun k=>1<=k/\k<=es.length/\Gr.compactL ((es.map (·.1)).take k)=(es.map (·.1)).take k) (fun k=>es.length - k) (1) (zlO O) (zlP O) (fun _=>rfl) (fun _=>rfl) (fun _=>rfl) (⟨by omega,by omega,e1⟩) ?_
  rintro k ⟨hk1,hkn,hck⟩
  refine Vs 9 O ?_
  refine zk7 O (fun hlt=>?_) (fun hlt=>?_)
  ·
   obtain⟨x,hx⟩:∃ e,es[k]?=some e:=⟨_,znT (by omega)⟩
   obtain⟨y,hy⟩:∃ e,es[k - 1]?=some e:=⟨_,znT (by omega)⟩
   refine Vs 5 O ?_
   have hxm:=znU hx
   have hym:=znU hy
   refine Vw [900] [] O ?_
   refine Vb [0,1,2,5,6,7] 0 (by kernel_rfl) O O O (by omega) ?_
   refine VD.pl 3 O (by kernel_rfl) O (fun w=>zkP tR37 ts55 O O O (by omega)) ?_
   refine zmV 4 O (by kernel_rfl) O 0 O O (fun w hI=>zkR tg55 ts55 O (cs:=zjP x) O (by rw [zof];exact zk3 zk0 (show Blk w g _ _ from hI.at 900 O) hx)) ?_
   refine VD.pl 8 O (by kernel_rfl) O (fun w=>zkP tR37 ts55 O O O (by omega)) ?_
   refine zmV 9 O (by kernel_rfl) O 0 O O (fun w hI=>zkR tg55 ts55 O (cs:=zjP y) O (by rw [show ((k:Int) - 1).toNat=k - 1 from by omega];exact zk3 zk0 (show Blk w g _ _ from hI.at 900 O) hy)) ?_
   refine zmZ 10 0 Tryz.call35 O (by kernel_rfl) O O (fun w hI=>zox x.1 y.1 _ _ F F w ((hd x hxm).keep zc hI.k0 (fun q hq _ h=>hF q hq h)) ((hd y hym).keep zc hI.k0 (fun q hq _ h=>hF q hq h))) ?_
   have hxo:(es.map (·.1))[k]?=some x.1:=by rw [zoa,hx];rfl
   have hyo:(es.map (·.1))[k - 1]?=some y.1:=by rw [zoa,hy];rfl
   have hlast:(Gr.compactL ((es.map (·.1)).take k)).getLast?=some y.1:=by
    have:=Gr.compactL_last hyo
    rwa [show k - 1+1=k from by omega] at this
   refine zlb (by kernel_rfl) ?_
   refine Vs 1 O ?_
   refine zk7 O (fun heq=>?_) (fun hneq=>?_)
   ·
    refine Vs 4 O ?_
    refine zm2 O (fun w hI=>zqy tR37 ts55 O O O (by omega) (by omega)) ?_
    have hs0:Gr.compactL ((es.map (·.1)).take (k+1))=(es.map (·.1)).take k:=by
     rw [Gr.compactL_take hxo]
     unfold Gr.cstep
     rw [zo4 (by rw [hlast,heq]),hck]
    refine Vs 10 O ?_
    refine zmL (σ:=Nat × Nat × List (Ob × Value)) [0,1] [] [] O (fun e ⟨q,k2,L⟩=>(5,.int .i64 q)::(6,.slice (some ⟨g,0+k*2,none⟩) (es.length - k) (cap - k))::(7,.int .i64 k2)::e) (fun e ⟨q,k2,L⟩=>(900,BlkP g (L.flatMap zjP++sp) 55)::e) (fun⟨q,k2,L⟩=>L.length=es.length/\k<=q/\q+1<=k+k2/\1<=k2/\k2<=es.length - k/\(L.take q).map (·.1)=Gr.compactL ((es.map (·.1)).take (k+k2))/\L.drop (k+k2 - 1)=es.drop (k+k2 - 1)/\∀ p ∈ L,p ∈ es) (fun⟨q,k2,L⟩=>es.length - k - k2) ((k,1,es)) (zlO O) (zlP O) (fun _=>rfl) (fun _=>rfl) (fun _=>rfl) (⟨rfl,zoi _,by omega,by omega,by omega,by rw [hs0,List.map_take],rfl,fun _ h=>h⟩) ?_
    rintro⟨q,k2,L⟩ ⟨hL,hq1,hq2,hk21,hk22,htk,hdr,hLm⟩
    show V _ _ _ _ _ ((5,.int .i64 q)::(6,.slice (some ⟨g,0+k*2,none⟩) (es.length - k) (cap - k))::(7,.int .i64 k2)::_) _ ((900,BlkP g (L.flatMap zjP++sp) 55)::_) _
    refine Vs 9 O ?_
    refine zk7 O (fun hlt2=>?_) (fun hlt2=>?_)
    ·
     obtain⟨x2,hx2⟩:∃ e,es[k+k2]?=some e:=⟨_,znT (by omega)⟩
     obtain⟨y2,hy2⟩:∃ e,es[k+k2 - 1]?=some e:=⟨_,znT (by omega)⟩
     have hLx:L[k+k2]?=some x2:=by
      have:=congrArg (fun l=>l[1]?) hdr
      simp only [List.getElem?_drop] at this
      rw [show k+k2 - 1+1=k+k2 from by omega] at this
      rw [this];exact hx2
     have hLy:L[k+k2 - 1]?=some y2:=by
      have:=congrArg (fun l=>l[0]?) hdr
      simp only [List.getElem?_drop,Nat.add_zero] at this
      rw [this];exact hy2
     have hx2m:=znU hx2
     have hy2m:=znU hy2
     have hx2o:(es.map (·.1))[k+k2]?=some x2.1:=by rw [zoa,hx2];rfl
     have hy2o:(es.map (·.1))[k+k2 - 1]?=some y2.1:=by rw [zoa,hy2];rfl
     have hlast2:(Gr.compactL ((es.map (·.1)).take (k+k2))).getLast?=some y2.1:=by
      have:=Gr.compactL_last hy2o
      rwa [show k+k2 - 1+1=k+k2 from by omega] at this
     have hdr2:L.drop (k+(k2+1) - 1)=es.drop (k+(k2+1) - 1):=by
      have:=congrArg (List.drop 1) hdr
      simp only [List.drop_drop] at this
      rw [show k+(k2+1) - 1=k+k2 - 1+1 from by omega]
      exact this
     refine Vs 5 O ?_
     refine Vw [900] [] O ?_
     refine Vb [0,1,2,5,6,7] 0 (by kernel_rfl) O O O (by omega) ?_
     refine VD.pl 3 O (by kernel_rfl) O (fun w=>zkP tR37 ts55 O O O (by omega)) ?_
     refine zmV 4 O (by kernel_rfl) O 0 O O (fun w hI=>zkR tg55 ts55 O (cs:=zjP x2) O (by rw [show 0+k*2+(k2:Int).toNat*2=0+(k+k2)*2 from by omega];exact zk3 zk0 (show Blk w g _ _ from hI.at 900 O) hLx)) ?_
     refine VD.pl 8 O (by kernel_rfl) O (fun w=>zkP tR37 ts55 O O O (by omega)) ?_
     refine zmV 9 O (by kernel_rfl) O 0 O O (fun w hI=>zkR tg55 ts55 O (cs:=zjP y2) O (by rw [show 0+k*2+((k2:Int) - 1).toNat*2=0+(k+k2 - 1)*2 from by omega];exact zk3 zk0 (show Blk w g _ _ from hI.at 900 O) hLy)) ?_
     refine zmZ 10 0 Tryz.call35 O (by kernel_rfl) O O (fun w hI=>zox x2.1 y2.1 _ _ F F w ((hd x2 hx2m).keep zc hI.k0 (fun q hq _ h=>hF q hq h)) ((hd y2 hy2m).keep zc hI.k0 (fun q hq _ h=>hF q hq h))) ?_
     refine zm3 11 0 O (by kernel_rfl) O O (fun w hI=>zly O za) ?_
     refine zlb (by kernel_rfl) ?_
     refine Vs 1 O ?_
     refine zk7 O (fun hne2=>?_) (fun heq2=>?_)
     ·
      refine Vs 6 O ?_
      refine zm2 O (fun w hI=>zkP tR37 ts55 O O O (by omega)) ?_
      refine zm2 O (fun w hI=>zkR tg55 ts55 O (cs:=zjP x2) O (by rw [show 0+k*2+(k2:Int).toNat*2=0+(k+k2)*2 from by omega];exact zk3 zk0 (show Blk w g _ _ from hI.at 900 O) hLx)) ?_
      refine zm2 O (fun w hI=>zkP tR37 ts55 O O O (by omega)) ?_
      obtain⟨z,hz⟩:∃ z,L[q]?=some z:=⟨_,znT (by omega)⟩
      refine zn8 900 (e':=BlkP g ((L.set q x2).flatMap zjP++sp) 55) O (BlkP.loc) (fun _ h=>h) (fun w hI=>zqC (us:=zjP x2) ts55 (show Blk w g _ _ from hI.at 900 O) O O O O (fun u hu=>hone x2 hx2m u hu) (by rw [zo1,js zk0];omega) (by rw [zof,Nat.zero_add];exact zpZ zk0 hz sp)) ?_
      refine Va 14 O (by omega) ?_
      refine zki (⟨q+1,k2+1,L.set q x2⟩) (zlO O) (zlP O) (⟨by rw [List.length_set];exact hL,by omega,by omega,by omega,by omega,by rw [show k+(k2+1)=k+k2+1 from by omega,Gr.compactL_take hx2o,<- htk];unfold Gr.cstep;rw [zo3 (by rw [htk,hlast2];intro h;exact hne2 (Option.some.inj h).symm),List.take_succ_eq_append_getElem (by rw [List.length_set];omega)];simp [List.take_set_of_le],by rw [List.drop_set_of_lt (by omega)];exact hdr2,fun p hp=>(List.mem_or_eq_of_mem_set hp).elim (hLm p) (fun e=>e ▸ hx2m)⟩) (by first | omega | (dsimp only;omega)) 0 O O
     ·
      refine Va 8 O (by omega) ?_
      refine zki (⟨q,k2+1,L⟩) (zlO O) (zlP O) (⟨hL,by omega,by omega,by omega,by omega,by rw [show k+(k2+1)=k+k2+1 from by omega,Gr.compactL_take hx2o,<- htk];unfold Gr.cstep;rw [zo4 (by rw [htk,hlast2,zo2.1 heq2])],hdr2,hLm⟩) (by first | omega | (dsimp only;omega)) 0 O O
    ·
     have hclL:(L.flatMap zjP++sp).length=cap*2:=by rw [<- hcl,zo1,zo1,js zk0,js zk0,hL]
     have hke:k+k2=es.length:=by omega
     have hmo:(es.map (·.1)).length=es.length:=zod _
     rw [hke,<- hmo,znY] at htk
     have hfl:((L.take q).flatMap zjP).length=q*2:=by rw [js zk0,zon];omega
     refine Vs 9 O ?_
     refine zm2 O (fun w hI=>zqy tR37 ts55 O O O (by omega) (by omega)) ?_
     refine zqB 900 (e':=BlkP g ((L.take q).flatMap zjP++(zoF (es.length - q)++(L.flatMap zjP++sp).drop (q*2+(es.length - q)*2))) 55) O (BlkP.loc) (fun _ h=>h) (fun w hI=>zqD (k:=2) (zs:=zoF (es.length - q)) tR37 tz55 (show Blk w g _ _ from hI.at 900 O) O (by omega) (by simp [zoF]) (zoM _) (zps _) (by rw [zof,hclL];omega) (by rw [zof,Nat.zero_add,List.append_assoc,List.take_append_of_le_length (by rw [js zk0];omega),zoA zk0])) ?_
     refine Vs 6 O ?_
     refine zm2 O (fun w hI=>zlr tR37 ts55 O O (by omega)) ?_
     have hql:(L.take q).length=q:=by rw [zon];omega
     refine Vs 9 O ?_
     refine zkr Tryz.results92 O (fun w hI=>⟨_,rfl,L.take q,⟨by rw [hql,zof],htk,fun p hp=>hLm p (List.mem_of_mem_take hp)⟩,(by have h7:=yG (k:=2) (n:=q) (cap:=cap) (hI.at 900 O) (by omega) hcm (by simp only [zo1,hfl,zoM,List.length_drop] at *;omega);rw [List.take_left' hfl] at h7;rw [hql];exact h7),hI.k0.mono (fun q _ h=>h)⟩)
   ·
    refine Va 8 O (by omega) ?_
    refine zki (k+1) (zlO O) (zlP O) (⟨by omega,by omega,by rw [Gr.compactL_take hxo,zg hxo];unfold Gr.cstep;rw [zo3 (by rw [hlast];intro h;exact hneq (Option.some.inj h).symm),hck]⟩) (by first | omega | (dsimp only;omega)) 0 O O
  ·
   obtain rfl:k=es.length:=by omega
   have hml:(es.map (·.1)).length=es.length:=zod _
   rw [<- hml,znY] at hck
   refine Vs 12 O ?_
   refine zkr Tryz.results92 O (fun w hI=>⟨_,rfl,es,⟨rfl,hck.symm,fun _ h=>h⟩,(by have:=yG (k:=2) (n:=es.length) (cap:=cap) (hI.at 900 O) hnc hcm hcl;rwa [List.take_left' (by rw [js zk0])] at this),hI.k0.mono (fun q _ h=>h)⟩)
theorem zqE {es es':List (Ob × Value)} {F:Nat->Prop} {w:World} (h:PairD es F w) (h':PairD es' F w):PairD (es++es') F w:=fun p hp=>(zoc.1 hp).elim (h p) (h' p)
theorem zqo {e:TypeId} {w:World} {v:Value} {es:List (Ob × Value)} (h:w.ownsRow 0 e 2 v es.length (es.flatMap zjP)):OwnR e 2 RPr (fun _=>False) w v es:=⟨_,h,fun _ _ hx=>zjp (fun _ _=>rfl) hx⟩
theorem zpL {e:TypeId} {w:World} {v:Value} {es:List (Ob × Value)} {F:Nat->Prop} (h:w.ownsRow 0 e 2 v es.length (es.flatMap zjP)) (hd:PairD es F w):OwnR e 2 ROb F w v (es.map (·.1)):=⟨es.flatMap zjP,by rw [zod];exact h,fun i x hx=>by
 rw [zoa] at hx
 obtain⟨p,hp,rfl⟩:=Option.map_eq_some_iff.1 hx
 rw [zjp (fun _ _=>rfl) hp]
 exact⟨_,rfl,hd p (znU hp)⟩⟩
theorem zqp {H:Hp} {f:FuncId} {args:Array Value} {o:Ob} {c:Int} {w:World} (k:Nat) (hc:Calls Tryz.prog f args w (Ret fun r w'=>(∃ ov t,r=.tuple #[.agg #[ov,.int .i64 t],.int .i64 c]/\t=o.2/\SlR 1 zB (fun b=>w.heap.size<=b) w' ov o.1)/\Ext w w')) :
  Calls Tryz.prog f args w (Ret fun r w'=>∃ y:Option Addr × Nat × (Nat->Prop),r=.tuple #[.agg #[.slice y.1 o.1.length y.2.1,.int .i64 o.2],.int .i64 c]/\Hands H [] [(k,obE o y)] w w'):=by
 refine hc.mono ?_
 rintro _ w' ⟨_,rfl,⟨ov,t,rfl,rfl,hd⟩,hk⟩
 obtain⟨ao,co,rfl⟩:=hd.form
 refine⟨_,rfl,(ao,co,fun b=>w.heap.size<=b/\b<w'.heap.size),rfl,hk.mono fun q _ h=>h.elim,fun x hx=>?_,List.pairwise_singleton _ _⟩
 rw [zob] at hx
 subst hx
 exact⟨⟨_,rfl,hd.narrow (by omega) xp⟩,DaP.loc,fun _ h=>h,fun q hq=>⟨.inr hq.1,hq.2⟩⟩
theorem zpt (f:Fl) (r:Ins) (v1 v2 v3 s1 s2 s3:Value) (D D1 D2 D3:Nat->Prop) (W:World) (vd:Valid f) (hf:RFl D W f v1 v2 v3) (hi1:SlR 1 zB D1 W s1 r.secret) (hi2:SlR 1 zB D2 W s2 r.pub) (hi3:SlR 1 zB D3 W s3 r.random) :
  Calls Tryz.prog 33 #[.agg #[v1,v2,v3],.agg #[s1,s2,s3]] W (Ret fun rr w'=>(∃ ov t,rr=.tuple #[.agg #[ov,.int .i64 t],.int .i64 (zV f r)]/\t=(zdt f r).2/\SlR 1 zB (fun b=>W.heap.size<=b) w' ov (zdt f r).1)/\Ext W w'):=by
 refine (zpE f r v1 v2 v3 s1 s2 s3 D D1 D2 D3 W hf hi1 hi2 hi3 vd.size vd.bulk).mono ?_
 rintro _ w' ⟨_,rfl,⟨ov,t,rfl,h1,h2⟩,hk⟩
 obtain⟨h3,h4⟩:=zhf h1 h2
 exact⟨_,rfl,⟨ov,t,rfl,h3,h4⟩,hk⟩
theorem zq0 {F:Nat->Prop} {w:World}:∀ (l:List Ob) (xs:List Value),xs.length=l.length*2->(∀ (i:Nat) x,l[i]?=some x->ROb F w x ((xs.drop (i*2)).take 2))->∃ es:List (Ob × Value),es.map (·.1)=l/\es.flatMap zjP=xs/\PairD es F w:=fun l xs h1 h2=>by
 obtain⟨es,h3,h4⟩:=zoW l xs h1 h2
 refine⟨es.map (·.1),by rw [List.map_map];exact h3,by rw [<- h4,List.flatMap_map],fun p hp=>?_⟩
 obtain⟨e,_,rfl⟩:=List.mem_map.1 hp
 exact e.2
theorem zqh {Bs:zP} {H:Hp} {w:World} {k k2:Nat} {es:List (Ob × Value)} {v:Value} {F:Nat->Prop} (hI:VI Bs H w) (h0:zl H k=some (.row 55 2 v es.length (es.flatMap zjP))) (h1:zl H k2=some (.res F (PairD es F))) (hne:k ≠ k2) (hlen:es.length<=1048576) :
  Calls Tryz.prog 90 #[v,.func (.func 91) #[] #[]] w (Ret fun r w'=>∃ es':List (Ob × Value),(r=.tuple #[]/\(es'.map (·.1)).Perm (es.map (·.1))/\(es'.map (·.1)).Pairwise (fun a b=>¬ yF b a<0))/\Hands H [k,k2] [(k,.row 55 2 v es'.length (es'.flatMap zjP)),(k2,.res F (PairD (es++es') F))] w w'):=by
 have g1:w.ownsRow 0 55 2 v es.length (es.flatMap zjP):=hI.at k h0
 have g2:PairD es F w:=hI.at k2 h1
 have hF:∀ q,F q->q<w.heap.size/\v.ownBlock ≠ some q:=fun q hq=>⟨hI.low _ (zi h1) q hq,fun h=>hI.sep h0 h1 hne h hq⟩
 refine (zpV 91 Tryz.call91 (fun x y u v D D' W hx hy=>zoB x y u v D D' W hx hy) (es.map (·.1)) (by rw [zod];exact hlen) v F w ⟨zpL g1 g2,hF⟩).mono ?_
 rintro _ w' ⟨_,rfl,rfl,l',hp,hpw,⟨⟨xs,x1,x2⟩,hF'⟩,hk⟩
 obtain⟨es',rfl,rfl,hd⟩:=zq0 l' xs x1.1 x2
 rw [zod] at x1
 refine⟨_,rfl,es',⟨rfl,hp,hpw⟩,?_⟩
 have i1:∀ q,v.ownBlock=some q->InS H [k,k2] q:=fun q hq=>⟨_,zi h0,by simp [zbw,Nat.beq_refl],hq⟩
 have i2:∀ q,F q->InS H [k,k2] q:=fun q hq=>⟨_,zi h1,by simp [zbw,Nat.beq_refl],hq⟩
 refine⟨hk.mono fun q _ hq=>i1 q hq,fun x hx=>?_,?_⟩
 ·
  simp only [zo9,List.not_mem_nil,or_false] at hx
  rcases hx with rfl | rfl
  . exact⟨x1,trivial,fun _ h=>h,fun q hq=>⟨.inl (i1 q hq),xi x1 hq⟩⟩
  . refine⟨zqE (fun p hp=>(g2 p hp).keep zc hk fun b hb _ h=>(hF b hb).2 h) hd,PairD.loc,fun _ h=>h,fun q hq=>⟨.inl (i2 q hq),(hF' q hq).1⟩⟩
 ·
  refine List.pairwise_cons.2 ⟨fun x hx q hq hq2=>?_,List.pairwise_singleton _ _⟩
  rw [zob] at hx
  subst hx
  exact (hF' q hq2).2 hq
theorem zp3 {l m:List Ob} (hs:l.Pairwise fun a b=>¬ yF b a<0) (hm:∀ x,x ∈ l ↔ x ∈ m):Gr.compactL l=zeE m:=by
 refine zh8 (((Gr.compactL_strict (le:=fun a b=>¬ yF b a<0) (fun a b h1 h2=>zaN (by have:=xt a b;omega)) hs)).imp fun {a b} h=>?_) fun x=>by rw [Gr.compactL_mem,hm]
 have h1:=xt a b
 have h2:yF a b ≠ 0:=fun e=>h.2 (zaN e)
 have:=h.1
 omega
theorem idxE {l:List Ob} {o:Ob} (h:o ∈ l):zhP (fun p=>decide (o=p)) l=((l.idxOf o:Nat):Int)/\l.idxOf o<l.length/\l[l.idxOf o]?=some o:=by
 have hl:=List.idxOf_lt_length_iff.2 h
 have hg:l[l.idxOf o]?=some o:=by rw [znT hl,List.getElem_idxOf]
 refine⟨zfR ?_ hg (by simp),hl,hg⟩
 rw [List.any_eq_false]
 intro z hz
 simp only [decide_eq_true_eq]
 rintro rfl
 obtain⟨j,hj⟩:=List.mem_iff_getElem?.1 hz
 have hjl:=(zo7.1 hj).1
 rw [zon] at hjl
 rw [zop,zo4 (by omega)] at hj
 obtain⟨h2,h3⟩:=zo7.1 hj
 have h4:=List.not_of_lt_findIdx (p:=(· == o)) (xs:=l) (i:=j) (show j<l.idxOf o by omega)
 rw [h3] at h4
 simp at h4
theorem zq1 (o p:Ob) (u v:Value) (b:Nat) (D D':Nat->Prop) (W:World) (ho:SlR 1 zB D W v o.1) (hp:SlR 1 zB D' W u p.1) (hB:Cells W b 0 [v,.int .i64 o.2]):Calls Tryz.prog 94 #[.agg #[u,.int .i64 p.2],.pointer (some ⟨b,0,none⟩)] W (Ret fun r w'=>r=.bool (decide (o=p))/\Ext W w'):=by
 obtain⟨a1,c1,rfl⟩:=hp.form
 obtain⟨a2,c2,rfl⟩:=ho.form
 refine zmb Tryz.func94 O Tryz.ntmps94 O (zmm ?_)
 refine zmJ 900 0 O O (fun h=>h) hB ?_
 refine zms 1 900 0 O O ?_
 refine Vs 2 O ?_
 refine V.box 2 O O (fun b2=>?_)
 refine Vs 7 O ?_
 refine zmB Tryz.call35 O (fun w hI=>zox o p _ _ D D' w (Tr1 hI.k0 ho) (Tr1 hI.k0 hp)) ?_
 refine Vs 4 O ?_
 refine zkr Tryz.results94 O (fun w hI=>⟨_,rfl,rfl,hI.k0⟩)
theorem zqu {D:Nat->Prop} {w:World} {ao:Option Addr} {n c:Nat} {l:List (Ob × Value)} {b o:Nat} (h:SlR 2 RPr D w (.slice ao n c) l) (ha:ao=some ⟨b,o,none⟩) {i:Nat} {x:Ob × Value} (hx:l[i]?=some x):Cells w b (o+(i:Int).toNat*2) (zjP x):=by
 obtain⟨b',o',cs,h1,_,h3,h4⟩:=h.atD hx
 rw [ha] at h1
 simp only [Option.some.injEq,Addr.mk.injEq,and_true] at h1
 obtain⟨rfl,rfl⟩:=h1
 cases h4
 simpa using h3
theorem zqi {D:Nat->Prop} {w:World} {ao:Option Addr} {n c:Nat} {l:List (Ob × Value)} (h:SlR 2 RPr D w (.slice ao n c) l) (hl:0<l.length):∃ b o,ao=some ⟨b,o,none⟩:=by
 obtain⟨x,hx⟩:∃ x,l[0]?=some x:=⟨_,znT hl⟩
 obtain⟨b,o,cs,h1,_⟩:=h.atD hx
 exact⟨b,o,h1⟩
theorem zqq {f:Fl} (vd:Valid f):rnN f<=256:=by
 have h:=(ye vd.ok).2.1
 unfold zr at h
 split at h
 . rename_i h1;exact absurd h h1
 split at h
 . cases h
 ·
  rename_i h2
  unfold yA at h2
  unfold rnN
  cases h5:zk 3 f.vars with
  | none=>simp [h5] at h2
  | some m =>
   simp [h5] at h2
   have:=h2.2
   simp only [Option.getD_some]
   omega
theorem zoy (f:Fl) (pub:List Int) (t:Bool) (s:Nat):(zjM f pub t s).length=rnN f:=by simp [zjM]
theorem zoz {f:Fl} {pub:List Int} {t:Bool} {s r:Nat} (h:r<rnN f):(zjM f pub t s)[r]?=some (obX f pub t s r):=by unfold zjM;rw [zoa,List.getElem?_range h];rfl
theorem zqr:∀ {rc:List (Ob × Value)},(∀ p ∈ rc,p.2.oneCell'=true)->∃ cls:List Cl2,cls.length=rc.length/\cls.flatMap Subtype.val=rc.flatMap zjP
 | [],_=>⟨[],rfl,rfl⟩
 | p::rc,h=>by
  obtain⟨cls,h1,h2⟩:=zqr (rc:=rc) fun q hq=>h q (znW _ hq)
  refine⟨⟨zjP p,rfl,fun u hu=>?_⟩::cls,by rw [zom,zom,h1],by rw [List.flatMap_cons,List.flatMap_cons,h2]⟩
  simp only [zjP,zo9,List.not_mem_nil,or_false] at hu
  rcases hu with rfl | rfl
  . exact h p (znX ..)
  . rfl
theorem zqs {e:TypeId} {w:World} {v:Value} {cls:List Cl2} (h:w.ownsRow 0 e 2 v cls.length (cls.flatMap Subtype.val)):OwnR e 2 RCl (fun _=>False) w v cls:=⟨_,h,fun _ _ hx=>zjp (fun x _=>x.2.1) hx⟩
theorem zpM {Bs:zP} {H:Hp} {w:World} {k k2:Nat} {es es0:List (Ob × Value)} {bg cg:Nat} {F:Nat->Prop} (hI:VI Bs H w) (h0:zl H k=some (.row 55 2 (.slice (some ⟨bg,0,none⟩) es.length cg) es.length (es.flatMap zjP))) (h1:zl H k2=some (.res F (PairD (es0++es) F))) (hne:k ≠ k2) (hlen:es.length<=1048576) (hpos:es ≠ []) :
  Calls Tryz.prog 92 #[.slice (some ⟨bg,0,none⟩) es.length cg,.func (.func 35) #[] #[]] w (Ret fun r w'=>∃ L:List (Ob × Value),(r=.slice (some ⟨bg,0,none⟩) L.length cg/\L.map (·.1)=Gr.compactL (es.map (·.1))/\∀ p ∈ L,p ∈ es)/\HE.holds w' (.row 55 2 (.slice (some ⟨bg,0,none⟩) L.length cg) L.length (L.flatMap zjP))/\Keep (HE.S (.row 55 2 (.slice (some ⟨bg,0,none⟩) es.length cg) es.length (es.flatMap zjP))) w w'/\∀ q,HE.S (.row 55 2 (.slice (some ⟨bg,0,none⟩) L.length cg) L.length (L.flatMap zjP)) q->(HE.S (.row 55 2 (.slice (some ⟨bg,0,none⟩) es.length cg) es.length (es.flatMap zjP)) q\/w.heap.size<=q)/\q<w'.heap.size):=by
 obtain⟨sp,hB,h2,h3,h4⟩:=jU (show w.ownsRow 0 55 2 _ es.length (es.flatMap zjP) from hI.at k h0)
 have g2:PairD (es0++es) F w:=hI.at k2 h1
 refine (zp9 es hlen bg cg sp F w hpos hB h4 h2 h3 (fun p hp=>g2 p (List.mem_append_right _ hp)) (fun q hq e=>hI.sep h0 h1 hne (q:=q) (by rw [e];rfl) hq)).mono ?_
 rintro _ w' ⟨r,rfl,L,h5,h6,h7⟩
 exact⟨r,rfl,L,h5,h6,h7.mono fun q _ hq=>by rw [hq];rfl,fun q hq=>⟨.inl hq,xi h6 hq⟩⟩
theorem zq2 {α:Type} {l:List α} {x r:α} {s i:Nat} (hl:l.length=s) (h:(l++[x])[i]?=some r):l[i]?=some r\/(r=x/\i=s):=by
 by_cases hi:i<l.length
 . rw [zoj hi] at h;exact .inl h
 ·
  have hil:=(zo7.1 h).1
  rw [zo1,zoe] at hil
  obtain rfl:i=l.length:=by omega
  rw [zok (zoi _),Nat.sub_self] at h
  exact .inr ⟨by simpa using h.symm,hl⟩
theorem zq3 {ob:Nat->Ob} {l:List Ob} {n j:Nat} (hn:l.Nodup) (hj:l[j]?=some (ob n)):((l.map fun o=>((zgx ob n o:Nat):Int)).map zd).set j (.int .i64 (((zgx ob n (ob n):Nat):Int)+1))=(l.map fun o=>((zgx ob (n+1) o:Nat):Int)).map zd:=by
 have h:=zpY hn hj
 have h2:=congrArg (fun l:List Nat=>(l.map fun k=>((k:Nat):Int)).map zd) h
 simp only [List.map_map,List.map_set] at h2
 rw [List.map_map,List.map_map]
 refine Eq.trans ?_ h2
 rfl
theorem zq4 {ob:Nat->Ob} (l:List Ob):(l.map fun o=>((zgx ob 0 o:Nat):Int))=List.replicate l.length 0:=by
 rw [List.eq_replicate_iff]
 refine⟨by simp,fun x hx=>?_⟩
 obtain⟨o,_,rfl⟩:=List.mem_map.1 hx
 simp [zgx]
theorem zpu (f:Fl) (vd:Valid f) (pub:List Int) (hpub:(qH 2 f.vars pub).2=0) (t:Bool) (v1 v2 v3 pv:Value) (D D':Nat->Prop) (W:World) (hf:RFl D W f v1 v2 v3) (hp:SlR 1 zB D' W pv pub) :
  Calls Tryz.prog 44 #[.agg #[v1,v2,v3],.agg #[pv,.bool t]] W (Ret fun r w'=>(∃ u lu,r=.tuple #[.agg #[u],lu]/\SlR 1 (RSl 1 zB) (fun b=>W.heap.size<=b) w' u (mxO f pub t)/\SlR 2 ROb (fun b=>W.heap.size<=b) w' lu (ziS f pub t))/\Ext W w'):=by
 obtain⟨ap,cp,rfl⟩:=hp.form
 obtain⟨a1,n1,rfl⟩:=hf.vars.form
 obtain⟨a2,n2,rfl⟩:=hf.hatches.form
 obtain⟨a3,n3,rfl⟩:=hf.body.form
 have hl:=vd.lens
 obtain⟨hs1,hs2,hs3⟩:=zg2 vd
 obtain⟨hr1,hr2,hr3⟩:=zg3 vd
 obtain⟨hb1,hb2⟩:=zp8 hpub
 refine zmb Tryz.func44 O Tryz.ntmps44 O (zmm ?_)
 refine Vs 2 O ?_
 refine V.box 2 O O (fun b2=>?_)
 refine V.box 3 O O (fun b3=>?_)
 refine V.alloc 4 tz36 O O (fun b4=>?_)
 refine Vs 7 O ?_
 refine zmB Tryz.call36 O (fun w hI=>jp f.vars 1 _ D w (by decide) vd.good (by omega) (Tr1 hI.k0 hf.vars)) ?_
 refine zmo 30 (v:=.tuple #[.int .i64 (spN f:Int),.int .i64 (if (zk 1 f.vars).isSome then 0 else 4)]) O (by rw [hs1]) ?_
 refine Vs 11 O ?_
 refine zmB Tryz.call36 O (fun w hI=>jp f.vars 3 _ D w (by decide) vd.good (by omega) (Tr1 hI.k0 hf.vars)) ?_
 refine zmo 36 (v:=.tuple #[.int .i64 (rnN f:Int),.int .i64 (if (zk 3 f.vars).isSome then 0 else 4)]) O (by rw [hr1]) ?_
 refine Vs 13 O ?_
 refine zmB Tryz.call43 O (fun w hI=>zoK f.vars 2 pub _ _ D D' w (by decide) vd.good (by omega) (Tr1 hI.k0 hf.vars) (Tr1 hI.k0 hp)) ?_
 refine Vs 9 O ?_
 refine V.bs0 47 Tryz.runUnderlying127 Tryz.sizeOf37 O (fun b47=>?_)
 refine Vs 5 O ?_
 refine V.bs0 48 tR37 ts55 O (fun b48=>?_)
 refine Vs 10 O ?_
 refine znR 920 (p:=PairD [] (fun _=>False)) O (fun w p h=>by cases h) ?_
 refine znR 923 (p:=RowsD [] [] (fun _=>False)) O (fun w i rc h=>by simp at h) ?_
 refine zmL (σ:=Nat × Value × List Value × List (List (Ob × Value)) × (Nat->Prop) × Value × List (Ob × Value) × (Nat->Prop)) [2,3,4,6,8,10] [2,3,4] [2,3,4] O (fun e ⟨s,u2,hv,rows,G,ua,es,F⟩=>(14,.int .i64 s)::(12,u2)::(13,ua)::e) (fun e ⟨s,u2,hv,rows,G,ua,es,F⟩=>(47,.row 37 1 u2 s hv)::(48,.row 55 2 ua es.length (es.flatMap zjP))::(920,.res F (PairD es F))::(923,.res G (RowsD rows hv G))::e) (fun⟨s,u2,hv,rows,G,ua,es,F⟩=>s<=spN f/\es.map (·.1)=(List.range s).flatMap (zjM f pub t)/\es.length=s*rnN f/\rows.length=s/\hv.length=s/\(∀ (i:Nat) rc,rows[i]?=some rc->rc.map (·.1)=zjM f pub t i)/\∀ rc ∈ rows,∀ p ∈ rc,p ∈ es) (fun⟨s,u2,hv,rows,G,ua,es,F⟩=>spN f - s) ((0,.slice (some ⟨b47,0,none⟩) 0 0,[],[],fun _=>False,.slice (some ⟨b48,0,none⟩) 0 0,[],fun _=>False)) (zlO O) (zlP O) (fun _=>rfl) (fun _=>rfl) (fun _=>rfl) (⟨zo8 _,rfl,(Nat.zero_mul _).symm,rfl,rfl,fun i rc h=>by simp at h,fun rc h=>by cases h⟩) ?_
 rintro⟨s,u2,hv,rows,G,ua,es,F⟩ ⟨hs,he,hel,hrl,hhl,hrm,hre⟩
 show V _ _ _ _ _ ((14,.int .i64 s)::(12,u2)::(13,ua)::_) _ ((47,.row 37 1 u2 s hv)::(48,.row 55 2 ua es.length (es.flatMap zjP))::(920,.res F (PairD es F))::(923,.res G (RowsD rows hv G))::_) _
 have hsr:s*rnN f<=4096*256:=Nat.mul_le_mul (by omega) (by have:=zqq vd;omega)
 refine Vs 8 O ?_
 refine zk7 O (fun hlt=>?_) (fun hlt=>?_)
 ·
  refine Vs 6 O ?_
  refine V.bs0 54 tR37 ts55 O (fun b54=>?_)
  refine Vs 10 O ?_
  refine znR 921 (p:=PairD [] (fun _=>False)) O (fun w p h=>by cases h) ?_
  refine zmL (σ:=Nat × Value × List (Ob × Value) × (Nat->Prop)) [2,3,4,6,8,10,12,13,14] [2,3,4,47,48,920,923] [2,3,4] O (fun e ⟨r,ur,rc,F2⟩=>(16,.int .i64 r)::(15,ur)::e) (fun e ⟨r,ur,rc,F2⟩=>(54,.row 55 2 ur r (rc.flatMap zjP))::(921,.res F2 (PairD rc F2))::e) (fun⟨r,ur,rc,F2⟩=>r<=rnN f/\rc.map (·.1)=(zjM f pub t s).take r/\rc.length=r) (fun⟨r,ur,rc,F2⟩=>rnN f - r) ((0,.slice (some ⟨b54,0,none⟩) 0 0,[],fun _=>False)) (zlO O) (zlP O) (fun _=>rfl) (fun _=>rfl) (fun _=>rfl) (⟨zo8 _,rfl,rfl⟩) ?_
  rintro⟨r,ur,rc,F2⟩ ⟨hr,hrc,hrcl⟩
  show V _ _ _ _ _ ((16,.int .i64 r)::(15,ur)::_) _ ((54,.row 55 2 ur r (rc.flatMap zjP))::(921,.res F2 (PairD rc F2))::_) _
  refine Vs 8 O ?_
  refine zk7 O (fun hlt2=>?_) (fun hlt2=>?_)
  ·
   obtain⟨hi1,_,hi3⟩:=ziv vd (s:=s) (r:=r) (by omega) (by omega)
   have hi0:zgv f.vars (s:Int) (qH 2 f.vars pub).1 (r:Int)=0:=by unfold zgv;rw [zo3 (zog hi1),zo3 (zog hb1),hi3]
   refine Vs 11 O ?_
   refine zmD Tryz.call32 O (fun w hI=>zp2 f.vars s (qH 2 f.vars pub).1 r _ D w vd.good (by omega) (Tr1 hI.k0 hf.vars)) ?_
   rintro r1 w1 w2 hI1 hk12 ⟨a,b,c,rfl,hu0,hu1⟩ hlow
   obtain⟨ha,hb,hc⟩:=hu1 hi0
   have hsec:SlR 1 zB (fun b=>w1.heap.size<=b) w2 a (zig f s):=by unfold zig;rw [zo4 hi1];exact ha
   have hrnd:SlR 1 zB (fun b=>w1.heap.size<=b) w2 c (zik f r):=by unfold zik;rw [zo4 hi3];exact hc
   rw [hb2] at hb
   obtain⟨au,cu,rfl⟩:=hsec.form
   obtain⟨ax,cx,rfl⟩:=hb.form
   obtain⟨ac,cc,rfl⟩:=hrnd.form
   refine Vs 3 O ?_
   refine V.alloc 17 Tryz.zeroValue61 O O (fun b17=>?_)
   refine Vs 8 O ?_
   refine zn1 [] (Hn:=fun y:Option Addr × Nat × (Nat->Prop)=>[(922,obE (zdt f (zje f pub s r)) y)]) [(2,some (2,0)),(3,some (3,0)),(4,some (4,0)),(17,some (17,0)),(61,some (2,0))] Tryz.call33 O (fun _ _=>rfl) (fun _=>rfl) (fun w hI=>zqp 922 (zpt f (zje f pub s r) _ _ _ _ _ _ D _ _ _ w vd (Tr1 hI.k1 hf) (hsec.keep zc hI.k0 (fun b hb _ hs=>by have:=hlow b hs;omega)) (hb.keep zc hI.k0 (fun b hb _ hs=>by have:=hlow b hs;omega)) (hrnd.keep zc hI.k0 (fun b hb _ hs=>by have:=hlow b hs;omega)))) ?_
   rintro _ ⟨az,cz,G2⟩ rfl
   refine Vs 3 O ?_
   refine V.alloc 19 tz55 O O (fun b19=>?_)
   refine Vs 9 O ?_
   refine zmB Tryz.call34 O (fun w hI=>zpq (zdt f (zje f pub s r)) t _ G2 w (zjK (hI.at 922 O))) ?_
   refine zmO 80 [(0,_)] tR37 ts55 tz55 (by decide) O O (by kernel_rfl) (fun b80=>?_)
   refine zmv 54 80 tu37 Tryz.el55 O (by decide) O O (by omega) (by omega) (fun u54=>?_)
   refine Va 9 O (by omega) ?_
   refine znd 921 922 (e':=.res (fun q=>F2 q\/G2 q) (PairD (rc++[(obX f pub t s r,Value.slice az (zdt f (zje f pub s r)).1.length cz)]) (fun q=>F2 q\/G2 q))) [(2,some (2,0)),(3,some (3,0)),(4,some (4,0)),(17,some (17,0)),(19,some (19,0)),(61,some (2,0)),(77,some (3,1))] O O O (fun w hI=>zqE (PairD.wide (hI.at 921 O) (fun _ h=>.inl h)) (fun p hp=>by rw [zob] at hp;subst hp;exact (zjK (hI.at 922 O)).wide zc (fun _ h=>.inr h))) (PairD.loc) (fun _ h=>h) (fun q hq=>hq) ?_
   refine zmK 54 O (e':=.row 55 2 u54 (r+1) ((rc++[(obX f pub t s r,Value.slice az (zdt f (zje f pub s r)).1.length cz)]).flatMap zjP)) (by rw [List.flatMap_append];rfl) ?_
   refine zki (⟨r+1,u54,rc++[(obX f pub t s r,Value.slice az (zdt f (zje f pub s r)).1.length cz)],fun q=>F2 q\/G2 q⟩) (zlO O) (zlP O) (⟨by omega,by rw [List.map_append,hrc,zg (zoz (by omega))];rfl,by rw [zo1,hrcl];rfl⟩) (by first | omega | (dsimp only;omega)) 1 O O
  ·
   obtain rfl:r=rnN f:=by omega
   rw [List.take_of_length_le (by rw [zoy];exact zoi _)] at hrc
   refine zmn (p:=∃ ao c,ur=.slice ao (rnN f) c) (fun w hI=>jr (show w.ownsRow 0 55 2 ur _ _ from hI.at 54 O)) (fun huf=>?_)
   obtain⟨aur,cur,rfl⟩:=huf
   refine zmn (p:=∀ p ∈ rc,p.2.oneCell'=true) (fun w hI=>PairD.one (hI.at 921 O)) (fun hone=>?_)
   obtain⟨cls,hcl1,hcl2⟩:=zqr hone
   refine zmK 54 O (e':=.row 55 2 (.slice aur rc.length cur) rc.length (rc.flatMap zjP)) (by rw [hrcl]) ?_
   refine Vs 9 O ?_
   refine zmO 84 [(0,_)] Tryz.runUnderlying127 Tryz.sizeOf37 Tryz.zeroValue37 (by decide) O O (by kernel_rfl) (fun b84=>?_)
   refine zmv 47 84 Tryz.underlying127 Tryz.el37 O (by decide) O O (by omega) (by omega) (fun u47=>?_)
   refine Vs 6 O ?_
   refine zmQ 48 Subtype.val (fun x=>x.2.1) (fun x=>x.2.2) (fun _ _ _ _ h=>h) tu37 Tryz.el55 O (by decide) O (fun w hI=>⟨_,(show SlR 2 RCl (fun _=>True) w _ cls from (zqs (by rw [hcl1,hcl2];have h54:=(show w.ownsRow 0 55 2 (.slice aur rc.length cur) rc.length (rc.flatMap zjP) from hI.at 54 O);rw [hrcl] at h54 ⊢;exact h54)).sl (by omega) StC.s (fun _ _=>trivial) (fun _ _=>trivial))⟩) (by omega) (by omega) (fun u48=>?_)
   refine Va 9 O (by omega) ?_
   refine zmK 48 O (e':=.row 55 2 u48 (es++rc).length ((es++rc).flatMap zjP)) (by rw [zo1,List.flatMap_append,hcl1,hcl2]) ?_
   refine znd 923 54 (e':=.res (fun q=>G q\/(Value.slice aur rc.length cur).ownBlock=some q) (RowsD (rows++[rc]) (hv++[.slice aur rc.length cur]) (fun q=>G q\/(Value.slice aur rc.length cur).ownBlock=some q))) [(2,some (2,0)),(3,some (3,0)),(4,some (4,0))] O O O (fun w hI=>(show RowsD _ _ _ _ from hI.at 923 O).add (by omega) ((zqo (show w.ownsRow 0 55 2 (.slice aur rc.length cur) rc.length (rc.flatMap zjP) from hI.at 54 O)).sl (by omega) jS (fun _ h=>h.elim) (fun g hg=>hg))) (RowsD.loc) (fun _ h=>h) (fun q hq=>hq) ?_
   refine znd 920 921 (e':=.res (fun q=>F q\/F2 q) (PairD (es++rc) (fun q=>F q\/F2 q))) [(2,some (2,0)),(3,some (3,0)),(4,some (4,0))] O O O (fun w hI=>zqE (PairD.wide (hI.at 920 O) (fun _ h=>.inl h)) (PairD.wide (hI.at 921 O) (fun _ h=>.inr h))) (PairD.loc) (fun _ h=>h) (fun q hq=>hq) ?_
   refine zmK 47 O (e':=.row 37 1 u47 (s+1) (hv++[.slice aur rc.length cur])) (by rw [hrcl]) ?_
   refine zki (⟨s+1,u47,hv++[.slice aur rc.length cur],rows++[rc],fun q=>G q\/(Value.slice aur rc.length cur).ownBlock=some q,u48,es++rc,fun q=>F q\/F2 q⟩) (zlO O) (zlP O) (⟨by omega,by rw [List.map_append,he,hrc,List.range_succ,List.flatMap_append];simp,by rw [zo1,hel,hrcl,Nat.succ_mul],by rw [zo1,hrl];rfl,by rw [zo1,hhl];rfl,fun i r hi=>(zq2 hrl hi).elim (fun h=>hrm i r h) (fun h=>by rw [h.1,h.2];exact hrc),fun r hr p hp=>(zoc.1 hr).elim (fun h=>List.mem_append_left _ (hre r h p hp)) (fun h=>List.mem_append_right _ (by rw [zob.1 h] at hp;exact hp))⟩) (by first | omega | (dsimp only;omega)) 0 O O
 ·
  obtain rfl:s=spN f:=by omega
  have hepos:0<es.length:=by rw [hel];exact Nat.mul_pos (by omega) (by omega)
  refine Vs 8 O ?_
  refine zn1 [48,920] (Hn:=fun es':List (Ob × Value)=>[(48,.row 55 2 ua es'.length (es'.flatMap zjP)),(920,.res F (PairD (es++es') F))]) [(2,some (2,0)),(3,some (3,0)),(4,some (4,0))] Tryz.call90 O (fun _ _=>rfl) (fun _=>rfl) (fun w hI=>zqh hI O O (by decide) (by omega)) ?_
  rintro _ es' ⟨rfl,hperm,hpw⟩
  have hel':es'.length=es.length:=by have:=hperm.length_eq;rwa [zod,zod] at this
  refine zmx 48 O (by omega) ?_
  rintro bg cg rfl hcap_48
  refine Vs 5 O ?_
  refine zmE 48 (E:=fun L:List (Ob × Value)=>.row 55 2 (.slice (some ⟨bg,0,none⟩) L.length cg) L.length (L.flatMap zjP)) Tryz.call92 O (fun _=>⟨trivial,fun _ h=>h⟩) (fun w hI=>zpM (k:=48) (k2:=920) (es:=es') hI O O (by decide) (by omega) (fun e=>by rw [e] at hel';simp at hel';omega)) ?_
  rintro _ L ⟨rfl,hLc,hLm⟩
  have hLo:L.map (·.1)=ziS f pub t:=by
   rw [hLc]
   exact zp3 hpw fun x=>by rw [hperm.mem_iff,he]
  have hLl:L.length=(ziS f pub t).length:=by rw [<- hLo,zod]
  have hLb:L.length<=1048576:=by
   have:=Gr.compactL_len (es'.map (·.1))
   rw [<- hLc,zod,zod] at this
   omega
  have hml:(mxO f pub t).length=spN f:=by simp [mxO]
  have hmr:∀ x,x<spN f->(mxO f pub t)[x]?=some ((ziS f pub t).map fun o=>((zgx (obX f pub t x) (rnN f) o:Nat):Int)):=fun x hx=>by unfold mxO;rw [zoa,List.getElem?_range hx];rfl
  have hnd:(ziS f pub t).Nodup:=zfE (zaP _)
  have hmo:∀ x y,x<spN f->y<rnN f->obX f pub t x y ∈ ziS f pub t:=fun x y hx hy=>zaO.2 (List.mem_flatMap.2 ⟨x,List.mem_range.2 hx,List.mem_map.2 ⟨y,List.mem_range.2 hy,rfl⟩⟩)
  refine Vs 4 O ?_
  refine zmx 47 O (by omega) ?_
  rintro bh ch rfl hcap_47
  refine zmu 913 27 1 O ?_
  refine zmU 913 (e':=OwP 27 1 (RSl 1 zB) (fun _=>False) (.slice none 0 0) []) O (fun w hI=>OwH.nil) OwP.loc (fun _ h=>h) (fun q hq=>hq.elim id False.elim) ?_
  refine Vs 1 O ?_
  refine V.alloc 21 tz36 O O (fun b21=>?_)
  refine Vs 11 O ?_
  refine zmL (σ:=Nat × Option Addr × Nat × (Nat->Prop)) [4,13,21,93,94] [4,920,923] [4,21] O (fun e ⟨x,ar,cr,Fr⟩=>(95,.int .i64 x)::e) (fun e ⟨x,ar,cr,Fr⟩=>(21,.own b21 [.slice ar ((mxO f pub t).take x).length cr] 36)::(913,OwP 27 1 (RSl 1 zB) Fr (.slice ar ((mxO f pub t).take x).length cr) ((mxO f pub t).take x))::(47,.row 37 1 (.slice (some ⟨bh,0,none⟩) (spN f) ch) (spN f) hv)::(48,.row 55 2 (.slice (some ⟨bg,0,none⟩) L.length cg) L.length (L.flatMap zjP))::e) (fun⟨x,ar,cr,Fr⟩=>x<=spN f) (fun⟨x,ar,cr,Fr⟩=>spN f - x) ((0,none,0,fun _=>False)) (zlO O) (zlP O) (fun _=>rfl) (fun _=>rfl) (fun _=>rfl) (zo8 _) ?_
  rintro⟨x,ar,cr,Fr⟩ hx
  show V _ _ _ _ _ ((95,.int .i64 x)::_) _ ((21,.own b21 [.slice ar ((mxO f pub t).take x).length cr] 36)::(913,OwP 27 1 (RSl 1 zB) Fr (.slice ar ((mxO f pub t).take x).length cr) ((mxO f pub t).take x))::(47,.row 37 1 (.slice (some ⟨bh,0,none⟩) (spN f) ch) (spN f) hv)::(48,.row 55 2 (.slice (some ⟨bg,0,none⟩) L.length cg) L.length (L.flatMap zjP))::_) _
  have hxl:((mxO f pub t).take x).length=x:=by rw [zon,hml];omega
  refine Vs 6 O ?_
  refine zk7 O (fun q3=>?_) (fun q3=>?_)
  ·
   obtain⟨rc,hrx⟩:∃ rc,rows[x]?=some rc:=⟨_,znT (by omega)⟩
   have hrcx:=hrm x rc hrx
   have hrce:=hre rc (znU hrx)
   have hrcl:rc.length=rnN f:=by rw [<- zoy f pub t x,<- hrcx,zod]
   obtain⟨hu,hhu⟩:∃ z,hv[x]?=some z:=⟨_,znT (by omega)⟩
   refine zmn (p:=∃ b o c,hu=.slice (some ⟨b,o,none⟩) rc.length c) (fun w hI=>(by obtain⟨v,h1,h2⟩:=(show RowsD _ _ _ _ from hI.at 923 O) x rc hrx;rw [hhu] at h1;cases h1;obtain⟨a,c,rfl⟩:=h2.form;obtain⟨b,o,rfl⟩:=zqi h2 (by omega);exact⟨b,o,c,rfl⟩)) (fun hhd=>?_)
   obtain⟨gu,ou,cu,rfl⟩:=hhd
   have hmx:=hmr x (by omega)
   refine Va 7 O (by omega) ?_
   refine zmz 47 (x) Tryz.isAgg37 O (by omega) (hhu) ?_
   refine Vs 7 O ?_
   refine zl1 101 tu27 Tryz.el3 O (by omega) (by omega) (zs:=List.replicate L.length (.int .i64 0)) (zeT _ _ O) (by simp) (fun b101=>?_)
   refine zmK 101 O (e':=.row 3 1 (.slice (some ⟨b101,0,none⟩) L.length L.length) L.length (((ziS f pub t).map fun o=>((zgx (obX f pub t x) 0 o:Nat):Int)).map zd)) (by rw [zq4,hLl];simp [zd]) ?_
   refine Vs 12 O ?_
   refine zmL (σ:=Nat) [4,13,21,24,93,94,95,102,103] [4,21,47,913,920,923] [4,21] O (fun e y=>(104,.int .i64 y)::e) (fun e y=>(101,.row 3 1 (.slice (some ⟨b101,0,none⟩) L.length L.length) L.length (((ziS f pub t).map fun o=>((zgx (obX f pub t x) y o:Nat):Int)).map zd))::(48,.row 55 2 (.slice (some ⟨bg,0,none⟩) L.length cg) L.length (L.flatMap zjP))::e) (fun y=>y<=rc.length) (fun y=>rc.length - y) (0) (zlO O) (zlP O) (fun _=>rfl) (fun _=>rfl) (fun _=>rfl) (zo8 _) ?_
   rintro y hy
   refine Vs 6 O ?_
   refine zk7 O (fun q4=>?_) (fun q4=>?_)
   ·
    obtain⟨p,hpy⟩:∃ p,rc[y]?=some p:=⟨_,znT (by omega)⟩
    have hpo:p.1=obX f pub t x y:=by
     have h1:(rc.map (·.1))[y]?=some p.1:=by rw [zoa,hpy];rfl
     rw [hrcx,zoz (by omega)] at h1
     exact (Option.some.inj h1).symm
    have hpm:=hrce p (znU hpy)
    refine zmn (p:=∃ a c,p.2=.slice a p.1.1.length c) (fun w hI=>((show PairD _ _ _ from hI.at 920 O) p (List.mem_append_left _ hpm)).form) (fun hp2=>?_)
    obtain⟨a2,c2,hp2⟩:=hp2
    have hpin:p.1 ∈ ziS f pub t:=by rw [hpo];exact hmo x y (by omega) (by omega)
    obtain⟨hix,hixl,hixg⟩:=idxE hpin
    refine Vs 6 O ?_
    refine zm2 O (fun w hI=>zkP tR37 ts55 O O O (by omega)) ?_
    refine zm2 O (fun w hI=>zkR tg55 ts55 O (cs:=[.slice a2 p.1.1.length c2,.int .i64 p.1.2]) O (by obtain⟨v,h1,h2⟩:=(show RowsD _ _ _ _ from hI.at 923 O) x rc hrx;rw [hhu] at h1;cases h1;have h3:=zqu h2 O hpy;unfold zjP at h3;rw [hp2] at h3;exact h3)) ?_
    refine V.alloc 26 tz55 O O (fun b26=>?_)
    refine Vs 7 O ?_
    refine zmB Tryz.call93 O (fun w hI=>zpW (fun q=>decide (p.1=q)) (ziS f pub t) _ (fun _=>True) _ _ w Tryz.call94 (by have h:=(zpL (show w.ownsRow 0 55 2 (.slice (some ⟨bg,0,none⟩) L.length cg) L.length (L.flatMap zjP) from hI.at 48 O) (fun q hq=>(show PairD _ _ _ from hI.at 920 O) q (List.mem_append_right _ (hLm q hq)))).sl (D':=fun _=>True) (by omega) StC.s (fun _ _=>trivial) (fun _ _=>trivial);rw [hLo] at h;exact h) (fun z u w' hE _ hz=>zq1 p.1 z u (.slice a2 p.1.1.length c2) b26 _ _ w' (by have h:=(show PairD _ _ _ from hI.at 920 O) p (List.mem_append_left _ hpm);rw [hp2] at h;exact h.ext zc hE) hz (hE.cells (Blk.cells (hI.at 26 O)) (fun h=>h)))) ?_
    refine zmo 111 (v:=.int .i64 (((ziS f pub t).idxOf p.1:Nat):Int)) O (by rw [hix]) ?_
    have hcl:=zij (obX f pub t x) y p.1
    have hrn:=zqq vd
    refine Va 1 O (by omega) ?_
    refine zmz 101 (((ziS f pub t).idxOf p.1)) tg3 O (by omega) (show _=some (Value.int .i64 ((zgx (obX f pub t x) y p.1:Nat):Int)) by rw [zoa,zoa,hixg];rfl) ?_
    refine Va 2 O (by omega) ?_
    refine V.rs 101 (((ziS f pub t).idxOf p.1)) ts3 O (by omega) (by rw [zod,zod];exact hixl) ?_
    refine zmK 101 O (e':=.row 3 1 (.slice (some ⟨b101,0,none⟩) L.length L.length) L.length (((ziS f pub t).map fun o=>((zgx (obX f pub t x) (y+1) o:Nat):Int)).map zd)) (by rw [<- zq3 hnd (by rw [hixg,hpo]),hpo]) ?_
    refine Va 7 O (by omega) ?_
    refine zki (y+1) (zlO O) (zlP O) (by omega) (by first | omega | (dsimp only;omega)) 0 O O
   ·
    obtain rfl:y=rc.length:=by omega
    obtain⟨RL,hRL⟩:∃ RL:List Int,RL=(ziS f pub t).map fun o=>((zgx (obX f pub t x) (rnN f) o:Nat):Int):=⟨_,rfl⟩
    have hRl:RL.length=L.length:=by rw [hRL,zod,hLl]
    rw [<- hRL] at hmx
    have htk:(mxO f pub t).take (x+1)=(mxO f pub t).take x++[RL]:=zg hmx
    refine zmK 101 O (e':=.row 3 1 (.slice (some ⟨b101,0,none⟩) L.length L.length) RL.length (RL.map zd)) (by rw [hRl,hRL,hrcl]) ?_
    refine zmU 101 (e':=DaP (RSl 1 zB) (fun q=>q=b101) RL [.slice (some ⟨b101,0,none⟩) L.length L.length]) O (fun w hI=>⟨_,rfl,zlh zd (fun _ _=>rfl) (hRl ▸ (hI.at 101 O)) (fun g hg=>(Option.some.inj hg).symm)⟩) DaP.loc (fun _ h=>h) (fun q hq=>congrArg some (show b101=q from Eq.symm hq)) ?_
    refine Vs 9 O ?_
    refine zmO 120 [(0,_)] tR34 ts27 tz27 (by decide) O O (by kernel_rfl) (fun b120=>?_)
    refine znb [913,101] (Hn:=fun u=>[(913,OwP 27 1 (RSl 1 zB) (fun q=>Fr q\/q=b101) u ((mxO f pub t).take x++[RL]))]) (u:=fun u=>u) [(4,some (4,0)),(21,some (21,0)),(117,some (21,0))] O (fun _=>rfl) (fun _=>rfl) (fun w hI=>znc 913 101 120 hI O O O O tu34 Tryz.el27 O (by decide) O O O (fun D x cs h=>zhE D x cs h) (by omega) (by omega)) (fun u913=>?_)
    refine zmn (p:=∃ ao c,u913=.slice ao ((mxO f pub t).take x++[RL]).length c) (fun w hI=>zej (hI.at 913 O)) (fun hu=>?_)
    obtain⟨an,cn,rfl⟩:=hu
    refine Va 9 O (by omega) ?_
    rw [<- htk] at *
    refine zki (⟨x+1,an,cn,fun q=>Fr q\/q=b101⟩) (zlO O) (zlP O) (by omega) (by first | omega | (dsimp only;omega)) 0 O O
  ·
   obtain rfl:x=spN f:=by omega
   have htx:(mxO f pub t).take (spN f)=mxO f pub t:=by rw [<- hml,znY]
   rw [htx] at *
   refine Vs 14 O ?_
   refine zkC Tryz.results44 tg36 ts36 O O O O (fun w hI=>⟨_,rfl,⟨_,_,rfl,(show OwH _ _ _ _ _ _ _ from hI.at 913 O).sl (by omega) (fun q hq=>hI.own 913 0 O O q hq),(by have h:=(zpL (show w.ownsRow 0 55 2 (.slice (some ⟨bg,0,none⟩) L.length cg) L.length (L.flatMap zjP) from hI.at 48 O) (fun q hq=>(show PairD _ _ _ from hI.at 920 O) q (List.mem_append_right _ (hLm q hq)))).sl (D':=fun b=>W.heap.size<=b) (by omega) StC.s (fun q hq=>hI.own 920 0 O O q hq) (fun q hq=>hI.own 48 0 O O q hq);rw [hLo] at h;exact h)⟩,hI.k0⟩)
theorem zpi {α:Type} (g:α->Nat):∀ L:List α,(L.map fun o=>((g o:Nat):Int)).sum=(((L.map g).sum:Nat):Int)
 | []=>rfl
 | o::L=>by rw [List.map_cons,List.map_cons,List.sum_cons,List.sum_cons,zpi g L];omega
theorem zqj {α:Type} [DecidableEq α] {ob:Nat->α} {n:Nat} {L:List α} (hn:L.Nodup) (hm:∀ r,r<n->ob r ∈ L):(L.map fun o=>zgx ob n o).sum=n:=by
 have h:=zph (fun _=>()) ob () hn hm
 simp only [if_true] at h
 rw [<- h]
 unfold zgx
 simp
theorem zpj (x:Ob):∀ l:List Ob,(zhK x l).length<=l.length+1
 | []=>zoi _
 | y::l=>by
  have:=zpj x l
  simp only [zhK]
  split
  . simp
  split
  . simp
  . simp;omega
theorem zp4:∀ l:List Ob,(zeE l).length<=l.length
 | []=>zoi _
 | x::l=>by
  have h1:=zp4 l
  have h2:=zpj x (zeE l)
  show (zhK x (zeE l)).length<=l.length+1
  omega
section
variable {f:Fl} {pub:List Int} {t:Bool}
theorem zp5:∀ (L:List Nat),(L.flatMap (zjM f pub t)).length=L.length*rnN f
 | []=>by simp
 | s::L=>by rw [List.flatMap_cons,zo1,zoy,zp5 L,zom,Nat.succ_mul];omega
theorem zq5:(ziS f pub t).length<=spN f*rnN f:=by
 have h:=zp4 ((List.range (spN f)).flatMap (zjM f pub t))
 rw [zp5,List.length_range] at h
 exact h
theorem zpv:(ziS f pub t).Nodup:=zfE (zaP _)
theorem zpk {s r:Nat} (hs:s<spN f) (hr:r<rnN f):obX f pub t s r ∈ ziS f pub t :=
 zaO.2 (List.mem_flatMap.2 ⟨s,List.mem_range.2 hs,znU (zoz hr)⟩)
theorem zqk {o:Ob} (h:o ∈ ziS f pub t):∃ s r,s<spN f/\r<rnN f/\o=obX f pub t s r:=by
 obtain⟨s,hs,h1⟩:=List.mem_flatMap.1 (zaO.1 h)
 obtain⟨r,hr⟩:=List.mem_iff_getElem?.1 h1
 have hl:=(zo7.1 hr).1
 rw [zoy] at hl
 rw [zoz hl] at hr
 exact⟨s,r,List.mem_range.1 hs,hl,(Option.some.inj hr).symm⟩
def zpQ (f:Fl) (pub:List Int) (t:Bool) (s:Nat):List Int:=(ziS f pub t).map fun o=>((zgx (obX f pub t s) (rnN f) o:Nat):Int)
theorem zpN:(mxO f pub t).length=spN f:=by simp [mxO]
theorem zpO {s:Nat} (h:s<spN f):(mxO f pub t)[s]?=some (zpQ f pub t s):=by unfold mxO;rw [zoa,List.getElem?_range h];rfl
theorem zpa {row:List Int} (h:row ∈ mxO f pub t):∃ s,s<spN f/\row=zpQ f pub t s:=by
 obtain⟨s,hs,rfl⟩:=List.mem_map.1 h
 exact⟨s,List.mem_range.1 hs,rfl⟩
theorem zor (s:Nat):(zpQ f pub t s).length=(ziS f pub t).length:=by simp [zpQ]
theorem zql {s:Nat} {n:Int} (h:n ∈ zpQ f pub t s):0<=n/\n<=(rnN f:Int):=by
 obtain⟨o,_,rfl⟩:=List.mem_map.1 h
 have:=zij (obX f pub t s) (rnN f) o
 omega
theorem zpl {s:Nat} (h:s<spN f):(zpQ f pub t s).sum=(rnN f:Int):=by
 unfold zpQ
 rw [zpi,zqj zpv fun r hr=>zpk h hr]
theorem zoX (h:1<=spN f):(mxO f pub t).headD []=zpQ f pub t 0:=by
 have h0:=zpO (pub:=pub) (t:=t) h
 cases hm:mxO f pub t with
 | nil=>rw [hm] at h0;cases h0
 | cons x l=>rw [hm] at h0;exact Option.some.inj h0
theorem zq6 (h1:1<=spN f) (h2:1<=rnN f):1<=(ziS f pub t).length:=List.length_pos_of_mem (zpk h1 h2)
theorem zpP (h1:1<=spN f) (h2:1<=rnN f) (h3:spN f<=256) (h4:rnN f<=4096) (h5:(ziS f pub t).length<=256):VMx (mxO f pub t):=by
 have hh:=zoX (pub:=pub) (t:=t) h1
 have hs:=zpl (pub:=pub) (t:=t) h1
 have hp:=zq6 (pub:=pub) (t:=t) h1 h2
 refine⟨?_,?_,?_,?_,fun row hr=>?_,fun row hr n hn=>?_,?_,?_,fun row hr=>?_⟩
 . rw [zpN];exact h1
 . rw [zpN];exact h3
 . rw [hh,zor];exact hp
 . rw [hh,zor];exact h5
 ·
  obtain⟨s,_,rfl⟩:=zpa hr
  rw [hh,zor,zor]
 ·
  obtain⟨s,_,rfl⟩:=zpa hr
  exact (zql hn).1
 . rw [hh,hs];omega
 . rw [hh,hs];omega
 ·
  obtain⟨s,hs',rfl⟩:=zpa hr
  rw [hh,hs,zpl hs']
theorem zqm (h1:1<=spN f):zqt (mxO f pub t)=(ziS f pub t).length:=by
 unfold zqt
 rw [List.filter_eq_self.2,qJ,zoX h1,zor]
 intro col hc
 obtain⟨y,hy,rfl⟩:=List.mem_map.1 hc
 rw [zoX h1,zor,List.mem_range] at hy
 obtain⟨s,r,hs,hr,ho⟩:=zqk (List.getElem_mem hy)
 refine zo5 fun h0=>?_
 have hz:=ziq h0 s
 have:atC s (jQ (mxO f pub t) y)=((zgx (obX f pub t s) (rnN f) ((ziS f pub t)[y]):Nat):Int):=by
  unfold atC jQ
  rw [zoa,zpO hs]
  show (zpQ f pub t s)[y]?.getD 0=_
  unfold zpQ
  rw [zoa,znT hy]
  rfl
 rw [this] at hz
 have hp:0<zgx (obX f pub t s) (rnN f) ((ziS f pub t)[y]):=List.countP_pos_iff.2 ⟨r,List.mem_range.2 hr,zo5 ho.symm⟩
 omega
end
open Go.GL
theorem zpm {f:Fl} {a b c:Int} (h:FitC f a b c) (ha:a<=16) (hc:c<=4) {pub:List Int} {t:Bool}:spN f<=16/\rnN f<=4/\(ziS f pub t).length<=64:=by
 have h1:=h.sp
 have h2:=h.rn
 have h3:spN f*rnN f<=16*4:=Nat.mul_le_mul (by omega) (by omega)
 have h4:=zq5 (f:=f) (pub:=pub) (t:=t)
 omega
theorem zp6 {f:Fl} {a b c:Int} (h:FitC f a b c) (ha:a<=16) (hc:c<=4) {pub:List Int} {t:Bool}:xA f pub t=if (qH 2 f.vars pub).2 ≠ 0 then (if (qH 2 f.vars pub).2=2 then 1 else (qH 2 f.vars pub).2) else 0:=by
 obtain⟨h1,h2,h3⟩:=zpm h ha hc (pub:=pub) (t:=t)
 unfold xA
 rw [zo3 (zog h.vd.ok)]
 split
 . rfl
 . rw [zo3 (by omega),zo3 (by omega)]
theorem zpw {f:Fl} {a b c:Int} (h:FitC f a b c) (ha:a<=16) (hc:c<=4) {pub:List Int} {t:Bool}:VMx (mxO f pub t):=by
 obtain⟨h1,h2,h3⟩:=zpm h ha hc (pub:=pub) (t:=t)
 exact zpP (zg2 h.vd).2.1 (zg3 h.vd).2.1 (by omega) (by omega) (by omega)
theorem zq7 (f:Fl) (pub:List Int) (t:Bool) (v1 v2 v3 pv:Value) (D D':Nat->Prop) (W:World) (hf:RFl D W f v1 v2 v3) (hp:SlR 1 zB D' W pv pub) (ht:Tab W) :
  Calls Tryz.prog 10 #[.agg #[v1,v2,v3],.agg #[pv,.bool t]] W (Ret fun r w'=>r=.bool true/\Ext W w'):=by
 obtain⟨ap,cp,rfl⟩:=hp.form
 refine zmb Tryz.func10 O Tryz.ntmps10 O (zmm ?_)
 refine Vs 2 O ?_
 refine V.box 2 O O (fun b2=>?_)
 refine V.box 3 O O (fun b3=>?_)
 refine Vs 6 O ?_
 refine zmB Tryz.call12 O (fun w hI=>zeQ w (Tr1 hI.k0 ht)) ?_
 refine zm2 O (fun w hI=>zly O (by first | exact za | rfl)) ?_
 refine Vs 2 O ?_
 refine V.bool O (fun k0=>?_) (fun k0=>?_)
 . cases k0
 ·
  refine Vs 6 O ?_
  refine zmD Tryz.call25 O (fun w hI=>ziO f 16 4 4 _ _ _ D w (Tr1 hI.k0 hf)) ?_
  rintro rr w1 w2 hI1 hk12 ⟨q,rfl,hq⟩ hlow
  refine zm2 O (fun w hI=>zly O (by first | exact za | rfl)) ?_
  refine Vs 1 O ?_
  refine V.sb 17 O (fun q1=>?_) (fun q1=>?_)
  ·
   refine Vs 15 O ?_
   refine zkr Tryz.results10 O (fun w hI=>⟨_,rfl,rfl,hI.k1⟩)
  ·
   have hfit:=hq (by simpa using q1)
   have vd:=hfit.vd
   refine Vs 7 O ?_
   refine zk7 O (fun q2=>?_) (fun q2=>?_)
   ·
    refine Vs 7 O ?_
    refine zkr Tryz.results10 O (fun w hI=>⟨_,rfl,rfl,hI.k1⟩)
   ·
    refine Vs 6 O ?_
    refine zmD Tryz.call15 O (fun w hI=>ziM f vd.size vd.bulk pub t _ _ _ _ D D' w (Tr1 hI.k1 hf) (Tr1 hI.k1 hp) (Tr1 hI.k1 ht)) ?_
    rintro r1 w3 w4 hI3 hk34 ⟨u,lu,rfl,hu0,hu1⟩ hlow1
    obtain⟨am,nm,cm,ao,no,co,hae,hoe⟩:∃ a n c a2 n2 c2,u=.slice a n c/\lu=.slice a2 n2 c2:=by
     by_cases hz:xA f pub t=0
     ·
      obtain⟨h1,h2⟩:=hu1 hz
      obtain⟨a,c,h⟩:=h1.form
      obtain⟨a2,c2,h2⟩:=h2.form
      exact⟨a,_,c,a2,_,c2,h,h2⟩
     . exact⟨_,_,_,_,_,_,(hu0 hz).1,(hu0 hz).2⟩
    subst hae hoe
    rw [zp6 hfit (by decide) (by decide)] at hu0 hu1
    rw [zp6 hfit (by decide) (by decide)]
    refine Vs 4 O ?_
    refine V.alloc 5 tz36 O O (fun b5=>?_)
    refine Vs 11 O ?_
    refine zmB Tryz.call43 O (fun w hI=>zoK f.vars 2 pub _ _ D D' w (by decide) vd.good (by have:=hfit.vars;omega) (Tr1 hI.k2 hf.vars) (Tr1 hI.k2 hp)) ?_
    generalize hrk:(qH 2 f.vars pub).2=rk at *
    refine Vs 14 O ?_
    refine zk7 O (fun c2=>?_) (fun c2=>?_)
    ·
     rw [zo4 (show rk ≠ 0 by omega),zo4 c2] at hu0 hu1 ⊢
     obtain⟨⟨rfl,rfl,rfl⟩,rfl,rfl,rfl⟩:(am=none/\nm=0/\cm=0)/\ao=none/\no=0/\co=0:=by have:=hu0 (by decide);simpa using this
     refine Vs 11 O ?_
     refine zk7 O (fun c3=>?_) (fun c3=>?_)
     ·
      refine Vs 6 O ?_
      refine V.sp 45 O (fun k1=>?_) (fun k1=>?_)
      ·
       refine Vs 6 O ?_
       refine V.sp 51 O (fun k2=>?_) (fun k2=>?_)
       ·
        refine Vs 9 O ?_
        refine zkr Tryz.results10 O (fun w hI=>⟨_,rfl,rfl,hI.k2⟩)
       . exact absurd O k2
      . exact absurd O k1
     . exact absurd (by decide) c3
    ·
     rw [zo3 c2] at hu0 hu1 ⊢
     refine Vs 9 O ?_
     refine zk7 O (fun c3=>?_) (fun c3=>?_)
     ·
      have hrk0:rk ≠ 0:=c3
      rw [zo4 hrk0] at hu0 hu1 ⊢
      obtain⟨⟨rfl,rfl,rfl⟩,rfl,rfl,rfl⟩:(am=none/\nm=0/\cm=0)/\ao=none/\no=0/\co=0:=by have:=hu0 c3;simpa using this
      refine Vs 6 O ?_
      refine V.sp 45 O (fun k1=>?_) (fun k1=>?_)
      ·
       refine Vs 6 O ?_
       refine V.sp 51 O (fun k2=>?_) (fun k2=>?_)
       ·
        refine Vs 9 O ?_
        refine zkr Tryz.results10 O (fun w hI=>⟨_,rfl,rfl,hI.k2⟩)
       . exact absurd O k2
      . exact absurd O k1
     ·
      have c3:=zo2.1 c3
      have hrk0:rk=0:=c3
      rw [zo3 (zog hrk0)] at hu0 hu1 ⊢
      obtain⟨hm,ho⟩:=hu1 rfl
      obtain⟨_,_,hmf⟩:=hm.form
      cases hmf
      obtain⟨_,_,hof⟩:=ho.form
      cases hof
      refine Vs 6 O ?_
      refine zmD Tryz.call44 O (fun w hI=>zpu f vd pub (hrk.trans hrk0) t _ _ _ _ D D' w (Tr1 hI.k2 hf) (Tr1 hI.k2 hp)) ?_
      rintro r2 w5 w6 hI5 hk56 ⟨u2,lu2,rfl,hm2,ho2⟩ hlow2
      obtain⟨am2,cm2,rfl⟩:=hm2.form
      obtain⟨ao2,co2,rfl⟩:=ho2.form
      refine Vs 3 O ?_
      refine V.alloc 10 tz36 O O (fun b10=>?_)
      refine Vs 9 O ?_
      refine V.sp 64 O (fun k1=>?_) (fun k1=>?_)
      ·
       refine Vs 2 O ?_
       refine zmB Tryz.call18 O (fun w hI=>kr (mxO f pub t) (mxO f pub t) _ _ _ _ w (hm.keep (yV zc) hI.k1 (fun b hb _ hs=>by have:=hlow1 b hs;omega)) (hm2.keep (yV zc) hI.k0 (fun b hb _ hs=>by have:=hlow2 b hs;omega))) ?_
       refine Vs 2 O ?_
       refine V.sp 69 O (fun k2=>?_) (fun k2=>?_)
       ·
        refine Vs 2 O ?_
        refine zmB Tryz.call45 O (fun w hI=>zpX (ziS f pub t) (ziS f pub t) _ _ _ _ _ w Tryz.call35 (ho.keep zcK hI.k1 (fun b hb _ hs=>by have:=hlow1 b hs;omega)) (ho2.keep zcK hI.k0 (fun b hb _ hs=>by have:=hlow2 b hs;omega)) (fun x y u u2 w hx hy=>zox x y u u2 _ _ w hx hy)) ?_
        refine Vs 2 O ?_
        refine V.sp 74 O (fun k3=>?_) (fun k3=>?_)
        ·
         refine Vs 1 O ?_
         refine zmB Tryz.call41 O (fun w hI=>zpJ (mxO f pub t) _ _ w (hm.keep (yV zc) hI.k1 (fun b hb _ hs=>by have:=hlow1 b hs;omega))) ?_
         have hdis:(if VMx (mxO f pub t) then (zqt (mxO f pub t):Int) else 0)=((ziS f pub t).length:Int):=by rw [zo4 (zpw hfit (by decide) (by decide)),zqm (zg2 vd).2.1]
         rw [hdis]
         refine Vs 8 O ?_
         refine zkr Tryz.results10 O (fun w hI=>⟨_,rfl,by rw [zo5 rfl],hI.k3⟩)
        . exact absurd O k3
       . exact absurd O k2
      . exact absurd O k1
end Go.Proofs.YtaenledoagbddaaGreatDoor
