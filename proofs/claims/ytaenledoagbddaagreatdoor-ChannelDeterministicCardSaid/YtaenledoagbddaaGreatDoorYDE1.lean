/-
  Contracts and the mathematics that the proof needs. Nothing here is a claim.
-/
import Derived.Test.YtaenledoagbddaaGreatDoorKY6
import Derived.WalkKit
import Derived.Deep.Quiet
import Derived.Deep.LoopGhost
import Derived.Below
import Derived.OrdersHeld
import Derived.KernelRfl
import Derived.WalkSpells
import Derived.ChangeKeysEq
import Derived.Lib.SliceRun
import Derived.Test.YtaenledoagbddaaGreatDoorRows
import Derived.ProofKit
import Derived.OpenShut
import Derived.ReadAgain
import Derived.ChangeBears
import Derived.Laws.Strings
import Derived.Test.YtaenledoagbddaaGreatDoorProg
import Derived.Lib.AppendStr
import Derived.Lib.SmallJoins
import Derived.Lib.Builder
import Derived.Lib.UnsafeStr
import Derived.Laws.Externs
import Derived.Lib.ItoaNum
import Derived.Lib.ItoaMem
import Derived.Maps.RangeRun
import Derived.MapKept
import Derived.Shelf.Strings.BuilderK
import Derived.Shelf.LaysM
import Derived.Shelf.Strconv.Itoa3
import Derived.Lib.ItoaLen
import Derived.Handed
import Derived.LaidLaws
import Derived.WideKeyMaps
import Derived.DeepKeys4
import Derived.Shelf.SlSortCmp.WholeK
import Derived.Ground.SlsfProg
import Derived.Shelf.SlSortCmp.NoneTotal
import Derived.Shelf.SlSortCmp.Whole1
import Derived.Test.YtaenledoagbddaaGreatDoorTie
import Derived.Test.YtaenledoagbddaaGreatDoorCards
namespace Go.GL
abbrev G.sb:=@zlZ
abbrev V.call2:=@zmD
abbrev V.apS:=@zmQ
end Go.GL
namespace Go.GL
open Go.ChangeShapes Go.WideShapes Go.ChangeAt Go.RowKit
section
variable {H:Type} {enc:TypeId × Value->H} {P:Program} {w w' W W':World} {base:Nat} {sp:Nat->Bool} {held:Bool}
theorem zoW {b o n:Nat} {cs:List Value} (h:w.cells? base ⟨b,o,none⟩ n=some cs):cs.length=n/\Cells w b o cs:=by
 obtain⟨_,h1,h2⟩:=World.cells?_some h
 refine⟨h1,fun j v hv=>?_⟩
 have hj:j<n:=by rw [<- h1];exact (zo7.1 hv).1
 have:=h2 j hj
 rw [hv] at this
 rw [<- this,xl]
theorem zpF {α:Type} {R:Rel α} {t e:TypeId} {c fuel:Nat} {cs:List Value} {x:DataW H × List MemPlace} (Q:DataW H->Prop) (ht:P.underlying t=some (.slice e)) (hc:P.cellsOf e=c) (hc0:0<c) (hQ:∀ es rs,x.1=.slice es rs->∀ d ∈ es,Q d)
  (hR:∀ (n:Nat) (cs:List Value) (y:DataW H × List MemPlace),Q y.1->DataW.trod enc P w base sp held n e cs=some y->∃ z,R (fun _=>True) w z cs) (h:DataW.trod enc P w base sp held fuel t cs=some x):∃ v l,cs=[v]/\SlR c R (fun _=>True) w v l/\(l=[]\/∃ es rs,x.1=.slice es rs/\es.length=l.length):=by
 rcases DataW.trod_slice ht h with⟨rfl,_⟩ | ⟨a,len,cap,elems,rest,n,_,rfl,rfl,_,hlc,hcm,hel,hat,_⟩
 . exact⟨_,[],rfl,SlR.nil,.inl rfl⟩
 ·
  rw [hc] at hat
  have zl:∀ i:Nat,i<len->∃ z cs',w.cells? base (a.add (i*c)) c=some cs'/\R (fun _=>True) w z cs':=by
   intro i hi
   have h1:=hat i hi
   obtain⟨y,hy⟩:∃ y,elems[i]?=some y:=⟨_,znT (by omega)⟩
   rw [hy,Option.bind_eq_some_iff] at h1
   obtain⟨cs',h2,h3⟩:=h1
   obtain⟨z,hz⟩:=hR n cs' y (hQ _ _ rfl _ (List.mem_map.2 ⟨y,znU hy,rfl⟩)) h3
   exact⟨z,cs',h2,hz⟩
  have hlist:∀ k,k<=len->∃ l:List α,l.length=k/\∀ (i:Nat) z,l[i]?=some z->∃ cs',w.cells? base (a.add (i*c)) c=some cs'/\R (fun _=>True) w z cs':=by
   intro k
   induction k with
   | zero=>intro _;exact⟨[],rfl,fun i z h=>by simp at h⟩
   | succ k ih =>
    intro hk
    obtain⟨l,h1,h2⟩:=ih (by omega)
    obtain⟨z,cs',h3,h4⟩:=zl k (by omega)
    refine⟨l++[z],by simp [h1],fun i y hy=>?_⟩
    by_cases e:i<l.length
    . rw [zoj e] at hy;exact h2 i y hy
    ·
     rw [zok (by omega)] at hy
     have hi:i=k:=by
      have:=(zo7.1 hy).1
      simp at this;omega
     subst hi
     rw [h1,Nat.sub_self] at hy
     simp at hy
     subst hy
     exact⟨cs',h3,h4⟩
  obtain⟨l,hl,hle⟩:=hlist len (zoi _)
  subst hl
  refine⟨_,l,rfl,⟨some a,cap,rfl,hlc,by simpa [maxLen] using hcm,fun i z hz=>?_⟩,.inr ⟨_,_,rfl,by simp [hel]⟩⟩
  obtain⟨cs',h3,h4⟩:=hle i z hz
  obtain⟨_,h5,h6⟩:=World.cells?_some h3
  have hspot:a.spot=none:=by
   have hi:0<l.length:=by have:=(zo7.1 hz).1;omega
   obtain⟨_,cs0,h7,_⟩:=zl 0 hi
   obtain⟨_,h8,h9⟩:=World.cells?_some h7
   have h10:=h9 0 hc0
   obtain⟨u,hu⟩:∃ u,cs0[0]?=some u:=⟨_,znT (by omega)⟩
   rw [hu] at h10
   have h11:=World.cell?_spot h10
   simpa [Addr.add] using h11
  obtain⟨b,o,s⟩:=a
  simp at hspot
  subst hspot
  exact⟨b,o,cs',rfl,trivial,h5,(zoW (by rw [xl] at h3;exact h3)).2,h4⟩
theorem zpd {α:Type} {R:Rel α} {t e:TypeId} {c fuel:Nat} {cs:List Value} {x:DataW H × List MemPlace} (ht:P.underlying t=some (.slice e)) (hc:P.cellsOf e=c) (hc0:0<c)
  (hR:∀ (n:Nat) (cs:List Value) (y:DataW H × List MemPlace),DataW.trod enc P w base sp held n e cs=some y->∃ z,R (fun _=>True) w z cs) (h:DataW.trod enc P w base sp held fuel t cs=some x):∃ v l,cs=[v]/\SlR c R (fun _=>True) w v l:=by
 obtain⟨v,l,h1,h2,_⟩:=zpF (fun _=>True) ht hc hc0 (fun _ _ _ _ _=>trivial) (fun n cs y _=>hR n cs y) h
 exact⟨v,l,h1,h2⟩
theorem zpG {e:TypeId} {n:Nat} {cs:List Value} {y:DataW H × List MemPlace} (he:P.underlying e=some (.int .i64)) (h:DataW.trod enc P w base sp held n e cs=some y):∃ z,zB (fun _=>True) w z cs:=by
 obtain⟨z,h1,_⟩:=DataW.trod_int he h
 exact⟨z,h1⟩
end
open Go.ChangeShapes Go.WideShapes Go.ChangeAt Go.RowKit
section
variable {H:Type} {enc:TypeId × Value->H} {P:Program} {w w' W W':World} {base:Nat} {sp:Nat->Bool} {held:Bool}
theorem zoC {α:Type} {R:Rel α} {t e:TypeId} {c fuel:Nat} {cs:List Value} {x:DataW H × List MemPlace} (ht:P.underlying t=some (.slice e)) (hc:P.cellsOf e=c) (hc0:0<c)
  (hR:∀ (n:Nat),fuel=n+1->∀ (cs:List Value) (y:DataW H × List MemPlace),DataW.trod enc P w base sp held n e cs=some y->∃ z,R (fun _=>True) w z cs) (h:DataW.trod enc P w base sp held fuel t cs=some x):∃ v l,cs=[v]/\SlR c R (fun _=>True) w v l:=by
 rcases DataW.trod_slice ht h with⟨rfl,_⟩ | ⟨a,len,cap,elems,rest,n,hfu,rfl,_,_,hlc,hcm,hel,hat,_⟩
 . exact⟨_,[],rfl,SlR.nil⟩
 ·
  rw [hc] at hat
  have zl:∀ i:Nat,i<len->∃ z cs',w.cells? base (a.add (i*c)) c=some cs'/\R (fun _=>True) w z cs':=by
   intro i hi
   have h1:=hat i hi
   obtain⟨y,hy⟩:∃ y,elems[i]?=some y:=⟨_,znT (by omega)⟩
   rw [hy,Option.bind_eq_some_iff] at h1
   obtain⟨cs',h2,h3⟩:=h1
   obtain⟨z,hz⟩:=hR n hfu cs' y h3
   exact⟨z,cs',h2,hz⟩
  have hlist:∀ k,k<=len->∃ l:List α,l.length=k/\∀ (i:Nat) z,l[i]?=some z->∃ cs',w.cells? base (a.add (i*c)) c=some cs'/\R (fun _=>True) w z cs':=by
   intro k
   induction k with
   | zero=>intro _;exact⟨[],rfl,fun i z h=>by simp at h⟩
   | succ k ih =>
    intro hk
    obtain⟨l,h1,h2⟩:=ih (by omega)
    obtain⟨z,cs',h3,h4⟩:=zl k (by omega)
    refine⟨l++[z],by simp [h1],fun i y hy=>?_⟩
    by_cases e:i<l.length
    . rw [zoj e] at hy;exact h2 i y hy
    ·
     rw [zok (by omega)] at hy
     have hi:i=k:=by
      have:=(zo7.1 hy).1
      simp at this;omega
     subst hi
     rw [h1,Nat.sub_self] at hy
     simp at hy
     subst hy
     exact⟨cs',h3,h4⟩
  obtain⟨l,hl,hle⟩:=hlist len (zoi _)
  subst hl
  refine⟨_,l,rfl,some a,cap,rfl,hlc,by simpa [maxLen] using hcm,fun i z hz=>?_⟩
  obtain⟨cs',h3,h4⟩:=hle i z hz
  obtain⟨_,h5,h6⟩:=World.cells?_some h3
  have hspot:a.spot=none:=by
   have hi:0<l.length:=by have:=(zo7.1 hz).1;omega
   obtain⟨_,cs0,h7,_⟩:=zl 0 hi
   obtain⟨_,h8,h9⟩:=World.cells?_some h7
   have h10:=h9 0 hc0
   obtain⟨u,hu⟩:∃ u,cs0[0]?=some u:=⟨_,znT (by omega)⟩
   rw [hu] at h10
   have h11:=World.cell?_spot h10
   simpa [Addr.add] using h11
  obtain⟨b,o,s⟩:=a
  simp at hspot
  subst hspot
  exact⟨b,o,cs',rfl,trivial,h5,(zoW (by rw [xl] at h3;exact h3)).2,h4⟩
theorem zjY {fs:Array Field} {m:Nat} {cs:List Value} {xs:List (DataW H × List MemPlace)} (hx:xs.length=fs.size) (hat:∀ (i:Nat) (f:Field),fs[i]?=some f->DataW.trod enc P w base sp held m f.type ((cs.drop f.offset).take (P.cellsOf f.type))=xs[i]?) (i:Nat) {f:Field} (hf:fs[i]?=some f) {c:Nat} (hc:P.cellsOf f.type=c) :
  ∃ y,DataW.trod enc P w base sp held m f.type ((cs.drop f.offset).take c)=some y:=by
 have h:=hat i f hf
 have hi:=(Array.getElem?_eq_some_iff.1 hf).1
 rw [znT (show i<xs.length by omega),hc] at h
 exact⟨_,h⟩
end
end Go.GL
namespace Go.Proofs.YtaenledoagbddaaGreatDoor
open Go.GL Go.ChangeShapes Go.WideShapes Go.ChangeAt Go.RowKit
section
variable {H:Type} {enc:TypeId × Value->H} {w:World} {base:Nat} {sp:Nat->Bool} {held:Bool}
theorem zpu:Tryz.prog.cellsOf 3=1:=by kernel_rfl
theorem zpe:Tryz.prog.cellsOf 86=3:=by kernel_rfl
theorem zoD:Tryz.prog.cellsOf 92=10:=by kernel_rfl
set_option maxRecDepth 100000 in
theorem zpf:∀ (k:Nat) (cs:List Value) (x:DataW H × List MemPlace),DataW.trod enc Tryz.prog w base sp held k 86 cs=some x->∃ t,RTm (fun _=>True) w t cs:=by
 intro k
 induction k using Nat.strongRecOn with
 | _ k ih =>
 intro cs x h
 obtain⟨xs,m,hk,_,hl,hx,hat⟩:=DataW.trod_struct Tryz.underlying86 h
 rw [zpe] at hl
 match cs,hl with
 | [c0,c1,c2],_ =>
  obtain⟨y0,h0⟩:=zjY hx hat 0 rfl (c:=1) (by kernel_rfl)
  obtain⟨y1,h1⟩:=zjY hx hat 1 rfl (c:=1) (by kernel_rfl)
  obtain⟨y2,h2⟩:=zjY hx hat 2 rfl (c:=1) (by kernel_rfl)
  obtain⟨n0,e0,_⟩:=DataW.trod_int Tryz.underlying83 h0
  obtain⟨n1,e1,_⟩:=DataW.trod_int tu3 h1
  obtain⟨v,l,e2,hsl⟩:=zoC Tryz.underlying84 zpe (by decide) (fun n hn cs y hy=>ih n (by omega) cs y hy) h2
  simp at e0 e1 e2
  subst e0;subst e1;subst e2
  exact⟨.mk n0 n1 l,RTm.put (t:=.mk n0 n1 l) hsl⟩
set_option maxRecDepth 100000 in
theorem zpH:∀ (k:Nat) (cs:List Value) (x:DataW H × List MemPlace),DataW.trod enc Tryz.prog w base sp held k 92 cs=some x->∃ t,RSt (fun _=>True) w t cs:=by
 intro k
 induction k using Nat.strongRecOn with
 | _ k ih =>
 intro cs x h
 obtain⟨xs,m,hk,_,hl,hx,hat⟩:=DataW.trod_struct Tryz.underlying92 h
 rw [zoD] at hl
 match cs,hl with
 | [c0,c1,c2,c3,c4,c5,c6,c7,c8,c9],_ =>
  obtain⟨y0,h0⟩:=zjY hx hat 0 rfl (c:=1) (by kernel_rfl)
  obtain⟨y1,h1⟩:=zjY hx hat 1 rfl (c:=1) (by kernel_rfl)
  obtain⟨y2,h2⟩:=zjY hx hat 2 rfl (c:=1) (by kernel_rfl)
  obtain⟨y3,h3⟩:=zjY hx hat 3 rfl (c:=1) (by kernel_rfl)
  obtain⟨y4,h4⟩:=zjY hx hat 4 rfl (c:=3) (by kernel_rfl)
  obtain⟨y5,h5⟩:=zjY hx hat 5 rfl (c:=1) (by kernel_rfl)
  obtain⟨y6,h6⟩:=zjY hx hat 6 rfl (c:=1) (by kernel_rfl)
  obtain⟨y7,h7⟩:=zjY hx hat 7 rfl (c:=1) (by kernel_rfl)
  obtain⟨n0,e0,_⟩:=DataW.trod_int Tryz.underlying90 h0
  obtain⟨n1,e1,_⟩:=DataW.trod_int tu3 h1
  obtain⟨n2,e2,_⟩:=DataW.trod_int tu3 h2
  obtain⟨n3,e3,_⟩:=DataW.trod_int tu3 h3
  obtain⟨t,ht⟩:=zpf _ _ _ h4
  obtain⟨v4,e4,hks⟩:=ht.get
  obtain⟨v5,l5,e5,hs5⟩:=zoC Tryz.underlying24 zoD (by decide) (fun n hn cs y hy=>ih n (by omega) cs y hy) h5
  obtain⟨v6,l6,e6,hs6⟩:=zoC Tryz.underlying24 zoD (by decide) (fun n hn cs y hy=>ih n (by omega) cs y hy) h6
  obtain⟨v7,l7,e7,hs7⟩:=zoC tu27 zpu (by decide) (fun n hn cs y hy=>zpG tu3 hy) h7
  simp at e0 e1 e2 e3 e4 e5 e6 e7
  obtain⟨e4,e42,e43⟩:=e4
  subst e0;subst e1;subst e2;subst e3;subst e4;subst e42;subst e43;subst e5;subst e6;subst e7
  exact⟨.mk n0 n1 n2 n3 t l5 l6 l7,RSt.put (s:=.mk n0 n1 n2 n3 t l5 l6 l7) hks hs5 hs6 hs7⟩
set_option maxRecDepth 100000 in
theorem zpI (k:Nat) (cs:List Value) (x:DataW H × List MemPlace) (h:DataW.trod enc Tryz.prog w base sp held k 89 cs=some x):∃ t,RVr (fun _=>True) w t cs:=by
 obtain⟨xs,m,hk,_,hl,hx,hat⟩:=DataW.trod_struct Tryz.underlying89 h
 rw [show Tryz.prog.cellsOf 89=5 by kernel_rfl] at hl
 match cs,hl with
 | [c0,c1,c2,c3,c4],_ =>
  obtain⟨y0,h0⟩:=zjY hx hat 0 rfl (c:=1) (by kernel_rfl)
  obtain⟨y1,h1⟩:=zjY hx hat 1 rfl (c:=1) (by kernel_rfl)
  obtain⟨y2,h2⟩:=zjY hx hat 2 rfl (c:=1) (by kernel_rfl)
  obtain⟨y3,h3⟩:=zjY hx hat 3 rfl (c:=1) (by kernel_rfl)
  obtain⟨y4,h4⟩:=zjY hx hat 4 rfl (c:=1) (by kernel_rfl)
  obtain⟨n0,e0,_⟩:=DataW.trod_string tu9 h0
  obtain⟨n1,e1,_⟩:=DataW.trod_int Tryz.underlying53 h1
  obtain⟨n2,e2,_⟩:=DataW.trod_int tu3 h2
  obtain⟨n3,e3,_⟩:=DataW.trod_int tu3 h3
  obtain⟨n4,e4,_⟩:=DataW.trod_int tu3 h4
  simp at e0 e1 e2 e3 e4
  subst e0;subst e1;subst e2;subst e3;subst e4
  exact⟨⟨n0,n1,n2,n3,n4⟩,rfl⟩
set_option maxRecDepth 100000 in
theorem zpJ (k:Nat) (cs:List Value) (x:DataW H × List MemPlace) (h:DataW.trod enc Tryz.prog w base sp held k 95 cs=some x):∃ t,RHt (fun _=>True) w t cs:=by
 obtain⟨xs,m,hk,_,hl,hx,hat⟩:=DataW.trod_struct Tryz.underlying95 h
 rw [show Tryz.prog.cellsOf 95=6 by kernel_rfl] at hl
 match cs,hl with
 | [c0,c1,c2,c3,c4,c5],_ =>
  obtain⟨y0,h0⟩:=zjY hx hat 0 rfl (c:=1) (by kernel_rfl)
  obtain⟨y1,h1⟩:=zjY hx hat 1 rfl (c:=1) (by kernel_rfl)
  obtain⟨y2,h2⟩:=zjY hx hat 2 rfl (c:=1) (by kernel_rfl)
  obtain⟨y3,h3⟩:=zjY hx hat 3 rfl (c:=3) (by kernel_rfl)
  obtain⟨n0,e0,_⟩:=DataW.trod_string tu9 h0
  obtain⟨n1,e1,_⟩:=DataW.trod_int tu3 h1
  obtain⟨n2,e2,_⟩:=DataW.trod_int tu3 h2
  obtain⟨t,ht⟩:=zpf _ _ _ h3
  obtain⟨v3,e3,hks⟩:=ht.get
  simp at e0 e1 e2 e3
  obtain⟨e3,e32,e33⟩:=e3
  subst e0;subst e1;subst e2;subst e3;subst e32;subst e33
  exact⟨⟨n0,n1,n2,t⟩,_,rfl,hks⟩
set_option maxRecDepth 100000 in
theorem zpg {r:Reach} {b0:Nat} {v:Value} {d:DataW H} {ps:List MemPlace} (hval:Value.okWide Tryz.prog w r b0 26 v) (hd:DataW.Trod enc Tryz.prog w base sp held 26 v d ps) :
  ∃ f v1 v2 v3,v=.agg #[v1,v2,v3]/\RFl (fun _=>True) w f v1 v2 v3:=by
 unfold Value.okWide at hval
 rw [Tryz.underlying26] at hval
 obtain⟨cs,rfl,hsz,_⟩:=hval
 obtain⟨k,hn⟩:=hd
 obtain⟨xs,m,_,_,hl,hx,hat⟩:=DataW.trod_struct Tryz.underlying26 hn
 rw [show Tryz.prog.cellsOf 26=3 by kernel_rfl] at hsz
 obtain⟨l⟩:=cs
 match l,hsz with
 | [c0,c1,c2],_ =>
  obtain⟨y0,h0⟩:=zjY hx hat 0 rfl (c:=1) (by kernel_rfl)
  obtain⟨y1,h1⟩:=zjY hx hat 1 rfl (c:=1) (by kernel_rfl)
  obtain⟨y2,h2⟩:=zjY hx hat 2 rfl (c:=1) (by kernel_rfl)
  obtain⟨v0,l0,e0,hs0⟩:=zpd Tryz.underlying22 (show Tryz.prog.cellsOf 89=5 by kernel_rfl) (by decide) (fun n cs y hy=>zpI n cs y hy) h0
  obtain⟨v1,l1,e1,hs1⟩:=zpd Tryz.underlying23 (show Tryz.prog.cellsOf 95=6 by kernel_rfl) (by decide) (fun n cs y hy=>zpJ n cs y hy) h1
  obtain⟨v2,l2,e2,hs2⟩:=zpd Tryz.underlying24 zoD (by decide) (fun n cs y hy=>zpH n cs y hy) h2
  simp [Value.cells] at e0 e1 e2
  subst e0;subst e1;subst e2
  exact⟨⟨l0,l1,l2⟩,_,_,_,rfl,hs0,hs1,hs2⟩
end
end Go.Proofs.YtaenledoagbddaaGreatDoor
namespace Go.GL
open Go.RowKit
def zpc:Hp->Nat->Hp
 | [],_=>[]
 | (k,e)::r,j=>cond (Nat.beq k j) r ((k,e)::zpc r j)
section
variable {Bs:zP} {H:Hp} {w w':World} {k:Nat} {e e':HE} {T:Nat->Prop}
theorem VI.offF {F:Nat->Prop} {p:World->Prop} (h:VI Bs H w) (k:Nat) (hg:zl H k=some (.dat F p)):∀ b,F b->¬ HS H b:=fun b hb ⟨y,hy,hs⟩=>h.froz _ (zi hg) y hy b hb hs
theorem hdel_sub:∀ {H:Hp} {k:Nat},(zpc H k).Sublist H
 | [],_=>List.Sublist.refl _
 | (k',e)::r,k=>by
  simp only [zpc]
  cases Nat.beq k' k with
  | true=>exact List.sublist_cons_self ..
  | false=>exact hdel_sub.cons_cons _
theorem VI.del (h:VI Bs H w) (k:Nat):VI Bs (zpc H k) w:=h.few (fun _ hx=>hdel_sub.subset hx) (h.apart.sublist hdel_sub)
end
section
variable {P:Program} {T:Tab} {Z:Szs} {n:Nat} {Q:Exit->Act->World->Prop} {ks:List Fr} {pos:Pos} {env:Env} {A:Tgs} {H:Hp} {Bs:zP} {ops:Array Oper} {v:Value}
theorem zoE:∀ {H:Hp} {k j:Nat},Nat.beq k j=false->zl (zpc H k) j=zl H j
 | [],_,_,_=>rfl
 | (k1,e1)::r,k,j,h=>by
  simp only [zpc]
  cases hb:Nat.beq k1 k with
  | true =>
   have:=zo0 hb
   subst this
   simp only [zl,h,cond_false,cond_true]
  | false=>simp only [zl,cond_false];rw [zoE h]
theorem V.del (k:Nat) (hn:qt H k=none) (h:V P n Q ks pos env A (zpc H k) Bs):V P n Q ks pos env A H Bs:=by
 refine fun hA w hI=>h (hA.heap (fun j b o hj=>?_)) w (hI.del k)
 have hkj:Nat.beq k j=false:=by
  cases hb:Nat.beq k j with
  | true=>rw [<- zo0 hb,hn] at hj;cases hj
  | false=>rfl
 unfold qt at hj ⊢
 rw [zoE hkj]
 exact hj
theorem zoX:∀ {H:Hp} {k:Nat} {e':HE},∀ y ∈ zpc H k,y ∈ hset H k e'
 | [],_,_,_,h=>by cases h
 | (k1,e1)::r,k,e',y,h=>by
  simp only [zpc] at h
  simp only [hset]
  cases hb:Nat.beq k1 k with
  | true=>rw [hb] at h;exact znW _ h
  | false =>
   rw [hb] at h
   rcases zo9.1 h with rfl | h
   . exact znX ..
   . exact znW _ (zoX y h)
theorem zoY:∀ {H:Hp} {k:Nat} {e e':HE},zl H k=some e->(k,e') ∈ hset H k e'
 | [],_,_,_,h=>by cases h
 | (k1,e1)::r,k,e,e',h=>by
  simp only [zl] at h
  simp only [hset]
  cases hb:Nat.beq k1 k with
  | true=>rw [zo0 hb];exact znX ..
  | false=>rw [hb] at h;exact znW _ (zoY h)
theorem zpW {α:Type} {R:Rel α} [Dt R] (k k2:Nat) {t:TypeId} {m:Nat} {l:List α} (enc:α->Value) (hR:∀ D w x,R D w x [enc x]) (hg:zl H k=some (.row t 1 v m (l.map enc))) (hn:(zl (zpc H k) k2).isNone=true)
  (h:V P n Q ks pos env A ((k2,.dat (fun b=>v.ownBlock=some b) (fun w=>SlR 1 R (fun b=>v.ownBlock=some b) w v l))::zpc H k) Bs):V P n Q ks pos env A H Bs:=by
 rw [Option.isNone_iff_eq_none] at hn
 refine fun hA w hI=>?_
 have ho:w.ownsRow 0 t 1 v m (l.map enc):=hI.at k hg
 have he:HE.holds w (.dat (fun b=>v.ownBlock=some b) (fun w=>SlR 1 R (fun b=>v.ownBlock=some b) w v l)):=⟨zlh enc (fun x _=>hR _ _ x) ho (fun g hg=>hg),fun q hq=>xi ho hq⟩
 have hl:HE.loc (.dat (fun b=>v.ownBlock=some b) (fun w=>SlR 1 R (fun b=>v.ownBlock=some b) w v l)):=fun w w' T h1 h2 h3=>h1.keep Dt.s h2 (fun q hq _=>h3 q hq)
 have hF:=hI.freeze hg he hl (fun _ h=>h) (fun _ h=>h)
 have hA':TgOk A env (zpc H k):=hA.heap (fun j b o hj=>by
  have hkj:Nat.beq k j=false:=by
   cases hb:Nat.beq k j with
   | true=>rw [<- zo0 hb] at hj;simp [qt,hg] at hj
   | false=>rfl
  unfold qt at hj ⊢
  rw [zoE hkj]
  exact hj)
 exact h (hA'.new hn) w ((hI.del k).frz k2 he hl (fun _ h=>h) (fun b hb x hx=>hF.froz _ (zoY hg) x (zoX x hx) b hb))
end
end Go.GL
namespace Go.Proofs.YtaenledoagbddaaGreatDoor
open Go.GL
theorem zot (a b c:Int) (w:World):Calls Tryz.prog 183 #[.int .i64 a,.int .i64 b,.int .i64 c] w (Ret fun r w'=>r=.int .i64 (qp a b c)/\Ext w w'):=by
 refine zmc Tryz.func183 O Tryz.ntmps183 O (Gs 13 O (zk6 O (fun h=>?_) (fun h=>?_)))
 . refine Gs 8 O (zkq Tryz.results183 O ⟨_,rfl,by rw [qp,zo4 h],Keep.refl _ _⟩)
 ·
  refine Gs 10 O (zk6 O (fun h2=>?_) (fun h2=>?_))
  . refine Gs 8 O (zkq Tryz.results183 O ⟨_,rfl,by rw [qp,zo3 h,zo4 h2],Keep.refl _ _⟩)
  . refine Gs 9 O (zkq Tryz.results183 O ⟨_,rfl,by rw [qp,zo3 h,zo3 h2],Keep.refl _ _⟩)
theorem zjZ (p:Bool) (w:World):Calls Tryz.prog 192 #[.bool p] w (Ret fun r w'=>r=.int .i64 (if p then 1 else 0)/\Ext w w'):=by
 refine zma Tryz.func192 O Tryz.ntmps192 O (Gs 11 O (G.bool O (fun h=>?_) (fun h=>?_)))
 . refine Gs 7 O (zkq Tryz.results192 O ⟨_,rfl,by rw [h];rfl,Keep.refl _ _⟩)
 . refine Gs 8 O (zkq Tryz.results192 O ⟨_,rfl,by rw [h];rfl,Keep.refl _ _⟩)
theorem zou (a b:Int) (w:World) (ha:zgu a) (hb:zgu b):Calls Tryz.prog 231 #[.int .i64 a,.int .i64 b] w (Ret fun r w'=>r=.int .i64 (a.fdiv b)/\Ext w w'):=by
 have hE:=Keep.refl (fun _=>False) w
 refine zmb Tryz.func231 O Tryz.ntmps231 O (Gs 12 O (zk6 O (fun h0=>?_) (fun h0=>?_)))
 ·
  subst h0
  refine Gs 7 O (zkq Tryz.results231 O ⟨_,rfl,by rw [Int.fdiv_zero],hE⟩)
 ·
  have hd:=zfo a b h0
  have hq:(a.tdiv b).natAbs<=a.natAbs:=Int.natAbs_tdiv_le_natAbs a b
  refine Gs 6 O (zm1 O O (R.quo O O h0 (by omega)) (Gs 8 O (zm1 O O (R.rem O O h0 (by omega)) (Gs 2 O (G.sp 15 O (fun h1=>?_) (fun h1=>?_))))))
  ·
   refine Gs 8 O (zk6 O (fun h2=>?_) (fun h2=>?_))
   . refine Ga 13 O (by omega) (zkq Tryz.results231 O ⟨_,rfl,by rw [hd,zo4 ⟨h1,h2⟩],hE⟩)
   . refine Gs 9 O (zkq Tryz.results231 O ⟨_,rfl,by rw [hd,zo3 (fun h=>h2 h.2)],hE⟩)
  . refine Gs 18 O (zkq Tryz.results231 O ⟨_,rfl,by rw [hd,zo3 (fun h=>h1 h.1)],hE⟩)
theorem zoL (a b:Int) (w:World) (ha:zgu a) (hb:zgu b):Calls Tryz.prog 232 #[.int .i64 a,.int .i64 b] w (Ret fun r w'=>r=.int .i64 (if b=0 then 0 else a - b*a.fdiv b)/\Ext w w'):=by
 have hE:=Keep.refl (fun _=>False) w
 refine zmb Tryz.func232 O Tryz.ntmps232 O (Gs 12 O (zk6 O (fun h0=>?_) (fun h0=>?_)))
 . refine Gs 7 O (zkq Tryz.results232 O ⟨_,rfl,by rw [zo4 h0],hE⟩)
 ·
  have hm:=zew a b h0
  refine Gs 8 O (G.call O Tryz.call231 (zou a b _ ha hb) ?_)
  rintro _ wz1 ⟨rfl,hz1⟩
  replace hE:=Tr1 hz1 hE
  refine Ga 6 O (by omega) (zkq Tryz.results232 O ⟨_,rfl,by rw [zo3 h0],hE⟩)
theorem zoM (op a b:Int) (w:World) (ha:zgu a) (hb:zgu b):Calls Tryz.prog 217 #[.int .i64 op,.int .i64 a,.int .i64 b] w (Ret fun r w'=>r=.int .i64 (jj op a b)/\Ext w w'):=by
 have hE:=Keep.refl (fun _=>False) w
 have hml:=zat ha hb
 refine zmc Tryz.func217 O Tryz.ntmps217 O (Gs 18 O (zk6 O (fun hh1=>?_) (fun hh1=>?_)))
 . refine Ga 11 O (by omega) (zkq Tryz.results217 O ⟨_,rfl,by simp [jj,hh1],hE⟩)
 ·
  refine Gs 6 O (zk6 O (fun hh2=>?_) (fun hh2=>?_))
  . refine Ga 11 O (by omega) (zkq Tryz.results217 O ⟨_,rfl,by simp [jj,hh2],hE⟩)
  ·
   refine Gs 6 O (zk6 O (fun hh3=>?_) (fun hh3=>?_))
   . refine Ga 11 O (by omega) (zkq Tryz.results217 O ⟨_,rfl,by simp [jj,hh3],hE⟩)
   ·
    refine Gs 6 O (zk6 O (fun hh4=>?_) (fun hh4=>?_))
    ·
     refine Gs 4 O (G.call O Tryz.call231 (zou a b _ ha hb) ?_)
     rintro _ wz5 ⟨rfl,hz5⟩
     replace hE:=Tr1 hz5 hE
     refine Gs 6 O (zkq Tryz.results217 O ⟨_,rfl,by simp [jj,hh4],hE⟩)
    ·
     refine Gs 6 O (zk6 O (fun hh6=>?_) (fun hh6=>?_))
     ·
      refine Gs 4 O (G.call O Tryz.call232 (zoL a b _ ha hb) ?_)
      rintro _ wz7 ⟨rfl,hz7⟩
      replace hE:=Tr1 hz7 hE
      refine Gs 6 O (zkq Tryz.results217 O ⟨_,rfl,by simp [jj,hh6],hE⟩)
     ·
      refine Gs 6 O (zk6 O (fun hh8=>?_) (fun hh8=>?_))
      ·
       refine Gs 5 O (G.call O Tryz.call192 (zjZ _ _) ?_)
       rintro _ wz9 ⟨rfl,hz9⟩
       replace hE:=Tr1 hz9 hE
       refine Gs 6 O (zkq Tryz.results217 O ⟨_,rfl,by simp [jj,xh,hh8],hE⟩)
      ·
       refine Gs 6 O (zk6 O (fun hh10=>?_) (fun hh10=>?_))
       ·
        refine Gs 5 O (G.call O Tryz.call192 (zjZ _ _) ?_)
        rintro _ wz11 ⟨rfl,hz11⟩
        replace hE:=Tr1 hz11 hE
        refine Gs 6 O (zkq Tryz.results217 O ⟨_,rfl,by simp [jj,xh,hh10],hE⟩)
       ·
        refine Gs 6 O (zk6 O (fun hh12=>?_) (fun hh12=>?_))
        ·
         refine Gs 5 O (G.call O Tryz.call192 (zjZ _ _) ?_)
         rintro _ wz13 ⟨rfl,hz13⟩
         replace hE:=Tr1 hz13 hE
         refine Gs 6 O (zkq Tryz.results217 O ⟨_,rfl,by simp [jj,xh,hh12],hE⟩)
        ·
         refine Gs 6 O (zk6 O (fun hh14=>?_) (fun hh14=>?_))
         ·
          refine Gs 5 O (G.call O Tryz.call192 (zjZ _ _) ?_)
          rintro _ wz15 ⟨rfl,hz15⟩
          replace hE:=Tr1 hz15 hE
          refine Gs 6 O (zkq Tryz.results217 O ⟨_,rfl,by simp [jj,xh,hh14],hE⟩)
         ·
          refine Gs 6 O (zk6 O (fun hh16=>?_) (fun hh16=>?_))
          ·
           refine Gs 5 O (G.call O Tryz.call192 (zjZ _ _) ?_)
           rintro _ wz17 ⟨rfl,hz17⟩
           replace hE:=Tr1 hz17 hE
           refine Gs 6 O (zkq Tryz.results217 O ⟨_,rfl,by simp [jj,xh,hh16],hE⟩)
          ·
           refine Gs 6 O (zk6 O (fun hh18=>?_) (fun hh18=>?_))
           ·
            refine Gs 5 O (G.call O Tryz.call192 (zjZ _ _) ?_)
            rintro _ wz19 ⟨rfl,hz19⟩
            replace hE:=Tr1 hz19 hE
            refine Gs 6 O (zkq Tryz.results217 O ⟨_,rfl,by simp [jj,xh,hh18],hE⟩)
           ·
            refine Gs 6 O (zk6 O (fun hh20=>?_) (fun hh20=>?_))
            ·
             refine Gs 5 O (G.sp 73 O (fun hh21=>?_) (fun hh21=>?_))
             ·
              refine Gs 3 O (G.call O Tryz.call192 (zjZ _ _) ?_)
              rintro _ wz22 ⟨rfl,hz22⟩
              replace hE:=Tr1 hz22 hE
              refine Gs 6 O (zkq Tryz.results217 O ⟨_,rfl,by simp [jj,xh,hh20,hh21],hE⟩)
             ·
              refine Gs 3 O (G.call O Tryz.call192 (zjZ _ _) ?_)
              rintro _ wz23 ⟨rfl,hz23⟩
              replace hE:=Tr1 hz23 hE
              refine Gs 6 O (zkq Tryz.results217 O ⟨_,rfl,by simp [jj,xh,hh20,hh21],hE⟩)
            ·
             refine Gs 6 O (zk6 O (fun hh24=>?_) (fun hh24=>?_))
             ·
              refine Gs 5 O (G.sp 82 O (fun hh25=>?_) (fun hh25=>?_))
              ·
               refine Gs 3 O (G.call O Tryz.call192 (zjZ _ _) ?_)
               rintro _ wz26 ⟨rfl,hz26⟩
               replace hE:=Tr1 hz26 hE
               refine Gs 6 O (zkq Tryz.results217 O ⟨_,rfl,by simp [jj,xh,hh24,hh25],hE⟩)
              ·
               refine Gs 3 O (G.call O Tryz.call192 (zjZ _ _) ?_)
               rintro _ wz27 ⟨rfl,hz27⟩
               replace hE:=Tr1 hz27 hE
               refine Gs 6 O (zkq Tryz.results217 O ⟨_,rfl,by simp [jj,xh,hh24,hh25],hE⟩)
             ·
              refine Gs 6 O (zk6 O (fun hh28=>?_) (fun hh28=>?_))
              ·
               refine Gs 4 O (G.call O tc111 (zu a b _) ?_)
               rintro _ wz29 ⟨rfl,hz29⟩
               replace hE:=Tr1 hz29 hE
               refine Gs 6 O (zkq Tryz.results217 O ⟨_,rfl,by simp [jj,hh28],hE⟩)
              ·
               refine Gs 7 O (G.call O tc110 (ya a b _) ?_)
               rintro _ wz30 ⟨rfl,hz30⟩
               replace hE:=Tr1 hz30 hE
               refine Gs 4 O (zkq Tryz.results217 O ⟨_,rfl,by simp [jj,hh1,hh2,hh3,hh4,hh6,hh8,hh10,hh12,hh14,hh16,hh18,hh20,hh24,hh28],hE⟩)
theorem zoF (l:List Int) (time:Int) (v:Value) (D:Nat->Prop) (w:World) (hl:SlR 1 zB D w v l):Calls Tryz.prog 182 #[v,.int .i64 time] w (Ret fun r w'=>r=.int .i64 (qG l time)/\Ext w w'):=by
 have hmx:=hl.max
 obtain⟨al,cl,rfl⟩:=hl.form
 refine zmb Tryz.func182 O Tryz.ntmps182 O (Gs 19 O (G.loop (σ:=Nat × Int × Bool) (fun⟨i,b,fd⟩=>[(0,.slice al l.length cl),(1,.int .i64 time),(5,.int .i64 b),(6,.bool fd),(7,.int .i64 i)]) (fun⟨i,b,fd⟩=>fun w'=>i<=l.length/\(b,fd)=(l.take i).foldl (yw time) (time,false)/\Ext w w') (fun⟨i,b,fd⟩=>l.length - i) ((0,time,false)) (zlO O) (⟨zo8 _,rfl,Keep.refl _ _⟩) ?_))
 rintro⟨i,b,fd⟩ w1 ⟨hi,hs,hL1⟩
 show G _ _ _ _ _ [(0,.slice al l.length cl),(1,.int .i64 time),(5,.int .i64 b),(6,.bool fd),(7,.int .i64 i)] _
 replace hl:=Tr1 hL1 hl
 refine Gs 9 O (zk6 O (fun hlt=>?_) (fun hge=>?_))
 ·
  obtain⟨x,he_x⟩:∃ x,l[i]?=some x:=⟨_,znT (by omega)⟩
  obtain⟨bx,ox,cx,hax,_,hcx,rfl⟩:=hl.at he_x
  have hst:=zex (yw time) (time,false) he_x
  rw [<- hs,show yw time (b,fd) x=if time<=x/\(fd=false\/x<b) then (x,true) else (b,fd) from rfl] at hst
  refine Gs 8 O (zm1 O O (zkP tR27 ts3 O O hax (by omega)) (zm5 O tg3 (hcx 0 _ O) (Gs 3 O (G.sp 21 O (fun h1=>?_) (fun h1=>?_)))))
  ·
   refine Gs 1 O (zm1 O O (zly O (by first | exact za | rfl)) (Gs 1 O (zlZ 24 O (fun h2=>?_) (fun h2=>?_))))
   ·
    have h2':fd=false:=by simpa using h2
    refine Gs 14 O (zm1 O O (zkP tR27 ts3 O O hax (by omega)) (zm5 O tg3 (hcx 0 _ O) (Ga 10 O (by omega) (zkh ((i+1,x,true)) (Sub.cons O (Sub.cons O (Sub.cons O (Sub.cons (by first | rfl | (show some (Value.bool true)=some (Value.bool _);simp [*])) (zlO O))))) (⟨by omega,by rw [hst,zo4 ⟨h1,.inl h2'⟩],hL1⟩) (by first | omega | (dsimp only;omega))))))
   ·
    have h2':fd=true:=by simpa using h2
    refine Gs 2 O (zm1 O O (zkP tR27 ts3 O O hax (by omega)) (zm5 O tg3 (hcx 0 _ O) (Gs 6 O (zk6 O (fun h3=>?_) (fun h3=>?_)))))
    . refine Gs 3 O (zm1 O O (zkP tR27 ts3 O O hax (by omega)) (zm5 O tg3 (hcx 0 _ O) (Ga 10 O (by omega) (zkh ((i+1,x,true)) (Sub.cons O (Sub.cons O (Sub.cons O (Sub.cons (by first | rfl | (show some (Value.bool true)=some (Value.bool _);simp [*])) (zlO O))))) (⟨by omega,by rw [hst,zo4 ⟨h1,.inr h3⟩],hL1⟩) (by first | omega | (dsimp only;omega))))))
    . refine Ga 8 O (by omega) (zkh ((i+1,b,fd)) (zlO O) (⟨by omega,by rw [hst,zo3 (fun h=>h.2.elim (fun h4=>by rw [h2'] at h4;cases h4) h3)],hL1⟩) (by first | omega | (dsimp only;omega)))
  . refine Ga 22 O (by omega) (zkh ((i+1,b,fd)) (zlO O) (⟨by omega,by rw [hst,zo3 (fun h=>h1 h.1)],hL1⟩) (by first | omega | (dsimp only;omega)))
 ·
  have:i=l.length:=by omega
  subst this
  rw [znY] at hs
  refine Gs 12 O (zkq Tryz.results182 O ⟨_,rfl,by rw [qG,<- hs],hL1⟩)
def zpD (vals:List Int) (k:Tm):Prop:=∀ (cs:List Value) (D Dv:Nat->Prop) (w:World) (vv:Value),SlR 1 zB Dv w vv vals->RTm D w k cs->Calls Tryz.prog 181 #[vv,.agg cs.toArray] w (Ret fun r w'=>r=.int .i64 (qq vals k)/\Ext w w')
theorem zk0 {vs:List Vr} {inp:Bool} (hv:∀ v ∈ vs,yp (v.low,v.high)) {vals:List Int} (hV:InV vs vals) (t:Tm):zw vs inp t=true->(rng vs t).isSome=true->zpD vals t:=by
 induction t using zlF with
 | h t ih =>
 intro hf hr cs D Dv w vv hvv ht
 obtain⟨ok,hkf⟩:=tmOk hv hV hf hr
 have ihk:∀ k ∈ t.kids,zpD vals k:=fun k hk=>ih k hk (hkf k hk).1 (hkf k hk).2
 obtain⟨kv,rfl,hks⟩:=ht.get
 obtain⟨a3,c3,rfl⟩:=hks.form
 obtain⟨av,cv,rfl⟩:=hvv.form
 have hve:=zfk vals t
 have hops:=ok.ops
 have hE:=Keep.refl (fun _=>False) w
 refine zmb Tryz.func181 O Tryz.ntmps181 O (Gs 2 O (G.mem O O (M.box O O) ?_))
 rintro _ w_b3 ⟨b3,rfl,hg_b3,hs_b3,hB_b3,hk_b3⟩
 have hge_b3:_<=b3:=znZ hE.size (Nat.le_of_eq hg_b3.symm)
 obtain⟨hE,hks,hvv⟩:=Tr3 hk_b3 hE hks hvv
 refine Gs 7 O (zm5 O tg83 (hB_b3.cells 0 _ O) (Gs 9 O ?_))
 have zl:∀ i:Nat,i<t.kids.length->∃ k,t.kids[i]?=some k/\lki (zgU vals t.kids) i=qq vals k/\zgu (qq vals k)/\∃ b o c v,a3=some ⟨b,o,none⟩/\Cells w_b3 b (o+i*3) c/\c=[.int .i64 k.op,.int .i64 k.n,v]/\SlR 3 RTm D w_b3 v k.kids:=fun i hi=>by
  obtain⟨k,hk⟩:∃ k,t.kids[i]?=some k:=⟨_,znT hi⟩
  obtain⟨b,o,c,h1,_,h2,h3⟩:=hks.at hk
  obtain⟨v,h4,h5⟩:=h3.get
  exact⟨k,hk,zdY hk,ok.kid k (znU hk),b,o,c,v,h1,h2,h4,h5⟩
 have hX:=Keep.refl (fun _=>False) w_b3
 refine zk6 O (fun c0=>?_) (fun c0=>?_)
 . refine Gs 3 O (zm5 O tg3 (hB_b3.cells 1 _ O) (Gs 6 O (zkq Tryz.results181 O ⟨_,rfl,by rw [hve,kg,zo4 c0],hE⟩)))
 ·
  refine Gs 6 O (zk6 O (fun c24=>?_) (fun c24=>?_))
  ·
   have hn:=ok.var c24
   have hln:=hV.len
   obtain⟨bx,ox,cx,hax,_,hcx,rfl⟩:=hvv.at (zhJ (l:=vals) (i:=t.n.toNat) (by omega))
   refine Gs 4 O (zm5 O tg3 (hB_b3.cells 1 _ O) (zm1 O O (zkP tR27 ts3 O O hax (by omega)) (zm5 O tg3 (hcx 0 _ O) (Gs 6 O (zkq Tryz.results181 O ⟨_,rfl,by rw [hve,kg,zo3 c0,zo4 c24],hE⟩)))))
  ·
   refine Gs 6 O (zk6 O (fun c6=>?_) (fun c6=>?_))
   ·
    have h1:=ok.k1 (.inl c6)
    obtain⟨k0,hk0,hl0,hi0,b0,o0,_,v0,ha0,hc0,rfl,hs0⟩:=zl 0 (by omega)
    refine Gs 4 O (zm5 O tg84 (hB_b3.cells 2 _ O) (zm1 O O (zkP tR84 ts86 O O ha0 (by omega)) (zm7 O tg86 ts86 (hX.cells hc0 (fun h=>h)) O (G.call O Tryz.call181 (ihk k0 (znU hk0) _ D Dv _ _ hvv (RTm.put (hs0.ext zp hX))) ?_))))
    rintro _ wz1 ⟨rfl,hz1⟩
    obtain⟨hE,hks,hvv,hB_b3,hX⟩:=Tr5 hz1 hE hks hvv hB_b3 hX
    refine Ga 7 O (by omega) (zkq Tryz.results181 O ⟨_,rfl,by rw [hve,kg,zo3 c0,zo3 c24,zo4 c6,hl0],hE⟩)
   ·
    refine Gs 6 O (zk6 O (fun c7=>?_) (fun c7=>?_))
    ·
     have h1:=ok.k1 (.inr c7)
     obtain⟨k0,hk0,hl0,hi0,b0,o0,_,v0,ha0,hc0,rfl,hs0⟩:=zl 0 (by omega)
     refine Gs 4 O (zm5 O tg84 (hB_b3.cells 2 _ O) (zm1 O O (zkP tR84 ts86 O O ha0 (by omega)) (zm7 O tg86 ts86 (hX.cells hc0 (fun h=>h)) O (G.call O Tryz.call181 (ihk k0 (znU hk0) _ D Dv _ _ hvv (RTm.put (hs0.ext zp hX))) ?_))))
     rintro _ wz2 ⟨rfl,hz2⟩
     obtain⟨hE,hks,hvv,hB_b3,hX⟩:=Tr5 hz2 hE hks hvv hB_b3 hX
     refine Gs 1 O (G.call O Tryz.call192 (zjZ _ _) ?_)
     rintro _ wz3 ⟨rfl,hz3⟩
     obtain⟨hE,hks,hvv,hB_b3,hX⟩:=Tr5 hz3 hE hks hvv hB_b3 hX
     refine Gs 6 O (zkq Tryz.results181 O ⟨_,rfl,by rw [hve,kg,zo3 c0,zo3 c24,zo3 c6,zo4 c7,hl0];rfl,hE⟩)
    ·
     refine Gs 6 O (zk6 O (fun c23=>?_) (fun c23=>?_))
     ·
      have h1:=ok.k3 c23
      obtain⟨k0,hk0,hl0,hi0,b0,o0,_,v0,ha0,hc0,rfl,hs0⟩:=zl 0 (by omega)
      obtain⟨k1,hk1,hl1,hi1,b1,o1,_,v1,ha1,hc1,rfl,hs1⟩:=zl 1 (by omega)
      obtain⟨k2,hk2,hl2,hi2,b2,o2,_,v2,ha2,hc2,rfl,hs2⟩:=zl 2 (by omega)
      refine Gs 5 O (zm5 O tg84 (hB_b3.cells 2 _ O) (zm1 O O (zkP tR84 ts86 O O ha0 (by omega)) (zm7 O tg86 ts86 (hX.cells hc0 (fun h=>h)) O (G.call O Tryz.call181 (ihk k0 (znU hk0) _ D Dv _ _ hvv (RTm.put (hs0.ext zp hX))) ?_))))
      rintro _ wz4 ⟨rfl,hz4⟩
      obtain⟨hE,hks,hvv,hB_b3,hX⟩:=Tr5 hz4 hE hks hvv hB_b3 hX
      refine Gs 3 O (zk6 O (fun z=>?_) (fun z=>?_))
      ·
       refine Gs 4 O (zm5 O tg84 (hB_b3.cells 2 _ O) (zm1 O O (zkP tR84 ts86 O O ha1 (by omega)) (zm7 O tg86 ts86 (hX.cells hc1 (fun h=>h)) O (G.call O Tryz.call181 (ihk k1 (znU hk1) _ D Dv _ _ hvv (RTm.put (hs1.ext zp hX))) ?_))))
       rintro _ wz5 ⟨rfl,hz5⟩
       obtain⟨hE,hks,hvv,hB_b3,hX⟩:=Tr5 hz5 hE hks hvv hB_b3 hX
       refine Gs 7 O (zkq Tryz.results181 O ⟨_,rfl,by rw [hve,kg,zo3 c0,zo3 c24,zo3 c6,zo3 c7,zo4 c23,hl0,zo4 z,hl1],hE⟩)
      ·
       refine Gs 6 O (zm5 O tg84 (hB_b3.cells 2 _ O) (zm1 O O (zkP tR84 ts86 O O ha2 (by omega)) (zm7 O tg86 ts86 (hX.cells hc2 (fun h=>h)) O (G.call O Tryz.call181 (ihk k2 (znU hk2) _ D Dv _ _ hvv (RTm.put (hs2.ext zp hX))) ?_))))
       rintro _ wz6 ⟨rfl,hz6⟩
       obtain⟨hE,hks,hvv,hB_b3,hX⟩:=Tr5 hz6 hE hks hvv hB_b3 hX
       refine Gs 6 O (zkq Tryz.results181 O ⟨_,rfl,by rw [hve,kg,zo3 c0,zo3 c24,zo3 c6,zo3 c7,zo4 c23,hl0,zo3 z,hl2],hE⟩)
     ·
      refine Gs 6 O (zk6 O (fun c25=>?_) (fun c25=>?_))
      ·
       have h1:=ok.k25 c25
       obtain⟨k0,hk0,hl0,hi0,b0,o0,_,v0,ha0,hc0,rfl,hs0⟩:=zl 0 (by omega)
       have hcl:=qF (qq vals k0) (show (0:Int)<=(t.kids.length:Int) - 2 by omega)
       obtain⟨kj,hkj,hlj,hij,bj,oj,_,vj,haj,hcj,rfl,hsj⟩:=zl (1+qp (qq vals k0) 0 ((t.kids.length:Int) - 2)).toNat (by omega)
       refine Gs 1 O (Dw (fun q=>Ext w_b3 q) [] (fun wd7 hD _=>?_))
       refine Ds [0,1] (by kernel_rfl) O (WD.take 2 O (by kernel_rfl) O O O hD (fun w1 hw1=>R.load tg84 O ((hw1.blk hB_b3 (fun h=>h)).cells 2 _ O)) (Ds [3,4] (by kernel_rfl) O (WD.take 5 O (by kernel_rfl) O O O hD (fun w1 hw1=>R.load tg84 O ((hw1.blk hB_b3 (fun h=>h)).cells 2 _ O)) (zld 6 O (by kernel_rfl) O O O (fun w1=>zkP tR84 ts86 O O ha0 (by omega)) (WD.take 7 O (by kernel_rfl) O O O hD (fun w1 hw1=>zkR tg86 ts86 O (by rfl) ((hX.ext hw1).cells hc0 (fun h=>h))) ?_)))))
       refine Ds [9] (by kernel_rfl) O (WD.take 10 O (by kernel_rfl) O O O hD (fun w1 hw1=>R.load tg84 O ((hw1.blk hB_b3 (fun h=>h)).cells 2 _ O)) (Da [11,12] (by kernel_rfl) O (by omega) (WD.call 8 O (by kernel_rfl) O O O (F.call (vs:=[_,_]) Tryz.call181 O) (ihk k0 (znU hk0) _ D Dv _ _ (hvv.ext zc hD) (RTm.put (hs0.ext zp (hX.ext hD)))) ?_)))
       rintro _ wz8 ⟨rfl,hz8⟩
       replace hD:=hD.ext hz8
       refine⟨fun _=>hD,?_⟩
       refine WD.call 13 O (by kernel_rfl) O O O (F.call (vs:=[_,_,_]) Tryz.call183 O) (zot _ _ _ _) ?_
       rintro _ wz9 ⟨rfl,hz9⟩
       replace hD:=hD.ext hz9
       refine⟨fun _=>hD,?_⟩
       refine Da [14] (by kernel_rfl) O (by omega) (zld 15 O (by kernel_rfl) O O O (fun w1=>zkP tR84 ts86 O O haj (by omega)) (WD.take 16 O (by kernel_rfl) O O O hD (fun w1 hw1=>zkR tg86 ts86 O (by rfl) ((hX.ext hw1).cells hcj (fun h=>h))) (WD.call 17 O (by kernel_rfl) O O O (F.call (vs:=[_,_]) Tryz.call181 O) (ihk kj (znU hkj) _ D Dv _ _ (hvv.ext zc hD) (RTm.put (hsj.ext zp (hX.ext hD)))) ?_)))
       rintro _ wz10 ⟨rfl,hz10⟩
       replace hD:=hD.ext hz10
       refine⟨fun _=>hD,?_⟩
       refine Ds [18] (by kernel_rfl) O (zla (by kernel_rfl) ?_ _)
       obtain⟨hE,hks,hvv,hB_b3,hX⟩:=Tr5 hD hE hks hvv hB_b3 hX
       refine Gs 4 O (zkq Tryz.results181 O ⟨_,rfl,by rw [hve,kg,zo3 c0,zo3 c24,zo3 c6,zo3 c7,zo3 c23,zo4 c25,hl0,zdX,hlj],hE⟩)
      ·
       have h1:=ok.k2 (by omega)
       obtain⟨k0,hk0,hl0,hi0,b0,o0,_,v0,ha0,hc0,rfl,hs0⟩:=zl 0 (by omega)
       obtain⟨k1,hk1,hl1,hi1,b1,o1,_,v1,ha1,hc1,rfl,hs1⟩:=zl 1 (by omega)
       refine Gs 4 O (Dw (fun q=>Ext w_b3 q) [] (fun wd11 hD _=>?_))
       refine Ds [0] (by kernel_rfl) O (WD.take 1 O (by kernel_rfl) O O O hD (fun w1 hw1=>R.load tg83 O ((hw1.blk hB_b3 (fun h=>h)).cells 0 _ O)) (Ds [2,3] (by kernel_rfl) O (WD.take 4 O (by kernel_rfl) O O O hD (fun w1 hw1=>R.load tg84 O ((hw1.blk hB_b3 (fun h=>h)).cells 2 _ O)) (zld 5 O (by kernel_rfl) O O O (fun w1=>zkP tR84 ts86 O O ha0 (by omega)) (WD.take 6 O (by kernel_rfl) O O O hD (fun w1 hw1=>zkR tg86 ts86 O (by rfl) ((hX.ext hw1).cells hc0 (fun h=>h))) ?_)))))
       refine Ds [8,9] (by kernel_rfl) O (WD.take 10 O (by kernel_rfl) O O O hD (fun w1 hw1=>R.load tg84 O ((hw1.blk hB_b3 (fun h=>h)).cells 2 _ O)) (zld 11 O (by kernel_rfl) O O O (fun w1=>zkP tR84 ts86 O O ha1 (by omega)) (WD.take 12 O (by kernel_rfl) O O O hD (fun w1 hw1=>zkR tg86 ts86 O (by rfl) ((hX.ext hw1).cells hc1 (fun h=>h))) (WD.call 7 O (by kernel_rfl) O O O (F.call (vs:=[_,_]) Tryz.call181 O) (ihk k0 (znU hk0) _ D Dv _ _ (hvv.ext zc hD) (RTm.put (hs0.ext zp (hX.ext hD)))) ?_))))
       rintro _ wz12 ⟨rfl,hz12⟩
       replace hD:=hD.ext hz12
       refine⟨fun _=>hD,?_⟩
       refine WD.call 13 O (by kernel_rfl) O O O (F.call (vs:=[_,_]) Tryz.call181 O) (ihk k1 (znU hk1) _ D Dv _ _ (hvv.ext zc hD) (RTm.put (hs1.ext zp (hX.ext hD)))) ?_
       rintro _ wz13 ⟨rfl,hz13⟩
       replace hD:=hD.ext hz13
       refine⟨fun _=>hD,?_⟩
       refine WD.call 14 O (by kernel_rfl) O O O (F.call (vs:=[_,_,_]) Tryz.call217 O) (zoM _ _ _ _ hi0 hi1) ?_
       rintro _ wz14 ⟨rfl,hz14⟩
       replace hD:=hD.ext hz14
       refine⟨fun _=>hD,?_⟩
       refine Ds [15] (by kernel_rfl) O (zla (by kernel_rfl) ?_ _)
       obtain⟨hE,hks,hvv,hB_b3,hX⟩:=Tr5 hD hE hks hvv hB_b3 hX
       refine Gs 2 O (zkq Tryz.results181 O ⟨_,rfl,by rw [hve,kg,zo3 c0,zo3 c24,zo3 c6,zo3 c7,zo3 c23,zo3 c25,hl0,hl1],hE⟩)
theorem zpK (l:List Int) (v:Value) (D:Nat->Prop) (w:World) (i:Nat) (h:SlR 1 zB D w v l) :
  Calls Tryz.prog 178 #[v,.int .i64 i] w (Ret fun r w'=>r=.tuple #[.int .i64 (l[i]?.getD 0),.bool (decide (i<l.length))]/\Ext w w'):=by
 obtain⟨av,cv,rfl⟩:=h.form
 refine zmb Tryz.func178 O Tryz.ntmps178 O (zmm ?_)
 refine Vs 15 O ?_
 refine zk7 O (fun hge=>?_) (fun hge=>?_)
 ·
  refine Vs 8 O ?_
  refine zku Tryz.results178 O O (fun w hI=>⟨_,rfl,by rw [zo6 (by omega),zoh (by omega)];rfl,hI.k0⟩)
 ·
  refine Vs 6 O ?_
  obtain⟨x,he_x,hm_x⟩:=gE_ l (i) (by omega)
  obtain⟨b_x,o_x,c_x,ha_x,_,hc_x,hR_x⟩:=h.at he_x
  obtain rfl:=hR_x
  refine zmI 1000 0 O O hc_x ?_
  refine V.ix 1000 tR27 ts3 O ha_x (by omega) (_) (rfl) O ?_
  refine Vs 6 O ?_
  refine zku Tryz.results178 O O (fun w hI=>⟨_,rfl,by rw [zo5 (by omega),he_x];rfl,hI.k0⟩)
theorem zoT (vs:List Vr) (r:Ins) (vv s1 s2 s3:Value) (Dv D1 D2 D3:Nat->Prop) (w:World) (hvs:SlR 5 RVr Dv w vv vs) (hlen:vs.length<=1000000) (hkv:∀ v ∈ vs,0<=v.kind/\v.kind<=3) (hi1:SlR 1 zB D1 w s1 r.secret) (hi2:SlR 1 zB D2 w s2 r.pub) (hi3:SlR 1 zB D3 w s3 r.random) :
  Calls Tryz.prog 133 #[vv,.agg #[s1,s2,s3]] w (Ret fun rr w'=>(∃ u,rr=.tuple #[u,.int .i64 (zS vs r)]/\(zS vs r ≠ 0->u=.slice none 0 0)/\(zS vs r=0->w'.ownsRow 0 3 1 u (xx vs r).length ((xx vs r).map zd)/\∀ g,u.ownBlock=some g->w.heap.size<=g))/\Ext w w'):=by
 obtain⟨av,cv,rfl⟩:=hvs.form
 obtain⟨a1,c1,rfl⟩:=hi1.form
 obtain⟨a2,c2,rfl⟩:=hi2.form
 obtain⟨a3,c3,rfl⟩:=hi3.form
 refine zmb Tryz.func133 O Tryz.ntmps133 O (zmm ?_)
 refine Vs 2 O ?_
 refine V.box 3 O O (fun b3=>?_)
 refine Vs 13 O ?_
 refine V.bs0 15 tR27 ts3 O (fun b15=>?_)
 refine Vs 15 O ?_
 refine zmL (σ:=Nat × StS × Value × Bool) [0,3] [3] [3] O (fun e ⟨i,s,u,b⟩=>(6,.int .i64 s.a)::(7,.int .i64 s.b)::(8,.int .i64 s.c)::(9,u)::(10,.bool b)::(11,.int .i64 i)::e) (fun e ⟨i,s,u,b⟩=>(15,.row 3 1 u s.vals.length (s.vals.map zd))::e) (fun⟨i,s,u,b⟩=>i<=vs.length/\(vs.take i).foldl (zx r) (some ⟨[],0,0,0⟩)=some s/\b=((vs.take i).zip s.vals).all inB) (fun⟨i,s,u,b⟩=>vs.length - i) ((0,⟨[],0,0,0⟩,.slice (some ⟨b15,0,none⟩) 0 0,true)) (zlO O) (zlP O) (fun _=>rfl) (fun _=>rfl) (fun _=>rfl) (⟨zo8 _,rfl,rfl⟩) ?_
 rintro⟨i,s,u,b⟩ ⟨hi,hs,hb⟩
 show V _ _ _ _ _ ((6,.int .i64 s.a)::(7,.int .i64 s.b)::(8,.int .i64 s.c)::(9,u)::(10,.bool b)::(11,.int .i64 i)::_) _ ((15,.row 3 1 u s.vals.length (s.vals.map zd))::_) _
 obtain⟨hv1,ha,hb1,hc⟩:=zbi i s hi hs
 refine Vs 9 O ?_
 refine zk7 O (fun hlt=>?_) (fun hlt=>?_)
 ·
  refine Vs 8 O ?_
  obtain⟨x,he_x,hm_x⟩:=gE_ vs (i) (by omega)
  obtain⟨b_x,o_x,c_x,ha_x,_,hc_x,hR_x⟩:=hvs.at he_x
  obtain rfl:=hR_x
  refine zmI 1000 0 O O hc_x ?_
  refine V.ix 1000 tR22 ts89 O ha_x (by omega) (_) (rfl) O ?_
  have hst:=zaG he_x hs
  refine Vs 1 O ?_
  refine V.alloc 12 tz89 O O (fun b12=>?_)
  refine Vs 18 O ?_
  have hkx:=hkv x hm_x
  refine zmM (σ:=Bool × Int × Nat × Nat × Nat) [0,3,9,10,11,12] [3,12,15] [3,12] O (fun e ⟨ok,n,a',b',c'⟩=>(13,.int .i64 n)::(14,.bool ok)::(6,.int .i64 a')::(7,.int .i64 b')::(8,.int .i64 c')::e) (fun e ⟨ok,n,a',b',c'⟩=>e) (fun⟨ok,n,a',b',c'⟩=>(vs.take (i+1)).foldl (zx r) (some ⟨[],0,0,0⟩)=if ok then some ⟨s.vals++[n],a',b',c'⟩ else none) (fun _=>rfl) (fun _=>rfl) ?_ ?_
  ·
   refine Vs 7 O ?_
   refine zk7 O (fun k1=>?_) (fun k1=>?_)
   ·
    refine Vs 5 O ?_
    refine zmB Tryz.call178 O (fun w hI=>zpK r.secret _ D1 w s.a (Tr1 hI.k0 hi1)) ?_
    rw [zo3 (by omega),show qr r x.kind=r.secret by unfold qr;rw [zo4 k1],show zaF s x.kind=s.a by unfold zaF;rw [zo4 k1]] at hst
    have hq:(vs.take (i+1)).foldl (zx r) (some ⟨[],0,0,0⟩)=if decide (s.a<r.secret.length) then some ⟨s.vals++[r.secret[s.a]?.getD 0],s.a+1,s.b,s.c⟩ else none:=by
     rw [hst]
     by_cases hl:s.a<r.secret.length
     . rw [zo4 (zo5 hl),znT hl];simp [kP,k1]
     . rw [zo3 (by simp [hl]),zoh (by omega)];rfl
    refine Va 13 O (by omega) ?_
    refine zkn (⟨_,_,s.a+1,s.b,s.c⟩) (zlO O) (zlP O) (hq) 0 O O
   ·
    refine Vs 6 O ?_
    refine zk7 O (fun k2=>?_) (fun k2=>?_)
    ·
     refine Vs 5 O ?_
     refine zmB Tryz.call178 O (fun w hI=>zpK r.pub _ D2 w s.b (Tr1 hI.k0 hi2)) ?_
     rw [zo3 (by omega),show qr r x.kind=r.pub by unfold qr;rw [zo3 k1,zo4 k2],show zaF s x.kind=s.b by unfold zaF;rw [zo3 k1,zo4 k2]] at hst
     have hq:(vs.take (i+1)).foldl (zx r) (some ⟨[],0,0,0⟩)=if decide (s.b<r.pub.length) then some ⟨s.vals++[r.pub[s.b]?.getD 0],s.a,s.b+1,s.c⟩ else none:=by
      rw [hst]
      by_cases hl:s.b<r.pub.length
      . rw [zo4 (zo5 hl),znT hl];simp [kP,k2]
      . rw [zo3 (by simp [hl]),zoh (by omega)];rfl
     refine Va 13 O (by omega) ?_
     refine zkn (⟨_,_,s.a,s.b+1,s.c⟩) (zlO O) (zlP O) (hq) 0 O O
    ·
     refine Vs 6 O ?_
     refine zk7 O (fun k3=>?_) (fun k3=>?_)
     ·
      refine Vs 5 O ?_
      refine zmB Tryz.call178 O (fun w hI=>zpK r.random _ D3 w s.c (Tr1 hI.k0 hi3)) ?_
      rw [zo3 (by omega),show qr r x.kind=r.random by unfold qr;rw [zo3 k1,zo3 k2],show zaF s x.kind=s.c by unfold zaF;rw [zo3 k1,zo3 k2]] at hst
      have hq:(vs.take (i+1)).foldl (zx r) (some ⟨[],0,0,0⟩)=if decide (s.c<r.random.length) then some ⟨s.vals++[r.random[s.c]?.getD 0],s.a,s.b,s.c+1⟩ else none:=by
       rw [hst]
       by_cases hl:s.c<r.random.length
       . rw [zo4 (zo5 hl),znT hl];simp [kP,k1,k2]
       . rw [zo3 (by simp [hl]),zoh (by omega)];rfl
      refine Va 13 O (by omega) ?_
      refine zkn (⟨_,_,s.a,s.b,s.c+1⟩) (zlO O) (zlP O) (hq) 0 O O
     ·
      rw [zo4 (by omega)] at hst
      refine Vs 2 O ?_
      refine zkn (⟨true,x.init,s.a,s.b,s.c⟩) (zlO O) (zlP O) (by rw [hst];rfl) 0 O O
  rintro⟨ok,n,a',b',c'⟩ hq
  show V _ _ _ _ _ ((13,.int .i64 n)::(14,.bool ok)::(6,.int .i64 a')::(7,.int .i64 b')::(8,.int .i64 c')::_) _ (_) _
  dsimp only at hq
  refine Vs 5 O ?_
  refine zm2 O (fun w hI=>zly O (by first | exact za | rfl)) ?_
  refine Vs 2 O ?_
  refine V.bool O (fun hok=>?_) (fun hok=>?_)
  ·
   have hok':ok=false:=by simpa using hok
   have hN:zS vs r=1:=by unfold zS;rw [zdk (by rw [hq,hok'];rfl)]
   refine Vs 13 O ?_
   refine zku Tryz.results133 O O (fun w hI=>⟨_,rfl,⟨_,by rw [hN],fun _=>rfl,fun h=>by omega⟩,hI.k0⟩)
  ·
   have hok':ok=true:=by simpa using hok
   rw [hok',zo4 rfl] at hq
   have hz:∀ c,c=inB (x,n)->(b&&c)=((vs.take (i+1)).zip (s.vals++[n])).all inB:=by
    intro c hc
    rw [zg he_x,List.zip_append (by rw [hv1,zon];omega),List.all_append,<- hb,hc]
    simp
   refine Vs 10 O ?_
   refine V.sp 69 O (fun g1=>?_) (fun g1=>?_)
   ·
    refine Vs 15 O ?_
    refine zmO 77 [(0,_)] tR27 ts3 tz3 (by decide) O O (by kernel_rfl) (fun b77=>?_)
    refine zmv 15 77 tu27 Tryz.el3 O (by decide) O O (by omega) (by omega) (fun u15=>?_)
    refine Va 9 O (by omega) ?_
    refine zmK 15 O (e':=.row 3 1 u15 (s.vals++[n]).length ((s.vals++[n]).map zd)) (by simp [zd]) ?_
    refine zki (⟨i+1,⟨s.vals++[n],a',b',c'⟩,u15,false⟩) (zlO O) (zlP O) (⟨by omega,hq,by rw [<- hz false (by unfold inB;rw [zo6 (p:=x.low<=n) (by omega)];rfl),Bool.and_false]⟩) (by first | omega | (dsimp only;omega)) 0 O O
   ·
    refine Vs 7 O ?_
    refine zk7 O (fun t1=>?_) (fun t1=>?_)
    ·
     refine Vs 7 O ?_
     refine zmO 1077 [(0,_)] tR27 ts3 tz3 (by decide) O O (by kernel_rfl) (fun b1077=>?_)
     refine zmv 15 1077 tu27 Tryz.el3 O (by decide) O O (by omega) (by omega) (fun u15=>?_)
     refine Va 9 O (by omega) ?_
     refine zmK 15 O (e':=.row 3 1 u15 (s.vals++[n]).length ((s.vals++[n]).map zd)) (by simp [zd]) ?_
     refine zki (⟨i+1,⟨s.vals++[n],a',b',c'⟩,u15,false⟩) (zlO O) (zlP O) (⟨by omega,hq,by rw [<- hz false (by unfold inB;rw [zo6 (p:=n<=x.high) (by omega),Bool.and_false]),Bool.and_false]⟩) (by first | omega | (dsimp only;omega)) 0 O O
    ·
     refine Vs 5 O ?_
     refine zmO 2077 [(0,_)] tR27 ts3 tz3 (by decide) O O (by kernel_rfl) (fun b2077=>?_)
     refine zmv 15 2077 tu27 Tryz.el3 O (by decide) O O (by omega) (by omega) (fun u15=>?_)
     refine Va 9 O (by omega) ?_
     refine zmK 15 O (e':=.row 3 1 u15 (s.vals++[n]).length ((s.vals++[n]).map zd)) (by simp [zd]) ?_
     refine zki (⟨i+1,⟨s.vals++[n],a',b',c'⟩,u15,b⟩) (zlO O) (zlP O) (⟨by omega,hq,by rw [<- hz true (by unfold inB;rw [zo5 (p:=x.low<=n) (by omega),zo5 (p:=n<=x.high) (by omega)];rfl),Bool.and_true]⟩) (by first | omega | (dsimp only;omega)) 0 O O
 ·
  have hii:i=vs.length:=by omega
  rw [hii,znY] at hs hb
  have hS:kH vs r=some s:=hs
  have hC:zS vs r=kW vs r s:=by unfold zS;rw [hS]
  have hV:xx vs r=s.vals:=by unfold xx;rw [hS]
  rw [hC,hV]
  refine Vs 14 O ?_
  refine V.sp 84 O (fun e1=>?_) (fun e1=>?_)
  ·
   have hF:kW vs r s=1:=by unfold kW;rw [zo4 (.inl (by omega))]
   rw [hF]
   refine Vs 24 O ?_
   refine zku Tryz.results133 O O (fun w hI=>⟨_,rfl,⟨_,rfl,fun _=>rfl,fun h=>by omega⟩,hI.k0⟩)
  ·
   refine Vs 7 O ?_
   refine V.sp 91 O (fun e2=>?_) (fun e2=>?_)
   ·
    have hF:kW vs r s=1:=by unfold kW;rw [zo4 (.inr (.inl (by omega)))]
    rw [hF]
    refine Vs 17 O ?_
    refine zku Tryz.results133 O O (fun w hI=>⟨_,rfl,⟨_,rfl,fun _=>rfl,fun h=>by omega⟩,hI.k0⟩)
   ·
    refine Vs 8 O ?_
    refine zk7 O (fun e3=>?_) (fun e3=>?_)
    ·
     have hF:kW vs r s=1:=by unfold kW;rw [zo4 (.inr (.inr (by omega)))]
     rw [hF]
     refine Vs 8 O ?_
     refine zku Tryz.results133 O O (fun w hI=>⟨_,rfl,⟨_,rfl,fun _=>rfl,fun h=>by omega⟩,hI.k0⟩)
    ·
     have hF:kW vs r s=if b=true then 0 else 3:=by unfold kW;rw [zo3 (by omega),hb]
     rw [hF]
     refine Vs 6 O ?_
     refine zm2 O (fun w hI=>zly O (by first | exact za | rfl)) ?_
     refine Vs 2 O ?_
     refine V.bool O (fun hb3=>?_) (fun hb3=>?_)
     ·
      have hb':b=false:=by simpa using hb3
      rw [hb',zo3 (by decide)]
      refine Vs 8 O ?_
      refine zku Tryz.results133 O O (fun w hI=>⟨_,rfl,⟨_,rfl,fun _=>rfl,fun h=>by omega⟩,hI.k0⟩)
     ·
      have hb':b=true:=by simpa using hb3
      rw [hb',zo4 rfl]
      refine Vs 10 O ?_
      refine zku Tryz.results133 O O (fun w hI=>⟨_,rfl,⟨_,rfl,fun h=>absurd O h,fun _=>⟨hI.at 15 rfl,hI.own 15 0 O rfl⟩⟩,hI.k0⟩)
theorem zoy (l:List Int):l.flatMap (fun x=>[zd x])=l.map zd:=(kQ l).symm
theorem zoN (vs:List Vr) (vals:List Int) (n i:Int) (v1 v2 v3 sv:Value) (Dv D:Nat->Prop) (w:World) (hvs:SlR 5 RVr Dv w v1 vs) (hs:SlR 1 zB D w sv vals) (hlen:vals.length=vs.length) (hmx:vs.length<=1000000) (hi:0<=i/\i<vs.length) :
  Calls Tryz.prog 180 #[.agg #[v1,v2,v3],sv,.int .i64 i,.int .i64 n] w (Ret fun rr w'=>(w'.ownsRow 0 3 1 rr vals.length ((zb7 vs vals i n).map zd)/\∀ g,rr.ownBlock=some g->w.heap.size<=g)/\Ext w w'):=by
 obtain⟨av,cv,rfl⟩:=hvs.form
 obtain⟨asl,csl,rfl⟩:=hs.form
 obtain⟨i,rfl⟩:∃ j:Nat,i=j:=⟨i.toNat,by omega⟩
 refine zmd Tryz.func180 O Tryz.ntmps180 O (zmm ?_)
 refine Vs 2 O ?_
 refine V.box 4 O O (fun b4=>?_)
 refine Vs 5 O ?_
 refine V.bs0 10 tR27 ts3 O (fun b10=>?_)
 refine Vs 1 O ?_
 refine zmQ 10 (fun x=>[zd x]) (fun _=>rfl) (by simp [Value.oneCell']) zbO tu27 Tryz.el3 O (by decide) O (fun w hI=>⟨_,Tr1 hI.k0 hs⟩) (by omega) (by omega) (fun u10=>?_)
 refine zmK 10 O (e':=.row 3 1 u10 vals.length (vals.map zd)) (by rw [zoy,Nat.zero_add];rfl) ?_
 refine zmx 10 O (by omega) ?_
 rintro b c rfl hcap_10
 refine Vs 4 O ?_
 obtain⟨x,he_x,hm_x⟩:=gE_ vs (i) (by omega)
 obtain⟨b_x,o_x,c_x,ha_x,_,hc_x,hR_x⟩:=hvs.at he_x
 obtain rfl:=hR_x
 refine zmI 1000 0 O O hc_x ?_
 refine Vw [4,1000] [] O ?_
 refine Vd [0,1,2,3,4,5,9,10,11] 0 (by kernel_rfl) O O O ?_
 refine VD.ix 6 1000 tR22 ts89 O (by kernel_rfl) O ha_x (by omega) (_) (rfl) O ?_
 refine Vd [7,8] 0 (by kernel_rfl) O O O ?_
 refine VD.ix 12 1000 tR22 ts89 O (by kernel_rfl) O ha_x (by omega) (_) (rfl) O ?_
 refine Vd [13,14] 0 (by kernel_rfl) O O O ?_
 refine zmC 15 0 Tryz.call183 O (by kernel_rfl) O O (fun w hI=>zot n x.low x.high w) ?_
 refine Vb [16] 0 (by kernel_rfl) O O O (by omega) ?_
 refine zmA 17 10 0 (i) ts3 O (by kernel_rfl) O O (by omega) (by simp;omega) ?_
 refine zlb (by kernel_rfl) ?_
 refine Vs 8 O ?_
 have hx:zb7 vs vals i n=vals.set i (qp n x.low x.high):=by unfold zb7;rw [zof,he_x]
 refine zmK 10 O (e':=.row 3 1 (.slice (some ⟨b,0,none⟩) vals.length c) vals.length ((zb7 vs vals i n).map zd)) (by rw [hx,List.map_set]) ?_
 refine zkr Tryz.results180 O (fun w hI=>⟨_,rfl,⟨hI.at 10 rfl,hI.own 10 0 O rfl⟩,hI.k0⟩)
theorem zoG (f:Fl) (vals:List Int) (v1 v2 v3 sv:Value) (D Ds:Nat->Prop) (w:World) (hf:RFl D w f v1 v2 v3) (hs:SlR 1 zB Ds w sv vals) (hg:∀ v ∈ f.vars,yp (v.low,v.high)) (hV:InV f.vars vals) (hh:∀ h ∈ f.hatches,zw f.vars false h.term=true/\(rng f.vars h.term).isSome=true) (hmx:f.hatches.length<=1000000) :
  Calls Tryz.prog 135 #[.agg #[v1,v2,v3],sv] w (Ret fun rr w'=>(w'.ownsRow 0 3 1 rr f.hatches.length ((zgY vals f.hatches).map zd)/\∀ g,rr.ownBlock=some g->w.heap.size<=g)/\Ext w w'):=by
 obtain⟨hf1,hf2,hf3⟩:=hf
 obtain⟨ah,ch,rfl⟩:=hf2.form
 refine zmb Tryz.func135 O Tryz.ntmps135 O (zmm ?_)
 refine Vs 2 O ?_
 refine V.box 2 O O (fun b2=>?_)
 refine Vs 5 O ?_
 refine V.bs0 8 tR27 ts3 O (fun b8=>?_)
 refine Vs 10 O ?_
 refine zmL (σ:=Nat × Value) [1,2] [2] [2] O (fun e ⟨i,u⟩=>(5,u)::(6,.int .i64 i)::e) (fun e ⟨i,u⟩=>(8,.row 3 1 u i ((zgY vals (f.hatches.take i)).map zd))::e) (fun⟨i,u⟩=>i<=f.hatches.length) (fun⟨i,u⟩=>f.hatches.length - i) ((0,.slice (some ⟨b8,0,none⟩) 0 0)) (zlO O) (zlP O) (fun _=>rfl) (fun _=>rfl) (fun _=>rfl) (zo8 _) ?_
 rintro⟨i,u⟩ hi
 show V _ _ _ _ _ ((5,u)::(6,.int .i64 i)::_) _ ((8,.row 3 1 u i ((zgY vals (f.hatches.take i)).map zd))::_) _
 refine Vs 10 O ?_
 refine zk7 O (fun hlt=>?_) (fun hlt=>?_)
 ·
  refine Vs 9 O ?_
  obtain⟨x,he_x,hm_x⟩:=gE_ f.hatches (i) (by omega)
  obtain⟨b_x,o_x,c_x,ha_x,_,hc_x,hR_x⟩:=hf2.at he_x
  obtain⟨v1_x,rfl,hk_x⟩:=hR_x
  obtain⟨a1_x,n1_x,rfl⟩:=hk_x.form
  refine zmI 1000 0 O O hc_x ?_
  refine V.ix 1000 tR23 ts95 O ha_x (by omega) (_) (rfl) O ?_
  obtain⟨t1,t2⟩:=hh x hm_x
  refine Vs 1 O ?_
  refine V.alloc 7 tz95 O O (fun b7=>?_)
  refine Vs 3 O ?_
  refine Vw [2,1000,7] [] O ?_
  refine Vd [0,1,2,3,5,6,7,8] 0 (by kernel_rfl) O O O ?_
  refine zmC 4 0 Tryz.call181 O (by kernel_rfl) O O (fun w hI=>zk0 hg hV x.term t1 t2 _ D Ds w _ (Tr1 hI.k0 hs) (RTm.put (Tr1 hI.k0 hk_x))) ?_
  refine zmC 9 0 Tryz.call183 O (by kernel_rfl) O O (fun w hI=>zot _ x.low x.high w) ?_
  refine zmP 10 31 0 [(0,_)] tR27 ts3 tz3 (by decide) O (by kernel_rfl) O O (by kernel_rfl) (fun b31=>?_)
  refine zmw 11 8 31 0 tu27 Tryz.el3 O (by decide) O (by kernel_rfl) O O O (by omega) (by omega) (fun u8=>?_)
  refine Vd [12] 0 (by kernel_rfl) O O O ?_
  refine zlb (by kernel_rfl) ?_
  refine Va 7 O (by omega) ?_
  refine zmK 8 O (e':=.row 3 1 u8 (i+1) ((zgY vals (f.hatches.take (i+1))).map zd)) (by rw [zfx he_x,List.map_append];rfl) ?_
  refine zki ((i+1,u8)) (zlO O) (zlP O) (Nat.succ_le_of_lt (by omega)) (by first | omega | (dsimp only;omega)) 0 O O
 ·
  have hii:i=f.hatches.length:=by omega
  subst hii
  refine Vs 12 O ?_
  refine zkr Tryz.results135 O (fun w hI=>⟨_,rfl,⟨by have h:=hI.at 8 rfl;rwa [znY] at h,hI.own 8 0 O rfl⟩,hI.k0⟩)
theorem zoZ (vs:List Vr) (vals:List Int) (i n:Int):(zb7 vs vals i n).length=vals.length:=by
 unfold zb7;split
 . rw [List.length_set]
 . rfl
abbrev sgV (σ:Sg) (a1:Option Addr) (c1:Nat) (a2:Option Addr) (c2:Nat):Value:=.agg #[.slice a1 σ.vals.length c1,.slice a2 σ.outs.length c2,.int .i64 σ.time]
abbrev SlI (D:Nat->Prop) (w:World) (a:Option Addr) (c:Nat) (l:List Int):Prop:=SlR 1 zB D w (.slice a l.length c) l
def zpS (D:Nat->Prop) (w w':World) (σ:Sg) (r:Value):Prop:=∃ a1 c1 a2 c2,r=sgV σ a1 c1 a2 c2/\SlI (fun b=>D b\/w.heap.size<=b) w' a1 c1 σ.vals/\SlI (fun b=>D b\/w.heap.size<=b) w' a2 c2 σ.outs
def zph (f:Fl) (hs:List Int) (l:List St):Prop:=∀ (N:Nat) (σ:Sg),SgB f N σ->N+nbL l<=100000->∀ (D Df Dh:Nat->Prop) (w:World) (v1 v2 v3 hv lv:Value) (a1:Option Addr) (c1:Nat) (a2:Option Addr) (c2:Nat),(∀ b,D b->b<w.heap.size)->RFl Df w f v1 v2 v3->SlR 1 zB Dh w hv hs->SlR 10 RSt Df w lv l->SlI D w a1 c1 σ.vals->SlI D w a2 c2 σ.outs ->
 Calls Tryz.prog 134 #[.agg #[v1,v2,v3],hv,lv,sgV σ a1 c1 a2 c2] w (Ret fun r w'=>zpS D w w' (exL f hs l σ) r/\Ext w w')
theorem zpi (f:Fl) (hs:List Int) (hg:∀ v ∈ f.vars,yp (v.low,v.high)) (x:St) (ho:StepOk f x) (hn:0<=x.n) (hp:PreOk f x.thn) (ih:zph f hs x.thn) (N:Nat) (σ:Sg) (hB:SgB f N σ) (hN:N+x.n.toNat*(1+nbL x.thn)<=100000) (D Df Dh:Nat->Prop) (w:World) (v1 v2 v3 hv:Value) (a1:Option Addr) (c1:Nat) (a2:Option Addr) (c2:Nat) (_:∀ b,D b->b<w.heap.size) (hf:RFl Df w f v1 v2 v3) (hh:SlR 1 zB Dh w hv hs) (ax:Option Addr) (nx:Nat) (bx:Option Addr) (mx:Nat) (ex:Option Addr) (ox:Nat) (fx:Option Addr) (px:Nat)
  (hk:SlR 3 RTm Df w (.slice ax x.term.kids.length nx) x.term.kids) (ht:SlR 10 RSt Df w (.slice bx x.thn.length mx) x.thn) (hs1:SlI D w a1 c1 σ.vals) (hs2:SlI D w a2 c2 σ.outs) :
  Calls Tryz.prog 179 #[.agg #[v1,v2,v3],hv,.agg #[.int .i64 x.act,.int .i64 x.cost,.int .i64 x.var,.int .i64 x.n,.int .i64 x.term.op,.int .i64 x.term.n,.slice ax x.term.kids.length nx,.slice bx x.thn.length mx,.slice ex x.els.length ox,.slice fx x.bounds.length px],sgV σ a1 c1 a2 c2] w
   (Ret fun r w'=>zpS D w w' (qf (exL f hs x.thn) x.cost x.term x.n.toNat σ) r/\Ext w w'):=by
 refine zmd Tryz.func179 O Tryz.ntmps179 O (zmm ?_)
 refine Vs 2 O ?_
 refine V.box 4 O O (fun b4=>?_)
 refine V.box 6 O O (fun b6=>?_)
 refine V.box 7 O O (fun b7=>?_)
 refine V.alloc 8 Tryz.zeroValue123 O O (fun b8=>?_)
 refine Vs 9 O ?_
 refine V.dat 900 0 O O O (hs1) (fun _ _ _ h=>h) ?_
 refine V.dat 901 0 O O O (hs2) (fun _ _ _ h=>h) ?_
 refine zmL (σ:=Nat × Sg × Option Addr × Nat × Option Addr × Nat × (Nat->Prop) × (Nat->Prop)) [1,4,6,7,8] [4,6,8] [4,6,7,8] O (fun e ⟨k,s,p1,q1,p2,q2,F1,F2⟩=>(9,.int .i64 k)::e) (fun e ⟨k,s,p1,q1,p2,q2,F1,F2⟩=>(7,.own b7 [.slice p1 s.vals.length q1,.slice p2 s.outs.length q2,.int .i64 s.time] 123)::(900,.dat F1 (fun w=>SlI F1 w p1 q1 s.vals))::(901,.dat F2 (fun w=>SlI F2 w p2 q2 s.outs))::e) (fun⟨k,s,p1,q1,p2,q2,F1,F2⟩=>k<=x.n.toNat/\qf (exL f hs x.thn) x.cost x.term x.n.toNat σ=qf (exL f hs x.thn) x.cost x.term (x.n.toNat - k) s/\SgB f (N+k*(1+nbL x.thn)) s/\(∀ b,F1 b->D b\/w.heap.size<=b)/\(∀ b,F2 b->D b\/w.heap.size<=b)) (fun⟨k,s,p1,q1,p2,q2,F1,F2⟩=>x.n.toNat - k) ((0,σ,a1,c1,a2,c2,fun b=>D b/\b<w.heap.size,fun b=>D b/\b<w.heap.size)) (zlO O) (zlP O) (fun _=>rfl) (fun _=>rfl) (fun _=>rfl) (⟨zo8 _,rfl,by simpa using hB,fun b h=>.inl h.1,fun b h=>.inl h.1⟩) ?_
 rintro⟨k,s,p1,q1,p2,q2,F1,F2⟩ ⟨hk1,hall,hsB,hF1,hF2⟩
 show V _ _ _ _ _ ((9,.int .i64 k)::_) _ ((7,.own b7 [.slice p1 s.vals.length q1,.slice p2 s.outs.length q2,.int .i64 s.time] 123)::(900,.dat F1 (fun w=>SlI F1 w p1 q1 s.vals))::(901,.dat F2 (fun w=>SlI F2 w p2 q2 s.outs))::_) _
 have hcost:=ho.cost
 have ht0:=hsB.t0
 have ht1:=hsB.t1
 refine Vs 9 O ?_
 refine zk7 O (fun hlt=>?_) (fun hlt=>?_)
 ·
  obtain⟨m,hm⟩:∃ m,x.n.toNat - k=m+1:=⟨x.n.toNat - k - 1,by omega⟩
  have hm':x.n.toNat - (k+1)=m:=by omega
  have hkn:(k+1)*(1+nbL x.thn)<=x.n.toNat*(1+nbL x.thn):=Nat.mul_le_mul_right _ (by omega)
  rw [Nat.succ_mul] at hkn
  have hkb:k<=k*(1+nbL x.thn):=Nat.le_mul_of_pos_right _ (by omega)
  rw [hm,qf] at hall
  have hs1':=hsB.cost ho
  refine Va 22 O (by omega) ?_
  refine zmB Tryz.call181 O (fun w hI=>zk0 hg hsB.inv x.term ho.formed ho.ranged _ Df F1 w _ (hI.at 900 O).1 (RTm.put (Tr1 hI.k0 hk))) ?_
  refine Vs 3 O ?_
  refine zk7 O (fun z=>?_) (fun z=>?_)
  ·
   rw [zo4 z] at hall
   rw [hall]
   refine Vs 13 O ?_
   refine zkz Tryz.results179 Tryz.isAgg123 Tryz.sizeOf123 O O O (fun w hI=>⟨_,rfl,⟨_,_,_,_,rfl,(hI.at 900 O).1.wide zc hF1,(hI.at 901 O).1.wide zc hF2⟩,hI.k0⟩)
  ·
   rw [zo3 z] at hall
   refine Vs 8 O ?_
   refine zmD Tryz.call134 O (fun w hI=>ih _ { s with time:=s.time+x.cost } hs1' (by omega) (fun b=>F1 b\/F2 b) Df Dh w v1 v2 v3 hv _ p1 q1 p2 q2 (fun b hb=>hb.elim ((hI.at 900 O).2 b) ((hI.at 901 O).2 b)) (Tr1 hI.k0 hf) (Tr1 hI.k0 hh) (Tr1 hI.k0 ht) ((hI.at 900 O).1.wide zc (fun _ h=>.inl h)) ((hI.at 901 O).1.wide zc (fun _ h=>.inr h))) ?_
   rintro r w1 w2 hI1 hk12 ⟨p1',q1',p2',q2',rfl,hr1,hr2⟩ hlow
   have hoff:∀ b,((F1 b\/F2 b)\/w1.heap.size<=b)->b<w2.heap.size->¬ HS _ b:=fun b hb _=>hb.elim (fun h=>h.elim (hI1.offF 900 rfl b) (hI1.offF 901 rfl b)) (fun h hs=>by have:=hlow b hs;omega)
   have hsz:w.heap.size<=w1.heap.size:=hI1.k0.size
   refine Va 9 O (by omega) ?_
   refine V.del 900 O ?_
   refine V.dat 900 0 O O O (hr1) (hoff) ?_
   refine V.del 901 O ?_
   refine V.dat 901 0 O O O (hr2) (hoff) ?_
   have hFF:∀ b,((F1 b\/F2 b)\/w1.heap.size<=b)/\b<w2.heap.size->D b\/w.heap.size<=b:=fun b hb=>hb.1.elim (fun h=>h.elim (hF1 b) (hF2 b)) (fun h=>.inr (by omega))
   refine zki (⟨k+1,_,p1',q1',p2',q2',_,_⟩) (zlO O) (zlP O) (⟨by omega,by rw [hm'];exact hall,(zaI hg x.thn hp _ _ hs1').mono (by rw [Nat.succ_mul];omega),hFF,hFF⟩) (by first | omega | (dsimp only;omega)) 1 O O
 ·
  have hkk:k=x.n.toNat:=by omega
  rw [hkk,Nat.sub_self,qf] at hall
  rw [hall]
  refine Vs 12 O ?_
  refine zkz Tryz.results179 Tryz.isAgg123 Tryz.sizeOf123 O O O (fun w hI=>⟨_,rfl,⟨_,_,_,_,rfl,(hI.at 900 O).1.wide zc hF1,(hI.at 901 O).1.wide zc hF2⟩,hI.k0⟩)
theorem zpv (f:Fl) (hs:List Int) (hg:∀ v ∈ f.vars,yp (v.low,v.high)) (hlen:hs.length=f.hatches.length) (hvl:f.vars.length<=1000) (l:List St):PreOk f l->zph f hs l:=by
 induction l using zlH with
 | h l ih =>
 intro hp N σ hB hN D Df Dh w v1 v2 v3 hv lv a1 c1 a2 c2 hD hf hh hl hs1 hs2
 obtain⟨al,cl,rfl⟩:=hl.form
 obtain⟨ahv,chv,rfl⟩:=hh.form
 have hlm:=hl.max
 refine zmd Tryz.func134 O Tryz.ntmps134 O (zmm ?_)
 refine Vs 2 O ?_
 refine V.box 4 O O (fun b4=>?_)
 refine V.box 7 O O (fun b7=>?_)
 refine V.alloc 8 Tryz.zeroValue123 O O (fun b8=>?_)
 refine Vs 9 O ?_
 refine V.dat 900 0 O O O (hs1) (fun _ _ _ h=>h) ?_
 refine V.dat 901 0 O O O (hs2) (fun _ _ _ h=>h) ?_
 refine zmL (σ:=Nat × Sg × Option Addr × Nat × Option Addr × Nat × (Nat->Prop) × (Nat->Prop)) [1,2,4,7,8] [4,8] [4,7,8] O (fun e ⟨i,s,p1,q1,p2,q2,F1,F2⟩=>(9,.int .i64 i)::e) (fun e ⟨i,s,p1,q1,p2,q2,F1,F2⟩=>(7,.own b7 [.slice p1 s.vals.length q1,.slice p2 s.outs.length q2,.int .i64 s.time] 123)::(900,.dat F1 (fun w=>SlI F1 w p1 q1 s.vals))::(901,.dat F2 (fun w=>SlI F2 w p2 q2 s.outs))::e) (fun⟨i,s,p1,q1,p2,q2,F1,F2⟩=>i<=l.length/\s=exL f hs (l.take i) σ/\SgB f (N+nbL (l.take i)) s/\(∀ b,F1 b->D b\/w.heap.size<=b)/\(∀ b,F2 b->D b\/w.heap.size<=b)) (fun⟨i,s,p1,q1,p2,q2,F1,F2⟩=>l.length - i) ((0,σ,a1,c1,a2,c2,fun b=>D b/\b<w.heap.size,fun b=>D b/\b<w.heap.size)) (zlO O) (zlP O) (fun _=>rfl) (fun _=>rfl) (fun _=>rfl) (⟨zo8 _,rfl,by simpa [nbL] using hB,fun b h=>.inl h.1,fun b h=>.inl h.1⟩) ?_
 rintro⟨i,s,p1,q1,p2,q2,F1,F2⟩ ⟨hi,hall,hsB,hF1,hF2⟩
 show V _ _ _ _ _ ((9,.int .i64 i)::_) _ ((7,.own b7 [.slice p1 s.vals.length q1,.slice p2 s.outs.length q2,.int .i64 s.time] 123)::(900,.dat F1 (fun w=>SlI F1 w p1 q1 s.vals))::(901,.dat F2 (fun w=>SlI F2 w p2 q2 s.outs))::_) _
 have ht0:=hsB.t0
 have ht1:=hsB.t1
 have hol:=hsB.ol
 refine Vs 9 O ?_
 refine zk7 O (fun hlt=>?_) (fun hlt=>?_)
 ·
  refine Vs 8 O ?_
  obtain⟨x,he_x,hm_x⟩:=gE_ l (i) (by omega)
  obtain⟨b_x,o_x,c_x,ha_x,_,hc_x,hR_x⟩:=hl.at he_x
  obtain⟨v1_x,v2_x,v3_x,v4_x,rfl,hk_x,ht_x,hs_x,hb_x⟩:=hR_x.get
  obtain⟨a1_x,n1_x,rfl⟩:=hk_x.form
  obtain⟨a2_x,n2_x,rfl⟩:=ht_x.form
  obtain⟨a3_x,n3_x,rfl⟩:=hs_x.form
  obtain⟨a4_x,n4_x,rfl⟩:=hb_x.form
  refine zmI 1000 0 O O hc_x ?_
  refine V.ix 1000 tR24 ts92 O ha_x (by omega) (_) (rfl) O ?_
  obtain⟨⟨ho,hse,hn4⟩,hp1,hp2⟩:=hp.kids hm_x
  obtain⟨i1,i2⟩:=ih x hm_x
  have hcost:=ho.cost
  have hnx:nbL (l.take (i+1))=nbL (l.take i)+nbS x:=by rw [zg he_x,ki];rfl
  have hnl:nbL (l.take (i+1))<=nbL l:=zgZ l (i+1)
  have hnx1:=zic x
  have hex:exL f hs (l.take (i+1)) σ=exS f hs x s:=by rw [zg he_x,zbj,<- hall];rfl
  have hnS:=zdZ x
  have hinv:SgB f (N+nbL (l.take (i+1))) (exS f hs x s):=by
   rw [<- hex]
   exact zaI hg _ (fun s hs=>hp s (by rw [<- List.take_append_drop (i+1) l,jh];simp [hs])) N σ hB
  have hs1':=hsB.cost ho
  have hi1:i+1<=l.length:=by omega
  refine Vs 1 O ?_
  refine V.alloc 10 tz92 O O (fun b10=>?_)
  refine Vs 11 O ?_
  refine zk7 O (fun a4=>?_) (fun a4=>?_)
  ·
   rw [zo3 (by omega),zo4 a4] at hnS
   have hx:exS f hs x s=qf (exL f hs x.thn) x.cost x.term x.n.toNat s:=by rw [jK,zo3 (by omega),zo4 a4]
   refine Vs 6 O ?_
   refine zmD Tryz.call179 O (fun w hI=>zpi f hs hg x ho (hn4 a4) hp1 (i1 hp1) _ s hsB (by omega) (fun b=>F1 b\/F2 b) Df Dh w v1 v2 v3 _ p1 q1 p2 q2 (fun b hb=>hb.elim ((hI.at 900 O).2 b) ((hI.at 901 O).2 b)) (Tr1 hI.k0 hf) (Tr1 hI.k0 hh) _ _ _ _ _ _ _ _ (Tr1 hI.k0 hk_x) (Tr1 hI.k0 ht_x) ((hI.at 900 O).1.wide zc (fun _ h=>.inl h)) ((hI.at 901 O).1.wide zc (fun _ h=>.inr h))) ?_
   rintro r w1 w2 hI1 hk12 ⟨p1',q1',p2',q2',rfl,hr1,hr2⟩ hlow
   have hoff:∀ b,((F1 b\/F2 b)\/w1.heap.size<=b)->b<w2.heap.size->¬ HS _ b:=fun b hb _=>hb.elim (fun h=>h.elim (hI1.offF 900 rfl b) (hI1.offF 901 rfl b)) (fun h hs=>by have:=hlow b hs;omega)
   have hsz:w.heap.size<=w1.heap.size:=hI1.k0.size
   have hFF:∀ b,((F1 b\/F2 b)\/w1.heap.size<=b)/\b<w2.heap.size->D b\/w.heap.size<=b:=fun b hb=>hb.1.elim (fun h=>h.elim (hF1 b) (hF2 b)) (fun h=>.inr (by omega))
   refine Va 12 O (by omega) ?_
   refine V.del 900 O ?_
   refine V.dat 900 0 O O O (hr1) (hoff) ?_
   refine V.del 901 O ?_
   refine V.dat 901 0 O O O (hr2) (hoff) ?_
   refine zki (⟨i+1,_,p1',q1',p2',q2',_,_⟩) (zlO O) (zlP O) (⟨hi1,by rw [hex,hx],by rw [<- hx];exact hinv,hFF,hFF⟩) (by first | omega | (dsimp only;omega)) 1 O O
  ·
   refine Va 26 O (by omega) ?_
   refine zk7 O (fun a0=>?_) (fun a0=>?_)
   ·
    have hx:exS f hs x s={ s with vals:=zb7 f.vars s.vals x.var (qq s.vals x.term),time:=s.time+x.cost }:=by rw [jK,zo3 (by omega),zo3 a4];unfold jk;rw [zo4 a0]
    have hvar:=ho.var (.inl a0)
    refine Vw [4,8,7,1000,10] [12] O ?_
    refine Vd [0,1,2,3,4,5,6,7,8] 0 (by kernel_rfl) O O O ?_
    refine zmC 9 0 Tryz.call181 O (by kernel_rfl) O O (fun w hI=>zk0 hg hsB.inv x.term ho.formed ho.ranged _ Df F1 w _ (hI.at 900 O).1 (RTm.put (Tr1 hI.k0 hk_x))) ?_
    refine VD.call2 10 0 Tryz.call180 O (by kernel_rfl) O O (fun w hI=>zoN f.vars s.vals _ x.var v1 v2 v3 _ Df F1 w (Tr1 hI.k0 hf.vars) (hI.at 900 O).1 hsB.inv.len (by omega) hvar) ?_
    rintro r w1 w2 hI1 hk12 ⟨hr1,hr2⟩ hlow
    rw [<- zoZ f.vars s.vals x.var (qq s.vals x.term)] at hr1
    obtain⟨ar,cr,rfl⟩:=jr hr1
    have hsz:w.heap.size<=w1.heap.size:=hI1.k0.size
    refine Vd [11] 1 (by kernel_rfl) O O O ?_
    refine Vl 12 O (by kernel_rfl) O ?_
    refine zlc (by kernel_rfl) ?_
    refine Va 8 O (by omega) ?_
    refine V.del 900 O ?_
    refine V.dat 900 0 O O O (zlh (R:=zB) (D:=fun b=>w1.heap.size<=b) zd (fun _ _=>rfl) hr1 hr2) (fun b hb _ hs=>by have:=hlow b hs;omega) ?_
    refine zki (⟨i+1,{ s with vals:=zb7 f.vars s.vals x.var (qq s.vals x.term),time:=s.time+x.cost },ar,cr,p2,q2,_,F2⟩) (zlO O) (zlP O) (⟨hi1,by rw [hex,hx],by rw [<- hx];exact hinv,fun b hb=>.inr (by omega),hF2⟩) (by first | omega | (dsimp only;omega)) 1 O O
   ·
    refine Vs 6 O ?_
    refine zk7 O (fun a1=>?_) (fun a1=>?_)
    ·
     have hx:exS f hs x s={ s with outs:=s.outs++[qq s.vals x.term],time:=s.time+x.cost }:=by rw [jK,zo3 (by omega),zo3 a4];unfold jk;rw [zo3 a0,zo4 a1]
     refine Vw [4,8,7,1000,10] [12] O ?_
     refine Vd [1,2,4,5,6,7] 0 (by kernel_rfl) O O O ?_
     refine VD.bs0 0 53 0 tR27 ts3 O (by kernel_rfl) O (fun b53=>?_)
     refine VD.apS 3 53 0 (fun x=>[zd x]) (fun _=>rfl) (by simp [Value.oneCell']) zbO tu27 Tryz.el3 O (by decide) O (by kernel_rfl) O O (fun w hI=>⟨_,(hI.at 901 O).1⟩) (by omega) (by omega) (fun u53=>?_)
     refine zmC 8 0 Tryz.call181 O (by kernel_rfl) O O (fun w hI=>zk0 hg hsB.inv x.term ho.formed ho.ranged _ Df F1 w _ (hI.at 900 O).1 (RTm.put (Tr1 hI.k0 hk_x))) ?_
     refine zmP 9 62 0 [(0,_)] tR27 ts3 tz3 (by decide) O (by kernel_rfl) O O (by kernel_rfl) (fun b62=>?_)
     refine zmw 10 53 62 0 tu27 Tryz.el3 O (by decide) O (by kernel_rfl) O O O (by omega) (by omega) (fun u53=>?_)
     refine Vd [11] 0 (by kernel_rfl) O O O ?_
     refine zmy 53 O (by omega) ?_
     rintro bo co rfl hcap_53
     refine Vl 12 O (by kernel_rfl) O ?_
     refine zlc (by kernel_rfl) ?_
     refine Va 8 O (by omega) ?_
     refine zmK 7 O (e':=.own b7 [.slice p1 s.vals.length q1,.slice (some ⟨bo,0,none⟩) (s.outs++[qq s.vals x.term]).length co,.int .i64 (s.time+x.cost)] 123) (by rw [zo1,Nat.zero_add];rfl) ?_
     refine zmK 53 O (e':=.row 3 1 (.slice (some ⟨bo,0,none⟩) (s.outs++[qq s.vals x.term]).length co) (s.outs++[qq s.vals x.term]).length ((s.outs++[qq s.vals x.term]).map zd)) (by rw [zo1,Nat.zero_add,zoy,List.map_append];rfl) ?_
     refine zmn (p:=w.heap.size<=bo) (fun w hI=>hI.own 53 0 O O bo O) (fun hbo=>?_)
     refine V.del 901 O ?_
     refine zpW 53 901 (R:=zB) zd (fun _ _ _=>rfl) O O ?_
     refine zki (⟨i+1,{ s with outs:=s.outs++[qq s.vals x.term],time:=s.time+x.cost },p1,q1,some ⟨bo,0,none⟩,co,F1,_⟩) (zlO O) (zlP O) (⟨hi1,by rw [hex,hx],by rw [<- hx];exact hinv,hF1,fun b hb=>.inr (by have hb:some bo=some b:=hb;cases hb;exact hbo)⟩) (by first | omega | (dsimp only;omega)) 0 O O
    ·
     refine Vs 6 O ?_
     refine zk7 O (fun a5=>?_) (fun a5=>?_)
     ·
      have hx:exS f hs x s={ s with vals:=zb7 f.vars s.vals x.var (lki hs x.n.toNat),time:=s.time+x.cost }:=by rw [jK,zo3 (by omega),zo3 a4];unfold jk;rw [zo3 a0,zo3 a1,zo4 a5]
      have hvar:=ho.var (.inr a5)
      have hnum:=ho.num a5
      obtain⟨y,he_y,hm_y⟩:=gE_ hs (x.n.toNat) (by omega)
      obtain⟨b_y,o_y,c_y,ha_y,_,hc_y,hR_y⟩:=hh.at he_y
      obtain rfl:=hR_y
      refine zmI 2000 0 O O hc_y ?_
      have hy:lki hs x.n.toNat=y:=zhI he_y
      rw [hy] at hx
      refine Vw [4,8,7,1000,10,2000] [12] O ?_
      refine Vd [0,1,2,3,4,5,6,7] 0 (by kernel_rfl) O O O ?_
      refine VD.ix 8 2000 tR27 ts3 O (by kernel_rfl) O ha_y (by omega) (x.n.toNat) (by omega) O ?_
      refine Vd [9] 0 (by kernel_rfl) O O O ?_
      refine VD.call2 10 0 Tryz.call180 O (by kernel_rfl) O O (fun w hI=>zoN f.vars s.vals y x.var v1 v2 v3 _ Df F1 w (Tr1 hI.k0 hf.vars) (hI.at 900 O).1 hsB.inv.len (by omega) hvar) ?_
      rintro r w1 w2 hI1 hk12 ⟨hr1,hr2⟩ hlow
      rw [<- zoZ f.vars s.vals x.var y] at hr1
      obtain⟨ar,cr,rfl⟩:=jr hr1
      have hsz:w.heap.size<=w1.heap.size:=hI1.k0.size
      refine Vd [11] 1 (by kernel_rfl) O O O ?_
      refine Vl 12 O (by kernel_rfl) O ?_
      refine zlc (by kernel_rfl) ?_
      refine Va 8 O (by omega) ?_
      refine V.del 900 O ?_
      refine V.dat 900 0 O O O (zlh (R:=zB) (D:=fun b=>w1.heap.size<=b) zd (fun _ _=>rfl) hr1 hr2) (fun b hb _ hs=>by have:=hlow b hs;omega) ?_
      refine zki (⟨i+1,{ s with vals:=zb7 f.vars s.vals x.var y,time:=s.time+x.cost },ar,cr,p2,q2,_,F2⟩) (zlO O) (zlP O) (⟨hi1,by rw [hex,hx],by rw [<- hx];exact hinv,fun b hb=>.inr (by omega),hF2⟩) (by first | omega | (dsimp only;omega)) 1 O O
     ·
      refine Vs 6 O ?_
      refine zk7 O (fun a3=>?_) (fun a3=>?_)
      ·
       have hx:=jK f hs x s
       rw [zo4 a3] at hx
       rw [zo4 a3] at hnS
       refine Vs 6 O ?_
       refine zmB Tryz.call181 O (fun w hI=>zk0 hg hsB.inv x.term ho.formed ho.ranged _ Df F1 w _ (hI.at 900 O).1 (RTm.put (Tr1 hI.k0 hk_x))) ?_
       refine Vs 3 O ?_
       refine zk7 O (fun z=>?_) (fun z=>?_)
       ·
        rw [zo4 z] at hx
        refine Vs 6 O ?_
        refine zmD Tryz.call134 O (fun w hI=>i1 hp1 _ { s with time:=s.time+x.cost } hs1' (by omega) (fun b=>F1 b\/F2 b) Df Dh w v1 v2 v3 _ _ p1 q1 p2 q2 (fun b hb=>hb.elim ((hI.at 900 O).2 b) ((hI.at 901 O).2 b)) (Tr1 hI.k0 hf) (Tr1 hI.k0 hh) (Tr1 hI.k0 ht_x) ((hI.at 900 O).1.wide zc (fun _ h=>.inl h)) ((hI.at 901 O).1.wide zc (fun _ h=>.inr h))) ?_
        rintro r w1 w2 hI1 hk12 ⟨p1',q1',p2',q2',rfl,hr1,hr2⟩ hlow
        have hoff:∀ b,((F1 b\/F2 b)\/w1.heap.size<=b)->b<w2.heap.size->¬ HS _ b:=fun b hb _=>hb.elim (fun h=>h.elim (hI1.offF 900 rfl b) (hI1.offF 901 rfl b)) (fun h hs=>by have:=hlow b hs;omega)
        have hsz:w.heap.size<=w1.heap.size:=hI1.k0.size
        have hFF:∀ b,((F1 b\/F2 b)\/w1.heap.size<=b)/\b<w2.heap.size->D b\/w.heap.size<=b:=fun b hb=>hb.1.elim (fun h=>h.elim (hF1 b) (hF2 b)) (fun h=>.inr (by omega))
        refine Va 10 O (by omega) ?_
        refine V.del 900 O ?_
        refine V.dat 900 0 O O O (hr1) (hoff) ?_
        refine V.del 901 O ?_
        refine V.dat 901 0 O O O (hr2) (hoff) ?_
        refine zki (⟨i+1,_,p1',q1',p2',q2',_,_⟩) (zlO O) (zlP O) (⟨hi1,by rw [hex,hx],by rw [<- hx];exact hinv,hFF,hFF⟩) (by first | omega | (dsimp only;omega)) 1 O O
       ·
        rw [zo3 z] at hx
        refine Vs 6 O ?_
        refine zmD Tryz.call134 O (fun w hI=>i2 hp2 _ { s with time:=s.time+x.cost } hs1' (by omega) (fun b=>F1 b\/F2 b) Df Dh w v1 v2 v3 _ _ p1 q1 p2 q2 (fun b hb=>hb.elim ((hI.at 900 O).2 b) ((hI.at 901 O).2 b)) (Tr1 hI.k0 hf) (Tr1 hI.k0 hh) (Tr1 hI.k0 hs_x) ((hI.at 900 O).1.wide zc (fun _ h=>.inl h)) ((hI.at 901 O).1.wide zc (fun _ h=>.inr h))) ?_
        rintro r w1 w2 hI1 hk12 ⟨p1',q1',p2',q2',rfl,hr1,hr2⟩ hlow
        have hoff:∀ b,((F1 b\/F2 b)\/w1.heap.size<=b)->b<w2.heap.size->¬ HS _ b:=fun b hb _=>hb.elim (fun h=>h.elim (hI1.offF 900 rfl b) (hI1.offF 901 rfl b)) (fun h hs=>by have:=hlow b hs;omega)
        have hsz:w.heap.size<=w1.heap.size:=hI1.k0.size
        have hFF:∀ b,((F1 b\/F2 b)\/w1.heap.size<=b)/\b<w2.heap.size->D b\/w.heap.size<=b:=fun b hb=>hb.1.elim (fun h=>h.elim (hF1 b) (hF2 b)) (fun h=>.inr (by omega))
        refine Va 10 O (by omega) ?_
        refine V.del 900 O ?_
        refine V.dat 900 0 O O O (hr1) (hoff) ?_
        refine V.del 901 O ?_
        refine V.dat 901 0 O O O (hr2) (hoff) ?_
        refine zki (⟨i+1,_,p1',q1',p2',q2',_,_⟩) (zlO O) (zlP O) (⟨hi1,by rw [hex,hx],by rw [<- hx];exact hinv,hFF,hFF⟩) (by first | omega | (dsimp only;omega)) 1 O O
      ·
       refine Vs 6 O ?_
       refine zk7 O (fun a6=>?_) (fun a6=>?_)
       ·
        have hx:exS f hs x s={ s with time:=qG x.bounds (s.time+x.cost) }:=by rw [jK,zo3 (by omega),zo3 a4];unfold jk;rw [zo3 a0,zo3 a1,zo3 a5,zo4 a6]
        refine Vs 5 O ?_
        refine zmB Tryz.call182 O (fun w hI=>zoF x.bounds (s.time+x.cost) _ Df w (Tr1 hI.k0 hb_x)) ?_
        refine Va 11 O (by omega) ?_
        refine zki (⟨i+1,{ s with time:=qG x.bounds (s.time+x.cost) },p1,q1,p2,q2,F1,F2⟩) (zlO O) (zlP O) (⟨hi1,by rw [hex,hx],by rw [<- hx];exact hinv,hF1,hF2⟩) (by first | omega | (dsimp only;omega)) 0 O O
       ·
        have hx:exS f hs x s={ s with time:=s.time+x.cost }:=by rw [jK,zo3 (by omega),zo3 a4];unfold jk;rw [zo3 a0,zo3 a1,zo3 a5,zo3 a6]
        refine Va 9 O (by omega) ?_
        refine zki (⟨i+1,{ s with time:=s.time+x.cost },p1,q1,p2,q2,F1,F2⟩) (zlO O) (zlP O) (⟨hi1,by rw [hex,hx],by rw [<- hx];exact hinv,hF1,hF2⟩) (by first | omega | (dsimp only;omega)) 0 O O
 ·
  have hii:i=l.length:=by omega
  subst hii
  rw [znY] at hall
  subst hall
  refine Vs 12 O ?_
  refine zkz Tryz.results134 Tryz.isAgg123 Tryz.sizeOf123 O O O (fun w hI=>⟨_,rfl,⟨_,_,_,_,rfl,(hI.at 900 O).1.wide zc hF1,(hI.at 901 O).1.wide zc hF2⟩,hI.k0⟩)
theorem zpL (f:Fl) (r:Ins) (v1 v2 v3 s1 s2 s3:Value) (D D1 D2 D3:Nat->Prop) (W:World) (hf:RFl D W f v1 v2 v3) (hi1:SlR 1 zB D1 W s1 r.secret) (hi2:SlR 1 zB D2 W s2 r.pub) (hi3:SlR 1 zB D3 W s3 r.random) (hsz:zm f.body+zC f.hatches<=1024) (hbk:zt f.body<=1000000) :
  Calls Tryz.prog 86 #[.agg #[v1,v2,v3],.agg #[s1,s2,s3]] W (Ret fun rr w'=>(∃ st,rr=.tuple #[st,.int .i64 (zV f r)]/\(zV f r ≠ 0->st=.agg #[.slice none 0 0,.slice none 0 0,.int .i64 0])/\(zV f r=0->∃ a1 c1 a2 c2,st=sgV (qs f r) a1 c1 a2 c2/\SlI (fun b=>W.heap.size<=b) w' a1 c1 (qs f r).vals/\SlI (fun b=>W.heap.size<=b) w' a2 c2 (qs f r).outs))/\Ext W w'):=by
 refine zmb Tryz.func86 O Tryz.ntmps86 O (zmm ?_)
 refine Vs 2 O ?_
 refine V.box 2 O O (fun b2=>?_)
 refine V.box 3 O O (fun b3=>?_)
 refine V.alloc 4 Tryz.zeroValue123 O O (fun b4=>?_)
 refine Vs 6 O ?_
 refine zmB Tryz.call14 O (fun w hI=>zaD f v1 v2 v3 D w (Tr1 hI.k0 hf) hsz hbk) ?_
 refine Vs 10 O ?_
 refine zk7 O (fun c0=>?_) (fun c0=>?_)
 ·
  have hc:zV f r=ym f:=zo4 c0
  refine Vs 2 O ?_
  refine zmR [Value.slice none 0 0,Value.slice none 0 0,Value.int IntKind.i64 0] [(0,1),(1,1),(2,1)] [] O O (fun _=>by kernel_rfl) ?_
  refine Vs 7 O ?_
  refine zkC Tryz.results86 Tryz.isAgg123 Tryz.sizeOf123 O O O O (fun w hI=>⟨_,rfl,⟨_,by rw [hc],fun _=>rfl,fun h=>absurd (hc ▸ h) c0⟩,hI.k0⟩)
 ·
  have c0':ym f=0:=by omega
  have vd:Valid f:=⟨c0',hsz,hbk⟩
  have hc:zV f r=zS f.vars r:=zo3 c0
  have hl:=vd.lens
  have hnb:=vd.nb
  rw [hc]
  refine Vs 7 O ?_
  refine zmD Tryz.call133 O (fun w hI=>zoT f.vars r v1 s1 s2 s3 D D1 D2 D3 w (Tr1 hI.k0 hf.vars) (by omega) vd.kinds (Tr1 hI.k0 hi1) (Tr1 hI.k0 hi2) (Tr1 hI.k0 hi3)) ?_
  rintro rr w1 w2 hI1 hk12 ⟨u,rfl,hu1,hu2⟩ hlow
  refine Vs 14 O ?_
  refine zk7 O (fun e0=>?_) (fun e0=>?_)
  ·
   refine Vs 2 O ?_
   refine zmR [Value.slice none 0 0,Value.slice none 0 0,Value.int IntKind.i64 0] [(0,1),(1,1),(2,1)] [] O O (fun _=>by kernel_rfl) ?_
   refine Vs 7 O ?_
   refine zkC Tryz.results86 Tryz.isAgg123 Tryz.sizeOf123 O O O O (fun w hI=>⟨_,rfl,⟨_,rfl,fun _=>rfl,fun h=>absurd h e0⟩,hI.k1⟩)
  ·
   have e0':zS f.vars r=0:=by omega
   obtain⟨hrow,hfr⟩:=hu2 e0'
   obtain⟨au,cu,rfl⟩:=jr hrow
   have hsz1:W.heap.size<=w1.heap.size:=hI1.k0.size
   refine Vs 3 O ?_
   refine V.dat 900 0 O O O (zlh (R:=zB) (D:=fun b=>w1.heap.size<=b) zd (fun _ _=>rfl) hrow hfr) (fun b hb _ hs=>by have:=hlow b hs;omega) ?_
   refine Vw [2,3,4] [9] O ?_
   refine Vd [0,1,2,4,5,6] 0 (by kernel_rfl) O O O ?_
   refine zmS 7 [Value.slice none 0 0,Value.slice none 0 0,Value.int IntKind.i64 0] [(0,1),(1,1),(2,1)] [(0,_)] O (by kernel_rfl) O O (fun _=>by kernel_rfl) ?_
   refine VD.call2 3 0 Tryz.call135 O (by kernel_rfl) O O (fun w hI=>zoG f (xx f.vars r) v1 v2 v3 _ D _ w (Tr1 hI.k1 hf) (hI.at 900 O).1 vd.good (zcG e0') (fun h hh=>⟨(vd.hatch h hh).1,(vd.hatch h hh).2.1⟩) (by omega)) ?_
   rintro hv w3 w4 hI3 hk34 ⟨hh1,hh2⟩ hlow2
   refine VD.call2 8 1 Tryz.call134 O (by kernel_rfl) O O (fun w hI=>zpv f (jb f r) vd.good (by simp [zgY]) (by omega) f.body (zbP vd) 0 (jl f r) (zaJ e0') (by omega) (fun b=>w1.heap.size<=b/\b<w2.heap.size) D (fun b=>w3.heap.size<=b) w v1 v2 v3 hv _ au cu none 0 (fun b hb=>by have:w2.heap.size<=w.heap.size:=hI.k1.size;omega) (Tr1 hI.k2 hf) (zlh (R:=zB) zd (fun _ _=>rfl) (zT hh1 hI.k0 (fun g hg hs=>by have:=hlow2 g hs;have:=hh2 g hg;omega)) hh2) (Tr1 hI.k2 hf.body) (hI.at 900 O).1 SlR.nil) ?_
   rintro rs w5 w6 hI5 hk56 ⟨a1,c1,a2,c2,rfl,hr1,hr2⟩ hlow3
   refine Vl 9 O (by kernel_rfl) O ?_
   refine Vx [10] (by kernel_rfl) O ?_
   refine zlc (by kernel_rfl) ?_
   refine Vs 2 O ?_
   have hsz5:w1.heap.size<=w5.heap.size:=by have h1:=hk12.size;have h2:w2.heap.size<=w5.heap.size:=hI5.k1.size;omega
   have hoff:∀ b,((w1.heap.size<=b/\b<w2.heap.size)\/w5.heap.size<=b)->b<w6.heap.size->¬ HS _ b:=fun b hb _=>hb.elim (hI5.offF 900 rfl b) (fun h hs=>by have:=hlow3 b hs;omega)
   refine V.dat 901 0 O O O (hr1) (hoff) ?_
   refine V.dat 902 0 O O O (hr2) (hoff) ?_
   have hFF:∀ b,((w1.heap.size<=b/\b<w2.heap.size)\/w5.heap.size<=b)/\b<w6.heap.size->W.heap.size<=b:=fun b hb=>by omega
   refine zkC Tryz.results86 Tryz.isAgg123 Tryz.sizeOf123 O O O O (fun w hI=>⟨_,rfl,⟨_,by rw [e0'];rfl,fun h=>absurd e0' h,fun _=>⟨_,_,_,_,rfl,(hI.at 901 O).1.wide zc hFF,(hI.at 902 O).1.wide zc hFF⟩⟩,hI.k3⟩)
theorem zpj (f:Fl) (r:Ins) (v1 v2 v3 s1 s2 s3:Value) (D D1 D2 D3:Nat->Prop) (W:World) (hf:RFl D W f v1 v2 v3) (hi1:SlR 1 zB D1 W s1 r.secret) (hi2:SlR 1 zB D2 W s2 r.pub) (hi3:SlR 1 zB D3 W s3 r.random) (hsz:zm f.body+zC f.hatches<=1024) (hbk:zt f.body<=1000000) :
  Calls Tryz.prog 33 #[.agg #[v1,v2,v3],.agg #[s1,s2,s3]] W (Ret fun rr w'=>(∃ ov t,rr=.tuple #[.agg #[ov,.int .i64 t],.int .i64 (zV f r)]/\(zV f r ≠ 0->ov=.slice none 0 0/\t=0)/\(zV f r=0->t=(qs f r).time/\SlR 1 zB (fun b=>W.heap.size<=b) w' ov (qs f r).outs))/\Ext W w'):=by
 refine zmb Tryz.func33 O Tryz.ntmps33 O (zmm ?_)
 refine Vs 2 O ?_
 refine V.box 2 O O (fun b2=>?_)
 refine V.box 3 O O (fun b3=>?_)
 refine V.alloc 4 tz55 O O (fun b4=>?_)
 refine Vs 7 O ?_
 refine zmD Tryz.call86 O (fun w hI=>zpL f r v1 v2 v3 s1 s2 s3 D D1 D2 D3 w (Tr1 hI.k0 hf) (Tr1 hI.k0 hi1) (Tr1 hI.k0 hi2) (Tr1 hI.k0 hi3) hsz hbk) ?_
 rintro rr w1 w2 hI1 hk12 ⟨st,rfl,hu1,hu2⟩ hlow
 have hsz1:W.heap.size<=w1.heap.size:=hI1.k0.size
 by_cases c0:zV f r=0
 ·
  obtain⟨a1,c1,a2,c2,rfl,hr1,hr2⟩:=hu2 c0
  rw [c0] at *
  refine Vs 3 O ?_
  refine V.alloc 6 Tryz.zeroValue123 O O (fun b6=>?_)
  refine Vs 11 O ?_
  refine zk7 O (fun e=>?_) (fun e=>?_)
  . exact absurd O e
  ·
   refine V.dat 901 0 O O O (hr2) (fun b hb _ hs=>by have:=hlow b hs;omega) ?_
   refine Vs 8 O ?_
   refine zmR [Value.slice none 0 0,Value.int IntKind.i64 0] [(0,1),(1,1)] [(0,_),(1,_)] O O (fun _=>by kernel_rfl) ?_
   refine Vs 5 O ?_
   refine zkC Tryz.results33 tg55 ts55 O O O O (fun w hI=>⟨_,rfl,⟨_,_,rfl,fun h=>absurd O h,fun _=>⟨rfl,(hI.at 901 O).1.wide zc (fun b hb=>by omega)⟩⟩,hI.k1⟩)
 ·
  obtain rfl:=hu1 c0
  refine Vs 3 O ?_
  refine V.alloc 1006 Tryz.zeroValue123 O O (fun b1006=>?_)
  refine Vs 11 O ?_
  refine zk7 O (fun e=>?_) (fun e=>?_)
  ·
   refine Vs 2 O ?_
   refine zmR [Value.slice none 0 0,Value.int IntKind.i64 0] [(0,1),(1,1)] [] O O (fun _=>by kernel_rfl) ?_
   refine Vs 7 O ?_
   refine zkC Tryz.results33 tg55 ts55 O O O O (fun w hI=>⟨_,rfl,⟨_,_,rfl,fun _=>⟨rfl,rfl⟩,fun h=>absurd h c0⟩,hI.k1⟩)
  . omega
open Go.GL Go.ChangeShapes Go.WideShapes Go.ChangeAt Go.RowKit
section
variable {H:Type} {enc:TypeId × Value->H} {w:World} {base:Nat} {sp:Nat->Bool} {held:Bool}
set_option maxRecDepth 100000 in
theorem zpk {r:Reach} {b0:Nat} {v:Value} {d:DataW H} {ps:List MemPlace} (hval:Value.okWide Tryz.prog w r b0 4 v) (hd:DataW.Trod enc Tryz.prog w base sp held 4 v d ps):∃ t,v=.bool t:=by
 have hu:=tu4
 unfold Value.okWide at hval
 rw [hu] at hval
 cases v <;> first
  | exact⟨_,rfl⟩
  | exact False.elim hval
end
open Go.GL
def zos:List Vr->Int
 | []=>1
 | v::vs=>(v.high - v.low+1)*zos vs
theorem zk3:∀ {vs:List Vr},(∀ v ∈ vs,1<=v.high - v.low+1)->1<=zos vs
 | [],_=>Int.le_refl _
 | v::vs,h=>by
  have h1:=h v (znX ..)
  have h2:=zk3 (vs:=vs) fun x hx=>h x (znW _ hx)
  have:(1:Int)*1<=(v.high - v.low+1)*zos vs:=Int.mul_le_mul h1 h2 (by omega) (by omega)
  exact this
theorem zow {k:Int}:∀ (vs:List Vr) (n m:Int),(∀ v ∈ vs,v.kind=k)->zY k vs n=some m->m=n*zos vs
 | [],n,m,_,h=>by simp only [zY,Option.some.injEq] at h;rw [<- h,zos,Int.mul_one]
 | v::vs,n,m,hk,h=>by
  simp only [zY] at h
  rw [zo4 (hk v (znX ..))] at h
  split at h
  . cases h
  . rw [zow vs _ m (fun x hx=>hk x (znW _ hx)) h,zos,Int.mul_assoc]
theorem zoz {k:Int} {vs:List Vr} {m:Int} (h:zk k vs=some m):m=zos (ze k vs):=by
 unfold zk at h
 rw [<- yJ] at h
 rw [zow (ze k vs) _ _ (fun v hv=>of_decide_eq_true (List.mem_filter.1 hv).2) h,Int.one_mul]
theorem zor:∀ {vs:List Vr} {r:Int},0<=r->(∀ v ∈ vs,1<=v.high - v.low+1)->(yt vs r).2=r / zos vs
 | [],r,_,_=>by simp [yt,zos]
 | v::vs,r,h0,h=>by
  have h1:=h v (znX ..)
  have hp:=zk3 (vs:=vs) fun x hx=>h x (znW _ hx)
  rw [yt]
  simp only
  rw [zor h0 fun x hx=>h x (znW _ hx),Int.tdiv_eq_ediv_of_nonneg (Int.ediv_nonneg h0 (by omega)),Int.ediv_ediv,zo3 (by omega),zos,Int.mul_comm (v.high - v.low+1),Int.sub_zero]
theorem zoA {r:Int} (h0:0<=r):∀ {vs:List Vr} {i:Nat} {x:Vr},(∀ v ∈ vs,1<=v.high - v.low+1)->vs[i]?=some x->(yt vs r).1[i]?=some (x.low+(r / zos (vs.drop (i+1))).tmod (x.high - x.low+1))
 | [],_,_,_,hx=>by simp at hx
 | v::vs,0,x,h,hx=>by
  simp only [List.getElem?_cons_zero,Option.some.injEq] at hx
  subst hx
  simp only [yt,List.getElem?_cons_zero,List.drop_succ_cons,List.drop_zero]
  rw [zor h0 fun x hx=>h x (znW _ hx)]
 | v::vs,i+1,x,h,hx=>by
  simp only [List.getElem?_cons_succ] at hx
  simp only [yt,List.getElem?_cons_succ,List.drop_succ_cons]
  exact zoA h0 (fun x hx=>h x (znW _ hx)) hx
theorem zk1 (vs:List Vr) (k r:Int) (vv:Value) (D:Nat->Prop) (W:World) (hk:0<=k/\k<=3) (hg:∀ v ∈ vs,yp (v.low,v.high)) (hlen:vs.length<=1000000) (hvs:SlR 5 RVr D W vv vs) :
  Calls Tryz.prog 26 #[vv,.int .i64 k,.int .i64 r] W (Ret fun rr w'=>(∃ u,rr=.tuple #[u,.int .i64 (zz k vs r)]/\(zz k vs r ≠ 0->u=.slice none 0 0)/\(zz k vs r=0->SlR 1 zB (fun b=>W.heap.size<=b) w' u (yt (ze k vs) r).1))/\Ext W w'):=by
 have hgo:∀ v ∈ ze k vs,yp (v.low,v.high):=fun v hv=>hg v (List.mem_filter.1 hv).1
 have hgs:∀ v ∈ ze k vs,1<=v.high - v.low+1:=fun v hv=>by have:=hgo v hv;unfold yp at this;dsimp only at this;omega
 have hol:=znZ (xQ k vs) hlen
 have hul:=zaM (ze k vs) r
 refine zmc Tryz.func26 O Tryz.ntmps26 O (zmm ?_)
 refine Vs 10 O ?_
 refine zmB Tryz.call36 O (fun w hI=>jp vs k vv D w hk hg hlen (Tr1 hI.k0 hvs)) ?_
 refine Vs 14 O ?_
 refine zk7 O (fun c0=>?_) (fun c0=>?_)
 ·
  have hc:¬ (zk k vs).isSome=true:=fun h=>c0 (zo4 h)
  have hC:zz k vs r=4:=by unfold zz;rw [zo3 hc]
  refine Vs 9 O ?_
  refine zku Tryz.results26 O O (fun w hI=>⟨_,rfl,⟨_,by rw [hC,zo3 hc],fun _=>rfl,fun h=>by rw [hC] at h;cases h⟩,hI.k0⟩)
 ·
  have hc:(zk k vs).isSome=true:=by
   cases h:(zk k vs).isSome with
   | true=>rfl
   | false=>rw [h] at c0;exact absurd (by decide) c0
  have hN:=zh6 hg hc
  obtain⟨m,hm⟩:=Option.isSome_iff_exists.1 hc
  have hmp:=zoz hm
  have hU:zz k vs r=if r<0\/m<=r then 3 else 0:=by unfold zz;rw [zo4 hc,hm];rfl
  rw [hm] at hN
  simp only [Option.getD_some] at hN
  rw [hm]
  simp only [Option.getD_some]
  refine Vs 8 O ?_
  refine V.sp 25 O (fun r0=>?_) (fun r0=>?_)
  ·
   have hC:zz k vs r=3:=by rw [hU,zo4 (.inl r0)]
   refine Vs 15 O ?_
   refine zku Tryz.results26 O O (fun w hI=>⟨_,rfl,⟨_,by rw [hC],fun _=>rfl,fun h=>by rw [hC] at h;cases h⟩,hI.k0⟩)
  ·
   refine Vs 6 O ?_
   refine zk7 O (fun r1=>?_) (fun r1=>?_)
   ·
    have hC:zz k vs r=3:=by rw [hU,zo4 (.inr r1)]
    refine Vs 8 O ?_
    refine zku Tryz.results26 O O (fun w hI=>⟨_,rfl,⟨_,by rw [hC],fun _=>rfl,fun h=>by rw [hC] at h;cases h⟩,hI.k0⟩)
   ·
    have hC:zz k vs r=0:=by rw [hU,zo3 (by omega)]
    refine Vs 6 O ?_
    refine zmD Tryz.call28 O (fun w hI=>zhb vs k vv D w (Tr1 hI.k0 hvs) hlen) ?_
    rintro l w1 w2 hI1 hk12 hos hlow
    obtain⟨al,cl,rfl⟩:=hos.form
    have hml:=hos.max
    refine Vs 5 O ?_
    refine V.bs0 33 tR27 ts3 O (fun b33=>?_)
    refine Vs 10 O ?_
    refine zmL (σ:=Nat × Int × Value) [2,10] [] [] O (fun e ⟨i,n,v⟩=>(12,.int .i64 i)::(8,.int .i64 n)::(11,v)::e) (fun e ⟨i,n,v⟩=>(33,.row 3 1 v i (((yt (ze k vs) r).1.take i).map zd))::e) (fun⟨i,n,v⟩=>i<=(ze k vs).length/\n=zos ((ze k vs).drop i)/\n<=4096) (fun⟨i,n,v⟩=>(ze k vs).length - i) ((0,m,.slice (some ⟨b33,0,none⟩) 0 0)) (zlO O) (zlP O) (fun _=>rfl) (fun _=>rfl) (fun _=>rfl) (⟨zo8 _,hmp,hN⟩) ?_
    rintro⟨i,n,v⟩ ⟨hi,hn,hn4⟩
    show V _ _ _ _ _ ((12,.int .i64 i)::(8,.int .i64 n)::(11,v)::_) _ ((33,.row 3 1 v i (((yt (ze k vs) r).1.take i).map zd))::_) _
    refine Vs 9 O ?_
    refine zk7 O (fun hlt=>?_) (fun hlt=>?_)
    ·
     refine Vs 5 O ?_
     obtain⟨x,he_x,hm_x⟩:=gE_ (ze k vs) (i) (by omega)
     obtain⟨b_x,o_x,c_x,ha_x,hd_x,hc_x,hR_x⟩:=hos.atD he_x
     obtain rfl:=hR_x
     refine zmJ 1000 0 O O (fun h_=>by have h1_:=hlow _ h_;have h2_:=hd_x;first | omega | exact h1_ h2_) hc_x ?_
     have hgx:=hgo x hm_x
     unfold yp at hgx
     dsimp only at hgx
     have hdx:=yU he_x
     have hp1:=zk3 (vs:=(ze k vs).drop (i+1)) fun y hy=>hgs y (List.mem_of_mem_drop hy)
     have hn':n.tdiv (x.high - x.low+1)=zos ((ze k vs).drop (i+1)):=by
      rw [hn,hdx,zos,Int.mul_tdiv_cancel_left _ (by omega)]
     have hn1:1<=n:=by rw [hn];exact zk3 fun y hy=>hgs y (List.mem_of_mem_drop hy)
     have hle:=Int.tdiv_le_self (x.high - x.low+1) (show 0<=n by omega)
     have hq0:=Int.tdiv_nonneg (show 0<=r by omega) (show 0<=n.tdiv (x.high - x.low+1) by omega)
     have hq1:=Int.tdiv_le_self (n.tdiv (x.high - x.low+1)) (show 0<=r by omega)
     have hr0:=Int.tmod_nonneg (x.high - x.low+1) hq0
     have hr1:=Int.tmod_lt_of_pos (r.tdiv (n.tdiv (x.high - x.low+1))) (show 0<x.high - x.low+1 by omega)
     have zl:=zoA (r:=r) (by omega) hgs he_x
     rw [<- Int.tdiv_eq_ediv_of_nonneg (by omega),<- hn'] at zl
     refine Vq (by kernel_rfl) ?_
     refine Vs 2 O ?_
     refine zmt 1000 tR22 ts89 O ha_x (by omega) (_) (rfl) O ?_
     refine Vs 4 O ?_
     refine zmt 1000 tR22 ts89 O ha_x (by omega) (_) (rfl) O ?_
     refine Va 11 O (by omega) ?_
     refine zm2 O (fun w hI=>R.quo O O (by omega) (by omega)) ?_
     refine Vs 3 O ?_
     refine Vw [1000] [] O ?_
     refine Vd [0,1,2,6,7,9] 0 (by kernel_rfl) O O O ?_
     refine VD.ix 3 1000 tR22 ts89 O (by kernel_rfl) O ha_x (by omega) (_) (rfl) O ?_
     refine Vd [4,5] 0 (by kernel_rfl) O O O ?_
     refine VD.pl 8 O (by kernel_rfl) O (fun w=>R.quo O O (by omega) (by omega)) ?_
     refine VD.pl 10 O (by kernel_rfl) O (fun w=>R.rem O O (by omega) (by omega)) ?_
     refine Vb [11] 0 (by kernel_rfl) O O O (by omega) ?_
     refine zmP 12 67 0 [(0,_)] tR27 ts3 tz3 (by decide) O (by kernel_rfl) O O (by kernel_rfl) (fun b67=>?_)
     refine zmw 13 33 67 0 tu27 Tryz.el3 O (by decide) O (by kernel_rfl) O O O (by omega) (by omega) (fun u33=>?_)
     refine Vd [14] 0 (by kernel_rfl) O O O ?_
     refine zlb (by kernel_rfl) ?_
     refine Vs 2 O ?_
     refine zmK 33 O (e':=.row 3 1 u33 (i+1) (((yt (ze k vs) r).1.take (i+1)).map zd)) (by rw [List.take_add_one,zl,List.map_append];rfl) ?_
     refine Va 5 O (by omega) ?_
     refine zki (⟨i+1,n.tdiv (x.high - x.low+1),u33⟩) (zlO O) (zlP O) (⟨by omega,hn',by omega⟩) (by first | omega | (dsimp only;omega)) 0 O O
    ·
     have:i=(ze k vs).length:=by omega
     subst this
     refine zmK 33 O (e':=.row 3 1 v (yt (ze k vs) r).1.length ((yt (ze k vs) r).1.map zd)) (by rw [<- hul,znY]) ?_
     refine Vs 13 O ?_
     refine zku Tryz.results26 O O (fun w hI=>⟨_,rfl,⟨_,by rw [hC],fun h=>absurd hC h,fun _=>zlh zd (fun _ _=>rfl) (hI.at 33 O) (fun b hb=>hI.own 33 1 O O b hb)⟩,hI.k1⟩)
theorem zoO (vs:List Vr) (s p r:Int) (vv:Value) (D:Nat->Prop) (W:World) (hg:∀ v ∈ vs,yp (v.low,v.high)) (hlen:vs.length<=1000000) (hvs:SlR 5 RVr D W vv vs) :
  Calls Tryz.prog 32 #[vv,.int .i64 s,.int .i64 p,.int .i64 r] W (Ret fun rr w'=>(∃ a b c,rr=.tuple #[.agg #[a,b,c],.int .i64 (zgv vs s p r)]/\(zgv vs s p r ≠ 0->a=.slice none 0 0/\b=.slice none 0 0/\c=.slice none 0 0)/\(zgv vs s p r=0->SlR 1 zB (fun q=>W.heap.size<=q) w' a (yt (ze 1 vs) s).1/\SlR 1 zB (fun q=>W.heap.size<=q) w' b (yt (ze 2 vs) p).1/\SlR 1 zB (fun q=>W.heap.size<=q) w' c (yt (ze 3 vs) r).1))/\Ext W w'):=by
 refine zmd Tryz.func32 O Tryz.ntmps32 O (zmm ?_)
 refine Vs 2 O ?_
 refine V.alloc 8 Tryz.zeroValue61 O O (fun b8=>?_)
 refine Vs 7 O ?_
 refine zmD Tryz.call26 O (fun w hI=>zk1 vs 1 s vv D w (by decide) hg hlen (Tr1 hI.k0 hvs)) ?_
 rintro r1 w1 w2 hI1 hk12 ⟨a,rfl,ha0,ha1⟩ hlow
 refine Vs 14 O ?_
 refine zk7 O (fun c1=>?_) (fun c1=>?_)
 ·
  have hc:zgv vs s p r=zz 1 vs s:=zo4 c1
  refine Vs 2 O ?_
  refine zmR [Value.slice none 0 0,Value.slice none 0 0,Value.slice none 0 0] [(0,1),(1,1),(2,1)] [] O O (fun _=>by kernel_rfl) ?_
  refine Vs 7 O ?_
  refine zkC Tryz.results32 tg61 ts61 O O O O (fun w hI=>⟨_,rfl,⟨_,_,_,by rw [hc],fun _=>⟨rfl,rfl,rfl⟩,fun h=>absurd (hc ▸ h) c1⟩,hI.k1⟩)
 ·
  have ha:=ha1 (zo2.1 c1)
  obtain⟨aa,ca,rfl⟩:=ha.form
  refine Vs 6 O ?_
  refine zmD Tryz.call26 O (fun w hI=>zk1 vs 2 p vv D w (by decide) hg hlen (Tr1 hI.k1 hvs)) ?_
  rintro r2 w3 w4 hI3 hk34 ⟨b,rfl,hb0,hb1⟩ hlow2
  refine Vs 14 O ?_
  refine zk7 O (fun c2=>?_) (fun c2=>?_)
  ·
   have hc:zgv vs s p r=zz 2 vs p:=by unfold zgv;rw [zo3 c1,zo4 c2]
   refine Vs 2 O ?_
   refine zmR [Value.slice none 0 0,Value.slice none 0 0,Value.slice none 0 0] [(0,1),(1,1),(2,1)] [] O O (fun _=>by kernel_rfl) ?_
   refine Vs 7 O ?_
   refine zkC Tryz.results32 tg61 ts61 O O O O (fun w hI=>⟨_,rfl,⟨_,_,_,by rw [hc],fun _=>⟨rfl,rfl,rfl⟩,fun h=>absurd (hc ▸ h) c2⟩,hI.k2⟩)
  ·
   have hb:=hb1 (zo2.1 c2)
   obtain⟨ab,cb,rfl⟩:=hb.form
   refine Vs 6 O ?_
   refine zmD Tryz.call26 O (fun w hI=>zk1 vs 3 r vv D w (by decide) hg hlen (Tr1 hI.k2 hvs)) ?_
   rintro r3 w5 w6 hI5 hk56 ⟨c,rfl,hc0,hc1⟩ hlow3
   have hcc:zgv vs s p r=zz 3 vs r:=by unfold zgv;rw [zo3 c1,zo3 c2]
   refine Vs 14 O ?_
   refine zk7 O (fun c3=>?_) (fun c3=>?_)
   ·
    refine Vs 2 O ?_
    refine zmR [Value.slice none 0 0,Value.slice none 0 0,Value.slice none 0 0] [(0,1),(1,1),(2,1)] [] O O (fun _=>by kernel_rfl) ?_
    refine Vs 7 O ?_
    refine zkC Tryz.results32 tg61 ts61 O O O O (fun w hI=>⟨_,rfl,⟨_,_,_,by rw [hcc],fun _=>⟨rfl,rfl,rfl⟩,fun h=>absurd (hcc ▸ h) c3⟩,hI.k3⟩)
   ·
    have hc:=hc1 (zo2.1 c3)
    obtain⟨ac,cc,rfl⟩:=hc.form
    have e1:W.heap.size<=w1.heap.size:=hI1.k0.size
    have e3:W.heap.size<=w3.heap.size:=hI3.k1.size
    have e5:W.heap.size<=w5.heap.size:=hI5.k2.size
    refine V.dat 900 2 O O O (ha) (fun q hq _ hs=>by have:=hlow q hs;omega) ?_
    refine V.dat 901 1 O O O (hb) (fun q hq _ hs=>by have:=hlow2 q hs;omega) ?_
    refine V.dat 902 0 O O O (hc) (fun q hq _ hs=>by have:=hlow3 q hs;omega) ?_
    refine Vs 7 O ?_
    refine zmR [Value.slice none 0 0,Value.slice none 0 0,Value.slice none 0 0] [(0,1),(1,1),(2,1)] [(0,_),(1,_),(2,_)] O O (fun _=>by kernel_rfl) ?_
    refine Vs 5 O ?_
    refine zkC Tryz.results32 tg61 ts61 O O O O (fun w hI=>⟨_,rfl,⟨_,_,_,by rw [hcc,zo2.1 c3],fun h=>absurd (hcc ▸ zo2.1 c3) h,fun _=>⟨(hI.at 900 O).1.wide zc (fun q hq=>by omega),(hI.at 901 O).1.wide zc (fun q hq=>by omega),(hI.at 902 O).1.wide zc (fun q hq=>by omega)⟩⟩,hI.k3⟩)
section
variable {α:Type} [DecidableEq α]
theorem zpl {β:Type} [DecidableEq β] (f:α->β) (y:β) (x:α):∀ {L:List α},L.Nodup->(L.map fun o=>if f o=y then (if x=o then 1 else 0) else 0).sum=if x ∈ L/\f x=y then 1 else 0
 | [],_=>by simp
 | o::L,h=>by
  rw [List.nodup_cons] at h
  rw [List.map_cons,List.sum_cons,zpl f y x h.2]
  by_cases e:x=o
  ·
   subst e
   rw [zo3 (show ¬ (x ∈ L/\f x=y) from fun g=>h.1 g.1)]
   by_cases g:f x=y
   . rw [zo4 g,zo4 rfl,zo4 ⟨znX ..,g⟩]
   . rw [zo3 g,zo3 (fun k=>g k.2)]
  ·
   have:(if f o=y then (if x=o then 1 else 0) else 0)=0:=by
    rw [zo3 e]
    split <;> rfl
   rw [this,Nat.zero_add]
   by_cases g:x ∈ L/\f x=y
   . rw [zo4 g,zo4 ⟨znW _ g.1,g.2⟩]
   . rw [zo3 g,zo3 (fun k=>g ⟨(zo9.1 k.1).elim (fun h=>absurd h e) id,k.2⟩)]
omit [DecidableEq α] in
theorem zpM {L:List α} (u v:α->Nat):(L.map fun o=>u o+v o).sum=(L.map u).sum+(L.map v).sum:=by
 induction L with
 | nil=>rfl
 | cons o L ih=>rw [List.map_cons,List.sum_cons,ih,List.map_cons,List.sum_cons,List.map_cons,List.sum_cons];omega
theorem zp0 {β:Type} [DecidableEq β] (f:α->β) (ob:Nat->α) (y:β) {L:List α} (hn:L.Nodup):∀ {n:Nat},(∀ r,r<n->ob r ∈ L)->zgx (fun r=>f (ob r)) n y=(L.map fun o=>if f o=y then zgx ob n o else 0).sum
 | 0,hq=>by
  show 0=_
  have:(L.map fun o=>if f o=y then zgx ob 0 o else 0)=L.map fun _=>0:=List.map_congr_left fun o _=>by
   split <;> rfl
  rw [this]
  clear hn this hq
  induction L with
  | nil=>rfl
  | cons o L ih=>rw [List.map_cons,List.sum_cons,<- ih]
 | n+1,h=>by
  rw [zfS,zp0 f ob y hn fun r hr=>h r (by omega)]
  have h1:(L.map fun o=>if f o=y then zgx ob (n+1) o else 0)=L.map fun o=>(if f o=y then zgx ob n o else 0)+(if f o=y then (if ob n=o then 1 else 0) else 0):=List.map_congr_left fun o _=>by
   rw [zfS]
   by_cases e:f o=y
   . rw [zo4 e,zo4 e,zo4 e]
   . rw [zo3 e,zo3 e,zo3 e]
  rw [h1,zpM,zpl f y (ob n) hn]
  congr 1
  by_cases e:f (ob n)=y
  . rw [zo4 e,zo4 ⟨h n (by omega),e⟩]
  . rw [zo3 e,zo3 (fun g=>e g.2)]
end
open Go.GL
theorem zp8 (o:Ob) (t:Bool) (ov:Value) (D:Nat->Prop) (W:World) (ho:SlR 1 zB D W ov o.1) :
  Calls Tryz.prog 34 #[.agg #[ov,.int .i64 o.2],.bool t] W (Ret fun r w'=>r=.agg #[ov,.int .i64 (zfT t o).2]/\Ext W w'):=by
 obtain⟨ao,co,rfl⟩:=ho.form
 refine zmb Tryz.func34 O Tryz.ntmps34 O (zmm ?_)
 refine Vs 2 O ?_
 refine V.box 2 O O (fun b2=>?_)
 refine V.alloc 4 tz55 O O (fun b4=>?_)
 refine Vs 8 O ?_
 refine V.bool O (fun b0=>?_) (fun b0=>?_)
 ·
  subst b0
  refine Vs 8 O ?_
  refine zkz Tryz.results34 tg55 ts55 O O O (fun w hI=>⟨_,rfl,rfl,hI.k0⟩)
 ·
  subst b0
  refine Vs 6 O ?_
  refine zmR [Value.slice none 0 0,Value.int IntKind.i64 0] [(0,1),(1,1)] [(0,_)] O O (fun _=>by kernel_rfl) ?_
  refine Vs 4 O ?_
  refine zkz Tryz.results34 tg55 ts55 O O O (fun w hI=>⟨_,rfl,rfl,hI.k0⟩)
def zpV (c:Mx):Int:=if VMx c then (c.headD []).sum else 0
theorem zpm (n:Nat):zcU (n+1)=zcU n++[(n:Int)]:=by simp [zcU,List.range_succ]
def zk2 (n:Nat) (k:Int):List Int:=(zcU n).map fun j=>if k=j then 1 else 0
theorem zp1 {n:Nat} {k:Int} (hk:0<=k/\k<(n:Int)):(zk2 n k).length=n/\(∀ x ∈ zk2 n k,0<=x)/\(zk2 n k).sum=1/\((zk2 n k).filter fun n=>decide (0<n)).length=1/\zji (zk2 n k)=k:=by
 have main:∀ n:Nat,(k<(n:Int)->(zk2 n k).sum=1/\((zk2 n k).filter fun n=>decide (0<n)).length=1/\((zk2 n k).findIdx fun n=>decide (0<n):Nat)=k.toNat)/\((n:Int)<=k->(zk2 n k).sum=0/\((zk2 n k).filter fun n=>decide (0<n))=[]/\((zk2 n k).findIdx fun n=>decide (0<n):Nat)=n):=by
  intro n
  induction n with
  | zero=>exact⟨fun h=>by omega,fun _=>⟨rfl,rfl,rfl⟩⟩
  | succ n ih =>
   have hs:zk2 (n+1) k=zk2 n k++[if k=(n:Int) then 1 else 0]:=by unfold zk2;rw [zpm,List.map_append];rfl
   have hl:(zk2 n k).length=n:=by simp [zk2,zc1]
   rw [hs,List.sum_append,List.filter_append,List.findIdx_append]
   by_cases h1:k<(n:Int)
   ·
    obtain⟨g1,g2,g3⟩:=ih.1 h1
    refine⟨fun _=>?_,fun h=>by omega⟩
    rw [g1,g3,zo3 (show ¬ k=(n:Int) by omega),zo1,g2,zo4 (by rw [hl];omega)]
    exact⟨rfl,rfl,rfl⟩
   ·
    obtain⟨g1,g2,g3⟩:=ih.2 (by omega)
    rw [g1,g2,g3,hl,zo3 (Nat.lt_irrefl n)]
    by_cases e:k=(n:Int)
    ·
     refine⟨fun _=>?_,fun h=>by omega⟩
     rw [zo4 e]
     refine⟨rfl,rfl,?_⟩
     show 0+n=k.toNat
     omega
    ·
     refine⟨fun h=>by omega,fun _=>?_⟩
     rw [zo3 e]
     refine⟨rfl,rfl,?_⟩
     show 1+n=n+1
     omega
 obtain⟨h1,h2,h3⟩:=(main n).1 hk.2
 refine⟨by simp [zk2,zc1],fun x hx=>?_,h1,h2,?_⟩
 ·
  obtain⟨j,_,rfl⟩:=List.mem_map.1 hx
  split <;> omega
 ·
  unfold zji
  rw [h3]
  omega
theorem zp9 (c:Mx) (v:Value) (D:Nat->Prop) (W:World) (hc:SlR 1 (RSl 1 zB) D W v c):Calls Tryz.prog 31 #[.agg #[v]] W (Ret fun r w'=>r=.int .i64 (zpV c)/\Ext W w'):=by
 obtain⟨av,cv,rfl⟩:=hc.form
 have hmx:=hc.max
 refine zma Tryz.func31 O Tryz.ntmps31 O (zmm ?_)
 refine Vs 2 O ?_
 refine V.box 1 O O (fun b1=>?_)
 refine Vs 7 O ?_
 refine zmB Tryz.call39 O (fun w hI=>kq c _ D w (Tr1 hI.k0 hc)) ?_
 refine zm2 O (fun w hI=>zly O (by first | exact za | rfl)) ?_
 refine Vs 2 O ?_
 refine zk7 O (fun v0=>?_) (fun v0=>?_)
 ·
  refine Vs 7 O ?_
  refine zkr Tryz.results31 O (fun w hI=>⟨_,rfl,by unfold zpV;rw [zo3 v0],hI.k0⟩)
 ·
  have v0:=zo2.1 v0
  have hr1:=v0.r1
  obtain⟨r0,he_r0,hm_r0⟩:=gE_ c (0) (by omega)
  obtain⟨b_r0,o_r0,c_r0,ha_r0,_,hc_r0,hR_r0⟩:=hc.at he_r0
  obtain⟨v1_r0,rfl,hs_r0⟩:=hR_r0
  obtain⟨a1_r0,n1_r0,rfl⟩:=hs_r0.form
  refine zmI 1000 0 O O hc_r0 ?_
  have hhd:c.headD []=r0:=by
   cases c with
   | nil=>simp at he_r0
   | cons a c=>simpa using he_r0
  refine Vs 6 O ?_
  refine V.ix 1000 tR34 ts27 O ha_r0 (by omega) (0) (by omega) O ?_
  refine Vs 1 O ?_
  refine zmB Tryz.call85 O (fun w hI=>zee r0 _ _ w (Tr1 hI.k0 hs_r0)) ?_
  refine Vs 4 O ?_
  refine zkr Tryz.results31 O (fun w hI=>⟨_,rfl,by unfold zpV;rw [zo4 v0,hhd,zc0 (v0.nn _ hm_r0) (by have:=v0.s2;rw [hhd] at this;omega),Int.zero_add],hI.k0⟩)
theorem zpn (a b:List Int) (va vb:Value) (Da Db:Nat->Prop) (w:World) (ha:SlR 1 zB Da w va a) (hb:SlR 1 zB Db w vb b) :
  Calls Tryz.prog 87 #[va,vb] w (Ret fun r w'=>r=.bool (decide (a=b))/\Ext w w'):=by
 obtain⟨aa,ca,rfl⟩:=ha.form
 obtain⟨ab,cb,rfl⟩:=hb.form
 have hmx:=ha.max
 refine zmb Tryz.func87 O Tryz.ntmps87 O (zmm ?_)
 refine Vs 15 O ?_
 refine zk7 O (fun hl=>?_) (fun hl=>?_)
 ·
  refine Vs 7 O ?_
  refine zkr Tryz.results87 O (fun w hI=>⟨_,rfl,by rw [zo6 (fun h=>by rw [h] at hl;omega)],hI.k0⟩)
 ·
  refine Vs 9 O ?_
  refine zmL (σ:=Nat) [0,1] [] [] O (fun e i=>(5,.int .i64 i)::e) (fun e i=>e) (fun i=>i<=a.length/\a.take i=b.take i) (fun i=>a.length - i) (0) (zlO O) (zlP O) (fun _=>rfl) (fun _=>rfl) (fun _=>rfl) (⟨zo8 _,by simp⟩) ?_
  rintro i ⟨hi,hall⟩
  refine Vs 9 O ?_
  refine zk7 O (fun hlt=>?_) (fun hlt=>?_)
  ·
   refine Vs 5 O ?_
   refine Vq (by kernel_rfl) ?_
   refine Vs 2 O ?_
   obtain⟨x,he_x,hm_x⟩:=gE_ a (i) (by omega)
   obtain⟨b_x,o_x,c_x,ha_x,_,hc_x,hR_x⟩:=ha.at he_x
   obtain rfl:=hR_x
   refine zmI 1000 0 O O hc_x ?_
   refine zmt 1000 tR27 ts3 O ha_x (by omega) (_) (rfl) O ?_
   refine Vs 3 O ?_
   obtain⟨y,he_y,hm_y⟩:=gE_ b (i) (by omega)
   obtain⟨b_y,o_y,c_y,ha_y,_,hc_y,hR_y⟩:=hb.at he_y
   obtain rfl:=hR_y
   refine zmI 2000 0 O O hc_y ?_
   refine zmt 2000 tR27 ts3 O ha_y (by omega) (_) (rfl) O ?_
   refine Vs 4 O ?_
   refine zk7 O (fun hne=>?_) (fun hne=>?_)
   ·
    refine Vs 11 O ?_
    refine zkr Tryz.results87 O (fun w hI=>⟨_,rfl,by rw [zo6 (fun h=>by rw [h,he_y] at he_x;cases he_x;omega)],hI.k0⟩)
   ·
    obtain rfl:x=y:=by omega
    refine Va 8 O (by omega) ?_
    refine zki (i+1) (zlO O) (zlP O) (⟨by omega,by rw [zg he_x,zg he_y,hall]⟩) (by first | omega | (dsimp only;omega)) 0 O O
  ·
   refine Vs 11 O ?_
   refine zkr Tryz.results87 O (fun w hI=>⟨_,rfl,by rw [zo5 (by rw [List.take_of_length_le (by omega),List.take_of_length_le (by omega)] at hall;exact hall)],hI.k0⟩)
theorem zpN (a b:List Int) (t u:Int) (va vb:Value) (Da Db:Nat->Prop) (w:World) (ha:SlR 1 zB Da w va a) (hb:SlR 1 zB Db w vb b) :
  Calls Tryz.prog 35 #[.agg #[va,.int .i64 t],.agg #[vb,.int .i64 u]] w (Ret fun r w'=>r=.bool (decide (t=u/\a=b))/\Ext w w'):=by
 refine zmb Tryz.func35 O Tryz.ntmps35 O (zmm ?_)
 refine Vs 2 O ?_
 refine V.box 2 O O (fun b2=>?_)
 refine V.box 3 O O (fun b3=>?_)
 refine Vs 11 O ?_
 refine V.sp 10 O (fun e=>?_) (fun e=>?_)
 ·
  refine Vs 4 O ?_
  refine zmB Tryz.call87 O (fun w hI=>zpn a b va vb Da Db w (Tr1 hI.k0 ha) (Tr1 hI.k0 hb)) ?_
  refine Vs 5 O ?_
  refine zkr Tryz.results35 O (fun w hI=>⟨_,rfl,by simp [e],hI.k0⟩)
 ·
  refine Vs 10 O ?_
  refine zkr Tryz.results35 O (fun w hI=>⟨_,rfl,by rw [zo6 (fun h=>e h.1)],hI.k0⟩)
theorem zpw (x y:Ob) (u v:Value) (D D':Nat->Prop) (W:World) (hx:SlR 1 zB D W u x.1) (hy:SlR 1 zB D' W v y.1):Calls Tryz.prog 35 #[.agg #[u,.int .i64 x.2],.agg #[v,.int .i64 y.2]] W (Ret fun r w'=>r=.bool (decide (x=y))/\Ext W w'):=by
 refine (zpN x.1 y.1 x.2 y.2 u v D D' W hx hy).mono ?_
 rintro _ w' ⟨_,rfl,rfl,hk⟩
 refine⟨_,rfl,?_,hk⟩
 congr 1
 rw [zol,Prod.ext_iff]
 exact And.comm
theorem zpT {H:Hp} {f:FuncId} {args:Array Value} {o:Ob} {c:Int} {w:World} (k:Nat) (hc:Calls Tryz.prog f args w (Ret fun r w'=>(∃ ov t,r=.tuple #[.agg #[ov,.int .i64 t],.int .i64 c]/\t=o.2/\SlR 1 zB (fun b=>w.heap.size<=b) w' ov o.1)/\Ext w w')) :
  Calls Tryz.prog f args w (Ret fun r w'=>∃ y:Option Addr × Nat × (Nat->Prop),r=.tuple #[.agg #[.slice y.1 o.1.length y.2.1,.int .i64 o.2],.int .i64 c]/\Hands H [] [(k,obE o y)] w w'):=by
 refine hc.mono ?_
 rintro _ w' ⟨_,rfl,⟨ov,t,rfl,rfl,hd⟩,hk⟩
 obtain⟨ao,co,rfl⟩:=hd.form
 refine⟨_,rfl,(ao,co,fun b=>w.heap.size<=b/\b<w'.heap.size),rfl,hk.mono fun q _ h=>h.elim,fun x hx=>?_,List.pairwise_singleton _ _⟩
 rw [zob] at hx
 subst hx
 exact⟨⟨_,rfl,hd.narrow (by omega) xp⟩,DaP.loc,fun _ h=>h,fun q hq=>⟨.inr hq.1,hq.2⟩⟩
theorem zpa (f:Fl) (r:Ins) (v1 v2 v3 s1 s2 s3:Value) (D D1 D2 D3:Nat->Prop) (W:World) (vd:Valid f) (hf:RFl D W f v1 v2 v3) (hi1:SlR 1 zB D1 W s1 r.secret) (hi2:SlR 1 zB D2 W s2 r.pub) (hi3:SlR 1 zB D3 W s3 r.random) :
  Calls Tryz.prog 33 #[.agg #[v1,v2,v3],.agg #[s1,s2,s3]] W (Ret fun rr w'=>(∃ ov t,rr=.tuple #[.agg #[ov,.int .i64 t],.int .i64 (zV f r)]/\t=(zdt f r).2/\SlR 1 zB (fun b=>W.heap.size<=b) w' ov (zdt f r).1)/\Ext W w'):=by
 refine (zpj f r v1 v2 v3 s1 s2 s3 D D1 D2 D3 W hf hi1 hi2 hi3 vd.size vd.bulk).mono ?_
 rintro _ w' ⟨_,rfl,⟨ov,t,rfl,h1,h2⟩,hk⟩
 obtain⟨h3,h4⟩:=zhf h1 h2
 exact⟨_,rfl,⟨ov,t,rfl,h3,h4⟩,hk⟩
theorem zpx (f:Fl) (pub:List Int) (t:Bool) (s:Nat):(zjM f pub t s).length=rnN f:=by simp [zjM]
theorem zpy {f:Fl} {pub:List Int} {t:Bool} {s r:Nat} (h:r<rnN f):(zjM f pub t s)[r]?=some (obX f pub t s r):=by unfold zjM;rw [zoa,List.getElem?_range h];rfl
theorem zp2 {α:Type} (g:α->Nat):∀ L:List α,(L.map fun o=>((g o:Nat):Int)).sum=(((L.map g).sum:Nat):Int)
 | []=>rfl
 | o::L=>by rw [List.map_cons,List.map_cons,List.sum_cons,List.sum_cons,zp2 g L];omega
theorem zpO {α:Type} [DecidableEq α] {ob:Nat->α} {n:Nat} {L:List α} (hn:L.Nodup) (hm:∀ r,r<n->ob r ∈ L):(L.map fun o=>zgx ob n o).sum=n:=by
 have h:=zp0 (fun _=>()) ob () hn hm
 simp only [if_true] at h
 rw [<- h]
 unfold zgx
 simp
theorem zp3 (x:Ob):∀ l:List Ob,(zhK x l).length<=l.length+1
 | []=>zoi _
 | y::l=>by
  have:=zp3 x l
  simp only [zhK]
  split
  . simp
  split
  . simp
  . simp;omega
theorem zoP:∀ l:List Ob,(zeE l).length<=l.length
 | []=>zoi _
 | x::l=>by
  have h1:=zoP l
  have h2:=zp3 x (zeE l)
  show (zhK x (zeE l)).length<=l.length+1
  omega
section
variable {f:Fl} {pub:List Int} {t:Bool}
theorem zoQ:∀ (L:List Nat),(L.flatMap (zjM f pub t)).length=L.length*rnN f
 | []=>by simp
 | s::L=>by rw [List.flatMap_cons,zo1,zpx,zoQ L,zom,Nat.succ_mul];omega
theorem zpz:(ziS f pub t).length<=spN f*rnN f:=by
 have h:=zoP ((List.range (spN f)).flatMap (zjM f pub t))
 rw [zoQ,List.length_range] at h
 exact h
theorem zoB:(ziS f pub t).Nodup:=zfE (zaP _)
theorem zoq {s r:Nat} (hs:s<spN f) (hr:r<rnN f):obX f pub t s r ∈ ziS f pub t :=
 zaO.2 (List.mem_flatMap.2 ⟨s,List.mem_range.2 hs,znU (zpy hr)⟩)
def zpo (f:Fl) (pub:List Int) (t:Bool) (s:Nat):List Int:=(ziS f pub t).map fun o=>((zgx (obX f pub t s) (rnN f) o:Nat):Int)
theorem zoU:(mxO f pub t).length=spN f:=by simp [mxO]
theorem zpP {s:Nat} (h:s<spN f):(mxO f pub t)[s]?=some (zpo f pub t s):=by unfold mxO;rw [zoa,List.getElem?_range h];rfl
theorem zoH {row:List Int} (h:row ∈ mxO f pub t):∃ s,s<spN f/\row=zpo f pub t s:=by
 obtain⟨s,hs,rfl⟩:=List.mem_map.1 h
 exact⟨s,List.mem_range.1 hs,rfl⟩
theorem zov (s:Nat):(zpo f pub t s).length=(ziS f pub t).length:=by simp [zpo]
theorem zpQ {s:Nat} {n:Int} (h:n ∈ zpo f pub t s):0<=n/\n<=(rnN f:Int):=by
 obtain⟨o,_,rfl⟩:=List.mem_map.1 h
 have:=zij (obX f pub t s) (rnN f) o
 omega
theorem zoI {s:Nat} (h:s<spN f):(zpo f pub t s).sum=(rnN f:Int):=by
 unfold zpo
 rw [zp2,zpO zoB fun r hr=>zoq h hr]
theorem zp4 (h:1<=spN f):(mxO f pub t).headD []=zpo f pub t 0:=by
 have h0:=zpP (pub:=pub) (t:=t) h
 cases hm:mxO f pub t with
 | nil=>rw [hm] at h0;cases h0
 | cons x l=>rw [hm] at h0;exact Option.some.inj h0
theorem zpA (h1:1<=spN f) (h2:1<=rnN f):1<=(ziS f pub t).length:=List.length_pos_of_mem (zoq h1 h2)
theorem zpp (h1:1<=spN f) (h2:1<=rnN f) (h3:spN f<=256) (h4:rnN f<=4096) (h5:(ziS f pub t).length<=256):VMx (mxO f pub t):=by
 have hh:=zp4 (pub:=pub) (t:=t) h1
 have hs:=zoI (pub:=pub) (t:=t) h1
 have hp:=zpA (pub:=pub) (t:=t) h1 h2
 refine⟨?_,?_,?_,?_,fun row hr=>?_,fun row hr n hn=>?_,?_,?_,fun row hr=>?_⟩
 . rw [zoU];exact h1
 . rw [zoU];exact h3
 . rw [hh,zov];exact hp
 . rw [hh,zov];exact h5
 ·
  obtain⟨s,_,rfl⟩:=zoH hr
  rw [hh,zov,zov]
 ·
  obtain⟨s,_,rfl⟩:=zoH hr
  exact (zpQ hn).1
 . rw [hh,hs];omega
 . rw [hh,hs];omega
 ·
  obtain⟨s,hs',rfl⟩:=zoH hr
  rw [hh,hs,zoI hs']
theorem zoR (hr:rnN f=1) {s:Nat} (hs:s<spN f):zpo f pub t s=zk2 (ziS f pub t).length (((ziS f pub t).idxOf (obX f pub t s 0):Nat):Int):=by
 unfold zpo zk2 zcU
 rw [hr]
 apply List.ext_getElem?
 intro j
 rw [zoa,List.map_map,zoa]
 by_cases hj:j<(ziS f pub t).length
 ·
  rw [List.getElem?_range hj,znT hj]
  have hi:=(zoB (f:=f) (pub:=pub) (t:=t)).idxOf_getElem j hj
  simp only [Option.map_some,Function.comp]
  congr 1
  have:zgx (obX f pub t s) 1 (ziS f pub t)[j]=if obX f pub t s 0=(ziS f pub t)[j] then 1 else 0:=by
   rw [zfS]
   show 0+_=_
   rw [Nat.zero_add]
  rw [this]
  by_cases e:obX f pub t s 0=(ziS f pub t)[j]
  . rw [zo4 e,zo4 (by rw [e,hi])];rfl
  ·
   rw [zo3 e,zo3 (fun h=>e ?_)];rfl
   have h:(ziS f pub t).idxOf (obX f pub t s 0)=j:=by omega
   have hl:=List.idxOf_lt_length_of_mem (zoq (pub:=pub) (t:=t) hs (show 0<rnN f by omega))
   have:=List.getElem_idxOf hl
   rw [<- this]
   simp only [h]
 . rw [zoh (by simpa using hj),zoh (by simpa using hj)];rfl
theorem zpE (hr:rnN f=1) {s:Nat} (hs:s<spN f):(ziS f pub t).idxOf (obX f pub t s 0)<(ziS f pub t).length:=List.idxOf_lt_length_of_mem (zoq hs (by omega))
theorem zpR (hr:rnN f=1):zgy (mxO f pub t):=fun row h=>by
 obtain⟨s,hs,rfl⟩:=zoH h
 rw [zoR hr hs]
 have:=zpE (pub:=pub) (t:=t) hr hs
 exact (zp1 (by omega)).2.2.2.1
theorem zp5 (hr:rnN f=1):zc2 (mxO f pub t)=(List.range (spN f)).map fun s=>(((ziS f pub t).idxOf (obX f pub t s 0):Nat):Int):=by
 unfold zc2 mxO
 rw [List.map_map]
 refine List.map_congr_left fun s h=>?_
 have hs:=List.mem_range.1 h
 have:=zpE (pub:=pub) (t:=t) hr hs
 show zji (zpo f pub t s)=_
 rw [zoR hr hs]
 exact (zp1 (by omega)).2.2.2.2
theorem zoS {α:Type} [BEq α] [LawfulBEq α] {l:List α} {x y:α} (hx:x ∈ l) (hy:y ∈ l) (h:l.idxOf x=l.idxOf y):x=y:=by
 have h1:=List.getElem_idxOf (List.idxOf_lt_length_of_mem hx)
 have h2:=List.getElem_idxOf (List.idxOf_lt_length_of_mem hy)
 rw [<- h1,<- h2]
 simp only [h]
theorem zp6 (hr:rnN f=1) {s:Nat} (hs:s<spN f):∃ k,(yM (zc2 (mxO f pub t)))[s]?=some k/\k=(((zK [] (zc2 (mxO f pub t))).idxOf (((ziS f pub t).idxOf (obX f pub t s 0):Nat):Int):Nat):Int):=by
 refine⟨_,?_,rfl⟩
 unfold yM
 rw [zoa]
 have:(zc2 (mxO f pub t))[s]?=some (((ziS f pub t).idxOf (obX f pub t s 0):Nat):Int):=by
  rw [zp5 hr,zoa,List.getElem?_range hs];rfl
 rw [this]
 rfl
theorem zpq (hr:rnN f=1) {a b:Nat} (ha:a<spN f) (hb:b<spN f) {x y:Int} (hx:(yM (zc2 (mxO f pub t)))[a]?=some x) (hy:(yM (zc2 (mxO f pub t)))[b]?=some y):x=y ↔ obX f pub t a 0=obX f pub t b 0:=by
 obtain⟨k,hk,rfl⟩:=zp6 (pub:=pub) (t:=t) hr ha
 obtain⟨m,hm,rfl⟩:=zp6 (pub:=pub) (t:=t) hr hb
 rw [hk] at hx
 rw [hm] at hy
 have hx:=Option.some.inj hx
 have hy:=Option.some.inj hy
 subst hx hy
 have mem:∀ {s:Nat},s<spN f->(((ziS f pub t).idxOf (obX f pub t s 0):Nat):Int) ∈ zK [] (zc2 (mxO f pub t)):=fun {s} hs=>by
  rw [firsts_mem,zp5 hr]
  exact .inr (List.mem_map.2 ⟨s,List.mem_range.2 hs,rfl⟩)
 constructor
 ·
  intro h
  have h1:=zoS (mem ha) (mem hb) (by omega)
  exact zoS (zoq ha (by omega)) (zoq hb (by omega)) (by omega)
 ·
  intro h
  rw [h]
theorem zpB:(yM (zc2 (mxO f pub t))).length=spN f:=by rw [zeH];unfold zc2;rw [zod,zoU]
end
theorem zpU {f:Fl} (vd:Valid f) (h:ze 3 f.vars=[]):rnN f=1:=by
 obtain⟨_,_,m,hm⟩:=qj vd
 have h1:=zoz hm
 rw [h] at h1
 unfold rnN
 rw [hm,h1]
 rfl
open Go.GL
theorem zp7 {f:Fl} {a b c:Int} (h:FitC f a b c) (ha:a<=16) (hc:c<=4) {pub:List Int} {t:Bool}:spN f<=16/\rnN f<=4/\(ziS f pub t).length<=64:=by
 have h1:=h.sp
 have h2:=h.rn
 have h3:spN f*rnN f<=16*4:=Nat.mul_le_mul (by omega) (by omega)
 have h4:=zpz (f:=f) (pub:=pub) (t:=t)
 omega
theorem zpr {f:Fl} {a b c:Int} (h:FitC f a b c) (ha:a<=16) (hc:c<=4) {pub:List Int} {t:Bool}:xA f pub t=if (qH 2 f.vars pub).2 ≠ 0 then (if (qH 2 f.vars pub).2=2 then 1 else (qH 2 f.vars pub).2) else 0:=by
 obtain⟨h1,h2,h3⟩:=zp7 h ha hc (pub:=pub) (t:=t)
 unfold xA
 rw [zo3 (zog h.vd.ok)]
 split
 . rfl
 . rw [zo3 (by omega),zo3 (by omega)]
theorem zpb {f:Fl} {a b c:Int} (h:FitC f a b c) (ha:a<=16) (hc:c<=4) {pub:List Int} {t:Bool}:VMx (mxO f pub t):=by
 obtain⟨h1,h2,h3⟩:=zp7 h ha hc (pub:=pub) (t:=t)
 exact zpp (zg2 h.vd).2.1 (zg3 h.vd).2.1 (by omega) (by omega) (by omega)
theorem zox {n:Int} (h0:0<=n):∀ (vs:List Vr),(∀ v ∈ vs,1<=v.high - v.low+1)->∀ m,∃ k,zdo vs (yt vs n).1 m=some k
 | [],_,m=>⟨m,rfl⟩
 | v::vs,hv,m=>by
  have hr:=zor h0 fun x hx=>hv x (znW _ hx)
  have hp:=zk3 (vs:=vs) fun x hx=>hv x (znW _ hx)
  have hs:=hv v (znX ..)
  have h1:0<=(yt vs n).2:=by rw [hr];exact Int.ediv_nonneg h0 (by omega)
  have h2:=Int.tmod_nonneg (v.high - v.low+1) h1
  have h3:=Int.tmod_lt_of_pos (yt vs n).2 (show 0<v.high - v.low+1 by omega)
  show ∃ k,zdo (v::vs) ((v.low+(yt vs n).2.tmod (v.high - v.low+1))::(yt vs n).1) m=some k
  simp only [zdo]
  rw [zo3 (by omega)]
  exact zox h0 vs (fun x hx=>hv x (znW _ hx)) _
theorem zoJ {f:Fl} (vd:Valid f) {n:Int} (h:zz 2 f.vars n=0):(qH 2 f.vars (yt (ze 2 f.vars) n).1).2=0:=by
 unfold zz at h
 split at h
 ·
  rename_i hs
  split at h
  . cases h
  ·
   rename_i hn
   obtain⟨k,hk⟩:=zox (n:=n) (by omega) (ze 2 f.vars) (fun v hv=>by have:=vd.good v (List.mem_filter.1 hv).1;unfold yp at this;omega) 0
   unfold qH
   rw [zo4 hs,zo4 (zaM _ _),hk]
 . cases h
theorem zoK {f:Fl} {a b c:Int} (h:FitC f a b c) (ha:a<=16) (hc:c<=4) {n:Int} (hn:zz 2 f.vars n=0) {t:Bool}:xA f (yt (ze 2 f.vars) n).1 t=0:=by
 rw [zpr h ha hc,zoJ h.vd hn]
 rfl
end Go.Proofs.YtaenledoagbddaaGreatDoor
namespace Go.GL
open Go.RowKit
section
variable {P:Program} {n:Nat} {Q:Exit->Act->World->Prop} {ks:List Fr} {env:Env} {A:Tgs} {H Hs:Hp} {Bs B0:zP} {ops:Array Oper} {L:List Nat} {fuel:Nat} {listed:Array Bool} {d d2:Nat} {ty ty2:TypeId} {ps ps2:String} {aft aft2:Array Edge} {g g2:Option (Nat × Bool)}
theorem V.pin {n:Nat} {Q:Exit->Act->World->Prop} {pos:Pos} (k:Nat) {e:HE} {p:World->Prop} (hn:(zl H k,qt H k)=(some e,none)) (hl:(HE.dat e.S p).loc) (hp:∀ w,VI Bs H w->p w)
  (h:∀ w,p w->(∀ b,HS (hset H k (.dat e.S p)) b->¬ e.S b)->V P n Q ks pos env A (hset H k (.dat e.S p)) ((w,HS (hset H k (.dat e.S p)))::Bs)):V P n Q ks pos env A H Bs:=by
 simp only [Prod.mk.injEq] at hn
 intro hA w hI
 have he:(HE.dat e.S p).holds w:=⟨hp w hI,fun q hq=>hI.low _ (zi hn.1) q hq⟩
 have hF:=hI.freeze hn.1 he hl (fun q h=>h) (fun b hb=>hb)
 have hg:zl (hset H k (.dat e.S p)) k=some (.dat e.S p):=by rw [qN hn.1,Nat.beq_refl];rfl
 exact h w (hp w hI) (fun b hb hs=>hF.offF k hg b hs hb) (hA.res hn.1 hn.2) w hF.here
end
end Go.GL
namespace Go.Proofs.YtaenledoagbddaaGreatDoor
open Go.GL
def obR (f:Fl) (pub:List Int) (t:Bool) (s:Nat):List Ob:=(List.range s).map fun i=>obX f pub t i 0
theorem zoV (f:Fl) (pub:List Int) (t:Bool) (s:Nat):(obR f pub t s).length=s:=by simp [obR]
theorem zpC (f:Fl) (pub:List Int) (t:Bool) (s:Nat):obR f pub t (s+1)=obR f pub t s++[obX f pub t s 0]:=by simp [obR,List.range_succ]
theorem zps {f:Fl} {pub:List Int} {t:Bool} {s i:Nat} {o:Ob} (h:(obR f pub t s)[i]?=some o):o=obX f pub t i 0:=by
 have hi:=(zo7.1 h).1
 rw [zoV] at hi
 unfold obR at h
 rw [zoa,List.getElem?_range hi] at h
 exact (Option.some.inj h).symm
theorem zpt (f:Fl) (n:Int) (t:Bool) (v1 v2 v3:Value) (D:Nat->Prop) (W:World) (hf:RFl D W f v1 v2 v3) (ht:Tab W) :
  Calls Tryz.prog 7 #[.agg #[v1,v2,v3],.int .i64 n,.bool t] W (Ret fun r w'=>r=.bool true/\Ext W w'):=by
 refine zmc Tryz.func7 O Tryz.ntmps7 O (zmm ?_)
 refine Vs 2 O ?_
 refine V.box 3 O O (fun b3=>?_)
 refine Vs 6 O ?_
 refine zmB Tryz.call12 O (fun w hI=>zeQ w (Tr1 hI.k0 ht)) ?_
 refine zm2 O (fun w hI=>zly O (by first | exact za | rfl)) ?_
 refine Vs 2 O ?_
 refine V.bool O (fun k0=>?_) (fun k0=>?_)
 . cases k0
 ·
  refine Vs 6 O ?_
  refine zmD Tryz.call25 O (fun w hI=>ziO f 16 4 1 _ _ _ D w (Tr1 hI.k0 hf)) ?_
  rintro rr w1 w2 hI1 hk12 ⟨q,rfl,hq⟩ hlow
  refine zm2 O (fun w hI=>zly O (by first | exact za | rfl)) ?_
  refine Vs 1 O ?_
  refine V.sb 28 O (fun q1=>?_) (fun q1=>?_)
  ·
   refine Vs 16 O ?_
   refine zkr Tryz.results7 O (fun w hI=>⟨_,rfl,rfl,hI.k1⟩)
  ·
   have hfit:=hq (by simpa using q1)
   have vd:=hfit.vd
   have hvl:=hfit.vars
   obtain⟨_,hs1,hs2⟩:=zg2 vd
   refine Vs 2 O ?_
   refine zmD Tryz.call28 O (fun w hI=>zhb f.vars 3 _ D w (Tr1 hI.k1 hf.vars) (by omega)) ?_
   rintro r0 wx wy hIx hkx hr0 hlow0
   obtain⟨a0,c0,rfl⟩:=hr0.form
   refine Vs 5 O ?_
   refine zk7 O (fun q2=>?_) (fun q2=>?_)
   ·
    refine Vs 7 O ?_
    refine zkr Tryz.results7 O (fun w hI=>⟨_,rfl,rfl,hI.k2⟩)
   ·
    have hrn:=zpU vd (List.length_eq_zero_iff.1 (by omega))
    refine Vs 7 O ?_
    refine zmD Tryz.call26 O (fun w hI=>zk1 f.vars 2 n _ D w (by decide) vd.good (by omega) (Tr1 hI.k2 hf.vars)) ?_
    rintro r1 w3 w4 hI3 hk34 ⟨ul,rfl,hl0,hl1⟩ hlow1
    refine Vs 14 O ?_
    refine zk7 O (fun e0=>?_) (fun e0=>?_)
    ·
     refine Vs 7 O ?_
     refine zkr Tryz.results7 O (fun w hI=>⟨_,rfl,rfl,hI.k3⟩)
    ·
     have e0:=zo2.1 e0
     have hl:=hl1 e0
     have hc:=zoK hfit (by decide) (by decide) e0 (t:=t)
     have hpub:(yt (ze 2 f.vars) n).1=(yt (ze 2 f.vars) n).1:=rfl
     generalize hpb:(yt (ze 2 f.vars) n).1=pub at *
     clear hpub
     obtain⟨al,cl,rfl⟩:=hl.form
     have hvm:=zpb hfit (by decide) (by decide) (pub:=pub) (t:=t)
     have hone:=zpR (f:=f) (pub:=pub) (t:=t) hrn
     have hpl:=zpB (f:=f) (pub:=pub) (t:=t)
     have hrow:=zp4 (f:=f) (pub:=pub) (t:=t) hs1
     refine Vs 7 O ?_
     refine zmR [Value.slice none 0 0,Value.bool false] [(0,1),(1,1)] [(0,_),(1,_)] O O (fun _=>by kernel_rfl) ?_
     refine zmD Tryz.call15 O (fun w hI=>ziM f vd.size vd.bulk pub t _ _ _ _ D _ w (Tr1 hI.k3 hf) (hl.keep zc hI.k0 (fun b hb _ hs=>by have:=hlow1 b hs;omega)) (Tr1 hI.k3 ht)) ?_
     rintro r2 w5 w6 hI5 hk56 ⟨uc,lc,rfl,_,hu1⟩ hlow2
     obtain⟨hm,_⟩:=hu1 hc
     rw [hc]
     obtain⟨am,cm,rfl⟩:=hm.form
     refine Vs 4 O ?_
     refine V.alloc 9 tz36 O O (fun b9=>?_)
     refine Vs 8 O ?_
     refine zmD Tryz.call29 O (fun w hI=>zgk (mxO f pub t) _ _ w (hm.keep (yV zc) hI.k0 (fun b hb _ hs=>by have:=hlow2 b hs;omega))) ?_
     rintro r3 w7 w8 hI7 hk78 ⟨up,rfl,hp1,_⟩ hlow3
     have hp:=hp1 ⟨hvm,hone⟩
     rw [zo3 (zog hvm),zo3 (zog hone)]
     generalize hpt:yM (zc2 (mxO f pub t))=part at *
     obtain⟨ap,cp,rfl⟩:=hp.form
     refine Vs 13 O ?_
     refine V.sp 60 O (fun z1=>?_) (fun z1=>?_)
     . exact absurd O z1
     refine Vs 4 O ?_
     refine V.sp 64 O (fun z2=>?_) (fun z2=>?_)
     . exact absurd O z2
     refine Vs 1 O ?_
     refine zmB Tryz.call30 O (fun w hI=>zhw (mxO f pub t) _ _ w (hm.keep (yV zc) hI.k1 (fun b hb _ hs=>by have:=hlow2 b hs;omega))) ?_
     refine zm2 O (fun w hI=>zly O (by first | exact za | rfl)) ?_
     refine Vs 2 O ?_
     refine V.sp 69 O (fun z3=>?_) (fun z3=>?_)
     . exact absurd ⟨hvm,hone⟩ z3
     refine Vs 1 O ?_
     refine zmB Tryz.call31 O (fun w hI=>zp9 (mxO f pub t) _ _ w (hm.keep (yV zc) hI.k1 (fun b hb _ hs=>by have:=hlow2 b hs;omega))) ?_
     refine Vs 4 O ?_
     refine zk7 O (fun z4=>?_) (fun z4=>?_)
     . exact absurd (by unfold zpV;rw [zo4 hvm,hrow,zoI hs1,hrn];rfl) z4
     refine Vs 4 O ?_
     refine V.bs0 74 tR37 ts55 O (fun b74=>?_)
     refine Vs 11 O ?_
     refine zmU 74 (e':=OwP 55 2 ROb (fun _=>False) (.slice (some ⟨b74,0,none⟩) 0 0) []) O (fun w hI=>⟨⟨[],hI.at 74 rfl,fun i x h=>by simp at h⟩,fun _ h=>h.elim⟩) OwP.loc (fun _ h=>h) (fun q hq=>hq.elim (fun h=>h) False.elim) ?_
     refine Vs 1 O ?_
     refine zmL (σ:=Nat × Option Addr × Nat × (Nat->Prop)) [1,2,3,11,76] [3] [3] O (fun e ⟨s,aj,cj,F⟩=>(77,.int .i64 s)::(13,.slice aj s cj)::e) (fun e ⟨s,aj,cj,F⟩=>(74,OwP 55 2 ROb F (.slice aj s cj) (obR f pub t s))::e) (fun⟨s,aj,cj,F⟩=>s<=spN f) (fun⟨s,aj,cj,F⟩=>spN f - s) ((0,some ⟨b74,0,none⟩,0,fun _=>False)) (zlO O) (zlP O) (fun _=>rfl) (fun _=>rfl) (fun _=>rfl) (zo8 _) ?_
     rintro⟨s,aj,cj,F⟩ hs
     show V _ _ _ _ _ ((77,.int .i64 s)::(13,.slice aj s cj)::_) _ ((74,OwP 55 2 ROb F (.slice aj s cj) (obR f pub t s))::_) _
     have hol:=zoV f pub t s
     refine Vs 6 O ?_
     refine zk7 O (fun lt=>?_) (fun lt=>?_)
     ·
      obtain⟨hi1,_,hi3⟩:=ziv vd (s:=s) (r:=0) (by omega) (by omega)
      have hi0:zgv f.vars (s:Int) n 0=0:=by unfold zgv;rw [zo3 (zog hi1),zo3 (zog e0)];exact hi3
      refine Vs 16 O ?_
      refine zmD Tryz.call32 O (fun w hI=>zoO f.vars s n 0 _ D w vd.good (by omega) (Tr1 hI.k5 hf.vars)) ?_
      rintro r4 w9 wa hI9 hk9a ⟨a,b,c,rfl,hu0,hu1⟩ hlow4
      obtain⟨ha,hb,hcc⟩:=hu1 hi0
      rw [hi0]
      have hsec:SlR 1 zB (fun b=>w9.heap.size<=b) wa a (zig f s):=by unfold zig;rw [zo4 hi1];exact ha
      have hrnd:SlR 1 zB (fun b=>w9.heap.size<=b) wa c (zik f (0:Nat)):=by unfold zik;rw [zo4 hi3];exact hcc
      rw [hpb] at hb
      obtain⟨au,cu,rfl⟩:=hsec.form
      obtain⟨ax,cx,rfl⟩:=hb.form
      obtain⟨ac,cc,rfl⟩:=hrnd.form
      refine Vs 3 O ?_
      refine V.alloc 15 Tryz.zeroValue61 O O (fun b15=>?_)
      refine Vs 11 O ?_
      refine zk7 O (fun z5=>?_) (fun z5=>?_)
      . exact absurd O z5
      refine Vs 6 O ?_
      refine zn1 [] (Hn:=fun y:Option Addr × Nat × (Nat->Prop)=>[(922,obE (zdt f (zje f pub s (0:Nat))) y)]) [(3,some (3,0)),(15,some (15,0)),(81,some (3,0))] Tryz.call33 O (fun _ _=>rfl) (fun _=>rfl) (fun w hI=>zpT 922 (zpa f (zje f pub s (0:Nat)) _ _ _ _ _ _ D _ _ _ w vd (Tr1 hI.k6 hf) (hsec.keep zc hI.k0 (fun b hb _ hs=>by have:=hlow4 b hs;omega)) (hb.keep zc hI.k0 (fun b hb _ hs=>by have:=hlow4 b hs;omega)) (hrnd.keep zc hI.k0 (fun b hb _ hs=>by have:=hlow4 b hs;omega)))) ?_
      rintro _ ⟨az,cz,G2⟩ rfl
      refine Vs 3 O ?_
      refine V.alloc 17 tz55 O O (fun b17=>?_)
      refine Vs 8 O ?_
      refine zmB Tryz.call34 O (fun w hI=>zp8 (zdt f (zje f pub s (0:Nat))) t _ G2 w (zjK (hI.at 922 O))) ?_
      refine zmO 100 [(0,_)] tR37 ts55 tz55 (by decide) O O (by kernel_rfl) (fun b100=>?_)
      refine zmU 922 (e':=DaP ROb G2 (obX f pub t s 0) [.slice az (zdt f (zje f pub s (0:Nat))).1.length cz,.int .i64 (obX f pub t s 0).2]) O (fun w hI=>⟨_,rfl,zjK (hI.at 922 O)⟩) DaP.loc (fun _ h=>h) (fun q hq=>hq) ?_
      refine znb [74,922] (Hn:=fun u=>[(74,OwP 55 2 ROb (fun q=>F q\/G2 q) u (obR f pub t s++[obX f pub t s 0]))]) (u:=fun u=>u) [(3,some (3,0)),(15,some (15,0)),(17,some (17,0)),(81,some (3,0))] O (fun _=>rfl) (fun _=>rfl) (fun w hI=>znc 74 922 100 hI O O O O tu37 Tryz.el55 O (by decide) O O O (fun D x cs h=>zja D x cs h) (by omega) (by omega)) (fun u74=>?_)
      refine zmn (p:=∃ ao c,u74=.slice ao (obR f pub t s++[obX f pub t s 0]).length c) (fun w hI=>zej (hI.at 74 O)) (fun hu=>?_)
      obtain⟨an,cn,rfl⟩:=hu
      rw [<- zpC,zoV]
      refine Va 8 O (by omega) ?_
      refine zki (⟨s+1,an,cn,fun q=>F q\/G2 q⟩) (zlO O) (zlP O) (by omega) (by first | omega | (dsimp only;omega)) 1 O O
     ·
      obtain rfl:s=spN f:=by omega
      refine V.pin 74 O (p:=fun w=>SlR 2 ROb (fun q=>(Value.slice aj (spN f) cj).ownBlock=some q\/F q) w (.slice aj (spN f) cj) (obR f pub t (spN f))) (fun w w' T h hk hT=>h.keep zcK hk fun b hb _=>hT b hb) (fun w hI=>(show OwH _ _ _ _ _ _ _ from hI.at 74 O).sl (by omega) (fun q hq=>hq)) (fun wo hob hap=>?_)
      refine Vs 14 O ?_
      refine zmL (σ:=Nat) [3,11,13,104] [3,74] [3] O (fun e i=>(105,.int .i64 i)::e) (fun e i=>e) (fun i=>i<=spN f) (fun i=>spN f - i) (0) (zlO O) (zlP O) (fun _=>rfl) (fun _=>rfl) (fun _=>rfl) (zo8 _) ?_
      rintro i hi
      refine Vs 6 O ?_
      refine zk7 O (fun lt2=>?_) (fun lt2=>?_)
      ·
       refine Vs 18 O ?_
       refine zmL (σ:=Nat) [3,11,13,19,104,105,109] [3,74] [3] O (fun e j=>(110,.int .i64 j)::e) (fun e j=>e) (fun j=>j<=spN f) (fun j=>spN f - j) (0) (zlO O) (zlP O) (fun _=>rfl) (fun _=>rfl) (fun _=>rfl) (zo8 _) ?_
       rintro j hj
       refine Vs 6 O ?_
       refine zk7 O (fun lt3=>?_) (fun lt3=>?_)
       ·
        obtain⟨pi,he_pi,hm_pi⟩:=gE_ part (i) (by omega)
        obtain⟨b_pi,o_pi,c_pi,ha_pi,hd_pi,hc_pi,hR_pi⟩:=hp.atD he_pi
        obtain rfl:=hR_pi
        refine zmJ 1000 1 O O (fun h_=>by have h1_:=hlow3 _ h_;have h2_:=hd_pi;first | omega | exact h1_ h2_) hc_pi ?_
        obtain⟨pj,he_pj,hm_pj⟩:=gE_ part (j) (by omega)
        obtain⟨b_pj,o_pj,c_pj,ha_pj,hd_pj,hc_pj,hR_pj⟩:=hp.atD he_pj
        obtain rfl:=hR_pj
        refine zmJ 2000 1 O O (fun h_=>by have h1_:=hlow3 _ h_;have h2_:=hd_pj;first | omega | exact h1_ h2_) hc_pj ?_
        obtain⟨oi,he_oi,hm_oi⟩:=gE_ (obR f pub t (spN f)) (i) (by omega)
        obtain⟨b_oi,o_oi,c_oi,ha_oi,hd_oi,hc_oi,hR_oi⟩:=hob.atD he_oi
        obtain⟨v1_oi,rfl,hs_oi⟩:=hR_oi
        obtain⟨a1_oi,n1_oi,rfl⟩:=hs_oi.form
        refine zmJ 3000 0 O O (fun h_=>by have h1_:=hap _ h_;have h2_:=hd_oi;first | omega | exact h1_ h2_) hc_oi ?_
        obtain⟨oj,he_oj,hm_oj⟩:=gE_ (obR f pub t (spN f)) (j) (by omega)
        obtain⟨b_oj,o_oj,c_oj,ha_oj,hd_oj,hc_oj,hR_oj⟩:=hob.atD he_oj
        obtain⟨v1_oj,rfl,hs_oj⟩:=hR_oj
        obtain⟨a1_oj,n1_oj,rfl⟩:=hs_oj.form
        refine zmJ 4000 0 O O (fun h_=>by have h1_:=hap _ h_;have h2_:=hd_oj;first | omega | exact h1_ h2_) hc_oj ?_
        have hoi:=zps he_oi
        have hoj:=zps he_oj
        refine Vs 11 O ?_
        refine Vw [3,1000,2000,3000,4000] [] O ?_
        refine Vd [0,1,4,5,9,10,13,14] 0 (by kernel_rfl) O O O ?_
        refine VD.ix 2 1000 tR27 ts3 O (by kernel_rfl) O ha_pi (by omega) (_) (rfl) O ?_
        refine Vd [3] 0 (by kernel_rfl) O O O ?_
        refine VD.ix 6 2000 tR27 ts3 O (by kernel_rfl) O ha_pj (by omega) (_) (rfl) O ?_
        refine Vd [7,8] 0 (by kernel_rfl) O O O ?_
        refine VD.ix 11 3000 tR37 ts55 O (by kernel_rfl) O ha_oi (by omega) (_) (rfl) O ?_
        refine Vd [12] 0 (by kernel_rfl) O O O ?_
        refine VD.ix 15 4000 tR37 ts55 O (by kernel_rfl) O ha_oj (by omega) (_) (rfl) O ?_
        have hsm:=zpq hrn (pub:=pub) (t:=t) (a:=i) (b:=j) (by omega) (by omega) (hpt ▸ he_pi) (hpt ▸ he_pj)
        rw [<- hoi,<- hoj] at hsm
        refine Vd [16] 0 (by kernel_rfl) O O O ?_
        refine zmC 17 0 Tryz.call35 O (by kernel_rfl) O O (fun w hI=>zpw oi oj _ _ _ _ w (hs_oi.keep zc hI.k0 (fun b hb _ hs=>hap b hs hb)) (hs_oj.keep zc hI.k0 (fun b hb _ hs=>hap b hs hb))) ?_
        refine Vd [18] 0 (by kernel_rfl) O O O ?_
        refine zlb (by kernel_rfl) ?_
        refine Vs 1 O ?_
        refine zk7 O (fun z6=>?_) (fun z6=>?_)
        . exact absurd (zol.2 hsm) z6
        refine Va 7 O (by omega) ?_
        refine zki (j+1) (zlO O) (zlP O) (by omega) (by first | omega | (dsimp only;omega)) 0 O O
       ·
        refine Va 10 O (by omega) ?_
        refine zki (i+1) (zlO O) (zlP O) (by omega) (by first | omega | (dsimp only;omega)) 0 O O
      ·
       refine Vs 9 O ?_
       refine zmB Tryz.call36 O (fun w hI=>jp f.vars 1 _ D w (by decide) vd.good (by omega) (Tr1 hI.k6 hf.vars)) ?_
       refine Vs 17 O ?_
       refine zkr Tryz.results7 O (fun w hI=>⟨_,rfl,by rw [zo5 (by rw [(zg2 vd).1,hpl])],hI.k6⟩)
end Go.Proofs.YtaenledoagbddaaGreatDoor
