/-
  Contracts and the mathematics that the proof needs. Nothing here is a claim.
-/
import Derived.Test.YtaenledoagbddaaGreatDoorKY4
namespace Go.GL
open Go.RowKit Go.ChangeMaps
section
variable {κ:Type} [DecidableEq κ]
def lkg:List (κ × Value)->κ->Option (Nat × Value)
 | [],_=>none
 | (a,v)::r,k=>if k=a then some (0,v) else (lkg r k).map fun p=>(p.1+1,p.2)
def jN:List (κ × Value)->κ->Option Value
 | [],_=>none
 | (a,v)::r,k=>if k=a then some v else jN r k
def yR:List (κ × Value)->κ->Value->List (κ × Value)
 | [],k,v=>[(k,v)]
 | (a,u)::r,k,v=>if k=a then (k,v)::r else (a,u)::yR r k v
theorem jO (l:List (κ × Value)) (k k':κ) (v:Value):jN (yR l k v) k'=if k'=k then some v else jN l k':=by
 induction l with
 | nil=>simp [yR,jN]
 | cons x r ih =>
  obtain⟨a,u⟩:=x
  simp only [yR]
  by_cases h:k=a
  ·
   subst h
   rw [zo4 rfl]
   simp only [jN]
   split <;> rfl
  ·
   rw [zo3 h]
   simp only [jN,ih]
   by_cases h1:k'=a
   ·
    subst h1
    rw [zo4 rfl,zo3 (fun e=>h e.symm),zo4 rfl]
   . rw [zo3 h1,zo3 h1]
theorem zfL (l:List (κ × Value)) (k:κ):jN l k=(lkg l k).map (·.2):=by
 induction l with
 | nil=>rfl
 | cons x r ih =>
  obtain⟨a,u⟩:=x
  simp only [jN,lkg]
  split
  . rfl
  . rw [ih,Option.map_map];rfl
theorem zbU {l:List (κ × Value)} {k:κ} {p:Nat × Value} (v:Value) (h:lkg l k=some p):l[p.1]?=some (k,p.2)/\l.set p.1 (k,v)=yR l k v:=by
 induction l generalizing p with
 | nil=>simp [lkg] at h
 | cons x r ih =>
  obtain⟨a,u⟩:=x
  simp only [lkg] at h
  simp only [yR]
  split at h
  . rename_i h1;cases h;rw [zo4 h1,h1];exact⟨rfl,rfl⟩
  ·
   rename_i h1
   obtain⟨q,h2,rfl⟩:=Option.map_eq_some_iff.1 h
   obtain⟨h3,h4⟩:=ih h2
   rw [zo3 h1]
   exact⟨by simpa using h3,by simpa using h4⟩
theorem ze2 {l:List (κ × Value)} {k:κ} (v:Value) (h:lkg l k=none):l++[(k,v)]=yR l k v:=by
 induction l with
 | nil=>rfl
 | cons x r ih =>
  obtain⟨a,u⟩:=x
  simp only [lkg] at h
  simp only [yR]
  split at h
  . cases h
  ·
   rename_i h1
   rw [zo3 h1,List.cons_append,ih (by simpa using h)]
theorem qU {l:List (κ × Value)} {k:κ} {v:Value} (h:(l.map (·.1)).Nodup):((yR l k v).map (·.1)).Nodup:=by
 have hm:∀ (l:List (κ × Value)) (x:κ),x ∈ (yR l k v).map (·.1)->x=k\/x ∈ l.map (·.1):=by
  intro l
  induction l with
  | nil=>intro x hx;exact .inl (by simpa [yR] using hx)
  | cons y r ih =>
   obtain⟨a,u⟩:=y
   intro x hx
   rw [yR] at hx
   split at hx
   ·
    rename_i e
    rw [List.map_cons] at hx ⊢
    rcases zo9.1 hx with e2 | hx
    . exact .inl e2
    . exact .inr (znW _ hx)
   ·
    rw [List.map_cons] at hx ⊢
    rcases zo9.1 hx with e2 | hx
    . exact .inr (e2 ▸ znX ..)
    . exact (ih x hx).imp id fun g=>znW _ g
 induction l with
 | nil=>simp [yR]
 | cons y r ih =>
  obtain⟨a,u⟩:=y
  rw [List.map_cons,List.nodup_cons] at h
  rw [yR]
  split
  ·
   rename_i e
   rw [List.map_cons,List.nodup_cons]
   exact⟨by rw [e];exact h.1,h.2⟩
  ·
   rename_i e
   rw [List.map_cons,List.nodup_cons]
   exact⟨fun g=>(hm r _ g).elim (fun g=>e g.symm) h.1,ih h.2⟩
structure KeyOk (P:Program) (kt:TypeId) (ke:κ->Value):Prop where
 check:∀ k b w,(Instr.checkKey b 10000 kt (ke k)).run P w=.ok () w
 find:∀ k (es:List MapEntry) (l:List (κ × Value)) w,(l.map (·.1)).Nodup->es.map (fun e=>(e.key,e.val))=l.map (fun p=>(ke p.1,p.2))->(Instr.findKey kt (ke k) es).run P w=.ok (lkg l k) w
 stays:∀ k,Instr.sameBits 10000 (ke k) (ke k)=true
def MapG (ke:κ->Value) (w:World) (m:Nat) (l:List (κ × Value)):Prop :=
 ∃ (es:Array MapEntry) (clock:Nat),w.heap[m]?=some (.map es clock)/\es.toList.map (fun e=>(e.key,e.val))=l.map (fun p=>(ke p.1,p.2))/\(l.map (·.1)).Nodup
variable {ke:κ->Value}
omit [DecidableEq κ] in
theorem MapG.keep {w w':World} {S:Nat->Prop} {m:Nat} {l:List (κ × Value)} (h:MapG ke w m l) (hk:Keep S w w') (hS:¬ S m):MapG ke w' m l:=by
 obtain⟨es,c,h1,r⟩:=h
 exact⟨es,c,by rw [hk.block m (Array.getElem?_eq_some_iff.1 h1).1 hS];exact h1,r⟩
omit [DecidableEq κ] in
theorem MapG.ext {w w':World} {m:Nat} {l:List (κ × Value)} (h:MapG ke w m l) (hk:Ext w w'):MapG ke w' m l:=h.keep hk (fun h=>h)
omit [DecidableEq κ] in
theorem MapG.lt {w:World} {m:Nat} {l:List (κ × Value)} (h:MapG ke w m l):m<w.heap.size:=by
 obtain⟨es,c,h1,r⟩:=h
 exact (Array.getElem?_eq_some_iff.1 h1).1
theorem ze3 {d:TypeDesc} (hd:∀ a b:κ,Instr.sameNow d (ke a) (ke b)=some (decide (a=b))) (k:κ):∀ (es:List MapEntry) (l:List (κ × Value)) (i:Nat),es.map (fun e=>(e.key,e.val))=l.map (fun p=>(ke p.1,p.2))->Instr.findNow d (ke k) es i=some ((lkg l k).map fun p=>(i+p.1,p.2))
 | [],[],i,_=>rfl
 | [],_::_,i,h=>by simp at h
 | _::_,[],i,h=>by simp at h
 | e::es,(a,v)::l,i,h=>by
  simp only [List.map_cons,List.cons.injEq,Prod.mk.injEq] at h
  rw [Instr.findNow,h.1.1,lkg,hd]
  by_cases hk:k=a
  . simp [hk,h.1.2]
  ·
   simp only [hk,decide_false,if_false]
   rw [ze3 hd k es l (i+1) h.2]
   cases lkg l k <;> simp <;> omega
theorem znv {P:Program} {kt:TypeId} {d:TypeDesc} (hk:P.underlying kt=some d) (hd:∀ a b:κ,Instr.sameNow d (ke a) (ke b)=some (decide (a=b))) (h2:∀ k,MapKept.IsKey d (ke k)) (h3:∀ k,Instr.sameBits 10000 (ke k) (ke k)=true):KeyOk P kt ke where
 check:=fun k b w=>MapKept.run_checkKey hk (h2 k) b 9999
 find:=fun k es l w _ h=>by
  have:=ze3 hd k es l 0 h
  rw [MapKept.run_findKey (P:=P) (w:=w) hk this]
  cases lkg l k <;> simp
 stays:=h3
theorem KeyOk.str {P:Program} {kt:TypeId} (hk:P.underlying kt=some .string):KeyOk P kt (Value.string) :=
 znv hk (fun a b=>by
  show some (a == b)=_
  congr 1
  rw [Bool.eq_iff_iff,MapKept.bytes_beq,decide_eq_true_iff]) (fun _=>trivial) (fun k=>by
  show (k == k)=true
  rw [MapKept.bytes_beq])
theorem KeyOk.int {P:Program} {kt:TypeId} (hk:P.underlying kt=some (.int .i64)):KeyOk P kt (Value.int .i64) :=
 znv hk (fun a b=>by
  simp only [Instr.sameNow,if_true]
  rfl) (fun _=>rfl) (fun k=>by simp [Instr.sameBits])
theorem zhL {l:List (κ × Value)} (hn:(l.map (·.1)).Nodup) {j:Nat} {k:κ} {v:Value} (h:l[j]?=some (k,v)):lkg l k=some (j,v):=by
 induction l generalizing j with
 | nil=>simp at h
 | cons x r ih =>
  obtain⟨a,u⟩:=x
  rw [List.map_cons,List.nodup_cons] at hn
  cases j with
  | zero =>
   simp only [List.getElem?_cons_zero,Option.some.injEq,Prod.mk.injEq] at h
   rw [lkg,zo4 h.1.symm,h.2]
  | succ j =>
   simp only [List.getElem?_cons_succ] at h
   rw [lkg,zo3 (fun e:k=a=>hn.1 (e ▸ List.mem_map.2 ⟨_,znU h,rfl⟩)),ih hn.2 h]
   rfl
theorem zjc {l:List (κ × Value)} {k:κ} (h:∀ p ∈ l,p.1 ≠ k):lkg l k=none:=by
 induction l with
 | nil=>rfl
 | cons x r ih =>
  obtain⟨a,u⟩:=x
  rw [lkg,zo3 (fun e=>h _ (znX ..) e.symm),ih fun p hp=>h p (znW _ hp)]
  rfl
theorem znw {P:Program} {kt:TypeId} (K:WideMaps.KeyLaw P kt) (hk:∀ k:κ,∃ l,keyOf P kt (ke k)=some l) (hi:∀ a b:κ,ke a=ke b->a=b) (h3:∀ k,Instr.sameBits 10000 (ke k) (ke k)=true):KeyOk P kt ke where
 check:=fun k b w=>by
  obtain⟨l,hl⟩:=hk k
  exact K.check w b hl
 find:=fun k es l w hn h=>by
  obtain⟨lx,hlx⟩:=hk k
  have hlen:es.length=l.length:=by have:=congrArg List.length h;simpa using this
  have hat:∀ (j:Nat) (e:MapEntry),es[j]?=some e->∃ p:κ × Value,l[j]?=some p/\e.key=ke p.1/\e.val=p.2:=fun j e he=>by
   have:=congrArg (fun L=>L[j]?) h
   simp only [zoa,he,Option.map_some] at this
   obtain⟨p,hp,e2⟩:=Option.map_eq_some_iff.1 this.symm
   obtain⟨e3,e4⟩:=Prod.mk.inj e2
   exact⟨p,hp,e3.symm,e4.symm⟩
  rcases K.find w hlx es (fun e he=>by
   obtain⟨j,hj⟩:=List.mem_iff_getElem?.1 he
   obtain⟨p,_,e1,_⟩:=hat j e hj
   obtain⟨l',hl'⟩:=hk p.1
   exact⟨l',by rw [e1];exact hl'⟩) with⟨f1,f2⟩ | ⟨j,e,f1,f2,f3⟩
  ·
   rw [f1,zjc fun p hp e=>?_]
   obtain⟨j,hj⟩:=List.mem_iff_getElem?.1 hp
   have hjl:=(zo7.1 hj).1
   obtain⟨x,hx⟩:∃ x,es[j]?=some x:=⟨_,znT (by omega)⟩
   obtain⟨q,hq,e1,_⟩:=hat j x hx
   rw [hj] at hq
   cases hq
   exact f2 x (znU hx) (by rw [e1,e])
  ·
   obtain⟨p,hp,e1,e2⟩:=hat j e f2
   have hpk:=hi _ _ (e1.symm.trans f3)
   rw [f1,zhL hn (j:=j) (v:=p.2) (by rw [hp,<- hpk]),e2]
 stays:=h3
section
variable {P:Program} {w:World} {m:Nat} {l:List (κ × Value)} {t kt et:TypeId}
theorem zaQ (hK:KeyOk P kt ke) (h:MapG ke w m l) (ht:P.underlying t=some (.map kt et)) {z:Value} (hz:∀ w,(zeroValue et).run P w=.ok z w) (k:κ) (ok:Bool):(Instr.lookup t (.map (some m)) (ke k) ok).run P w=.ok (if ok then .tuple #[(jN l k).getD z,.bool (jN l k).isSome] else (jN l k).getD z) w:=by
 obtain⟨es,c,h1,h2,hn⟩:=h
 have h5:=hK.find k _ _ w hn h2
 have h7:=zfL l k
 cases h6:lkg l k with
 | none=>rw [h6] at h5 h7;cases ok <;> simp [Instr.lookup,run_underlying ht,MapKept.run_getObj_map h1,hK.check,h5,hz,Result.andThen,h7]
 | some p=>rw [h6] at h5 h7;cases ok <;> simp [Instr.lookup,run_underlying ht,MapKept.run_getObj_map h1,hK.check,h5,Result.andThen,h7]
theorem zdr (hK:KeyOk P kt ke) (h:MapG ke w m l) (ht:P.underlying t=some (.map kt et)) (k:κ) (v:Value) :
  ∃ w',(Instr.mapUpdate t (.map (some m)) (ke k) v).run P w=.ok () w'/\MapG ke w' m (yR l k v)/\Keep (fun q=>q=m) w w'/\w'.heap.size=w.heap.size:=by
 obtain⟨es,c,h1,h2,hn⟩:=h
 have h7:=hK.find k _ _ w hn h2
 have hn':=qU (k:=k) (v:=v) hn
 cases h8:lkg l k with
 | none =>
  rw [h8] at h7
  refine⟨setBlock w m (.map (es.push ⟨ke k,v,c⟩) (c+1)),by simp [Instr.mapUpdate,run_underlying ht,MapKept.run_getObj_map h1,hK.check,h7,MapKept.run_setObj_map _ h1,Result.andThen,setBlock],?_,zN h1,by simp [setBlock]⟩
  refine⟨_,_,(MapKept.heap_set h1).1,?_,hn'⟩
  rw [<- ze2 v h8];simp [h2]
 | some p =>
  rw [h8] at h7
  obtain⟨h9,h10⟩:=zbU v h8
  have hlen:es.toList.length=l.length:=by have:=congrArg List.length h2;simpa using this
  have hp:=(zo7.1 h9).1
  obtain⟨e0,he0⟩:∃ e0,es.toList[p.1]?=some e0:=⟨_,znT (by omega)⟩
  have hkey:e0.key=ke k/\e0.val=p.2:=by
   have:=congrArg (fun L=>L[p.1]?) h2
   simp only [zoa,he0,h9,Option.map_some,Option.some.injEq,Prod.mk.injEq] at this
   exact this
  have he0':es[p.1]?=some e0:=by simpa using he0
  refine⟨setBlock w m (.map (es.modify p.1 fun e=>{ e with key:=ke k,val:=v }) c),by simp [Instr.mapUpdate,run_underlying ht,MapKept.run_getObj_map h1,hK.check,h7,he0',hkey.1,Instr.keyThatStays,hK.stays,MapKept.run_setObj_map _ h1,Result.andThen,setBlock],?_,zN h1,by simp [setBlock]⟩
  refine⟨_,_,(MapKept.heap_set h1).1,?_,hn'⟩
  rw [<- h10,Array.toList_modify,kf _ _ (ke k,v) _ _ (fun _ _=>rfl),h2];simp only [List.map_set]
end
section
variable {P:Program} {env:Env} {w:World} {dst:Option Tmp} {ty:TypeId} {pos:String} {aft:Array Edge} {g:Option (Nat × Bool)} {t kt et:TypeId} {m:Nat} {l:List (κ × Value)}
omit [DecidableEq κ] in
theorem znx:yh P ⟨dst,.makeMap t none,ty,pos,aft,g⟩ env w (fun u w'=>∃ b,u=.map (some b)/\MapG ke w' b []/\Ext w w'/\∀ q,q=b->w.heap.size<=q/\q<w'.heap.size):=by
 refine⟨.map (some w.heap.size),w.alloc (.map #[] 0),?_,_,rfl,⟨#[],0,(MapKept.heap_alloc w _).1,rfl,List.Pairwise.nil⟩,Keep.alloc w _,fun q hq=>by subst hq;simp⟩
 intro n a ha
 have h:(Instr.makeMap t none).run P w=.ok (.map (some w.heap.size)) (w.alloc (.map #[] 0)):=by simp [Instr.makeMap,Result.andThen]
 simp [execOp,h]
theorem zny {x y:Operand} {k:κ} {z:Value} (hK:KeyOk P kt ke) (h:MapG ke w m l) (ht:P.underlying t=some (.map kt et)) (hz:∀ w,(zeroValue et).run P w=.ok z w) (hx:ev env x=some (.map (some m))) (hy:ev env y=some (ke k)) :
  yf P ⟨dst,.lookup t x y false,ty,pos,aft,g⟩ env w ((jN l k).getD z) w:=by
 intro n a ha
 simp [execOp,ha.eval hx,ha.eval hy,zaQ hK h ht hz]
theorem znz {x y:Operand} {k:κ} {z:Value} (hK:KeyOk P kt ke) (h:MapG ke w m l) (ht:P.underlying t=some (.map kt et)) (hz:∀ w,(zeroValue et).run P w=.ok z w) (hx:ev env x=some (.map (some m))) (hy:ev env y=some (ke k)) :
  yf P ⟨dst,.lookup t x y true,ty,pos,aft,g⟩ env w (.tuple #[(jN l k).getD z,.bool (jN l k).isSome]) w:=by
 intro n a ha
 simp [execOp,ha.eval hx,ha.eval hy,zaQ hK h ht hz]
theorem znA {x y u:Operand} {k:κ} {v:Value} (hK:KeyOk P kt ke) (h:MapG ke w m l) (ht:P.underlying t=some (.map kt et)) (hx:ev env x=some (.map (some m))) (hy:ev env y=some (ke k)) (hu:ev env u=some v) :
  xD P ⟨dst,.mapUpdate t x y u,ty,pos,aft,g⟩ env w (fun w'=>MapG ke w' m (yR l k v)/\Keep (fun q=>q=m) w w'/\∀ q,q=m->(q=m\/w.heap.size<=q)/\q<w'.heap.size):=by
 have hlt:=h.lt
 obtain⟨w',h1,h2,h3,h4⟩:=zdr hK h ht k v
 refine⟨w',?_,h2,h3,fun q hq=>⟨.inl hq,by omega⟩⟩
 intro n a ha
 simp [execOp,ha.eval hx,ha.eval hy,ha.eval hu,h1]
end
abbrev MapP (ke:κ->Value) (m:Nat) (l:List (κ × Value)):HE:=.res (fun q=>q=m) (fun w=>MapG ke w m l)
omit [DecidableEq κ] in
theorem MapP.loc {m:Nat} {l:List (κ × Value)}:(MapP ke m l).loc:=fun _ _ _ h hk hT=>h.keep hk (hT m h.lt rfl)
end
open Go.RowKit Go.ChangeMaps
section
variable {κ:Type} [DecidableEq κ] {ke:κ->Value}
theorem zfM {l:List (κ × Value)} {k:κ} {v:Value} (h:jN l k=some v):yR l k v=l:=by
 induction l with
 | nil=>simp [jN] at h
 | cons x r ih =>
  obtain⟨a,u⟩:=x
  simp only [jN] at h
  simp only [yR]
  split at h
  . rename_i e;subst e;cases h;rw [zo4 rfl]
  . rename_i e;rw [zo3 e,ih h]
theorem zcN {l:List (κ × Value)} {k:κ} {u v:Value}:yR (yR l k u) k v=yR l k v:=by
 induction l with
 | nil=>simp [yR]
 | cons x r ih =>
  obtain⟨a,c⟩:=x
  simp only [yR]
  by_cases e:k=a
  . rw [zo4 e,zo4 e];simp [yR]
  . rw [zo3 e,zo3 e];simp only [yR];rw [zo3 e,ih]
def MapB (ke:κ->Value) (w:World) (m:Nat) (l:List (κ × Value)):Prop :=
 ∃ (es:Array MapEntry) (clock:Nat),w.heap[m]?=some (.map es clock)/\es.toList.map (fun e=>(e.key,e.val))=l.map (fun p=>(ke p.1,p.2))/\(l.map (·.1)).Nodup/\(∀ e ∈ es.toList,e.born<clock)/\(es.toList.map (·.born)).Nodup
def MapBE (ke:κ->Value) (w:World) (m:Nat) (l:List (κ × Value)) (k:κ) (st:Nat):Prop :=
 ∃ (es:Array MapEntry) (clock i:Nat) (e:MapEntry) (v:Value),w.heap[m]?=some (.map es clock)/\es.toList.map (fun e=>(e.key,e.val))=l.map (fun p=>(ke p.1,p.2))/\(l.map (·.1)).Nodup/\(∀ e ∈ es.toList,e.born<clock)/\(es.toList.map (·.born)).Nodup /\
  es.toList[i]?=some e/\e.born=st/\lkg l k=some (i,v)
omit [DecidableEq κ] in
theorem MapB.g {w:World} {m:Nat} {l:List (κ × Value)} (h:MapB ke w m l):MapG ke w m l:=by
 obtain⟨es,c,h1,h2,h3,_⟩:=h
 exact⟨es,c,h1,h2,h3⟩
theorem MapBE.g {w:World} {m st:Nat} {k:κ} {l:List (κ × Value)} (h:MapBE ke w m l k st):MapG ke w m l:=by
 obtain⟨es,c,i,e,v,h1,h2,h3,_⟩:=h
 exact⟨es,c,h1,h2,h3⟩
abbrev MapBP (ke:κ->Value) (m:Nat) (l:List (κ × Value)):HE:=.res (fun q=>q=m) (fun w=>MapB ke w m l)
abbrev MapBEP (ke:κ->Value) (m:Nat) (l:List (κ × Value)) (k:κ) (st:Nat):HE:=.res (fun q=>q=m) (fun w=>MapBE ke w m l k st)
omit [DecidableEq κ] in
theorem MapBP.loc {m:Nat} {l:List (κ × Value)}:(MapBP ke m l).loc:=fun w w' T h hk hT=>by
 have h:MapB ke w m l:=h
 obtain⟨es,c,h1,r⟩:=h
 have hlt:=(Array.getElem?_eq_some_iff.1 h1).1
 exact⟨es,c,by rw [hk.block m hlt (hT m hlt O)];exact h1,r⟩
theorem MapBEP.loc {m st:Nat} {k:κ} {l:List (κ × Value)}:(MapBEP ke m l k st).loc:=fun w w' T h hk hT=>by
 have h:MapBE ke w m l k st:=h
 obtain⟨es,c,i,e,v,h1,r⟩:=h
 have hlt:=(Array.getElem?_eq_some_iff.1 h1).1
 exact⟨es,c,i,e,v,by rw [hk.block m hlt (hT m hlt O)];exact h1,r⟩
section
variable {P:Program} {env:Env} {w:World} {dst:Option Tmp} {ty:TypeId} {pos:String} {aft:Array Edge} {g:Option (Nat × Bool)} {t kt et:TypeId} {m:Nat} {l:List (κ × Value)}
omit [DecidableEq κ] in
theorem znB:yh P ⟨dst,.makeMap t none,ty,pos,aft,g⟩ env w (fun u w'=>∃ b,u=.map (some b)/\MapB ke w' b []/\Ext w w'/\∀ q,q=b->w.heap.size<=q/\q<w'.heap.size):=by
 refine⟨.map (some w.heap.size),w.alloc (.map #[] 0),?_,_,rfl,⟨#[],0,(MapKept.heap_alloc w _).1,rfl,List.Pairwise.nil,fun e h=>(by cases h),List.Pairwise.nil⟩,Keep.alloc w _,fun q hq=>by subst hq;simp⟩
 intro n a ha
 have h:(Instr.makeMap t none).run P w=.ok (.map (some w.heap.size)) (w.alloc (.map #[] 0)):=by simp [Instr.makeMap,Result.andThen]
 simp [execOp,h]
theorem znC {x y:Operand} {k:κ} {z:Value} (hK:KeyOk P kt ke) (h:MapB ke w m l) (ht:P.underlying t=some (.map kt et)) (hz:∀ w,(zeroValue et).run P w=.ok z w) (hx:ev env x=some (.map (some m))) (hy:ev env y=some (ke k)) :
  yh P ⟨dst,.mapEntry t x y,ty,pos,aft,g⟩ env w (fun u w'=>∃ st:Nat,u=.tuple #[(jN l k).getD z,.int .i64 st]/\MapBE ke w' m (yR l k ((jN l k).getD z)) k st/\Keep (fun q=>q=m) w w'/\∀ q,q=m->(q=m\/w.heap.size<=q)/\q<w'.heap.size):=by
 obtain⟨es,c,h1,h2,hn,hb,hbn⟩:=h
 have hlt:=(Array.getElem?_eq_some_iff.1 h1).1
 have h7:=hK.find k _ _ w hn h2
 have hlen:es.toList.length=l.length:=by have:=congrArg List.length h2;simpa using this
 have zl:=zfL l k
 cases h8:lkg l k with
 | none =>
  rw [h8] at h7 zl
  have zl:jN l k=none:=zl
  have hset:=ze2 z h8
  have hrun:(Instr.mapEntry t (.map (some m)) (ke k)).run P w=.ok (.tuple #[z,.int .i64 c]) (setBlock w m (.map (es.push ⟨ke k,z,c⟩) (c+1))):=by
   simp [Instr.mapEntry,run_underlying ht,MapKept.run_getObj_map h1,hK.check,h7,hz,MapKept.run_setObj_map _ h1,Result.andThen,setBlock,goInt]
  refine⟨.tuple #[z,.int .i64 c],setBlock w m (.map (es.push ⟨ke k,z,c⟩) (c+1)),fun n a ha=>?_,c,by rw [zl] <;> rfl,⟨_,_,es.toList.length,⟨ke k,z,c⟩,z,(MapKept.heap_set h1).1,?_,qU hn,?_,?_,?_,rfl,?_⟩,zN h1,fun q hq=>⟨.inl hq,by rw [hq];simp [setBlock];exact hlt⟩⟩
  . simp [execOp,ha.eval hx,ha.eval hy,hrun]
  . rw [zl];show _=(yR l k z).map _;rw [<- hset];simp [h2]
  ·
   intro e he
   simp only [Array.toList_push,zoc,zob] at he
   rcases he with he | rfl
   . have:=hb e he;omega
   . exact Nat.lt_succ_self c
  ·
   simp only [Array.toList_push,List.map_append,List.map_cons,List.map_nil]
   rw [List.nodup_append]
   refine⟨hbn,List.pairwise_singleton _ _,fun a ha b hb' e=>?_⟩
   obtain⟨x',hx',rfl⟩:=List.mem_map.1 ha
   have:=hb x' hx'
   rw [zob.1 hb'] at e
   omega
  . simp
  ·
   rw [zl]
   show lkg (yR l k z) k=_
   rw [<- hset]
   refine zhL (by have:=qU (k:=k) (v:=z) hn;rwa [<- hset] at this) ?_
   rw [hlen,zok (zoi _),Nat.sub_self]
   rfl
 | some p =>
  rw [h8] at h7 zl
  have zl:jN l k=some p.2:=zl
  obtain⟨h9,h10⟩:=zbU p.2 h8
  have hp:=(zo7.1 h9).1
  obtain⟨e0,he0⟩:∃ e0,es.toList[p.1]?=some e0:=⟨_,znT (by omega)⟩
  have hkey:e0.key=ke k/\e0.val=p.2:=by
   have:=congrArg (fun L=>L[p.1]?) h2
   simp only [zoa,he0,h9,Option.map_some,Option.some.injEq,Prod.mk.injEq] at this
   exact this
  have he0':es[p.1]?=some e0:=by simpa using he0
  have hrun:(Instr.mapEntry t (.map (some m)) (ke k)).run P w=.ok (.tuple #[p.2,.int .i64 e0.born]) (setBlock w m (.map (es.modify p.1 fun e=>{ e with key:=ke k }) c)):=by
   simp [Instr.mapEntry,run_underlying ht,MapKept.run_getObj_map h1,hK.check,h7,he0',hkey.1,Instr.keyThatStays,hK.stays,MapKept.run_setObj_map _ h1,Result.andThen,setBlock,goInt]
  have hmod:(es.modify p.1 fun e=>{ e with key:=ke k }).toList=es.toList:=by
   rw [Array.toList_modify]
   apply List.ext_getElem?
   intro j
   rw [List.getElem?_modify]
   by_cases hj:p.1=j
   . subst hj;rw [he0];simp [<- hkey.1]
   . cases es.toList[j]? <;> simp [hj]
  have hsame:yR l k ((jN l k).getD z)=l:=by rw [zl];exact zfM zl
  refine⟨.tuple #[p.2,.int .i64 e0.born],setBlock w m (.map (es.modify p.1 fun e=>{ e with key:=ke k }) c),fun n a ha=>?_,e0.born,by rw [zl] <;> rfl,?_,zN h1,fun q hq=>⟨.inl hq,by rw [hq];simp [setBlock];exact hlt⟩⟩
  . simp [execOp,ha.eval hx,ha.eval hy,hrun]
  ·
   rw [hsame]
   exact⟨_,c,p.1,e0,p.2,(MapKept.heap_set h1).1,by rw [hmod];exact h2,hn,by rw [hmod];exact hb,by rw [hmod];exact hbn,by rw [hmod];exact he0,rfl,h8⟩
theorem znD {x y:Operand} {k:κ} {z v:Value} (hK:KeyOk P kt ke) (h:MapB ke w m l) (hv:(jN l k).getD z=v) (ht:P.underlying t=some (.map kt et)) (hz:∀ w,(zeroValue et).run P w=.ok z w) (hx:ev env x=some (.map (some m))) (hy:ev env y=some (ke k)) :
  yh P ⟨dst,.mapEntry t x y,ty,pos,aft,g⟩ env w (fun u w'=>∃ st:Nat,u=.tuple #[v,.int .i64 st]/\MapBE ke w' m (yR l k v) k st/\Keep (fun q=>q=m) w w'/\∀ q,q=m->(q=m\/w.heap.size<=q)/\q<w'.heap.size):=by
 subst hv
 exact znC hK h ht hz hx hy
theorem znE {x y:Operand} {k:κ} {z v:Value} (hK:KeyOk P kt ke) (h:MapG ke w m l) (hv:(jN l k).getD z=v) (ht:P.underlying t=some (.map kt et)) (hz:∀ w,(zeroValue et).run P w=.ok z w) (hx:ev env x=some (.map (some m))) (hy:ev env y=some (ke k)) :
  yf P ⟨dst,.lookup t x y false,ty,pos,aft,g⟩ env w v w:=by
 subst hv
 exact zny hK h ht hz hx hy
theorem znF {x y u:Operand} {k:κ} {st:Nat} {v:Value} (h:MapBE ke w m l k st) (hx:ev env x=some (.map (some m))) (hy:ev env y=some (.int .i64 st)) (hu:ev env u=some v) :
  xD P ⟨dst,.entryStore t x y u,ty,pos,aft,g⟩ env w (fun w'=>MapB ke w' m (yR l k v)/\Keep (fun q=>q=m) w w'/\∀ q,q=m->(q=m\/w.heap.size<=q)/\q<w'.heap.size):=by
 obtain⟨es,c,i,e,v0,h1,h2,h5,h3,h4,h6,rfl,h8⟩:=h
 have hlt:=(Array.getElem?_eq_some_iff.1 h1).1
 have hi:=(zo7.1 h6).1
 have hfind:es.findIdx? (fun x=>(x.born:Int) == (e.born:Int))=some i:=by
  rw [show es=es.toList.toArray from by simp,List.findIdx?_toArray,List.findIdx?_eq_some_iff_getElem]
  refine⟨hi,by rw [(zo7.1 h6).2];simp,fun j hj=>?_⟩
  have:=List.nodup_iff_pairwise_ne.1 h4
  rw [List.pairwise_iff_getElem] at this
  have h9:=this j i (by rw [zod];omega) (by rw [zod];exact hi) hj
  rw [List.getElem_map,List.getElem_map,(zo7.1 h6).2] at h9
  intro h10
  have h11:(es.toList[j].born:Int)=e.born:=eq_of_beq h10
  exact h9 (by omega)
 have hrun:(Instr.entryStore t (.map (some m)) (.int .i64 e.born) v).run P w=.ok () (setBlock w m (.map (es.modify i fun x=>{ x with val:=v }) c)):=by
  simp [Instr.entryStore,MapKept.run_getObj_map h1,asInt,asIntOf,hfind,MapKept.run_setObj_map _ h1,Result.andThen,setBlock]
 obtain⟨h9,h10⟩:=zbU v h8
 have hkey:e.key=ke k:=by
  have:=congrArg (fun L=>L[i]?) h2
  simp only [zoa,h6,h9,Option.map_some,Option.some.injEq,Prod.mk.injEq] at this
  exact this.1
 refine⟨setBlock w m (.map (es.modify i fun x=>{ x with val:=v }) c),fun n a ha=>?_,⟨_,c,(MapKept.heap_set h1).1,?_,qU h5,?_,?_⟩,zN h1,fun q hq=>⟨.inl hq,by rw [hq];simp [setBlock];exact hlt⟩⟩
 . simp [execOp,ha.eval hx,ha.eval hy,ha.eval hu,hrun]
 . rw [<- h10,Array.toList_modify,kf _ _ (ke k,v) _ _ (fun x hx=>by rw [h6] at hx;cases hx;simp [hkey]),h2];simp only [List.map_set]
 ·
  intro x hx'
  rw [Array.toList_modify] at hx'
  obtain⟨j,hj⟩:=List.mem_iff_getElem?.1 hx'
  rw [List.getElem?_modify] at hj
  obtain⟨e1,he1,rfl⟩:=Option.map_eq_some_iff.1 hj
  have:=h3 e1 (znU he1)
  split <;> exact this
 ·
  have:(es.modify i fun x=>{ x with val:=v }).toList.map (·.born)=es.toList.map (·.born):=by
   rw [Array.toList_modify]
   apply List.ext_getElem?
   intro j
   rw [zoa,zoa,List.getElem?_modify]
   cases es.toList[j]? <;> simp
   split <;> rfl
  rw [this];exact h4
end
end
section
variable {P:Program} {n:Nat} {Q:Exit->Act->World->Prop} {ks:List Fr} {env:Env} {A:Tgs} {H Hs:Hp} {Bs B0:zP} {ops:Array Oper} {L:List Nat} {fuel:Nat} {listed:Array Bool}
variable {d d2:Nat} {op op2:Op} {ty ty2:TypeId} {ps ps2:String} {aft aft2:Array Edge} {g:Option (Nat × Bool)} {v:Value}
theorem znG (i i2 k j:Nat) {β:Type} {e:HE} {E':β->HE} {r:β->Value} (hi:(ops[i]?,ops[i2]?)=(some ⟨some d,op,ty,ps,aft,none⟩,some ⟨some d2,op2,ty2,ps2,aft2,none⟩)) (hr:Region.ready .any ops listed=[i,i2]) (hn:(Nat.blt d n,Nat.blt d2 n,zl H k,qt H k,qo (Hs.map (·.1)),xE k (Hs.map (·.1)))=(true,true,some e,none,true,true)) (hB:Bs.drop j=B0)
  (hE:∀ x,(E' x).loc/\∀ b,¬ (E' x).fz b) (hm:∀ w,VI Bs H w->yf P ⟨some d,op,ty,ps,aft,none⟩ env w v w)
  (hm2:∀ w,VI Bs H w->yh P ⟨some d2,op2,ty2,ps2,aft2,none⟩ env w (fun u w'=>∃ x,u=r x/\(E' x).holds w'/\Keep e.S w w'/\∀ q,(E' x).S q->(e.S q\/w.heap.size<=q)/\q<w'.heap.size))
  (h:VD P n Q ks ops Hs B0 L fuel (listed.setIfInBounds i true) ((d,v)::env) ((d,none)::A) H Bs)
  (h2:∀ x,VD P n Q ks ops Hs B0 L fuel (listed.setIfInBounds i2 true) ((d2,r x)::env) ((d2,none)::A) (hset H k (E' x)) Bs):VD P n Q ks ops Hs B0 L (fuel+1) listed env A H Bs:=by
 simp only [Prod.mk.injEq] at hi hn
 subst hB
 obtain⟨hi1,hi2⟩:=hi
 obtain⟨hb1,hb2,h3,h4,h5,h6⟩:=hn
 intro hH hA w hI
 refine zle i i2 (R:=fun u w'=>u=v/\w'=w) (Rj:=fun u w'=>∃ x,u=r x/\(E' x).holds w'/\Keep e.S w w'/\∀ q,(E' x).S q->(e.S q\/w.heap.size<=q)/\q<w'.heap.size) hi1 hi2 hr O O hb1 O O hb2 (.inl ⟨v,w,hm w hI,rfl,rfl⟩) (.inl (hm2 w hI)) ?_ ?_
 ·
  rintro _ _ ⟨rfl,rfl⟩
  exact⟨fun _=>(hI.drop j).pick hH h5,h hH hA.none _ hI⟩
 ·
  rintro _ w1 ⟨x,rfl,hh,hk,hS⟩
  have hI':=hI.set h3 hk hh (hE x).1 (hE x).2 hS
  have hH':Has Hs (hset H k (E' x)):=hH.set h3 h6
  exact⟨fun _=>(hI'.drop j).pick hH' h5,h2 x hH' (TgOk.none (hA.res h3 h4)) w1 hI'⟩
theorem znH (i k j:Nat) {β:Type} {e:HE} {E':β->HE} {r:β->Value} (hi:ops[i]?=some ⟨some d,op,ty,ps,aft,g⟩) (hr:Region.ready .any ops listed=[i]) (hn:(Nat.blt d n,gd ops env g,zl H k,qt H k,qo (Hs.map (·.1)),xE k (Hs.map (·.1)))=(true,some true,some e,none,true,true)) (hB:Bs.drop j=B0)
  (hE:∀ x,(E' x).loc/\∀ b,¬ (E' x).fz b) (hm:∀ w,VI Bs H w->yh P ⟨some d,op,ty,ps,aft,g⟩ env w (fun u w'=>∃ x,u=r x/\(E' x).holds w'/\Keep e.S w w'/\∀ q,(E' x).S q->(e.S q\/w.heap.size<=q)/\q<w'.heap.size))
  (h:∀ x,VD P n Q ks ops Hs B0 L fuel (listed.setIfInBounds i true) ((d,r x)::env) ((d,none)::A) (hset H k (E' x)) Bs):VD P n Q ks ops Hs B0 L (fuel+1) listed env A H Bs:=by
 simp only [Prod.mk.injEq] at hn
 subst hB
 obtain⟨h1,h2,h3,h4,h5,h6⟩:=hn
 refine fun hH hA w hI=>zmF i hi hr h1 h2 (.inl (hm w hI)) ?_
 rintro _ w' ⟨x,rfl,hh,hk,hS⟩
 have hI':=hI.set h3 hk hh (hE x).1 (hE x).2 hS
 have hH':Has Hs (hset H k (E' x)):=hH.set h3 h6
 exact⟨(hI'.drop j).pick hH' h5,h x hH' (TgOk.none (hA.res h3 h4)) w' hI'⟩
theorem zna (i k j:Nat) {e e':HE} (hi:ops[i]?=some ⟨none,op,ty,ps,aft,g⟩) (hr:Region.ready .any ops listed=[i]) (hn:(gd ops env g,zl H k,qt H k,qo (Hs.map (·.1)),xE k (Hs.map (·.1)))=(some true,some e,none,true,true)) (hB:Bs.drop j=B0) (hl:e'.loc) (hz:∀ b,¬ e'.fz b)
  (hm:∀ w,VI Bs H w->xD P ⟨none,op,ty,ps,aft,g⟩ env w (fun w'=>e'.holds w'/\Keep e.S w w'/\∀ q,e'.S q->(e.S q\/w.heap.size<=q)/\q<w'.heap.size))
  (h:VD P n Q ks ops Hs B0 L fuel (listed.setIfInBounds i true) env A (hset H k e') Bs):VD P n Q ks ops Hs B0 L (fuel+1) listed env A H Bs:=by
 simp only [Prod.mk.injEq] at hn
 subst hB
 obtain⟨h1,h3,h4,h5,h6⟩:=hn
 refine fun hH hA w hI=>zmG i hi hr h1 (hm w hI) ?_
 rintro w' ⟨hh,hk,hS⟩
 have hI':=hI.set h3 hk hh hl hz hS
 have hH':Has Hs (hset H k e'):=hH.set h3 h6
 exact⟨(hI'.drop j).pick hH' h5,h hH' (hA.res h3 h4) w' hI'⟩
end
end Go.GL
namespace Go.Proofs.YtaenledoagbddaaGreatDoor
open Go.GL Go.WideMaps Go.ChangeMaps
abbrev zhM:={ p:Int × Int // (0<=p.1/\p.1<1000000000)/\0<=p.2/\p.2<1000000000 }
def zaR (k:zhM):Value:=.agg #[.int .i64 k.1.1,.int .i64 k.1.2]
theorem zh9 (k:zhM):∃ l,keyOf Tryz.prog 110 (zaR k)=some l:=by
 obtain⟨⟨a,b⟩,⟨h1,h2⟩,h3,h4⟩:=k
 dsimp only at h1 h2 h3 h4
 have hkt:Tryz.prog.keyType 110=true:=by kernel_rfl
 have hsz:∃ m,Tryz.prog.types.size=m+1:=⟨Tryz.prog.types.size - 1,by kernel_rfl⟩
 have hc:Tryz.prog.cellsOf 110=2:=by kernel_rfl
 have hci:Tryz.prog.cellsOf 3=1:=by kernel_rfl
 have wa:(Lit.int .i64 a).wf=true:=by simp [Lit.wf];rw [show IntKind.i64.min=-9223372036854775808 from rfl];omega
 have wb:(Lit.int .i64 b).wf=true:=by simp [Lit.wf];rw [show IntKind.i64.min=-9223372036854775808 from rfl];omega
 obtain⟨m,hm⟩:=hsz
 refine⟨.string (keyBytes [.int .i64 a,.int .i64 b]),?_⟩
 unfold keyOf zaR
 simp only [tu110]
 rw [zo4 (by simp [hkt,Value.formed,hc]),hm]
 unfold Program.keyLits
 simp only [tu110,Value.cells]
 rw [zo4 (by rw [hc];exact⟨rfl,by kernel_rfl⟩)]
 simp [hci,Program.keyLits,wa,wb]
theorem zha {a b:zhM} (h:zaR a=zaR b):a=b:=by
 have h:=congrArg (fun v=>match v with | Value.agg c=>c.toList | _=>[]) h
 simp [zaR] at h
 exact Subtype.ext (Prod.ext h.1 h.2)
theorem zeF:laidOutB Tryz.prog=true:=by kernel_rfl
theorem zaS:KeyOk Tryz.prog 110 zaR :=
 znw (deep_law_laid zeF (m:=2) (by omega) (of_decide_eq_true (by kernel_rfl)) (by kernel_rfl) (by rw [tu110])) zh9 (fun _ _=>zha) (fun k=>by simp [zaR,Instr.sameBits])
end Go.Proofs.YtaenledoagbddaaGreatDoor
namespace Go.GL
section
variable {P:Program} {env:Env} {w:World} {dst:Option Tmp} {ty:TypeId} {pos:String} {aft:Array Edge} {g:Option (Nat × Bool)}
theorem M.bs0 {t e:TypeId} {k:Nat} (hu:∀ w,(underlying t).run P w=.ok (.slice e) w) (hs:∀ w,(sizeOf e).run P w=.ok k w) :
  yh P ⟨dst,.buildSlice t 0 #[],ty,pos,aft,g⟩ env w (fun u w'=>∃ b,u=.slice (some ⟨b,0,none⟩) 0 0/\New w [] e b w'):=by
 refine⟨.slice (some ⟨w.heap.size,0,none⟩) 0 0,w.alloc (.cells #[] e),?_,_,rfl,New.mk w [] e⟩
 intro n a ha
 have h0:Array.range 0=#[]:=Array.eq_empty_of_size_eq_zero (by simp)
 simp [execOp,Instr.buildSlice,hu,hs,newRow,Instr.fill,h0]
end
end Go.GL
namespace Go.Proofs.YtaenledoagbddaaGreatDoor
open Go.GL
theorem zhb (vs:List Vr) (k:Int) (vv:Value) (D:Nat->Prop) (w:World) (hvs:SlR 5 RVr D w vv vs) (hlen:vs.length<=1000000):Calls Tryz.prog 28 #[vv,.int .i64 k] w (Ret fun r w'=>SlR 5 RVr (fun b=>w.heap.size<=b) w' r (ze k vs)/\Ext w w'):=by
 obtain⟨av,nv,rfl⟩:=hvs.form
 have hvs0:=hvs
 have hE:=Keep.refl (fun _=>False) w
 refine zmb Tryz.func28 O Tryz.ntmps28 O (Gs 7 O (G.mem O O (M.bs0 tR22 ts89) ?_))
 rintro _ w0 ⟨b0,rfl,hg_b0,hs_b0,hB_b0,hk_b0⟩
 obtain⟨hE,hvs⟩:=Tr2 hk_b0 hE hvs
 have ho0:w0.ownsRow 0 89 5 (.slice (some ⟨b0,0,none⟩) 0 0) 0 []:=yG (k:=5) (n:=0) (cap:=0) hB_b0 (zoi _) (by decide) rfl
 refine Gs 10 O (G.loop (σ:=Nat × Value) (fun⟨i,vl⟩=>[(0,.slice av vs.length nv),(1,.int .i64 k),(5,vl),(6,.int .i64 i)]) (fun⟨i,vl⟩=>fun w'=>i<=vs.length/\w'.ownsRow 0 89 5 vl (ze k (vs.take i)).length ((ze k (vs.take i)).flatMap zdb)/\(∀ q,vl.ownBlock=some q->w.heap.size<=q)/\Ext w w') (fun⟨i,vl⟩=>vs.length - i) ((0,.slice (some ⟨b0,0,none⟩) 0 0)) (zlO O) (⟨zo8 _,ho0,fun q hq=>by obtain rfl:b0=q:=Option.some.inj hq;omega,hE⟩) ?_)
 rintro⟨i,vl⟩ w2 ⟨hi,hown,hfr,hE2⟩
 show G _ _ _ _ _ [(0,.slice av vs.length nv),(1,.int .i64 k),(5,vl),(6,.int .i64 i)] _
 have hvs2:=hvs0.ext yW hE2
 refine Gs 9 O (zk6 O (fun hlt=>?_) (fun hlt=>?_))
 ·
  obtain⟨x,he_x,hm_x⟩:=gE_ vs (i) (by omega)
  obtain⟨b_x,o_x,c_x,ha_x,_,hc_x,hR_x⟩:=hvs2.at he_x
  have h1_x:=RVr.one hR_x
  obtain rfl:=hR_x
  have hlt_x:b_x<_:=znV _ _ (hc_x 0 _ rfl)
  have hot:=zax (k:=k) he_x
  have hol:=xQ k (vs.take i)
  rw [zon] at hol
  refine Gs 8 O (zm1 O O (zkP tR22 ts89 O O ha_x (by omega)) (Gs 1 O (zm5 O tg53 (hc_x 1 _ O) (Gs 4 O (zk6 O (fun hkx=>?_) (fun hkx=>?_))))))
  ·
   rw [zo4 hkx] at hot
   refine Gs 4 O (zm1 O O (zkP tR22 ts89 O O ha_x (by omega)) (zm7 O tg89 ts89 hc_x O (G.mem O O (M.buildSlice (cs:=zdb x) [(0,_)] tR22 ts89 tz89 (by decide) O (by kernel_rfl)) ?_)))
   rintro _ w5 ⟨b5,rfl,hg_b5,hs_b5,hB_b5,hk_b5⟩
   have hown5:=zT hown hk_b5 (fun _ _ h=>h)
   have hE5:=hE2.ext hk_b5
   have hs5:=hE5.size
   refine G.mem O O (M.append Tryz.underlying22 Tryz.el89 O (by decide) O O hown5 O (Cells.add hB_b5.cells) (zdR _) (by omega) (by omega)) ?_
   rintro vl' w6 ⟨hown6,hfr6,hk6,_⟩
   refine Ga 9 O (by omega) (zkh ((i+1,vl')) (zlO O) (⟨by omega,?_,?_,hE5.trans hk6 (fun q hq h=>by have:=hfr q h;omega)⟩) (by first | omega | (dsimp only;omega)))
   ·
    rw [hot,zo1,List.flatMap_append]
    exact hown6
   ·
    intro q hq
    rcases hfr6 with h | ⟨q',h,h'⟩
    . exact hfr q (by rw [<- h];exact hq)
    . rw [h] at hq;cases hq;omega
  ·
   rw [zo3 hkx,List.append_nil] at hot
   refine Ga 8 O (by omega) (zkh ((i+1,vl)) (zlO O) (⟨by omega,by rw [hot];exact hown,hfr,hE2⟩) (by first | omega | (dsimp only;omega)))
 ·
  obtain rfl:i=vs.length:=by omega
  rw [znY] at hown
  refine Gs 12 O (zkq Tryz.results28 O ⟨_,rfl,zli (by omega) zdb zdQ (fun x _=>rfl) hown hfr,hE2⟩)
theorem jp (vs:List Vr) (k:Int) (vv:Value) (D:Nat->Prop) (W:World) (hk:0<=k/\k<=3) (hg:∀ v ∈ vs,yp (v.low,v.high)) (hlen:vs.length<=1000000) (hvs:SlR 5 RVr D W vv vs) :
  Calls Tryz.prog 36 #[vv,.int .i64 k] W (Ret fun r w'=>r=.tuple #[.int .i64 ((zk k vs).getD 0),.int .i64 (if (zk k vs).isSome then 0 else 4)]/\Ext W w'):=by
 have hgo:∀ v ∈ ze k vs,yp (v.low,v.high):=fun v hv=>hg v (List.mem_filter.1 hv).1
 have hsp:zY k (ze k vs) 1=zk k vs:=yJ k vs 1
 have hall:∀ v ∈ ze k vs,v.kind=k:=fun v hv=>by simpa using (List.mem_filter.1 hv).2
 have hol:=znZ (xQ k vs) hlen
 refine zmb Tryz.func36 O Tryz.ntmps36 O (zmm ?_)
 refine Vs 8 O ?_
 refine zmM (σ:=Unit) [0,1] [] [] O (fun e u=>(23,.bool (decide (¬ (0<=k/\k<=3))))::e) (fun e u=>e) (fun u=>True) (fun _=>rfl) (fun _=>rfl) ?_ ?_
 ·
  refine Vs 4 O ?_
  refine V.sp 12 O (fun k1_=>?_) (fun k1_=>?_)
  ·
   refine Vs 4 O ?_
   refine V.sp 16 O (fun k2_=>?_) (fun k2_=>?_)
   ·
    refine Vs 4 O ?_
    refine V.sp 20 O (fun k3_=>?_) (fun k3_=>?_)
    ·
     refine Vs 4 O ?_
     refine zkn (()) (Sub.cons (by first | exact zgF (by omega) | exact zgG (by omega) | exact zgH (by omega)) (zlO O)) (zlP O) (trivial) 0 O O
    ·
     refine Vs 4 O ?_
     refine zkn (()) (Sub.cons (by first | exact zgF (by omega) | exact zgG (by omega) | exact zgH (by omega)) (zlO O)) (zlP O) (trivial) 0 O O
   ·
    refine Vs 8 O ?_
    refine zkn (()) (Sub.cons (by first | exact zgF (by omega) | exact zgG (by omega) | exact zgH (by omega)) (zlO O)) (zlP O) (trivial) 0 O O
  ·
   refine Vs 12 O ?_
   refine zkn (()) (Sub.cons (by first | exact zgF (by omega) | exact zgG (by omega) | exact zgH (by omega)) (zlO O)) (zlP O) (trivial) 0 O O
 rintro u _
 refine Vs 1 O ?_
 refine zk7 O (fun h0=>?_) (fun h0=>?_)
 . exact absurd hk h0
 ·
  refine Vs 6 O ?_
  refine zmD Tryz.call28 O (fun w hI=>zhb vs k vv D w (Tr1 hI.k0 hvs) hlen) ?_
  rintro l w1 w2 hI1 hk12 hos hlow
  obtain⟨al,cl,rfl⟩:=hos.form
  have hml:=hos.max
  refine Vs 10 O ?_
  refine zmL (σ:=Nat) [6] [] [] O (fun e i=>(7,.int .i64 i)::e) (fun e i=>e) (fun i=>i<=(ze k vs).length) (fun i=>(ze k vs).length - i) (0) (zlO O) (zlP O) (fun _=>rfl) (fun _=>rfl) (fun _=>rfl) (zo8 _) ?_
  rintro i hi
  refine Vs 9 O ?_
  refine zk7 O (fun hlt=>?_) (fun hlt=>?_)
  ·
   refine Vs 5 O ?_
   obtain⟨x,he_x,hm_x⟩:=gE_ (ze k vs) (i) (by omega)
   obtain⟨b_x,o_x,c_x,ha_x,hd_x,hc_x,hR_x⟩:=hos.atD he_x
   obtain rfl:=hR_x
   refine zmJ 1000 0 O O (fun h_=>by have h1_:=hlow _ h_;have h2_:=hd_x;first | omega | exact h1_ h2_) hc_x ?_
   have hgx:=hgo x hm_x
   unfold yp at hgx
   dsimp only at hgx
   refine Vq (by kernel_rfl) ?_
   refine Vs 2 O ?_
   refine zmt 1000 tR22 ts89 O ha_x (by omega) (_) (rfl) O ?_
   refine Vs 4 O ?_
   refine zmt 1000 tR22 ts89 O ha_x (by omega) (_) (rfl) O ?_
   refine Vs 4 O ?_
   refine V.sp 44 O (fun b1=>?_) (fun b1=>?_)
   . exact absurd b1 (by omega)
   ·
    refine Vs 2 O ?_
    refine zmt 1000 tR22 ts89 O ha_x (by omega) (_) (rfl) O ?_
    refine Vs 5 O ?_
    refine V.sp 52 O (fun b2=>?_) (fun b2=>?_)
    . exact absurd b2 (by omega)
    ·
     refine Vs 2 O ?_
     refine zmt 1000 tR22 ts89 O ha_x (by omega) (_) (rfl) O ?_
     refine Vs 6 O ?_
     refine zk7 O (fun b3=>?_) (fun b3=>?_)
     . exact absurd b3 (by omega)
     ·
      refine Va 8 O (by omega) ?_
      refine zki (i+1) (zlO O) (zlP O) (by omega) (by first | omega | (dsimp only;omega)) 0 O O
  ·
   refine Vs 17 O ?_
   refine zmL (σ:=Nat × Int) [6] [] [] O (fun e ⟨j,n⟩=>(8,.int .i64 n)::(9,.int .i64 j)::e) (fun e ⟨j,n⟩=>e) (fun⟨j,n⟩=>j<=(ze k vs).length/\zY k ((ze k vs).take j) 1=some n) (fun⟨j,n⟩=>(ze k vs).length - j) ((0,1)) (zlO O) (zlP O) (fun _=>rfl) (fun _=>rfl) (fun _=>rfl) (⟨zo8 _,rfl⟩) ?_
   rintro⟨j,n⟩ ⟨hj,hs⟩
   show V _ _ _ _ _ ((8,.int .i64 n)::(9,.int .i64 j)::_) _ (_) _
   have hn:=yk k ((ze k vs).take j) 1 n (fun v hv=>hgo v (List.mem_of_mem_take hv)) (by omega) (by omega) hs
   refine Vs 9 O ?_
   refine zk7 O (fun hlt2=>?_) (fun hlt2=>?_)
   ·
    refine Vs 5 O ?_
    obtain⟨x,he_x,hm_x⟩:=gE_ (ze k vs) (j) (by omega)
    obtain⟨b_x,o_x,c_x,ha_x,hd_x,hc_x,hR_x⟩:=hos.atD he_x
    obtain rfl:=hR_x
    refine zmJ 2000 0 O O (fun h_=>by have h1_:=hlow _ h_;have h2_:=hd_x;first | omega | exact h1_ h2_) hc_x ?_
    have hgx:=hgo x hm_x
    unfold yp at hgx
    dsimp only at hgx
    have hp:=zda (n:=n) (s:=x.high - x.low+1) hn.1 hn.2 (by omega) (by omega)
    have hst:zY k ((ze k vs).take (j+1)) 1=if 4096<n*(x.high - x.low+1) then none else some (n*(x.high - x.low+1)):=by
     rw [zg he_x,zH,hs];simp [zY,hall x hm_x]
    refine Vq (by kernel_rfl) ?_
    refine Vs 3 O ?_
    refine zmt 2000 tR22 ts89 O ha_x (by omega) (_) (rfl) O ?_
    refine Vs 4 O ?_
    refine zmt 2000 tR22 ts89 O ha_x (by omega) (_) (rfl) O ?_
    refine Va 14 O (by omega) ?_
    refine zk7 O (fun hb=>?_) (fun hb=>?_)
    ·
     rw [zo4 hb] at hst
     have hnone:zk k vs=none:=by
      rw [<- hsp,<- List.take_append_drop (j+1) (ze k vs),zH,hst];rfl
     refine Vs 12 O ?_
     refine zku Tryz.results36 O O (fun w hI=>⟨_,rfl,by rw [hnone];rfl,hI.k1⟩)
    ·
     rw [zo3 hb] at hst
     refine Va 8 O (by omega) ?_
     refine zki ((j+1,n*(x.high - x.low+1))) (zlO O) (zlP O) (⟨by omega,hst⟩) (by first | omega | (dsimp only;omega)) 0 O O
   ·
    have:j=(ze k vs).length:=by omega
    subst this
    rw [znY,hsp] at hs
    refine Vs 13 O ?_
    refine zku Tryz.results36 O O (fun w hI=>⟨_,rfl,by rw [hs];rfl,hI.k1⟩)
def zig (f:Fl) (s:Int):List Int:=if zz 1 f.vars s=0 then (yt (ze 1 f.vars) s).1 else []
def spN (f:Fl):Nat:=((zk 1 f.vars).getD 0).toNat
structure ValidA (a:Ac):Prop where
 mode:a.mode=0\/a.mode=1
 b1:1<=a.budget
 b2:a.budget<=1048576
 s1:1<=a.spent
 s2:a.spent<=a.budget
 l1:1<=a.left.length
 l2:a.left.length<=4096
 rng:∀ x ∈ a.left,0<=x/\x<4096
 asc:a.left.Pairwise (·<·)
instance (a:Ac):Decidable (ValidA a) :=
 if h:(a.mode=0\/a.mode=1)/\1<=a.budget/\a.budget<=1048576/\1<=a.spent/\a.spent<=a.budget/\1<=a.left.length/\a.left.length<=4096/\(∀ x ∈ a.left,0<=x/\x<4096)/\a.left.Pairwise (·<·) then
  isTrue ⟨h.1,h.2.1,h.2.2.1,h.2.2.2.1,h.2.2.2.2.1,h.2.2.2.2.2.1,h.2.2.2.2.2.2.1,h.2.2.2.2.2.2.2.1,h.2.2.2.2.2.2.2.2⟩
 else isFalse fun g=>h ⟨g.1,g.2,g.3,g.4,g.5,g.6,g.7,g.8,g.9⟩
def zhN (f:Fl) (l:List Int):Prop:=∀ r ∈ l,0<=r/\r<(spN f:Int)
instance (f:Fl) (l:List Int):Decidable (zhN f l):=by unfold zhN;infer_instance
abbrev Qu:=Int × List Int
theorem RFl.wide {D D':Nat->Prop} {w:World} {f:Fl} {v1 v2 v3:Value} (h:RFl D w f v1 v2 v3) (hD:∀ q,D q->D' q):RFl D' w f v1 v2 v3:=⟨h.vars.wide yW hD,h.hatches.wide yX hD,h.body.wide zf hD⟩
def zgv (vs:List Vr) (s p r:Int):Int:=if zz 1 vs s ≠ 0 then zz 1 vs s else if zz 2 vs p ≠ 0 then zz 2 vs p else zz 3 vs r
theorem zih {k:Int} {vs:List Vr} (hg:∀ v ∈ vs,yp (v.low,v.high)) (h:(zk k vs).isSome=true):zz k vs 0=0:=by
 obtain⟨m,hm⟩:=Option.isSome_iff_exists.1 h
 have:=yk k vs 1 m hg (by omega) (by omega) hm
 unfold zz
 rw [zo4 h,hm]
 simp only [Option.getD_some]
 rw [zo3 (by omega)]
end Go.Proofs.YtaenledoagbddaaGreatDoor
namespace Go.GL
theorem znI {P:Program} {env:Env} {w:World} {dst:Option Tmp} {ty:TypeId} {pos:String} {aft:Array Edge} {g:Option (Nat × Bool)} {pt it e:TypeId} {x y:Operand} {b c:Nat} {l:List UInt8} (hp:P.underlying pt=some (.pointer e)) (hc:P.cellsOf e=1) (hx:ev env x=some (.pointer (some ⟨b,0,none⟩))) (hy:ev env y=some (.int .i64 l.length)) (h0:l ≠ []) (hown:w.ownsRow 0 e 1 (.slice (some ⟨b,0,none⟩) l.length c) l.length (Lib.byteCells l)) :
  yh P ⟨dst,.call ⟨.builtin .unsafeString,#[x,y],#[pt,it]⟩,ty,pos,aft,g⟩ env w (fun u w'=>u=.string ⟨l.toArray⟩/\HE.holds w' (.res (fun q=>q=b) (fun _=>True))/\Keep (HE.S (.row e 1 (.slice (some ⟨b,0,none⟩) l.length c) l.length (Lib.byteCells l))) w w'/\∀ q,HE.S (.res (fun q=>q=b) (fun _=>True)) q->(HE.S (.row e 1 (.slice (some ⟨b,0,none⟩) l.length c) l.length (Lib.byteCells l)) q\/w.heap.size<=q)/\q<w'.heap.size):=by
 obtain⟨u,w',hr,rfl,hk⟩:=M.unsafeString (dst:=dst) (ty:=ty) (pos:=pos) (aft:=aft) (g:=g) (it:=it) hp hc hx hy h0 hown
 refine⟨_,w',hr,rfl,trivial,hk.mono fun q _ hq=>by show some b=some q;rw [hq],fun q hq=>?_⟩
 have hq:q=b:=hq
 subst hq
 exact⟨.inl rfl,Nat.lt_of_lt_of_le (xi hown O) hk.size⟩
end Go.GL
namespace Go.Proofs.YtaenledoagbddaaGreatDoor
open Go.GL
theorem zcO (p:Value) (b bq cq:Nat) (l:List UInt8) (h0:l ≠ []) (W:World) (hB:Blk W b [p,.slice (some ⟨bq,0,none⟩) l.length cq] 162) (hR:W.ownsRow 0 5 1 (.slice (some ⟨bq,0,none⟩) l.length cq) l.length (Lib.byteCells l)) (hne:(Value.slice (some ⟨bq,0,none⟩) l.length cq).ownBlock ≠ some b) :
  Calls Tryz.prog 128 #[.pointer (some ⟨b,0,none⟩)] W (Ret fun r w'=>r=.string ⟨l.toArray⟩/\Blk w' b [p,.slice (some ⟨bq,0,none⟩) l.length cq] 162/\Keep (fun q=>q=b\/some bq=some q) W w'):=by
 have hl0:=List.length_pos_iff.2 h0
 have hcap:=(jU hR).choose_spec.2.1
 refine zma Tryz.func128 O Tryz.ntmps128 O (zn0 [(900,.own b [p,.slice (some ⟨bq,0,none⟩) l.length cq] 162),(901,.row 5 1 (.slice (some ⟨bq,0,none⟩) l.length cq) l.length (Lib.byteCells l))] (zcM (k1:=900) (k2:=901) hB hR hne).1 (zcM (k1:=900) (k2:=901) hB hR hne).2 ?_)
 refine zms 0 900 0 O O ?_
 refine Vs 6 O ?_
 refine Vw [900] [] O ?_
 refine Vd [0,1,2,3,5,6,7,8,9] 0 (by kernel_rfl) O O O ?_
 refine zm3 4 0 O (by kernel_rfl) O O (fun w hI=>znk O (by omega)) ?_
 refine zng 10 901 0 (e':=.res (fun q=>q=bq) (fun _=>True)) (r:=.string ⟨l.toArray⟩) O (by kernel_rfl) O O (fun _ _ _ _ _ _=>trivial) (fun _ h=>h) (fun w hI=>znI (e:=5) (c:=cq) (l:=l) Tryz.underlying196 (by kernel_rfl) O O h0 (hI.at 901 O)) ?_
 refine Vd [11] 0 (by kernel_rfl) O O O ?_
 refine zlb (by kernel_rfl) ?_
 refine Vs 2 O ?_
 refine zkr Tryz.results128 O (fun w hI=>⟨_,rfl,rfl,hI.at 900 rfl,hI.k0.mono (fun q _ h=>zjC h)⟩)
theorem zbV (p:Value) (b:Nat) (W:World) (hB:Blk W b [p,.slice none 0 0] 162) :
  Calls Tryz.prog 128 #[.pointer (some ⟨b,0,none⟩)] W (Ret fun r w'=>r=.string ⟨[].toArray⟩/\Blk w' b [p,.slice none 0 0] 162/\Keep (fun q=>q=b) W w'):=by
 refine zma Tryz.func128 O Tryz.ntmps128 O (zn0 [(900,.own b [p,.slice none 0 0] 162)] (fun x hx=>by rw [zob] at hx;subst hx;exact⟨hB,trivial,fun _ h=>h,fun q hq=>by have hq:q=b:=hq;rw [hq];exact hB.lt⟩) (List.pairwise_singleton _ _) ?_)
 refine zms 0 900 0 O O ?_
 refine Vs 6 O ?_
 refine Vw [900] [] O ?_
 refine Vd [0,1,2,3,5,6,7,8,9] 0 (by kernel_rfl) O O O ?_
 refine zm3 4 0 O (by kernel_rfl) O O (fun w hI=>znl O) ?_
 refine zm3 10 0 O (by kernel_rfl) O O (fun w hI=>znm O O) ?_
 refine Vd [11] 0 (by kernel_rfl) O O O ?_
 refine zlb (by kernel_rfl) ?_
 refine Vs 2 O ?_
 refine zkr Tryz.results128 O (fun w hI=>⟨_,rfl,rfl,hI.at 900 rfl,hI.k0.mono (fun q _ ⟨x,hx,hq⟩=>by rw [zob] at hx;subst hx;exact hq)⟩)
theorem zhO {H:Hp} {k1 k2 b:Nat} {v p p' v':Value} {m:Nat} {bs:List Value} {w w':World} (h0:zl H k1=some (.own b [p,v] 162)) (h1:zl H k2=some (.row 5 1 v m bs)) (hB:Blk w' b [p',v'] 162) (hk:Keep (fun q=>q=b\/v.ownBlock=some q) w w'):Hands H [k1,k2] [(k1,.own b [p',v'] 162)] w w':=by
 have i0:∀ q,q=b->InS H [k1,k2] q:=fun q hq=>⟨_,zi h0,by simp [zbw,Nat.beq_refl],hq⟩
 have i1:∀ q,v.ownBlock=some q->InS H [k1,k2] q:=fun q hq=>⟨_,zi h1,by simp only [zbw];cases Nat.beq k1 k2 <;> simp [Nat.beq_refl],hq⟩
 refine⟨hk.mono fun q _ hq=>hq.elim (i0 q) (i1 q),fun x hx=>?_,List.pairwise_singleton _ _⟩
 rw [zob] at hx
 subst hx
 exact⟨hB,trivial,fun _ h=>h,fun q hq=>⟨.inl (i0 q hq),by have hq:q=b:=hq;rw [hq];exact hB.lt⟩⟩
theorem zfN {Bs:zP} {H:Hp} {k1 k2 b:Nat} {v p:Value} {l:List UInt8} {w:World} (hI:VI Bs H w) (h0:zl H k1=some (.own b [p,v] 162)) (h1:zl H k2=some (.row 5 1 v l.length (Lib.byteCells l))) (hne:Nat.beq k1 k2=false) (hv:l=[]->v=.slice none 0 0) :
  Calls Tryz.prog 128 #[.pointer (some ⟨b,0,none⟩)] w (Ret fun r w'=>∃ _x:Unit,r=.string ⟨l.toArray⟩/\Hands H [k1,k2] [(k1,.own b [p,v] 162)] w w'):=by
 have hB:Blk w b [p,v] 162:=hI.at k1 h0
 have hR:w.ownsRow 0 5 1 v l.length (Lib.byteCells l):=hI.at k2 h1
 have hap:v.ownBlock ≠ some b:=fun h=>zq hI.apart h0 h1 hne b rfl h
 by_cases hl:l=[]
 ·
  obtain rfl:=hv hl
  subst hl
  refine (zbV p b w hB).mono ?_
  rintro e w' ⟨_,rfl,rfl,h2,h3⟩
  exact⟨_,rfl,(),rfl,zhO h0 h1 h2 (h3.mono fun q _ hq=>.inl hq)⟩
 ·
  have hpos:=List.length_pos_iff.2 hl
  obtain⟨g,cap,rfl⟩:∃ g cap,v=.slice (some ⟨g,0,none⟩) l.length cap:=by
   rcases hR.2 with⟨_,h⟩ | ⟨g,cap,cur,hv,_⟩
   . omega
   . exact⟨g,cap,hv⟩
  refine (zcO p b g cap l hl w hB hR hap).mono ?_
  rintro e w' ⟨_,rfl,rfl,h2,h3⟩
  exact⟨_,rfl,(),rfl,zhO h0 h1 h2 h3⟩
theorem zhc {Bs:zP} {H:Hp} {k1 k2 b m:Nat} {v p:Value} {bs:List Value} {s:ByteArray} {w:World} (hI:VI Bs H w) (h0:zl H k1=some (.own b [p,v] 162)) (h1:zl H k2=some (.row 5 1 v m bs)) (hne:Nat.beq k1 k2=false) (hp:p=.pointer none\/p=.pointer (some ⟨b,0,none⟩)) (hs:0<s.size) (hlen:m+s.size<=140737488355328) :
  Calls Tryz.prog 125 #[.pointer (some ⟨b,0,none⟩),.string s] w (Ret fun r w'=>∃ v',r=.tuple #[.int .i64 s.size,.nilIface]/\Hands H [k1,k2] (ziR k1 k2 b (.pointer (some ⟨b,0,none⟩)) v' (m+s.size) (bs++Lib.strCells s)) w w'):=by
 have hB:Blk w b [p,v] 162:=hI.at k1 h0
 have hR:w.ownsRow 0 5 1 v m bs:=hI.at k2 h1
 have hm:bs.length=m:=by have:=hR.1;omega
 have hap:v.ownBlock ≠ some b:=fun h=>zq hI.apart h0 h1 hne b rfl h
 refine (zdq p v b bs s hp w hB (by rw [hm];exact hR) hap hs (by omega)).mono ?_
 rintro e w' ⟨_,rfl,rfl,v',h2,h3,h4,h5,h6⟩
 rw [hm] at h3
 have i0:∀ q,q=b->InS H [k1,k2] q:=fun q hq=>⟨_,zi h0,by simp [zbw,Nat.beq_refl],hq⟩
 have i1:∀ q,v.ownBlock=some q->InS H [k1,k2] q:=fun q hq=>⟨_,zi h1,by simp only [zbw];rw [hne];simp [Nat.beq_refl],hq⟩
 obtain⟨l1,l2⟩:=zcM (k1:=k1) (k2:=k2) h2 h3 h4
 refine⟨_,rfl,v',rfl,h5.mono fun q _ hq=>hq.elim (i0 q) (i1 q),fun x hx=>?_,l2⟩
 obtain⟨g1,g2,g3,g4⟩:=l1 x hx
 refine⟨g1,g2,g3,fun q hq=>⟨?_,g4 q hq⟩⟩
 simp only [zo9,List.not_mem_nil,or_false] at hx
 rcases hx with rfl | rfl
 . exact .inl (i0 q hq)
 . exact (h6 q hq).imp (i1 q) id
structure ObB (o:List Int × Int):Prop where
 len:o.1.length<=100000
 outs:∀ x ∈ o.1,-1048576<=x/\x<=1048576
 t0:0<=o.2
 t1:o.2<=1000000000000
abbrev zgw (σ:Sg):Prop:=∀ x ∈ σ.outs,-1048576<=x/\x<=1048576
theorem zfO {f:Fl} {hs:List Int} {s:St} {σ:Sg} (hg:∀ v ∈ f.vars,yp (v.low,v.high)) (ho:StepOk f s) (hV:InV f.vars σ.vals) (h:zgw σ):zgw (jk f hs s σ):=by
 unfold jk
 split
 . exact h
 split
 ·
  intro x hx
  rcases zoc.1 hx with hx | hx
  . exact h x hx
  ·
   rw [zob] at hx
   subst hx
   obtain⟨r,hr⟩:=Option.isSome_iff_exists.1 ho.ranged
   have h1:=zfn hg hV s.term ho.formed r hr
   have h2:=qR hg s.term ho.formed r hr
   unfold yp at h2
   omega
 split
 . exact h
 split
 . exact h
 . exact h
theorem zcP {f:Fl} {body:Sg->Sg} {s:St} (ho:StepOk f s) {b:Nat} (hb:∀ N σ,SgB f N σ->SgB f (N+b) (body σ)) (hO:∀ N σ,SgB f N σ->zgw σ->zgw (body σ)):∀ (k N:Nat) (σ:Sg),SgB f N σ->zgw σ->zgw (qf body s.cost s.term k σ)
 | 0,N,σ,_,h=>h
 | k+1,N,σ,hB,h=>by
  unfold qf
  have h1:=hB.cost ho
  split
  . exact h
  . exact zcP ho hb hO k _ _ (hb _ _ h1) (hO _ _ h1 h)
theorem zii {f:Fl} {hs:List Int} (hg:∀ v ∈ f.vars,yp (v.low,v.high)) (l:List St):PreOk f l->∀ N σ,SgB f N σ->zgw σ->zgw (exL f hs l σ):=by
 induction l using zlH with
 | h l ih =>
 intro hp
 have key:∀ r:List St,(∀ x ∈ r,x ∈ l)->∀ N σ,SgB f N σ->zgw σ->zgw (exL f hs r σ):=by
  intro r
  induction r with
  | nil=>intro _ N σ _ h;exact h
  | cons x r ihr =>
   intro hm N σ hB h
   have hpx:=hp.kids (hm x (znX ..))
   obtain⟨⟨ho,hse,hn4⟩,hp1,hp2⟩:=hpx
   obtain⟨i1,i2⟩:=ih x (hm x (znX ..))
   rw [exL]
   have hx1:PreOk f [x]:=fun s hs=>hp s (by
    obtain⟨a,b,rfl⟩:=List.append_of_mem (hm x (znX ..))
    rw [jh,show x::b=[x]++b from rfl,jh]
    simp [hs])
   have hB':=zaI (hs:=hs) hg [x] hx1 N σ hB
   have hxx:exL f hs [x] σ=exS f hs x σ:=rfl
   rw [hxx] at hB'
   refine ihr (fun y hy=>hm y (znW _ hy)) _ _ hB' ?_
   rw [jK]
   split
   ·
    split
    . exact i1 hp1 _ _ (hB.cost ho) h
    . exact i2 hp2 _ _ (hB.cost ho) h
   ·
    split
    . exact zcP ho (zaI hg x.thn hp1) (i1 hp1) _ _ _ hB h
    . exact zfO hg ho hB.inv h
 exact key l (fun x h=>h)
theorem zhd {α:Type} {k:Nat} {R:Rel α} {D:Nat->Prop} {w:World} {n c:Nat} {l:List α} (h:SlR k R D w (.slice none n c) l):l=[]:=by
 cases l with
 | nil=>rfl
 | cons x r =>
  obtain⟨ao,cap,h1,_,_,h4⟩:=h
  obtain⟨b,o,cs,h5,_⟩:=h4 0 x rfl
  cases h1
  cases h5
theorem zfP (l:List Int) (hlen:l.length<=17592186044416) (v:Value) (D:Nat->Prop) (W:World) (hl:SlR 1 zB D W v l):Calls Tryz.prog 124 #[v] W (Ret fun r w'=>SlR 1 zB (fun b=>W.heap.size<=b) w' r l/\Ext W w'):=by
 obtain⟨ao,co,rfl⟩:=hl.form
 refine zma Tryz.func124 O Tryz.ntmps124 O (zmm ?_)
 refine Vs 9 O ?_
 refine zm2 O (fun w hI=>zls tu27 O) ?_
 cases ao
 ·
  obtain rfl:=zhd hl
  refine Vs 2 O ?_
  refine V.bool O (fun h=>?_) (fun h=>?_)
  ·
   refine Vs 7 O ?_
   refine zkr Tryz.results124 O (fun w hI=>⟨_,rfl,SlR.nil,hI.k0⟩)
  . cases h
 ·
  refine Vs 2 O ?_
  refine V.bool O (fun h=>?_) (fun h=>?_)
  . cases h
  ·
   refine Vs 4 O ?_
   refine V.bs0 5 tR27 ts3 O (fun b5=>?_)
   refine Vs 1 O ?_
   refine zmQ 5 (fun x=>[zd x]) (fun _=>rfl) (by simp [Value.oneCell']) zbO tu27 Tryz.el3 O (by decide) O (fun w hI=>⟨_,Tr1 hI.k0 hl⟩) (by omega) (by omega) (fun u5=>?_)
   refine zmK 5 O (e':=.row 3 1 u5 l.length (l.map zd)) (by rw [Nat.zero_add,List.nil_append,<- List.map_eq_flatMap]) ?_
   refine Vs 4 O ?_
   refine zkr Tryz.results124 O (fun w hI=>⟨_,rfl,zlh zd (fun _ _=>rfl) (hI.at 5 O) (fun b hb=>hI.own 5 0 O O b hb),hI.k0⟩)
abbrev Cl2:={ c:List Value // c.length=2/\∀ u ∈ c,u.oneCell'=true }
def RCl:Rel Cl2:=fun _ _ x cs=>cs=x.1
theorem zfQ:zW RCl:=fun _ _ _ _ _ _ _ _ h=>h
instance:StC RCl:=⟨zfQ⟩
end Go.Proofs.YtaenledoagbddaaGreatDoor
namespace Go.GL
open Go.Sort Go.Proofs
theorem zhe {w w':World} (h:Ext w w'):∃ q os,w'=grow (w.drewN q) os:=by
 refine⟨w'.drawn - w.drawn,w'.heap.extract w.heap.size w'.heap.size,?_⟩
 have hd:=h.drawn
 have hh:w'.heap=w.heap++w'.heap.extract w.heap.size w'.heap.size:=by
  apply Array.ext_getElem?
  intro i
  by_cases hi:i<w.heap.size
  ·
   rw [Array.getElem?_append_left hi]
   exact h.block i hi (fun h=>h)
  ·
   rw [Array.getElem?_append_right (by omega),Array.getElem?_extract]
   by_cases hi2:i<w'.heap.size
   . rw [zo4 (by omega),show w.heap.size+(i - w.heap.size)=i from by omega]
   . rw [zo3 (by omega),Array.getElem?_eq_none (by omega)]
 have:∀ (a b:World),a.heap=b.heap->a.tape=b.tape->a.drawn=b.drawn->a.os=b.os->a.output=b.output->a=b:=by
  intro a b h1 h2 h3 h4 h5
  cases a;cases b
  simp at h1 h2 h3 h4 h5
  subst h1 h2 h3 h4 h5
  rfl
 refine this _ _ hh h.tape ?_ h.os h.output
 show w'.drawn=w.drawn+(w'.drawn - w.drawn)
 omega
section
variable {α:Type} [Inhabited α] {enc:α->List Value} {k:Nat}
theorem zds {l:List α} {d:Array α} (h:PermIn 0 l.toArray.size l.toArray d):d.toList.Perm l:=by
 obtain⟨h1,_,h3⟩:=h
 have e1:l.toArray.extract 0 l.toArray.size=l.toArray:=by simp
 have e2:d.extract 0 l.toArray.size=d:=by rw [<- h1];simp
 rw [e1,e2] at h3
 exact h3
theorem zbW {lt:α->α->Bool} {d:Array α} {n:Nat} (hn:d.size=n) (h:SortedIn lt 0 n d):d.toList.Pairwise (fun a b=>lt b a=false):=by
 subst hn
 rw [List.pairwise_iff_getElem]
 intro i j hi hj hij
 have:=h i j (zo8 _) hij (by simpa using hj)
 rw [getElem!_pos _ i (by simpa using hi),getElem!_pos _ j (by simpa using hj)] at this
 simpa using this
end
end Go.GL
namespace Go.Proofs
open Go.Shelf
def Tryz.laysSlF06_ren:Go.Shelf.Ren:=⟨fun | 6=>90 | 15=>130 | 14=>136 | 28=>167 | 29=>168 | 20=>184 | 21=>185 | 22=>186 | 23=>187 | 24=>188 | 25=>189 | 26=>190 | 27=>191 | 46=>218 | 47=>210 | 48=>211 | 49=>219 | 50=>220 | 57=>233 | n=>n,fun | 22=>37 | 24=>55 | 25=>112 | 3=>3 | 39=>172 | 0=>0 | 53=>205 | 55=>207 | 4=>4 | 46=>199 | 45=>198 | 50=>108 | 5=>5 | 9=>9 | 66=>234 | 70=>238 | 76=>251 | 77=>180 | n=>n,fun | n=>n⟩
theorem Tryz.laysSlF06:Go.Proofs.SlLaysF0.n6 Tryz.prog Tryz.laysSlF06_ren:={
 mixed:=by kernel_rfl
 f6:=⟨Tryz.f90.name,by decide,Tryz.func90.trans (congrArg some (by kernel_rfl))⟩
 f14:=⟨Tryz.f136.name,by decide,Tryz.func136.trans (congrArg some (by kernel_rfl))⟩
 f15:=Tryz.func130.trans (congrArg some (by kernel_rfl))
 f20:=⟨Tryz.f184.name,by decide,Tryz.func184.trans (congrArg some (by kernel_rfl))⟩
 f21:=⟨Tryz.f185.name,by decide,Tryz.func185.trans (congrArg some (by kernel_rfl))⟩
 f22:=⟨Tryz.f186.name,by decide,Tryz.func186.trans (congrArg some (by kernel_rfl))⟩
 f23:=⟨Tryz.f187.name,by decide,Tryz.func187.trans (congrArg some (by kernel_rfl))⟩
 f24:=⟨Tryz.f188.name,by decide,Tryz.func188.trans (congrArg some (by kernel_rfl))⟩
 f25:=⟨Tryz.f189.name,by decide,Tryz.func189.trans (congrArg some (by kernel_rfl))⟩
 f26:=⟨Tryz.f190.name,by decide,Tryz.func190.trans (congrArg some (by kernel_rfl))⟩
 f27:=⟨Tryz.f191.name,by decide,Tryz.func191.trans (congrArg some (by kernel_rfl))⟩
 f28:=Tryz.func167.trans (congrArg some (by kernel_rfl))
 f29:=Tryz.func168.trans (congrArg some (by kernel_rfl))
 f46:=⟨Tryz.f218.name,by decide,Tryz.func218.trans (congrArg some (by kernel_rfl))⟩
 f47:=Tryz.func210.trans (congrArg some (by kernel_rfl))
 f48:=Tryz.func211.trans (congrArg some (by kernel_rfl))
 f49:=⟨Tryz.f219.name,by decide,Tryz.func219.trans (congrArg some (by kernel_rfl))⟩
 f50:=⟨Tryz.f220.name,by decide,Tryz.func220.trans (congrArg some (by kernel_rfl))⟩
 f57:=⟨Tryz.f233.name,by decide,Tryz.func233.trans (congrArg some (by kernel_rfl))⟩
 t0:=tu0
 a0:=tg0
 z0:=ts0
 v0:=tz0
 t3:=tu3
 a3:=tg3
 z3:=ts3
 v3:=tz3
 t4:=tu4
 a4:=tg4
 z4:=ts4
 v4:=tz4
 t5:=tu5
 a5:=tg5
 z5:=ts5
 v5:=tz5
 t9:=tu9
 a9:=tg9
 z9:=ts9
 v9:=tz9
 t22:=tu37
 a22:=Tryz.isAgg37
 z22:=Tryz.sizeOf37
 v22:=Tryz.zeroValue37
 t25:=Tryz.underlying112
 a25:=Tryz.isAgg112
 z25:=Tryz.sizeOf112
 v25:=Tryz.zeroValue112
 t39:=tu172
 a39:=Tryz.isAgg172
 z39:=ts172
 v39:=tz172
 t45:=tu198
 a45:=Tryz.isAgg198
 z45:=Tryz.sizeOf198
 v45:=Tryz.zeroValue198
 t46:=tu199
 a46:=Tryz.isAgg199
 z46:=Tryz.sizeOf199
 v46:=Tryz.zeroValue199
 t50:=tu108
 a50:=Tryz.isAgg108
 z50:=Tryz.sizeOf108
 v50:=Tryz.zeroValue108
 t53:=tu205
 a53:=Tryz.isAgg205
 z53:=ts205
 v53:=tz205
 t55:=tu207
 a55:=Tryz.isAgg207
 z55:=ts207
 v55:=tz207
 t66:=tu234
 a66:=Tryz.isAgg234
 z66:=ts234
 v66:=Tryz.zeroValue234
 t70:=tu238
 a70:=Tryz.isAgg238
 z70:=Tryz.sizeOf238
 v70:=Tryz.zeroValue238
 t76:=tu251
 a76:=Tryz.isAgg251
 z76:=Tryz.sizeOf251
 v76:=Tryz.zeroValue251
 t77:=tu180
 a77:=Tryz.isAgg180
 z77:=Tryz.sizeOf180
 v77:=Tryz.zeroValue180 }
open Go.RowKit Go.Lib Go.Sort in
theorem Tryz.slices_SortFunc {α:Type} [Inhabited α] (k:Nat) (aE:∀ w,(isAgg 55).run Tryz.prog w=.ok true w) (zE:∀ w,(Go.sizeOf 55).run Tryz.prog w=.ok k w) (enc:α->List Value) (hk:∀ x,(enc x).length=k) (h1:∀ x,∀ v ∈ enc x,v.oneCell'=true) (cf:α->α->Int) (hO:SWO (ltOf cf)) (g:Nat) (cb:Array Value) (blk off cap:Nat) (d:Array α) (w:World) (eg:∀ args w,(callFunc g args).run Tryz.prog w=.ok (.enter g args) w) (hcmp:CmpLays Tryz.prog g cb enc k cf blk off d.size w) (hH:HoldsK enc k w blk off d) (hblk:blk<w.heap.size) (hsz:d.size<4611686018427387904) :
  Calls Tryz.prog 90 #[.slice (some ⟨blk,off,none⟩) d.size cap,.func (.func g) #[] cb] w fun e w' =>
   e=.returned (.tuple #[])/\∃ d' n os,PermIn 0 d.size d d'/\SortedIn (ltOf cf) 0 d.size d'/\w'=sortWorldK enc k w blk off n d' os:=AnyQ.slices_SortFunc Tryz.laysSlF06 k aE zE enc hk h1 cf hO g cb blk off cap d w eg hcmp hH hblk hsz
open Go.RowKit Go.Lib Go.Sort in
theorem Tryz.slices_SortFunc_none {α:Type} [Inhabited α] (p:Option Addr) (cap:Nat) (fv:Value) (w:World) :
  Calls Tryz.prog 90 #[.slice p 0 cap,fv] w fun e w'=>e=.returned (.tuple #[])/\w'=w:=AnyF.slices_SortFunc_none Tryz.laysSlF06 p cap fv w
end Go.Proofs
namespace Go.Proofs.YtaenledoagbddaaGreatDoor
open Go.GL
def zhP {α:Type} (p:α->Bool) (l:List α):Int:=if l.any p then (l.findIdx p:Nat) else -1
theorem zfR {α:Type} {p:α->Bool} {l:List α} {i:Nat} {x:α} (h:(l.take i).any p=false) (hx:l[i]?=some x) (hp:p x=true):zhP p l=i:=by
 have hl:=(zo7.1 hx).1
 have hm:=znU hx
 unfold zhP
 rw [zo4 (List.any_eq_true.2 ⟨x,hm,hp⟩)]
 have h1:l.findIdx p=i:=by
  rw [List.findIdx_eq hl]
  refine⟨by rw [(zo7.1 hx).2];exact hp,fun j hj=>?_⟩
  have h2:=List.any_eq_false.1 h (l[j]'(by omega)) (znU (i:=j) (by rw [zop,zo4 hj];exact znT _))
  simpa using h2
 rw [h1]
theorem zcQ {α:Type} {p:α->Bool} {l:List α} (h:l.any p=false):zhP p l=-1:=by unfold zhP;rw [h];rfl
theorem ze4 {α:Type} {p:α->Bool} {l:List α}:0<=zhP p l ↔ l.any p=true:=by
 unfold zhP
 split
 . rename_i h;exact⟨fun _=>h,fun _=>by omega⟩
 . rename_i h;exact⟨fun h=>by omega,fun h'=>absurd h' h⟩
theorem ze5 {α:Type} {p:α->Bool} {l:List α} {k:Nat} {x:α} (hx:l[k]?=some x) (h:(l.take k).any p=false) (hp:p x=false):(l.take (k+1)).any p=false:=by rw [zg hx,List.any_append,h];simp [hp]
abbrev obE (o:Ob) (y:Option Addr × Nat × (Nat->Prop)):HE:=DaP ROb y.2.2 o [.slice y.1 o.1.length y.2.1,.int .i64 o.2]
theorem zjJ {H:Hp} {f:FuncId} {args:Array Value} {o:Ob} {w:World} (k:Nat) (hc:Calls Tryz.prog f args w (Ret fun r w'=>(∃ ov,r=.agg #[ov,.int .i64 o.2]/\SlR 1 zB (fun b=>w.heap.size<=b) w' ov o.1)/\Ext w w')) :
  Calls Tryz.prog f args w (Ret fun r w'=>∃ y:Option Addr × Nat × (Nat->Prop),r=.agg #[.slice y.1 o.1.length y.2.1,.int .i64 o.2]/\Hands H [] [(k,obE o y)] w w'):=by
 refine hc.mono ?_
 rintro _ w' ⟨_,rfl,⟨ov,rfl,hd⟩,hk⟩
 obtain⟨ao,co,rfl⟩:=hd.form
 refine⟨_,rfl,(ao,co,fun b=>w.heap.size<=b/\b<w'.heap.size),rfl,hk.mono fun q _ h=>h.elim,fun x hx=>?_,List.pairwise_singleton _ _⟩
 rw [zob] at hx
 subst hx
 exact⟨⟨_,rfl,hd.narrow (by omega) xp⟩,DaP.loc,fun _ h=>h,fun q hq=>⟨.inr hq.1,hq.2⟩⟩
theorem zjK {F:Nat->Prop} {w:World} {o:Ob} {ao:Option Addr} {co:Nat} (h:ROb F w o [.slice ao o.1.length co,.int .i64 o.2]):SlR 1 zB F w (.slice ao o.1.length co) o.1:=by
 obtain⟨v,h1,h2⟩:=h
 simp only [List.cons.injEq,and_true] at h1
 rw [h1];exact h2
section
variable {α:Type} [DecidableEq α]
def zgx (ob:Nat->α) (n:Nat) (o:α):Nat:=(List.range n).countP fun r=>decide (ob r=o)
theorem zfS (ob:Nat->α) (n:Nat) (o:α):zgx ob (n+1) o=zgx ob n o+if ob n=o then 1 else 0:=by
 unfold zgx
 rw [List.range_succ,List.countP_append]
 simp [List.countP_cons]
theorem zij (ob:Nat->α) (n:Nat) (o:α):zgx ob n o<=n:=by
 have:=List.countP_le_length (p:=fun r=>decide (ob r=o)) (l:=List.range n)
 simpa [zgx] using this
def xU (R s r s':Nat):Nat:=if s'<s then R else if s'=s then r else 0
structure OfIn (ob:Nat->Nat->α) (R s r:Nat) (al:List α) (cnt:Nat->Nat->Nat):Prop where
 nd:al.Nodup
 mem:∀ o,o ∈ al ↔ ∃ s' r',r'<xU R s r s'/\ob s' r'=o
 len:al.length<=s*R+r
 ct:∀ s' k o,al[k]?=some o->cnt s' k=zgx (ob s') (xU R s r s') o
 zero:∀ s' k,al.length<=k->cnt s' k=0
theorem zjd {R s':Nat}:xU R 0 0 s'=0:=by
 unfold xU
 rw [zo3 (by omega)]
 split <;> rfl
theorem zll (ob:Nat->Nat->α) (R:Nat):OfIn ob R 0 0 [] (fun _ _=>0):=⟨List.Pairwise.nil,fun o=>⟨fun h=>(by cases h),fun⟨s',r',h,_⟩=>by rw [zjd] at h;omega⟩,by simp,fun _ k o h=>by simp at h,fun _ _ _=>rfl⟩
theorem OfIn.row {ob:Nat->Nat->α} {R s:Nat} {al:List α} {cnt:Nat->Nat->Nat} (h:OfIn ob R s R al cnt):OfIn ob R (s+1) 0 al cnt:=by
 have hd:∀ s',xU R (s+1) 0 s'=xU R s R s':=fun s'=>by
  unfold xU
  (repeat' split);all_goals omega
 refine⟨h.nd,fun o=>?_,by have:=h.len;rw [Nat.succ_mul];omega,fun s' k o hk=>?_,h.zero⟩
 . rw [h.mem];simp only [hd]
 . rw [hd];exact h.ct s' k o hk
theorem kn {l:List α} {o:α} {k:Nat} (hn:l.Nodup) (hk:l[k]?=some o):l.idxOf o=k:=by
 obtain⟨hl,e⟩:=zo7.1 hk
 have:=hn.idxOf_getElem k hl
 rwa [e] at this
theorem jP {R s r:Nat} (s':Nat):xU R s (r+1) s'=xU R s r s'+if s'=s then 1 else 0:=by
 unfold xU
 (repeat' split);all_goals omega
theorem OfIn.next {ob:Nat->Nat->α} {R s r:Nat} {al:List α} {cnt:Nat->Nat->Nat} (h:OfIn ob R s r al cnt) {al':List α} (hal:al'=if ob s r ∈ al then al else al++[ob s r]) {k:Nat} (hk:al'[k]?=some (ob s r)) {cnt':Nat->Nat->Nat} (hc:∀ s' k',cnt' s' k'=cnt s' k'+if s'=s/\k'=k then 1 else 0):OfIn ob R s (r+1) al' cnt':=by
 have hnd:al'.Nodup:=by
  rw [hal]
  split
  . exact h.nd
  ·
   rename_i hm
   rw [List.nodup_append]
   exact⟨h.nd,List.pairwise_singleton _ _,fun a ha b hb e=>hm (by rw [<- zob.1 hb,<- e];exact ha)⟩
 have hmem:∀ o,o ∈ al' ↔ o ∈ al\/o=ob s r:=fun o=>by
  rw [hal]
  split
  ·
   rename_i hm
   exact⟨.inl,fun g=>g.elim id (fun e=>e ▸ hm)⟩
  . rw [zoc,zob]
 have hds:xU R s r s=r:=by unfold xU;rw [zo3 (by omega),zo4 rfl]
 refine⟨hnd,fun o=>?_,?_,fun s' k' o ho=>?_,fun s' k' hk'=>?_⟩
 ·
  rw [hmem,h.mem]
  constructor
  ·
   rintro (⟨s',r',g1,g2⟩ | rfl)
   . exact⟨s',r',by rw [jP];omega,g2⟩
   . exact⟨s,r,by rw [jP,hds,zo4 rfl];omega,rfl⟩
  ·
   rintro⟨s',r',g1,g2⟩
   rw [jP] at g1
   by_cases e:r'<xU R s r s'
   . exact .inl ⟨s',r',e,g2⟩
   ·
    split at g1
    ·
     rename_i es
     subst es
     rw [hds] at e g1
     obtain rfl:r'=r:=by omega
     exact .inr g2.symm
    . omega
 ·
  have:=h.len
  rw [hal]
  split
  . omega
  . rw [zo1,zoe];omega
 ·
  have hk1:k'=k ↔ o=ob s r:=by
   constructor
   ·
    intro e
    rw [e,hk] at ho
    exact (Option.some.inj ho).symm
   ·
    intro e
    rw [<- kn hnd ho,e,kn hnd hk]
  have hold:cnt s' k'=zgx (ob s') (xU R s r s') o:=by
   by_cases hl:k'<al.length
   ·
    refine h.ct s' k' o ?_
    rw [hal] at ho
    split at ho
    . exact ho
    . rwa [zoj hl] at ho
   ·
    rw [h.zero s' k' (by omega)]
    have hno:o ∉ al:=fun hm=>by
     rw [hal] at ho
     split at ho
     . have:=(zo7.1 ho).1;omega
     ·
      rename_i hn
      have hlt:=(zo7.1 ho).1
      rw [zo1,zoe] at hlt
      obtain rfl:k'=al.length:=by omega
      rw [zok (by omega),Nat.sub_self] at ho
      have:ob s r=o:=by simpa using ho
      exact hn (this ▸ hm)
    symm
    unfold zgx
    rw [List.countP_eq_zero]
    intro r' hr' he
    exact hno ((h.mem o).2 ⟨s',r',List.mem_range.1 hr',of_decide_eq_true he⟩)
  rw [hc,hold,jP]
  by_cases es:s'=s
  ·
   subst es
   rw [zo4 rfl,zfS,hds]
   by_cases e:k'=k
   . rw [zo4 ⟨rfl,e⟩,zo4 (hk1.1 e).symm]
   . rw [zo3 (fun g=>e g.2),zo3 (fun g=>e (hk1.2 g.symm))]
  ·
   rw [zo3 (fun g=>es g.1),zo3 es]
   rfl
 ·
  have hkl:=(zo7.1 hk).1
  have hle:al.length<=al'.length:=by
   rw [hal]
   split
   . omega
   . rw [zo1];omega
  rw [hc,h.zero s' k' (by omega),zo3 (fun g=>by omega)]
end
end Go.Proofs.YtaenledoagbddaaGreatDoor
namespace Go.GL
section
variable {P:Program} {n:Nat} {Q:Exit->Act->World->Prop} {ks:List Fr} {pos:Pos} {env:Env} {A:Tgs} {H:Hp} {Bs:zP} {fn:Func} {R:Ending->World->Prop}
theorem znJ {p s1 s2:Tmp} {ty:TypeId} {k off z:Nat} {cs l:List Value} {x1 x2:Value} (h:fn.results=#[.cell p ty,.tmp s1,.tmp s2]) (ht:∀ w,(isAgg ty).run P w=.ok true w) (hz:∀ w,(sizeOf ty).run P w=.ok z w)
  (hn:(tgt A p,get env s1,get env s2)=(some (k,off),some x1,some x2)) (hc:qX H k=some cs) (hs:zi1 z off cs=some l) (hR:∀ w,VI Bs H w->R (.returned (.tuple #[.agg l.toArray,x1,x2])) w):V P n (bodyPost P fn R) [] (.e .ret) env A H Bs:=fun hA w hw=>by
 simp only [Prod.mk.injEq] at hn
 obtain⟨n1,n2,n3⟩:=hn
 obtain⟨a,h1,h2⟩:=zbt hA hw n1 hc hs ht hz
 intro a' ha
 have g1:=ha.get p _ h1
 have g2:=ha.get s1 _ n2
 have g3:=ha.get s2 _ n3
 refine bodyPost_ret (v:=.tuple #[.agg l.toArray,x1,x2]) ?_ ha.defs (hR w hw)
 simp [results,h,Array.getD_eq_getD_getElem?,g1,g2,g3,asAddr,h2]
end
end Go.GL
namespace Go.Proofs.YtaenledoagbddaaGreatDoor
open Go.GL
def zik (f:Fl) (r:Int):List Int:=if zz 3 f.vars r=0 then (yt (ze 3 f.vars) r).1 else []
def zje (f:Fl) (pub:List Int) (s r:Int):Ins:=⟨zig f s,pub,zik f r⟩
def zdt (f:Fl) (i:Ins):Ob:=if zV f i=0 then ((qs f i).outs,(qs f i).time) else ([],0)
def zfT (t:Bool) (o:Ob):Ob:=(o.1,if t then o.2 else 0)
def obX (f:Fl) (pub:List Int) (t:Bool) (s r:Nat):Ob:=zfT t (zdt f (zje f pub (s:Int) (r:Int)))
theorem ze6 {f:Fl} (vd:Valid f) (i:Ins):ObB (zdt f i):=by
 unfold zdt
 split
 ·
  rename_i h
  have hst:zS f.vars i=0:=by
   unfold zV at h
   rwa [zo3 (zog vd.ok)] at h
  have h1:=zaI (hs:=jb f i) vd.good f.body (zbP vd) 0 _ (zaJ hst)
  have h2:=zii (hs:=jb f i) vd.good f.body (zbP vd) 0 _ (zaJ hst) (fun x hx=>by cases hx)
  have hnb:=vd.nb
  have a1:=h1.ol
  have a2:=h1.t0
  have a3:=h1.t1
  exact⟨by show (qs f i).outs.length<=_;unfold qs;omega,h2,by show 0<=(qs f i).time;unfold qs;omega,by show (qs f i).time<=_;unfold qs;omega⟩
 . exact⟨zo8 _,(fun x hx=>by cases hx),Int.le_refl _,(show (0:Int)<=1000000000000 by decide)⟩
theorem zjf {f:Fl} (vd:Valid f) (pub:List Int) (t:Bool) (s r:Nat):ObB (obX f pub t s r):=by
 obtain⟨h1,h2,h3,h4⟩:=ze6 vd (zje f pub (s:Int) (r:Int))
 refine⟨h1,h2,?_,?_⟩
 . unfold obX zfT;dsimp only;split <;> omega
 . unfold obX zfT;dsimp only;split <;> omega
theorem zhf {f:Fl} {i:Ins} {ov:Value} {t:Int} {B:Nat->Prop} {w:World} (h1:zV f i ≠ 0->ov=.slice none 0 0/\t=0) (h2:zV f i=0->t=(qs f i).time/\SlR 1 zB B w ov (qs f i).outs):t=(zdt f i).2/\SlR 1 zB B w ov (zdt f i).1:=by
 unfold zdt
 by_cases h:zV f i=0
 . rw [zo4 h];exact h2 h
 ·
  rw [zo3 h]
  obtain⟨rfl,rfl⟩:=h1 h
  exact⟨rfl,SlR.nil⟩
theorem zcR (vs:List Vr) (s p r:Int) (vv:Value) (D:Nat->Prop) (W:World) (hg:∀ v ∈ vs,yp (v.low,v.high)) (hlen:vs.length<=1000000) (hvs:SlR 5 RVr D W vv vs) :
  Calls Tryz.prog 63 #[vv,.int .i64 s,.int .i64 p,.int .i64 r] W (Ret fun rr w'=>(∃ a b c,rr=.tuple #[.agg #[a,b,c],.int .i64 (zgv vs s p r)]/\(zgv vs s p r ≠ 0->a=.slice none 0 0/\b=.slice none 0 0/\c=.slice none 0 0)/\(zgv vs s p r=0->SlR 1 zB (fun q=>W.heap.size<=q) w' a (yt (ze 1 vs) s).1/\SlR 1 zB (fun q=>W.heap.size<=q) w' b (yt (ze 2 vs) p).1/\SlR 1 zB (fun q=>W.heap.size<=q) w' c (yt (ze 3 vs) r).1))/\Ext W w'):=by
 refine zmd Tryz.func63 O Tryz.ntmps63 O (zmm ?_)
 refine Vs 2 O ?_
 refine V.alloc 8 Tryz.zeroValue61 O O (fun b8=>?_)
 refine Vs 8 O ?_
 refine zmD Tryz.call121 O (fun w hI=>qI vs 1 s vv D w (by decide) hg hlen (Tr1 hI.k0 hvs)) ?_
 rintro r1 w1 w2 hI1 hk12 ⟨a,rfl,ha0,ha1⟩ hlow
 obtain⟨aa,na,ca,rfl⟩:∃ aa na ca,a=.slice aa na ca:=by
  by_cases h:zz 1 vs s=0
  . obtain⟨x,y,h⟩:=(ha1 h).form;exact⟨x,_,y,h⟩
  . exact⟨_,_,_,ha0 h⟩
 refine Vs 14 O ?_
 refine zk7 O (fun c1=>?_) (fun c1=>?_)
 ·
  have hc:zgv vs s p r=zz 1 vs s:=zo4 c1
  refine Vs 2 O ?_
  refine zmR [Value.slice none 0 0,Value.slice none 0 0,Value.slice none 0 0] [(0,1),(1,1),(2,1)] [] O O (fun _=>by kernel_rfl) ?_
  refine Vs 7 O ?_
  refine zkC tr63 tg61 ts61 O O O O (fun w hI=>⟨_,rfl,⟨_,_,_,by rw [hc],fun _=>⟨rfl,rfl,rfl⟩,fun h=>absurd (hc ▸ h) c1⟩,hI.k1⟩)
 ·
  have ha:=ha1 (zo2.1 c1)
  refine Vs 7 O ?_
  refine zmD Tryz.call121 O (fun w hI=>qI vs 2 p vv D w (by decide) hg hlen (Tr1 hI.k1 hvs)) ?_
  rintro r2 w3 w4 hI3 hk34 ⟨b,rfl,hb0,hb1⟩ hlow2
  obtain⟨ab,nb,cb,rfl⟩:∃ aa na ca,b=.slice aa na ca:=by
   by_cases h:zz 2 vs p=0
   . obtain⟨x,y,h⟩:=(hb1 h).form;exact⟨x,_,y,h⟩
   . exact⟨_,_,_,hb0 h⟩
  refine Vs 14 O ?_
  refine zk7 O (fun c2=>?_) (fun c2=>?_)
  ·
   have hc:zgv vs s p r=zz 2 vs p:=by unfold zgv;rw [zo3 c1,zo4 c2]
   refine Vs 2 O ?_
   refine zmR [Value.slice none 0 0,Value.slice none 0 0,Value.slice none 0 0] [(0,1),(1,1),(2,1)] [] O O (fun _=>by kernel_rfl) ?_
   refine Vs 7 O ?_
   refine zkC tr63 tg61 ts61 O O O O (fun w hI=>⟨_,rfl,⟨_,_,_,by rw [hc],fun _=>⟨rfl,rfl,rfl⟩,fun h=>absurd (hc ▸ h) c2⟩,hI.k2⟩)
  ·
   have hb:=hb1 (zo2.1 c2)
   refine Vs 7 O ?_
   refine zmD Tryz.call121 O (fun w hI=>qI vs 3 r vv D w (by decide) hg hlen (Tr1 hI.k2 hvs)) ?_
   rintro r3 w5 w6 hI5 hk56 ⟨c,rfl,hc0,hc1⟩ hlow3
   obtain⟨ac,nc,cc,rfl⟩:∃ aa na ca,c=.slice aa na ca:=by
    by_cases h:zz 3 vs r=0
    . obtain⟨x,y,h⟩:=(hc1 h).form;exact⟨x,_,y,h⟩
    . exact⟨_,_,_,hc0 h⟩
   have hcc:zgv vs s p r=zz 3 vs r:=by unfold zgv;rw [zo3 c1,zo3 c2]
   refine Vs 14 O ?_
   refine zk7 O (fun c3=>?_) (fun c3=>?_)
   ·
    refine Vs 2 O ?_
    refine zmR [Value.slice none 0 0,Value.slice none 0 0,Value.slice none 0 0] [(0,1),(1,1),(2,1)] [] O O (fun _=>by kernel_rfl) ?_
    refine Vs 7 O ?_
    refine zkC tr63 tg61 ts61 O O O O (fun w hI=>⟨_,rfl,⟨_,_,_,by rw [hcc],fun _=>⟨rfl,rfl,rfl⟩,fun h=>absurd (hcc ▸ h) c3⟩,hI.k3⟩)
   ·
    have hc:=hc1 (zo2.1 c3)
    have e1:W.heap.size<=w1.heap.size:=hI1.k0.size
    have e3:W.heap.size<=w3.heap.size:=hI3.k1.size
    have e5:W.heap.size<=w5.heap.size:=hI5.k2.size
    refine V.dat 900 2 O O O (ha) (fun q hq _ hs=>by have:=hlow q hs;omega) ?_
    refine V.dat 901 1 O O O (hb) (fun q hq _ hs=>by have:=hlow2 q hs;omega) ?_
    refine V.dat 902 0 O O O (hc) (fun q hq _ hs=>by have:=hlow3 q hs;omega) ?_
    refine Vs 10 O ?_
    refine zkC tr63 tg61 ts61 O O O O (fun w hI=>⟨_,rfl,⟨_,_,_,by rw [hcc,zo2.1 c3],fun h=>absurd (hcc ▸ zo2.1 c3) h,fun _=>⟨(hI.at 900 O).1.wide zc (fun q hq=>by omega),(hI.at 901 O).1.wide zc (fun q hq=>by omega),(hI.at 902 O).1.wide zc (fun q hq=>by omega)⟩⟩,hI.k3⟩)
theorem zdu (o:Ob) (t:Bool) (hlen:o.1.length<=17592186044416) (ov:Value) (D:Nat->Prop) (W:World) (ho:SlR 1 zB D W ov o.1) :
  Calls Tryz.prog 65 #[.agg #[ov,.int .i64 o.2],.bool t] W (Ret fun r w'=>(∃ u,r=.agg #[u,.int .i64 (zfT t o).2]/\SlR 1 zB (fun b=>W.heap.size<=b) w' u (zfT t o).1)/\Ext W w'):=by
 obtain⟨ao,co,rfl⟩:=ho.form
 refine zmb Tryz.func65 O Tryz.ntmps65 O (zmm ?_)
 refine Vs 2 O ?_
 refine V.box 2 O O (fun b2=>?_)
 refine V.alloc 4 tz55 O O (fun b4=>?_)
 refine Vs 6 O ?_
 refine zmD Tryz.call124 O (fun w hI=>zfP o.1 hlen _ D w (Tr1 hI.k0 ho)) ?_
 rintro r1 w1 w2 hI1 hk12 hres hlow
 obtain⟨az,cz,rfl⟩:=hres.form
 have e1:W.heap.size<=w1.heap.size:=hI1.k0.size
 refine zmR [Value.slice none 0 0,Value.int IntKind.i64 0] [(0,1),(1,1)] [(0,_)] O O (fun _=>by kernel_rfl) ?_
 refine V.alloc 5 tz55 O O (fun b5=>?_)
 refine Vs 9 O ?_
 refine V.bool O (fun b0=>?_) (fun b0=>?_)
 ·
  subst b0
  refine V.dat 900 0 O O O (hres) (fun q hq _ hs=>by have:=hlow q hs;omega) ?_
  refine Vs 14 O ?_
  refine zkz Tryz.results65 tg55 ts55 O O O (fun w hI=>⟨_,rfl,⟨_,rfl,(hI.at 900 O).1.wide zc (fun q hq=>by omega)⟩,hI.k1⟩)
 ·
  subst b0
  refine V.dat 900 0 O O O (hres) (fun q hq _ hs=>by have:=hlow q hs;omega) ?_
  refine Vs 9 O ?_
  refine zkz Tryz.results65 tg55 ts55 O O O (fun w hI=>⟨_,rfl,⟨_,rfl,(hI.at 900 O).1.wide zc (fun q hq=>by omega)⟩,hI.k1⟩)
def yq (l:List Int):Int:=l.foldl (fun g n=>(Int.gcd g n:Int)) 0
theorem ze7:∀ (l:List Int) (g:Int),l.foldl (fun g n=>(Int.gcd g n:Int)) g ∣ g/\∀ n ∈ l,l.foldl (fun g n=>(Int.gcd g n:Int)) g ∣ n
 | [],g=>⟨Int.dvd_refl g,fun n hn=>by cases hn⟩
 | x::l,g=>by
  obtain⟨h1,h2⟩:=ze7 l (Int.gcd g x:Int)
  rw [List.foldl_cons]
  refine⟨Int.dvd_trans h1 (Int.gcd_dvd_left g x),fun n hn=>?_⟩
  rcases zo9.1 hn with rfl | hn
  . exact Int.dvd_trans h1 (Int.gcd_dvd_right g n)
  . exact h2 n hn
theorem ze8 {d:Int}:∀ (l:List Int) (g:Int),d ∣ g->(∀ n ∈ l,d ∣ n)->d ∣ l.foldl (fun g n=>(Int.gcd g n:Int)) g
 | [],_,h,_=>h
 | x::l,g,h,hl=>by
  rw [List.foldl_cons]
  exact ze8 l _ (Int.dvd_coe_gcd h (hl x (znX ..))) fun n hn=>hl n (znW _ hn)
theorem zfU:∀ (l:List Int) (g:Int),0<=g->0<=l.foldl (fun g n=>(Int.gcd g n:Int)) g
 | [],_,h=>h
 | x::l,g,_=>by
  rw [List.foldl_cons]
  exact zfU l _ (by omega)
theorem yS (l:List Int):0<=yq l:=zfU l 0 (Int.le_refl 0)
theorem yx {l:List Int} {n:Int} (h:n ∈ l):yq l ∣ n:=(ze7 l 0).2 n h
theorem xJ {l:List Int} {d:Int} (h:∀ n ∈ l,d ∣ n):d ∣ yq l:=ze8 l 0 (Int.dvd_zero d) h
theorem zbX {l m:List Int} (h:∀ d:Int,(∀ n ∈ l,d ∣ n) ↔ ∀ n ∈ m,d ∣ n):yq l=yq m :=
 Int.dvd_antisymm (yS l) (yS m) (xJ ((h _).1 fun _ hn=>yx hn)) (xJ ((h _).2 fun _ hn=>yx hn))
theorem zbY {l:List Int} {m:Int} (hm:0<=m):yq (l.map (m*·))=m*yq l:=by
 refine Int.dvd_antisymm (yS _) (zoo hm (yS l)) ?_ (xJ fun n hn=>?_)
 ·
  by_cases h0:m=0
  . subst h0;rw [Int.zero_mul];exact Int.dvd_zero _
  ·
   have h1:m ∣ yq (l.map (m*·)):=xJ fun n hn=>by
    obtain⟨x,_,rfl⟩:=List.mem_map.1 hn
    exact Int.dvd_mul_right m x
   obtain⟨e,he⟩:=h1
   rw [he]
   refine Int.mul_dvd_mul_left m (xJ fun n hn=>?_)
   have h2:=yx (List.mem_map.2 ⟨n,hn,rfl⟩:m*n ∈ l.map (m*·))
   rw [he] at h2
   exact Int.dvd_of_mul_dvd_mul_left h0 h2
 ·
  obtain⟨x,hx,rfl⟩:=List.mem_map.1 hn
  exact Int.mul_dvd_mul_left m (yx hx)
def xy (c:List Int):List Int:=c.map (· / yq c)
theorem zaT (c:List Int):(xy c).map (yq c*·)=c:=by
 unfold xy
 rw [List.map_map]
 conv=>rhs;rw [<- List.map_id c]
 exact List.map_congr_left fun x hx=>Int.mul_ediv_cancel' (yx hx)
theorem zil {c:List Int} (h:yq c ≠ 0):yq (xy c)=1:=by
 have h1:=zbY (l:=xy c) (yS c)
 rw [zaT] at h1
 have h2:yq c*yq (xy c)=yq c*1:=by rw [Int.mul_one];exact h1.symm
 exact Int.eq_of_mul_eq_mul_left h h2
theorem zjg {s:List Int} {m:Int} (hs:yq s=1) (hm:0<m):yq (s.map (m*·))=m/\xy (s.map (m*·))=s:=by
 have h1:yq (s.map (m*·))=m:=by rw [zbY (by omega),hs,Int.mul_one]
 refine⟨h1,?_⟩
 unfold xy
 rw [h1,List.map_map]
 conv=>rhs;rw [<- List.map_id s]
 exact List.map_congr_left fun x _=>Int.mul_ediv_cancel_left x (by omega)
def xf (M:List (List Int × Int)) (c:List Int):List (List Int × Int):=if yq c=0 then M else if xy c ∈ M.map (·.1) then M.map (fun p=>if p.1=xy c then (p.1,p.2+yq c) else p) else M++[(xy c,yq c)]
def yB (L:List (List Int)):List (List Int × Int):=L.foldl xf []
def wtC (s:List Int) (L:List (List Int)):Int:=(L.map fun c=>if yq c ≠ 0/\xy c=s then yq c else 0).sum
theorem zbZ (s:List Int) (L:List (List Int)) (c:List Int):wtC s (L++[c])=wtC s L+if yq c ≠ 0/\xy c=s then yq c else 0:=by
 unfold wtC
 rw [List.map_append,List.sum_append]
 simp
theorem ze9 {s:List Int}:∀ {L:List (List Int)},(∀ c ∈ L,yq c ≠ 0->xy c ≠ s)->wtC s L=0
 | [],_=>rfl
 | c::L,h=>by
  have h1:=ze9 (s:=s) (L:=L) fun d hd=>h d (znW _ hd)
  have h2:=h c (znX ..)
  unfold wtC at h1 ⊢
  rw [List.map_cons,List.sum_cons,h1,zo3 (fun hh=>h2 hh.1 hh.2)]
  rfl
theorem zhQ {s:List Int}:∀ (L:List (List Int)),0<=wtC s L
 | []=>Int.le_refl 0
 | c::L=>by
  have h1:=zhQ (s:=s) L
  have h2:=yS c
  unfold wtC at h1 ⊢
  rw [List.map_cons,List.sum_cons]
  split <;> omega
theorem zfV {s:List Int}:∀ {L:List (List Int)},(∃ c ∈ L,yq c ≠ 0/\xy c=s)->0<wtC s L
 | [],h=>by obtain⟨c,hc,_⟩:=h;cases hc
 | c::L,h=>by
  have h2:=yS c
  have h3:=zhQ (s:=s) L
  obtain⟨d,hd,hd1,hd2⟩:=h
  unfold wtC at h3 ⊢
  rw [List.map_cons,List.sum_cons]
  rcases zo9.1 hd with rfl | hd
  . rw [zo4 ⟨hd1,hd2⟩];omega
  ·
   have h1:=zfV (s:=s) (L:=L) ⟨d,hd,hd1,hd2⟩
   unfold wtC at h1
   split <;> omega
def zhg (s:List Int) (L:List (List Int)):Prop:=∃ c ∈ L,yq c ≠ 0/\xy c=s
structure MSpec (L:List (List Int)) (M:List (List Int × Int)):Prop where
 nd:(M.map (·.1)).Nodup
 mem:∀ p,p ∈ M ↔ zhg p.1 L/\p.2=wtC p.1 L
theorem zaU {s:List Int} {L:List (List Int)} {c:List Int}:zhg s (L++[c]) ↔ zhg s L\/(yq c ≠ 0/\xy c=s):=by
 unfold zhg
 constructor
 ·
  rintro⟨d,hd,h1,h2⟩
  rcases zoc.1 hd with hd | hd
  . exact .inl ⟨d,hd,h1,h2⟩
  ·
   obtain rfl:=zob.1 hd
   exact .inr ⟨h1,h2⟩
 ·
  rintro (⟨d,hd,h1,h2⟩ | ⟨h1,h2⟩)
  . exact⟨d,List.mem_append_left _ hd,h1,h2⟩
  . exact⟨c,List.mem_append_right _ (zob.2 O),h1,h2⟩
theorem MSpec.has {L:List (List Int)} {M:List (List Int × Int)} (h:MSpec L M) {s:List Int}:s ∈ M.map (·.1) ↔ zhg s L:=by
 rw [List.mem_map]
 constructor
 ·
  rintro⟨p,hp,rfl⟩
  exact ((h.mem p).1 hp).1
 ·
  intro hs
  exact⟨(s,wtC s L),(h.mem _).2 ⟨hs,rfl⟩,rfl⟩
theorem MSpec.step {L:List (List Int)} {M:List (List Int × Int)} (h:MSpec L M) (c:List Int):MSpec (L++[c]) (xf M c):=by
 unfold xf
 by_cases h0:yq c=0
 ·
  rw [zo4 h0]
  refine⟨h.nd,fun p=>?_⟩
  rw [h.mem p,zbZ,zo3 (fun g=>g.1 h0),Int.add_zero,zaU]
  exact⟨fun g=>⟨.inl g.1,g.2⟩,fun g=>⟨g.1.elim id (fun k=>absurd h0 k.1),g.2⟩⟩
 ·
  rw [zo3 h0]
  by_cases h1:xy c ∈ M.map (·.1)
  ·
   rw [zo4 h1]
   have hk:=h.has.1 h1
   have hm:(M.map (fun p=>if p.1=xy c then (p.1,p.2+yq c) else p)).map (·.1)=M.map (·.1):=by
    rw [List.map_map]
    exact List.map_congr_left fun p _=>by simp only [Function.comp];split <;> rfl
   refine⟨by rw [hm];exact h.nd,fun p=>?_⟩
   rw [List.mem_map,zbZ,zaU]
   constructor
   ·
    rintro⟨q,hq,rfl⟩
    obtain⟨g1,g2⟩:=(h.mem q).1 hq
    by_cases e:q.1=xy c
    ·
     rw [zo4 e]
     exact⟨.inl g1,by rw [g2,zo4 ⟨h0,e.symm⟩]⟩
    ·
     rw [zo3 e]
     exact⟨.inl g1,by rw [g2,zo3 (fun g=>e g.2.symm),Int.add_zero]⟩
   ·
    rintro⟨g1,g2⟩
    have g1:zhg p.1 L:=g1.elim id (fun g=>g.2 ▸ hk)
    refine⟨(p.1,wtC p.1 L),(h.mem _).2 ⟨g1,rfl⟩,?_⟩
    by_cases e:p.1=xy c
    ·
     rw [zo4 e]
     rw [zo4 ⟨h0,e.symm⟩] at g2
     exact Prod.ext O g2.symm
    ·
     rw [zo3 e]
     rw [zo3 (fun g=>e g.2.symm),Int.add_zero] at g2
     exact Prod.ext O g2.symm
  ·
   rw [zo3 h1]
   have hk:¬ zhg (xy c) L:=fun g=>h1 (h.has.2 g)
   have hz:wtC (xy c) L=0:=ze9 fun d hd hd0 e=>hk ⟨d,hd,hd0,e⟩
   refine⟨?_,fun p=>?_⟩
   ·
    rw [List.map_append,List.nodup_append]
    exact⟨h.nd,List.pairwise_singleton _ _,fun x hx y hy e=>h1 (by have e':x=xy c:=e.trans (zob.1 hy);rw [<- e'];exact hx)⟩
   ·
    rw [zoc,zob,h.mem,zbZ,zaU]
    constructor
    ·
     rintro (⟨g1,g2⟩ | rfl)
     . exact⟨.inl g1,by rw [g2,zo3 (fun g:yq c ≠ 0/\xy c=p.1=>hk (g.2 ▸ g1)),Int.add_zero]⟩
     . exact⟨.inr ⟨h0,rfl⟩,by rw [zo4 ⟨h0,rfl⟩,hz,Int.zero_add]⟩
    ·
     rintro⟨g1,g2⟩
     by_cases e:p.1=xy c
     ·
      rw [zo4 ⟨h0,e.symm⟩,e,hz,Int.zero_add] at g2
      exact .inr (Prod.ext e g2)
     ·
      rw [zo3 (fun g=>e g.2.symm),Int.add_zero] at g2
      exact .inl ⟨g1.elim id (fun g=>absurd g.2.symm e),g2⟩
theorem zea:∀ (L K:List (List Int)) (M:List (List Int × Int)),MSpec K M->MSpec (K++L) (L.foldl xf M)
 | [],K,M,h=>by rw [List.append_nil];exact h
 | c::L,K,M,h=>by
  have:=zea L (K++[c]) (xf M c) (h.step c)
  rwa [List.append_assoc,List.singleton_append] at this
theorem qh (L:List (List Int)):MSpec L (yB L):=zea L [] [] ⟨List.Pairwise.nil,fun p=>⟨fun h=>(by cases h),fun h=>by obtain⟨⟨c,hc,_⟩,_⟩:=h;cases hc⟩⟩
theorem MSpec.nodup {L:List (List Int)} {M:List (List Int × Int)} (h:MSpec L M):M.Nodup:=by
 have:=h.nd
 unfold List.Nodup at this ⊢
 rw [List.pairwise_map] at this
 exact this.imp fun g e=>g (by rw [e])
theorem MSpec.good {L:List (List Int)} {M:List (List Int × Int)} (h:MSpec L M) {p:List Int × Int} (hp:p ∈ M):yq p.1=1/\0<p.2:=by
 obtain⟨h1,h2⟩:=(h.mem p).1 hp
 refine⟨?_,by rw [h2];exact zfV h1⟩
 obtain⟨c,_,hc,e⟩:=h1
 rw [<- e]
 exact zil hc
def zG (M:List (List Int × Int)):List (List Int):=M.map fun p=>p.1.map (p.2*·)
def xV (L:List (List Int)):List (List Int):=L.map fun c=>c.map (· / yq L.flatten)
structure IsAbs (L out:List (List Int)):Prop where
 perm:out.Perm (xV (zG (yB L)))
 srt:out.Pairwise (fun a b=>xL b a<=0)
theorem zbk {l m:List (List Int)} (hl:l.Pairwise (fun a b=>xL b a<=0)) (hm:m.Pairwise (fun a b=>xL b a<=0)) (h:l.Perm m):l=m :=
 List.Perm.eq_of_pairwise (fun a b _ _ h1 h2=>qg (by have:=xe a b;omega)) hl hm h
theorem IsAbs.unique {L out out':List (List Int)} (h:IsAbs L out) (h':IsAbs L out'):out=out':=zbk h.srt h'.srt (h.perm.trans h'.perm.symm)
theorem zdv {L:List (List Int)}:yq L.flatten=yq (L.map yq):=zbX fun d=>by
 constructor
 ·
  intro h n hn
  obtain⟨c,hc,rfl⟩:=List.mem_map.1 hn
  exact xJ fun x hx=>h x (List.mem_flatten.2 ⟨c,hc,hx⟩)
 ·
  intro h n hn
  obtain⟨c,hc,hx⟩:=List.mem_flatten.1 hn
  exact Int.dvd_trans (h _ (List.mem_map.2 ⟨c,hc,rfl⟩)) (yx hx)
theorem zcS {L:List (List Int)} {M:List (List Int × Int)} (h:MSpec L M):yq (zG M).flatten=yq (M.map (·.2)):=by
 rw [zdv]
 unfold zG
 rw [List.map_map]
 congr 1
 exact List.map_congr_left fun p hp=>(zjg (h.good hp).1 (h.good hp).2).1
theorem zaV {L:List (List Int)} {M:List (List Int × Int)} (h:MSpec L M):xV (zG M)=M.map (fun p=>p.1.map (p.2 / yq (M.map (·.2))*·)):=by
 unfold xV
 rw [zcS h]
 unfold zG
 rw [List.map_map]
 refine List.map_congr_left fun p hp=>?_
 simp only [Function.comp,List.map_map]
 refine List.map_congr_left fun x _=>?_
 simp only [Function.comp]
 have hd:=yx (List.mem_map.2 ⟨p,hp,rfl⟩:p.2 ∈ M.map (·.2))
 rw [Int.mul_comm p.2 x,Int.mul_ediv_assoc _ hd,Int.mul_comm]
theorem IsAbs.same {L L' out out':List (List Int)} (h:IsAbs L out) (h':IsAbs L' out') {k:Int} (hk:0<k) (hs:∀ s,zhg s L ↔ zhg s L') (hw:∀ s,wtC s L'=k*wtC s L):out=out':=by
 have m:=qh L
 have m':=qh L'
 have hM:(yB L').Perm ((yB L).map fun p=>(p.1,k*p.2)):=by
  refine (List.perm_ext_iff_of_nodup m'.nodup ?_).2 fun p=>?_
  ·
   unfold List.Nodup
   rw [List.pairwise_map]
   refine m.nodup.imp fun g e=>g ?_
   have e1:=congrArg Prod.fst e
   have e2:=congrArg Prod.snd e
   exact Prod.ext e1 (Int.eq_of_mul_eq_mul_left (by omega) e2)
  ·
   rw [m'.mem,List.mem_map,<- hs,hw]
   constructor
   ·
    rintro⟨g1,g2⟩
    exact⟨(p.1,wtC p.1 L),(m.mem _).2 ⟨g1,rfl⟩,Prod.ext O g2.symm⟩
   ·
    rintro⟨q,hq,rfl⟩
    obtain⟨g1,g2⟩:=(m.mem q).1 hq
    exact⟨g1,by rw [g2]⟩
 have hg:yq ((yB L').map (·.2))=k*yq ((yB L).map (·.2)):=by
  rw [<- zbY (by omega)]
  refine zbX fun d=>?_
  have h1:=hM.map (·.2)
  rw [List.map_map] at h1
  rw [List.map_map]
  exact⟨fun g n hn=>g n (h1.mem_iff.2 hn),fun g n hn=>g n (h1.mem_iff.1 hn)⟩
 refine zbk h.srt h'.srt (h.perm.trans (List.Perm.trans ?_ h'.perm.symm))
 rw [zaV m,zaV m',hg]
 have h2:=hM.map fun p=>p.1.map (p.2 / (k*yq ((yB L).map (·.2)))*·)
 rw [List.map_map] at h2
 refine List.Perm.trans (List.Perm.of_eq ?_) h2.symm
 refine List.map_congr_left fun p _=>?_
 simp only [Function.comp]
 rw [Int.mul_ediv_mul_of_pos _ _ hk]
def zjL (M:List (List Int × Int)):List (List Int × Int):=M.map fun p=>(p.1,p.2 / yq (M.map (·.2)))
theorem MSpec.red {L:List (List Int)} {M:List (List Int × Int)} (h:MSpec L M) {p:List Int × Int} (hp:p ∈ zjL M):yq p.1=1/\0<p.2:=by
 obtain⟨q,hq,rfl⟩:=List.mem_map.1 hp
 obtain⟨h1,h2⟩:=h.good hq
 refine⟨h1,?_⟩
 have hd:=yx (List.mem_map.2 ⟨q,hq,rfl⟩:q.2 ∈ M.map (·.2))
 have hn:=yS (M.map (·.2))
 have hz:yq (M.map (·.2)) ≠ 0:=fun e=>by
  rw [e] at hd
  have:=Int.zero_dvd.1 hd
  omega
 exact Int.ediv_pos_of_pos_of_dvd h2 hn hd
theorem zeG {L:List (List Int)} {M:List (List Int × Int)} (h:MSpec L M):xV (zG M)=zG (zjL M):=by
 rw [zaV h]
 unfold zG zjL
 rw [List.map_map]
 rfl
abbrev Mx:=List (List Int)
def kK:List Int->Int->Int
 | [],t=>t
 | n::r,t=>if n<0\/1048576 - t<n then -1 else kK r (t+n)
theorem zfW:∀ {l:List Int},(∀ n ∈ l,0<=n)->0<=l.sum
 | [],_=>Int.le_refl 0
 | n::l,h=>by
  rw [List.sum_cons]
  have:=h n (znX ..)
  have:=zfW (l:=l) fun x hx=>h x (znW _ hx)
  omega
theorem zc0:∀ {l:List Int} {t:Int},(∀ n ∈ l,0<=n)->t+l.sum<=1048576->kK l t=t+l.sum
 | [],t,_,_=>by simp [kK]
 | n::l,t,h,hs=>by
  rw [List.sum_cons] at hs ⊢
  have h1:=h n (znX ..)
  have h2:=zfW (l:=l) fun x hx=>h x (znW _ hx)
  rw [kK,zo3 (by omega),zc0 (fun x hx=>h x (znW _ hx)) (by omega)]
  omega
theorem zeb:∀ {l:List Int} {t:Int},0<=t->t<=1048576->kK l t ≠ -1->(∀ n ∈ l,0<=n)/\t+l.sum<=1048576
 | [],t,_,h1,_=>⟨fun n hn=>(by cases hn),by simpa using h1⟩
 | n::l,t,h0,h1,h=>by
  rw [kK] at h
  split at h
  . exact absurd O h
  ·
   rename_i hn
   obtain⟨g1,g2⟩:=zeb (l:=l) (t:=t+n) (by omega) (by omega) h
   exact⟨fun x hx=>(zo9.1 hx).elim (fun e=>by omega) (g1 x),by rw [List.sum_cons];omega⟩
theorem zim {l:List Int} (h:kK l 0 ≠ -1):kK l 0=l.sum/\(∀ n ∈ l,0<=n)/\l.sum<=1048576:=by
 obtain⟨h1,h2⟩:=zeb (Int.le_refl 0) (by omega) h
 rw [Int.zero_add] at h2
 exact⟨by rw [zc0 h1 (by omega),Int.zero_add],h1,h2⟩
structure VMx (c:Mx):Prop where
 r1:1<=c.length
 r2:c.length<=256
 w1:1<=(c.headD []).length
 w2:(c.headD []).length<=256
 wid:∀ row ∈ c,row.length=(c.headD []).length
 nn:∀ row ∈ c,∀ n ∈ row,0<=n
 s1:1<=(c.headD []).sum
 s2:(c.headD []).sum<=1048576
 sm:∀ row ∈ c,row.sum=(c.headD []).sum
instance (c:Mx):Decidable (VMx c) :=
 if h:1<=c.length/\c.length<=256/\1<=(c.headD []).length/\(c.headD []).length<=256/\(∀ row ∈ c,row.length=(c.headD []).length)/\(∀ row ∈ c,∀ n ∈ row,0<=n)/\1<=(c.headD []).sum/\(c.headD []).sum<=1048576/\∀ row ∈ c,row.sum=(c.headD []).sum then
  isTrue ⟨h.1,h.2.1,h.2.2.1,h.2.2.2.1,h.2.2.2.2.1,h.2.2.2.2.2.1,h.2.2.2.2.2.2.1,h.2.2.2.2.2.2.2.1,h.2.2.2.2.2.2.2.2⟩
 else isFalse fun g=>h ⟨g.1,g.2,g.3,g.4,g.5,g.6,g.7,g.8,g.9⟩
theorem kY {c:Mx} (h:1<=c.length):c.headD [] ∈ c:=by
 cases c with
 | nil=>simp at h
 | cons r c=>exact znX ..
theorem vmx_prog {c:Mx}:VMx c ↔ (1<=c.length/\c.length<=256)/\(1<=(c.headD []).length/\(c.headD []).length<=256/\1<=kK (c.headD []) 0)/\∀ row ∈ c,row.length=(c.headD []).length/\kK row 0=kK (c.headD []) 0:=by
 constructor
 ·
  intro h
  have hs:∀ row ∈ c,kK row 0=row.sum:=fun row hr=>by
   have h1:=h.sm row hr
   have h2:=h.s2
   rw [zc0 (h.nn row hr) (by omega),Int.zero_add]
  have hh:=kY h.r1
  refine⟨⟨h.r1,h.r2⟩,⟨h.w1,h.w2,by rw [hs _ hh];exact h.s1⟩,fun row hr=>⟨h.wid row hr,by rw [hs row hr,hs _ hh];exact h.sm row hr⟩⟩
 ·
  rintro⟨⟨h1,h2⟩,⟨h3,h4,h5⟩,h6⟩
  have hs:∀ row ∈ c,kK row 0=row.sum/\(∀ n ∈ row,0<=n)/\row.sum<=1048576:=fun row hr=>zim (by rw [(h6 row hr).2];omega)
  have hh:=hs _ (kY h1)
  exact⟨h1,h2,h3,h4,fun row hr=>(h6 row hr).1,fun row hr=>(hs row hr).2.1,by omega,hh.2.2,fun row hr=>by rw [<- (hs row hr).1,<- hh.1];exact (h6 row hr).2⟩
theorem vmx_ref {c:Mx}:VMx c ↔ (1<=c.length/\c.length<=256/\1<=(c.headD []).length/\(c.headD []).length<=256)/\∀ row ∈ c,row.length=(c.headD []).length/\(∀ n ∈ row,0<=n/\n<=1048576)/\row.sum=(c.headD []).sum/\1<=row.sum/\row.sum<=1048576:=by
 have hle:∀ {l:List Int},(∀ n ∈ l,0<=n)->∀ n ∈ l,n<=l.sum:=by
  intro l
  induction l with
  | nil=>intro _ n hn;cases hn
  | cons x l ih =>
   intro h n hn
   rw [List.sum_cons]
   have h1:=h x (znX ..)
   have h2:=zfW (l:=l) fun y hy=>h y (znW _ hy)
   rcases zo9.1 hn with rfl | hn
   . omega
   ·
    have:=ih (fun y hy=>h y (znW _ hy)) n hn
    omega
 constructor
 ·
  intro h
  refine⟨⟨h.r1,h.r2,h.w1,h.w2⟩,fun row hr=>⟨h.wid row hr,fun n hn=>⟨h.nn row hr n hn,?_⟩,h.sm row hr,by rw [h.sm row hr];exact h.s1,by rw [h.sm row hr];exact h.s2⟩⟩
  have h1:=hle (h.nn row hr) n hn
  have h2:=h.sm row hr
  have h3:=h.s2
  omega
 ·
  rintro⟨⟨h1,h2,h3,h4⟩,h5⟩
  have hh:=h5 _ (kY h1)
  exact⟨h1,h2,h3,h4,fun row hr=>(h5 row hr).1,fun row hr n hn=>((h5 row hr).2.1 n hn).1,hh.2.2.2.1,hh.2.2.2.2,fun row hr=>(h5 row hr).2.2.1⟩
def jQ (c:Mx) (y:Nat):List Int:=c.map fun row=>row[y]?.getD 0
def yn (c:Mx):Mx:=(List.range (c.headD []).length).map (jQ c)
def ko (n:Nat) (l:Mx):Mx:=(List.range n).map (jQ l)
theorem qJ (c:Mx):(yn c).length=(c.headD []).length:=by simp [yn]
theorem qi (c:Mx) (y:Nat):(jQ c y).length=c.length:=by simp [jQ]
theorem zaW {c:Mx} {col:List Int} (h:col ∈ yn c):col.length=c.length:=by
 obtain⟨y,_,rfl⟩:=List.mem_map.1 h
 exact qi c y
theorem zcT (n:Nat) (l:Mx):(ko n l).length=n:=by simp [ko]
theorem zfX {n:Nat} {l:Mx} (hn:1<=n) (hl:∀ col ∈ l,col.length=n):yn (ko n l)=l:=by
 have hh:((ko n l).headD []).length=l.length:=by
  obtain⟨m,rfl⟩:∃ m,n=m+1:=⟨n - 1,by omega⟩
  simp [ko,List.range_succ_eq_map,jQ]
 unfold yn
 rw [hh]
 apply List.ext_getElem?
 intro y
 rw [zoa]
 by_cases hy:y<l.length
 ·
  rw [List.getElem?_range hy,znT hy]
  simp only [Option.map_some,Option.some.injEq]
  apply List.ext_getElem?
  intro x
  unfold jQ ko
  rw [List.map_map,zoa]
  have hc:=hl _ (List.getElem_mem hy)
  by_cases hx:x<n
  ·
   rw [List.getElem?_range hx,znT (by omega)]
   simp [jQ,znT hy,znT (show x<(l[y]).length by omega)]
  ·
   rw [zoh (by simp;omega),zoh (by omega)]
   rfl
 ·
  rw [zoh (by simp;omega),zoh (by omega)]
  rfl
def atC (x:Nat) (c:List Int):Int:=c[x]?.getD 0
theorem zhh (l:Mx) (x:Nat):(jQ l x).sum=(l.map (atC x)).sum:=rfl
theorem zdw (m:Int) (c:List Int) (x:Nat):atC x (c.map (m*·))=m*atC x c:=by
 unfold atC
 rw [zoa]
 cases c[x]? with
 | none=>simp
 | some v=>rfl
theorem zin (c:List Int) (x:Nat):yq c*atC x (xy c)=atC x c:=by
 rw [<- zdw,zaT]
theorem zio {M:List (List Int × Int)} {k:List Int} {g:Int} (x:Nat) (hn:(M.map (·.1)).Nodup) (hk:k ∈ M.map (·.1)) :
  ((zG (M.map fun p=>if p.1=k then (p.1,p.2+g) else p)).map (atC x)).sum=((zG M).map (atC x)).sum+g*atC x k:=by
 induction M with
 | nil=>cases hk
 | cons p M ih =>
  rw [List.map_cons,List.nodup_cons] at hn
  have hno:k ∉ M.map (·.1)->((zG (M.map fun p=>if p.1=k then (p.1,p.2+g) else p)).map (atC x)).sum=((zG M).map (atC x)).sum:=fun h=>by
   rw [show (M.map fun p=>if p.1=k then (p.1,p.2+g) else p)=M by
    conv=>rhs;rw [<- List.map_id M]
    exact List.map_congr_left fun q hq=>zo3 (fun e=>h (List.mem_map.2 ⟨q,hq,e⟩))]
  simp only [zG,List.map_cons,List.sum_cons] at ih hno ⊢
  by_cases e:p.1=k
  ·
   rw [zo4 e,hno (by rw [<- e];exact hn.1),zdw,zdw,e,Int.add_mul]
   omega
  ·
   rw [zo3 e]
   rw [List.map_cons] at hk
   have hk:k ∈ M.map (·.1):=(zo9.1 hk).elim (fun h=>absurd h.symm e) id
   rw [ih hn.2 hk]
   omega
theorem ziq {c:List Int} (h:yq c=0) (x:Nat):atC x c=0:=by
 unfold atC
 cases hx:c[x]? with
 | none=>rfl
 | some v =>
  have:=yx (znU hx)
  rw [h] at this
  exact Int.zero_dvd.1 this
theorem zhi {L:Mx} {M:List (List Int × Int)} (h:MSpec L M) (c:List Int) (x:Nat):((zG (xf M c)).map (atC x)).sum=((zG M).map (atC x)).sum+atC x c:=by
 unfold xf
 split
 ·
  rename_i h0
  rw [ziq h0,Int.add_zero]
 ·
  split
  ·
   rename_i h1
   rw [zio x h.nd h1,zin]
  ·
   unfold zG
   rw [List.map_append,List.map_append,List.sum_append]
   simp only [List.map_cons,List.map_nil,List.sum_cons,List.sum_nil,Int.add_zero]
   rw [zaT]
theorem kL (x:Nat):∀ (L K:Mx) (M:List (List Int × Int)),MSpec K M->((zG (L.foldl xf M)).map (atC x)).sum=((zG M).map (atC x)).sum+(L.map (atC x)).sum
 | [],K,M,_=>by simp
 | c::L,K,M,h=>by
  rw [List.foldl_cons,kL x L (K++[c]) _ (h.step c),zhi h,List.map_cons,List.sum_cons]
  omega
theorem zir (x:Nat) (L:Mx):((zG (yB L)).map (atC x)).sum=(L.map (atC x)).sum:=by
 have h:=kL x L [] [] ⟨List.Pairwise.nil,fun p=>⟨fun h=>(by cases h),fun h=>by obtain⟨⟨c,hc,_⟩,_⟩:=h;cases hc⟩⟩
 rw [show yB L=L.foldl xf [] from rfl,h]
 simp [zG]
theorem zhj (M:List (List Int × Int)) (c:List Int):(xf M c).length<=M.length+1:=by
 unfold xf
 split
 . omega
 ·
  split
  . rw [zod];omega
  . rw [zo1];simp
theorem kM:∀ (L:Mx) (M:List (List Int × Int)),(L.foldl xf M).length<=M.length+L.length
 | [],M=>by simp
 | c::L,M=>by
  have h1:=kM L (xf M c)
  have h2:=zhj M c
  rw [List.foldl_cons,zom]
  omega
theorem zfY (L:Mx):(yB L).length<=L.length:=by
 have:=kM L []
 show (L.foldl xf []).length<=_
 simpa using this
theorem zfZ (c:List Int):(xy c).length=c.length:=by simp [xy]
theorem zdx {l:List Int} {g:Int} (h:∀ n ∈ l,g ∣ n):g*(l.map (· / g)).sum=l.sum:=by
 induction l with
 | nil=>simp
 | cons n l ih =>
  rw [List.map_cons,List.sum_cons,List.sum_cons,Int.mul_add,ih fun x hx=>h x (znW _ hx),Int.mul_ediv_cancel' (h n (znX ..))]
theorem zhk {l m:List Int} (h:l.Perm m):l.sum=m.sum:=by
 induction h with
 | nil=>rfl
 | cons x _ ih=>rw [List.sum_cons,List.sum_cons,ih]
 | swap x y l=>simp only [List.sum_cons];omega
 | trans _ _ h1 h2=>rw [h1,h2]
theorem IsAbs.row {L out:Mx} (h:IsAbs L out) (x:Nat):yq (zG (yB L)).flatten*(out.map (atC x)).sum=(L.map (atC x)).sum:=by
 rw [<- zir x L,zhk (h.perm.map (atC x))]
 unfold xV
 rw [List.map_map]
 rw [<- zdx (g:=yq (zG (yB L)).flatten) (l:=(zG (yB L)).map (atC x)) fun n hn=>by
  obtain⟨c,hc,rfl⟩:=List.mem_map.1 hn
  unfold atC
  cases hx:c[x]? with
  | none=>exact Int.dvd_zero _
  | some v=>exact yx (List.mem_flatten.2 ⟨c,hc,znU hx⟩)]
 rw [List.map_map]
 congr 2
 refine List.map_congr_left fun c _=>?_
 simp only [Function.comp,atC,zoa]
 cases c[x]? with
 | none=>simp
 | some v=>rfl
theorem IsAbs.col {L out:Mx} (h:IsAbs L out) {n:Nat} (hL:∀ c ∈ L,c.length=n/\∀ v ∈ c,0<=v) {c:List Int} (hc:c ∈ out):c.length=n/\∀ v ∈ c,0<=v:=by
 have hc:=h.perm.mem_iff.1 hc
 rw [zeG (qh L)] at hc
 obtain⟨p,hp,rfl⟩:=List.mem_map.1 hc
 obtain⟨q,hq,rfl⟩:=List.mem_map.1 hp
 obtain⟨⟨d,hd,hd0,hde⟩,_⟩:=((qh L).mem q).1 hq
 obtain⟨h1,h2⟩:=hL d hd
 have hr:=(qh L).red hp
 refine⟨by rw [zod];show q.1.length=n;rw [<- hde,zfZ];exact h1,fun v hv=>?_⟩
 obtain⟨u,hu,rfl⟩:=List.mem_map.1 hv
 refine zoo (by have:=hr.2;omega) ?_
 rw [show q.1=xy d from hde.symm] at hu
 obtain⟨w,hw,rfl⟩:=List.mem_map.1 hu
 exact Int.ediv_nonneg (h2 w hw) (yS d)
theorem zjh {c:Mx} {x:Nat} (hv:∀ row ∈ c,row.length=(c.headD []).length) (hx:x<c.length):((yn c).map (atC x))=c[x]:=by
 have hr:=hv _ (List.getElem_mem hx)
 apply List.ext_getElem?
 intro y
 unfold yn
 rw [List.map_map,zoa]
 by_cases hy:y<(c.headD []).length
 ·
  rw [List.getElem?_range hy,znT (by omega)]
  simp [atC,jQ,znT hx,znT (show y<c[x].length by omega)]
 ·
  rw [zoh (by rw [List.length_range];omega),zoh (by omega)]
  rfl
theorem zg0 {c:Mx} (h:VMx c) {col:List Int} (hc:col ∈ yn c):col.length=c.length/\∀ v ∈ col,0<=v:=by
 refine⟨zaW hc,fun v hv=>?_⟩
 obtain⟨y,_,rfl⟩:=List.mem_map.1 hc
 obtain⟨row,hr,rfl⟩:=List.mem_map.1 hv
 cases hy:row[y]? with
 | none=>exact Int.le_refl 0
 | some v=>exact h.nn row hr v (znU hy)
theorem znK {c out:Mx} (hv:VMx c) (h:IsAbs (yn c) out):VMx (ko c.length out)/\yn (ko c.length out)=out:=by
 have hcol:∀ col ∈ out,col.length=c.length/\∀ v ∈ col,0<=v:=fun col hc=>h.col (fun d hd=>zg0 hv hd) hc
 have ht:=zfX hv.r1 fun col hc=>(hcol col hc).1
 have hsum:∀ x,x<c.length->yq (zG (yB (yn c))).flatten*(jQ out x).sum=(c.headD []).sum:=fun x hx=>by
  rw [zhh,h.row,zjh hv.wid hx]
  exact hv.sm _ (List.getElem_mem hx)
 have hG:0<yq (zG (yB (yn c))).flatten:=by
  have h1:=yS (zG (yB (yn c))).flatten
  have h2:=hsum 0 hv.r1
  have h3:=hv.s1
  rcases Int.lt_or_eq_of_le h1 with h4 | h4
  . exact h4
  . rw [<- h4,Int.zero_mul] at h2;omega
 have hle:∀ x,x<c.length->1<=(jQ out x).sum/\(jQ out x).sum<=(c.headD []).sum:=fun x hx=>by
  have h2:=hsum x hx
  have h3:=hv.s1
  have h4:0<(jQ out x).sum:=Int.pos_of_mul_pos_left (by rw [Int.mul_comm,h2];omega) hG
  refine⟨h4,?_⟩
  rw [<- h2]
  have:=Int.mul_le_mul_of_nonneg_right (show (1:Int)<=yq (zG (yB (yn c))).flatten by omega) (show 0<=(jQ out x).sum by omega)
  omega
 have heq:∀ x y,x<c.length->y<c.length->(jQ out x).sum=(jQ out y).sum:=fun x y hx hy =>
  Int.eq_of_mul_eq_mul_left (by omega) ((hsum x hx).trans (hsum y hy).symm)
 have hhd:(ko c.length out).headD []=jQ out 0:=by
  obtain⟨m,hm⟩:∃ m,c.length=m+1:=⟨c.length - 1,by have:=hv.r1;omega⟩
  rw [hm]
  simp [ko,List.range_succ_eq_map]
 have hwid:out.length<=(c.headD []).length:=by
  rw [h.perm.length_eq]
  have:=zfY (yn c)
  rw [qJ] at this
  simpa [xV,zG] using this
 have hne:1<=out.length:=by
  cases out with
  | nil=>have:=(hle 0 hv.r1).1;simp [jQ] at this
  | cons _ _=>simp
 refine⟨⟨by rw [zcT];exact hv.r1,by rw [zcT];exact hv.r2,by rw [hhd,qi];exact hne,by rw [hhd,qi];have:=hv.w2;omega,fun row hr=>?_,fun row hr n hn=>?_,by rw [hhd];exact (hle 0 hv.r1).1,by rw [hhd];have:=(hle 0 hv.r1).2;have:=hv.s2;omega,fun row hr=>?_⟩,ht⟩
 ·
  obtain⟨x,_,rfl⟩:=List.mem_map.1 hr
  rw [hhd,qi,qi]
 ·
  obtain⟨x,_,rfl⟩:=List.mem_map.1 hr
  obtain⟨col,hc,rfl⟩:=List.mem_map.1 hn
  cases hx:col[x]? with
  | none=>exact Int.le_refl 0
  | some v=>exact (hcol col hc).2 v (znU hx)
 ·
  obtain⟨x,hx,rfl⟩:=List.mem_map.1 hr
  rw [hhd]
  exact heq x 0 (List.mem_range.1 hx) hv.r1
def zK:List Int->List Int->List Int
 | seen,[]=>seen
 | seen,l::r=>zK (if l ∈ seen then seen else seen++[l]) r
theorem firsts_mem:∀ {l seen:List Int} {x:Int},x ∈ zK seen l ↔ x ∈ seen\/x ∈ l
 | [],seen,x=>by simp [zK]
 | y::l,seen,x=>by
  rw [zK,firsts_mem,zo9]
  by_cases h:y ∈ seen
  ·
   rw [zo4 h]
   exact⟨fun g=>g.elim .inl (fun g=>.inr (.inr g)),fun g=>g.elim .inl (fun g=>g.elim (fun e=>.inl (e ▸ h)) .inr)⟩
  . rw [zo3 h,zoc,zob,or_assoc]
theorem xz (x:Int):∀ (l seen:List Int),zK seen (l++[x])=if x ∈ zK seen l then zK seen l else zK seen l++[x]
 | [],seen=>by rw [List.nil_append,zK,zK,zK]
 | y::l,seen=>by rw [List.cons_append,zK,xz x l,zK]
def yM (l:List Int):List Int:=l.map fun x=>((zK [] l).idxOf x:Int)
theorem zis {a b:List Int} {x:Int} (h:x ∈ a):(a++b).idxOf x=a.idxOf x:=by
 rw [List.idxOf_append,zo4 h]
theorem zaX (l:List Int) (x:Int):yM (l++[x])=yM l++[((zK [] (l++[x])).idxOf x:Int)]:=by
 unfold yM
 rw [List.map_append]
 congr 1
 refine List.map_congr_left fun y hy=>?_
 rw [xz]
 split
 . rfl
 . rw [zis (firsts_mem.2 (.inr hy))]
theorem zeH (l:List Int):(yM l).length=l.length:=by simp [yM]
def nP (p:List Int):Int:=p.foldl (fun n c=>max n (c+1)) 0
theorem zit (p:List Int) (c:Int):nP (p++[c])=max (nP p) (c+1):=by simp [nP,List.foldl_append]
def zjD (p:List Int):Prop:=∀ i c,p[i]?=some c->0<=c/\c<=nP (p.take i)
theorem zg1 {p:List Int} {c:Int}:zjD (p++[c]) ↔ zjD p/\0<=c/\c<=nP p:=by
 unfold zjD
 constructor
 ·
  intro h
  refine⟨fun i x hx=>?_,?_⟩
  ·
   have hi:=(zo7.1 hx).1
   have:=h i x (by rw [zoj hi];exact hx)
   rwa [List.take_append_of_le_length (by omega)] at this
  ·
   have:=h p.length c (by simp)
   rwa [List.take_append_of_le_length (by omega),znY] at this
 ·
  rintro⟨h,h1,h2⟩ i x hx
  by_cases hi:i<p.length
  ·
   rw [zoj hi] at hx
   rw [List.take_append_of_le_length (by omega)]
   exact h i x hx
  ·
   have hl:=(zo7.1 hx).1
   rw [zo1,zoe] at hl
   obtain rfl:i=p.length:=by omega
   rw [zok (by omega),Nat.sub_self] at hx
   obtain rfl:c=x:=by simpa using hx
   rw [List.take_append_of_le_length (by omega),znY]
   exact⟨h1,h2⟩
def zcU (n:Nat):List Int:=(List.range n).map fun i:Nat=>(i:Int)
theorem mem_upTo {n:Nat} {x:Int}:x ∈ zcU n ↔ 0<=x/\x<(n:Int):=by
 unfold zcU
 rw [List.mem_map]
 constructor
 ·
  rintro⟨i,hi,rfl⟩
  rw [List.mem_range] at hi
  omega
 ·
  intro h
  exact⟨x.toNat,List.mem_range.2 (by omega),by omega⟩
theorem zc1 (n:Nat):(zcU n).length=n:=by simp [zcU]
theorem zbl:∀ (k:Nat) (l:List Int),l.length=k->zjD (yM l)/\nP (yM l)=(zK [] l).length
 | 0,l,hk=>by
  obtain rfl:l=[]:=List.length_eq_zero_iff.1 hk
  exact⟨fun i c h=>by simp [yM] at h,rfl⟩
 | k+1,l,hk=>by
  obtain⟨q,x,rfl⟩:∃ q c,l=q++[c]:=⟨l.dropLast,l.getLast (by intro e;rw [e] at hk;simp at hk),(List.dropLast_concat_getLast _).symm⟩
  obtain⟨h1,h2⟩:=zbl k q (by simpa using hk)
  rw [zaX,zg1,zit,h2,xz]
  by_cases hx:x ∈ zK [] q
  ·
   have:=List.idxOf_lt_length_of_mem hx
   rw [zo4 hx]
   exact⟨⟨h1,by omega,by omega⟩,by omega⟩
  ·
   have e:(zK [] q++[x]).idxOf x=(zK [] q).length:=by
    rw [List.idxOf_append,zo3 hx];simp
   rw [zo3 hx,e,zo1,zoe]
   exact⟨⟨h1,by omega,by omega⟩,by omega⟩
def zgy (c:Mx):Prop:=∀ row ∈ c,(row.filter fun n=>decide (0<n)).length=1
instance (c:Mx):Decidable (zgy c):=by unfold zgy;infer_instance
def zji (row:List Int):Int:=((row.findIdx fun n=>decide (0<n):Nat):Int)
def zc2 (c:Mx):List Int:=c.map zji
def spC (s:List Int):ByteArray:=⟨(yN 32 s).toArray⟩
theorem ziu {a b:List Int} (h:spC a=spC b):a=b:=zcn (c:=32) (by decide) (by
 have:=congrArg (fun x:ByteArray=>x.data.toList) h
 simpa [spC] using this)
def IxIn (L:List (ByteArray × Value)) (K:List (List Int)):Prop:=∀ s,jN L (spC s)=if s ∈ K then some (.int .i64 ((K.idxOf s:Nat):Int)) else none
theorem zlm:IxIn [] []:=fun _=>rfl
theorem IxIn.add {L:List (ByteArray × Value)} {K:List (List Int)} (h:IxIn L K) {k:List Int} (hk:k ∉ K):IxIn (yR L (spC k) (.int .i64 (K.length:Int))) (K++[k]):=fun s=>by
 rw [jO]
 by_cases e:spC s=spC k
 ·
  obtain rfl:=ziu e
  rw [zo4 rfl,zo4 (by simp),List.idxOf_append,zo3 hk]
  simp
 ·
  have hsk:s ≠ k:=fun e2=>e (by rw [e2])
  rw [zo3 e,h s]
  by_cases hs:s ∈ K
  . rw [zo4 hs,zo4 (List.mem_append_left _ hs),List.idxOf_append,zo4 hs]
  . rw [zo3 hs,zo3 (by simp [hs,hsk])]
theorem qj {f:Fl} (vd:Valid f):(∃ m,zk 1 f.vars=some m)/\(∃ m,zk 2 f.vars=some m)/\∃ m,zk 3 f.vars=some m:=by
 have h:=(ye vd.ok).2.1
 unfold zr at h
 split at h
 . rename_i h1;exact absurd h h1
 split at h
 . cases h
 ·
  rename_i h2
  unfold yA at h2
  cases h3:zk 1 f.vars <;> cases h4:zk 2 f.vars <;> cases h5:zk 3 f.vars <;> simp [h3,h4,h5] at h2 ⊢
def rnN (f:Fl):Nat:=((zk 3 f.vars).getD 0).toNat
theorem zg2 {f:Fl} (vd:Valid f):(zk 1 f.vars).getD 0=(spN f:Int)/\1<=spN f/\spN f<=4096:=by
 obtain⟨⟨m,h⟩,_⟩:=qj vd
 have h1:=yk 1 f.vars 1 m vd.good (by omega) (by omega) h
 unfold spN
 rw [h,Option.getD_some]
 omega
theorem zg3 {f:Fl} (vd:Valid f):(zk 3 f.vars).getD 0=(rnN f:Int)/\1<=rnN f/\rnN f<=4096:=by
 obtain⟨_,_,m,h⟩:=qj vd
 have h1:=yk 3 f.vars 1 m vd.good (by omega) (by omega) h
 unfold rnN
 rw [h,Option.getD_some]
 omega
theorem ziv {f:Fl} (vd:Valid f) {s r:Nat} (hs:s<spN f) (hr:r<rnN f):zz 1 f.vars s=0/\zz 2 f.vars 0=0/\zz 3 f.vars r=0:=by
 obtain⟨⟨m1,h1⟩,⟨m2,h2⟩,m3,h3⟩:=qj vd
 have a1:=(zg2 vd).1
 have a3:=(zg3 vd).1
 refine⟨?_,zih vd.good (by rw [h2];rfl),?_⟩
 ·
  unfold zz
  rw [zo4 (by rw [h1];rfl),zo3 (by omega)]
 ·
  unfold zz
  rw [zo4 (by rw [h3];rfl),zo3 (by omega)]
def zjM (f:Fl) (pub:List Int) (t:Bool) (s:Nat):List Ob:=(List.range (rnN f)).map (obX f pub t s)
def ziS (f:Fl) (pub:List Int) (t:Bool):List Ob:=zeE ((List.range (spN f)).flatMap (zjM f pub t))
def mxO (f:Fl) (pub:List Int) (t:Bool):Mx:=(List.range (spN f)).map fun s=>(ziS f pub t).map fun o=>((zgx (obX f pub t s) (rnN f) o:Nat):Int)
def xA (f:Fl) (pub:List Int) (t:Bool):Int :=
 if ym f ≠ 0 then ym f else if (qH 2 f.vars pub).2 ≠ 0 then (if (qH 2 f.vars pub).2=2 then 1 else (qH 2 f.vars pub).2) else if 256<spN f then 4 else if 256<(ziS f pub t).length then 4 else 0
theorem ziw {f:Fl} {pub:List Int} {t:Bool} {al:List Ob} {cnt:Nat->Nat->Nat} (h:OfIn (obX f pub t) (rnN f) (spN f) 0 al cnt):(∀ o,o ∈ al ↔ o ∈ (List.range (spN f)).flatMap (zjM f pub t))/\∀ s,s<spN f->∀ k o,al[k]?=some o->cnt s k=zgx (obX f pub t s) (rnN f) o:=by
 refine⟨fun o=>?_,fun s hs k o hk=>?_⟩
 ·
  rw [h.mem,List.mem_flatMap]
  constructor
  ·
   rintro⟨s',r',h1,h2⟩
   unfold xU at h1
   by_cases hs:s'<spN f
   ·
    rw [zo4 hs] at h1
    exact⟨s',List.mem_range.2 hs,List.mem_map.2 ⟨r',List.mem_range.2 h1,h2⟩⟩
   ·
    rw [zo3 hs] at h1
    split at h1 <;> omega
  ·
   rintro⟨s',h1,h2⟩
   obtain⟨r',h3,h4⟩:=List.mem_map.1 h2
   refine⟨s',r',?_,h4⟩
   unfold xU
   rw [zo4 (List.mem_range.1 h1)]
   exact List.mem_range.1 h3
 ·
  rw [h.ct s k o hk]
  unfold xU
  rw [zo4 hs]
def zcV (s k:Nat) (hs:s<1000000000) (hk:k<1000000000):zhM:=⟨((s:Int),(k:Int)),⟨by omega,by omega⟩,by omega,by omega⟩
def CntIn (L:List (zhM × Value)) (cnt:Nat->Nat->Nat):Prop:=∀ s k (hs:s<1000000000) (hk:k<1000000000),(jN L (zcV s k hs hk)).getD (.int .i64 0)=.int .i64 ((cnt s k:Nat):Int)
theorem zln:CntIn [] (fun _ _=>0):=fun _ _ _ _=>rfl
theorem CntIn.add {L:List (zhM × Value)} {cnt:Nat->Nat->Nat} (h:CntIn L cnt) {s k:Nat} (hs:s<1000000000) (hk:k<1000000000):CntIn (yR L (zcV s k hs hk) (.int .i64 ((cnt s k:Nat)+1:Int))) (fun s' k'=>cnt s' k'+if s'=s/\k'=k then 1 else 0):=fun s' k' hs' hk'=>by
 rw [jO]
 by_cases e:s'=s/\k'=k
 ·
  obtain⟨rfl,rfl⟩:=e
  rw [zo4 rfl]
  simp
 ·
  rw [zo3,h s' k' hs' hk']
  ·
   dsimp only
   rw [zo3 e]
   simp
  ·
   intro e2
   have:=congrArg Subtype.val e2
   simp only [zcV,Prod.mk.injEq] at this
   exact e ⟨by omega,by omega⟩
def spO (o:Ob):List Int:=o.2::o.1
theorem zg4 {o p:Ob} (h:spO o=spO p):o=p:=by
 unfold spO at h
 simp only [List.cons.injEq] at h
 exact Prod.ext h.2 h.1
theorem spO_mem {o:Ob} {al:List Ob}:spO o ∈ al.map spO ↔ o ∈ al:=by
 constructor
 ·
  intro h
  obtain⟨p,hp,e⟩:=List.mem_map.1 h
  rwa [<- zg4 e]
 . exact fun h=>List.mem_map.2 ⟨o,h,rfl⟩
theorem zix {o:Ob} {al:List Ob} (h:o ∈ al):(al.map spO).idxOf (spO o)<al.length/\al[(al.map spO).idxOf (spO o)]?=some o:=by
 have h1:=List.idxOf_lt_length_iff.2 (spO_mem.2 h)
 have h2:(al.map spO)[(al.map spO).idxOf (spO o)]?=some (spO o):=by rw [znT h1,List.getElem_idxOf]
 rw [zod] at h1
 refine⟨h1,?_⟩
 rw [zoa] at h2
 obtain⟨p,hp,e⟩:=Option.map_eq_some_iff.1 h2
 rw [hp,zg4 e]
end Go.Proofs.YtaenledoagbddaaGreatDoor
namespace Go.GL
open Go.Sort Go.Proofs Go.RowKit
section
variable {β:Type} [Inhabited β] {enc:β->Value}
theorem qk {w:World} {b:Nat} {l:List β} {sp:List Value} {e:TypeId} (hb:Blk w b (l.map enc++sp) e) (d:Array β) (hs:d.size=l.length) (m:Nat) (os:Array Obj) :
  Blk (sortWorld enc w b 0 m d os) b (d.toList.map enc++sp) e/\Keep (fun q=>q=b) w (sortWorld enc w b 0 m d os):=by
 unfold sortWorld
 have hblk:=hb.lt
 have hsz:(putRow enc (Go.Sort.ahead w m) b 0 d).heap.size=w.heap.size:=by simp []
 have hat:∀ i,i<w.heap.size->(grow (putRow enc (Go.Sort.ahead w m) b 0 d) os).heap[i]?=(putRow enc (Go.Sort.ahead w m) b 0 d).heap[i]?:=by
  intro i hi
  show ((putRow enc (Go.Sort.ahead w m) b 0 d).heap++os)[i]?=_
  rw [Array.getElem?_append_left (by rw [hsz];exact hi)]
 refine⟨?_,rfl,rfl,rfl,Nat.le_add_right _ _,?_,?_⟩
 ·
  unfold Blk at *
  rw [hat b hblk]
  show (w.heap.modify b _)[b]?=_
  rw [Array.getElem?_modify,zo4 rfl,hb]
  simp only [Option.map_some,onCells]
  congr 2
  apply Array.ext_getElem?
  intro j
  simp only [putCells,Array.getElem?_mapIdx,List.getElem?_toArray]
  by_cases hj:j<d.size
  ·
   rw [zoj (by simpa [<- hs] using hj),zoj (by simpa using hj)]
   rw [znT (by simpa [<- hs] using hj)]
   simp [hj]
  ·
   rw [zok (by simp;omega),zok (by simp;omega)]
   have hj':¬ j<l.length:=by omega
   simp [hs,hj']
 ·
  show w.heap.size<=((putRow enc (Go.Sort.ahead w m) b 0 d).heap++os).size
  rw [Array.size_append,hsz];omega
 ·
  intro i hi hne
  rw [hat i hi]
  show (w.heap.modify b _)[i]?=_
  rw [Array.getElem?_modify,zo3 (fun h=>hne h.symm)]
theorem zg5 {w:World} {b:Nat} {l:List β} {sp:List Value} {e:TypeId} (hb:Blk w b (l.map enc++sp) e):Holds enc w b 0 l.toArray:=by
 intro j hj
 have hj':j<l.length:=by simpa using hj
 refine⟨?_,hb.frozen⟩
 refine hb.cells j _ ?_
 rw [zoj (by simpa using hj'),zoa,znT hj']
 simp [hj']
end
section
variable {P:Program} {f6 g:FuncId} {cb:Array Value} {α:Type} {R:Rel α} [hst:StC R] {e:TypeId} {cf:α->α->Int} {l:List α} {v:Value} {F:Nat->Prop} {w:World}
abbrev El1 (R:Rel α) (F:Nat->Prop) (w:World):={ x:α × Value // R F w x.1 [x.2] }
abbrev ziT {R:Rel α} {F:Nat->Prop} {w:World} (x:El1 R F w):Value:=x.1.2
omit hst in
theorem zec {F:Nat->Prop} {w:World}:∀ (l:List α) (xs:List Value),xs.length=l.length*1->(∀ (i:Nat) x,l[i]?=some x->R F w x ((xs.drop (i*1)).take 1))->∃ es:List (El1 R F w),es.map (fun e=>e.1.1)=l/\es.map ziT=xs
 | [],[],_,_=>⟨[],rfl,rfl⟩
 | [],_::_,h,_=>by simp at h
 | x::l,[],h,_=>by simp at h
 | x::l,a::xs,h,hR=>by
  have h1:=hR 0 x rfl
  rw [Nat.zero_mul,List.drop_zero,List.take_succ_cons,List.take_zero] at h1
  obtain⟨es,h3,h4⟩:=zec l xs (by simp at h;omega) (fun i y hy=>by
   have:=hR (i+1) y (by simpa using hy)
   rw [Nat.succ_mul] at this
   simpa using this)
  exact⟨⟨(x,a),h1⟩::es,by simp [h3],by simp [h4]⟩
omit hst in
theorem zg6 {F:Nat->Prop} {w w':World} (hk:∀ x cs,R F w x cs->R F w' x cs):∀ (es:List (El1 R F w)) (i:Nat) (x:α),(es.map (fun e=>e.1.1))[i]?=some x->R F w' x (((es.map ziT).drop (i*1)).take 1)
 | [],i,x,h=>by simp at h
 | e::es,0,x,h=>by
  simp only [List.map_cons,List.getElem?_cons_zero,Option.some.injEq] at h
  subst h
  exact hk _ _ e.2
 | e::es,i+1,x,h=>by
  simp only [List.map_cons,List.getElem?_cons_succ] at h
  have:=zg6 hk es i x h
  rw [Nat.succ_mul]
  simpa using this
def zed (P:Program) (f6:FuncId):Prop:=(∀ {β:Type} [Inhabited β] (enc:β->Value) (_:OneCell enc) (cf:β->β->Int) (_:SWO (ltOf cf)) (g:Nat) (cb:Array Value) (blk off cap:Nat) (d:Array β) (w:World) (_:∀ args w,(callFunc g args).run P w=.ok (.enter g args) w) (_:CmpLays1 P g cb enc cf blk off d.size w) (_:Holds enc w blk off d) (_:blk<w.heap.size) (_:d.size<4611686018427387904),
  Calls P f6 #[.slice (some ⟨blk,off,none⟩) d.size cap,.func (.func g) #[] cb] w fun e w'=>e=.returned (.tuple #[])/\∃ d' n os,PermIn 0 d.size d d'/\SortedIn (ltOf cf) 0 d.size d'/\w'=sortWorld enc w blk off n d' os) /\
 ∀ (p:Option Addr) (cap:Nat) (fv:Value) (w:World),Calls P f6 #[.slice p 0 cap,fv] w fun e w'=>e=.returned (.tuple #[])/\w'=w
theorem zhl (hS:zed P f6) (h1:∀ D w x cs,R D w x cs->∃ u,cs=[u]/\u.oneCell'=true) (hf:∀ args w,(callFunc g args).run P w=.ok (.enter g args) w) (hO:SWO (ltOf cf)) (hlen:l.length<=1048576) (hown:OwH e 1 R F w v l)
  (hcf:∀ (x y:α) (u u':Value) (W:World),Keep (fun q=>v.ownBlock=some q) w W->R F W x [u]->R F W y [u']->Calls P g (#[u,u']++cb) W (Ret fun r w'=>r=.int .i64 (cf x y)/\Ext W w')) :
  Calls P f6 #[v,.func (.func g) #[] cb] w (Ret fun u w'=>u=.tuple #[]/\∃ l':List α,l'.Perm l/\l'.Pairwise (fun a b=>¬ cf b a<0)/\OwH e 1 R F w' v l'/\Keep (fun q=>v.ownBlock=some q) w w'):=by
 by_cases h0:l=[]
 ·
  subst h0
  obtain⟨ao,c,rfl,_⟩:=hown.form
  refine (hS.2 ao c (.func (.func g) #[] cb) w).mono ?_
  rintro e w' ⟨rfl,rfl⟩
  exact⟨_,rfl,rfl,[],List.Perm.refl _,List.Pairwise.nil,hown,Keep.refl _ _⟩
 obtain⟨⟨xs,hx1,hx2⟩,hF⟩:=hown
 obtain⟨es,he1,he2⟩:=zec l xs hx1.1 hx2
 subst he2
 have hel:es.length=l.length:=by rw [<- he1,zod]
 have hes:es ≠ []:=fun h=>h0 (by rw [<- he1,h];rfl)
 obtain⟨b,cap,sp,rfl,_,hnc,hcm,hB,hcl⟩:=zeV hx1 hes
 haveI:Inhabited (El1 R F w):=⟨es.head hes⟩
 have hFg:∀ q,F q->q ≠ b:=fun q hq e=>(hF q hq).2 (by rw [e];rfl)
 have hswo:SWO (ltOf fun x y:El1 R F w=>cf x.1.1 y.1.1):=⟨fun x=>hO.1 x.1.1,fun x y z=>hO.2 x.1.1 y.1.1 z.1.1,fun x y z=>hO.3 x.1.1 y.1.1 z.1.1⟩
 have hkeep:∀ (d:Array (El1 R F w)) (m:Nat) (os:Array Obj),d.size=es.length->Keep (fun q=>(Value.slice (some ⟨b,0,none⟩) l.length cap).ownBlock=some q) w (sortWorld ziT w b 0 m d os):=fun d m os hd=>(qk hB d hd m os).2.mono (fun q _ h=>by rw [h];rfl)
 have hstc:∀ (d:Array (El1 R F w)) (m:Nat) (os:Array Obj),d.size=es.length->∀ x cs,R F w x cs->R F (sortWorld ziT w b 0 m d os) x cs:=fun d m os hd x cs hs =>
  hst.s F F w _ (fun _ h=>h) (fun q hq hlt=>(qk hB d hd m os).2.block q hlt (hFg q hq)) x cs hs
 have hcon:=hS.1 ziT (fun x=>by obtain⟨u,h2,h3⟩:=h1 _ _ _ _ x.2;cases h2;exact h3) (fun x y=>cf x.1.1 y.1.1) hswo g cb b 0 cap es.toArray w hf
  (fun m os dk hd x y=>by
   have hd':dk.size=es.length:=by simpa using hd
   refine (hcf x.1.1 y.1.1 _ _ _ (hkeep dk m os hd') (hstc dk m os hd' _ _ x.2) (hstc dk m os hd' _ _ y.2)).mono ?_
   rintro e w' ⟨v,rfl,rfl,hk⟩
   exact⟨rfl,zhe hk⟩)
  (zg5 hB) hB.lt (by simp only [List.size_toArray];omega)
 rw [show es.toArray.size=l.length from by simpa using hel] at hcon
 refine hcon.mono ?_
 rintro e w' ⟨rfl,d',q,os,hp,hs,rfl⟩
 have hds:d'.size=es.length:=by have:=hp.1;simpa using this
 have hw:=qk hB d' hds q os
 have hperm:d'.toList.Perm es:=zds (by rw [show es.toArray.size=l.length from by simpa using hel];exact hp)
 have hdl:d'.toList.length=l.length:=by rw [hperm.length_eq,hel]
 refine⟨_,rfl,rfl,d'.toList.map (fun e=>e.1.1),?_,?_,⟨⟨d'.toList.map ziT,?_,?_⟩,fun q hq=>⟨Nat.lt_of_lt_of_le (hF q hq).1 hw.2.size,(hF q hq).2⟩⟩,hkeep d' q os hds⟩
 ·
  have:=hperm.map (fun e=>e.1.1)
  rwa [he1] at this
 ·
  rw [List.pairwise_map]
  refine (zbW (by rw [hds,hel]) hs).imp ?_
  intro a b h
  unfold ltOf at h
  simpa using h
 ·
  have h4:=zeW hw.1 (cap:=cap) (by rw [<- hcl,zo1,zo1,zod,zod,hperm.length_eq]) hcm
  rw [hdl] at h4
  rw [zod,hdl]
  exact h4
 . exact zg6 (hstc d' q os hds) d'.toList
theorem zg7 {H:Hp} {Bs:zP} {k:Nat} (hS:zed P f6) (h1:∀ D w x cs,R D w x cs->∃ u,cs=[u]/\u.oneCell'=true) (hf:∀ args w,(callFunc g args).run P w=.ok (.enter g args) w) (hO:SWO (ltOf cf)) (hI:VI Bs H w) (h0:zl H k=some (OwP e 1 R F v l)) (hlen:l.length<=1048576)
  (hcf:∀ (x y:α) (u u':Value) (W:World),Keep (fun q=>v.ownBlock=some q) w W->R F W x [u]->R F W y [u']->Calls P g (#[u,u']++cb) W (Ret fun r w'=>r=.int .i64 (cf x y)/\Ext W w')) :
  Calls P f6 #[v,.func (.func g) #[] cb] w (Ret fun r w'=>∃ l':List α,(r=.tuple #[]/\l'.Perm l/\l'.Pairwise (fun a b=>¬ cf b a<0))/\HE.holds w' (OwP e 1 R F v l')/\Keep (HE.S (OwP e 1 R F v l)) w w'/\∀ q,HE.S (OwP e 1 R F v l') q->(HE.S (OwP e 1 R F v l) q\/w.heap.size<=q)/\q<w'.heap.size):=by
 refine (zhl hS h1 hf hO hlen (hI.at k h0) hcf).mono ?_
 rintro _ w' ⟨_,rfl,rfl,l',h1,h2,h3,h4⟩
 refine⟨_,rfl,l',⟨rfl,h1,h2⟩,h3,h4.mono fun q _ hq=>.inl hq,fun q hq=>⟨.inl hq,?_⟩⟩
 exact Nat.lt_of_lt_of_le (hI.low _ (zi h0) q hq) h4.size
end
end Go.GL
namespace Go.Proofs
open Go.Shelf
def Tryz.laysSlF6B_ren:Go.Shelf.Ren:=⟨fun | 6=>67 | 15=>130 | 14=>129 | 28=>167 | 29=>168 | 20=>159 | 21=>160 | 22=>161 | 23=>162 | 24=>163 | 25=>164 | 26=>165 | 27=>166 | 46=>209 | 47=>210 | 48=>211 | 49=>212 | 50=>213 | 57=>229 | n=>n,fun | 22=>27 | 24=>3 | 25=>113 | 3=>3 | 39=>172 | 0=>0 | 53=>205 | 55=>207 | 4=>4 | 46=>199 | 45=>198 | 50=>108 | 5=>5 | 9=>9 | 66=>234 | 70=>238 | 76=>251 | 77=>180 | n=>n,fun | n=>n⟩
theorem Tryz.laysSlF6B:Go.Proofs.SlLaysF.n6 Tryz.prog Tryz.laysSlF6B_ren:={
 mixed:=by kernel_rfl
 f6:=⟨Tryz.f67.name,by decide,Tryz.func67.trans (congrArg some (by kernel_rfl))⟩
 f14:=⟨Tryz.f129.name,by decide,Tryz.func129.trans (congrArg some (by kernel_rfl))⟩
 f15:=Tryz.func130.trans (congrArg some (by kernel_rfl))
 f20:=⟨Tryz.f159.name,by decide,Tryz.func159.trans (congrArg some (by kernel_rfl))⟩
 f21:=⟨Tryz.f160.name,by decide,Tryz.func160.trans (congrArg some (by kernel_rfl))⟩
 f22:=⟨Tryz.f161.name,by decide,Tryz.func161.trans (congrArg some (by kernel_rfl))⟩
 f23:=⟨Tryz.f162.name,by decide,Tryz.func162.trans (congrArg some (by kernel_rfl))⟩
 f24:=⟨Tryz.f163.name,by decide,Tryz.func163.trans (congrArg some (by kernel_rfl))⟩
 f25:=⟨Tryz.f164.name,by decide,Tryz.func164.trans (congrArg some (by kernel_rfl))⟩
 f26:=⟨Tryz.f165.name,by decide,Tryz.func165.trans (congrArg some (by kernel_rfl))⟩
 f27:=⟨Tryz.f166.name,by decide,Tryz.func166.trans (congrArg some (by kernel_rfl))⟩
 f28:=Tryz.func167.trans (congrArg some (by kernel_rfl))
 f29:=Tryz.func168.trans (congrArg some (by kernel_rfl))
 f46:=⟨Tryz.f209.name,by decide,Tryz.func209.trans (congrArg some (by kernel_rfl))⟩
 f47:=Tryz.func210.trans (congrArg some (by kernel_rfl))
 f48:=Tryz.func211.trans (congrArg some (by kernel_rfl))
 f49:=⟨Tryz.f212.name,by decide,Tryz.func212.trans (congrArg some (by kernel_rfl))⟩
 f50:=⟨Tryz.f213.name,by decide,Tryz.func213.trans (congrArg some (by kernel_rfl))⟩
 f57:=⟨Tryz.f229.name,by decide,Tryz.func229.trans (congrArg some (by kernel_rfl))⟩
 t0:=tu0
 a0:=tg0
 z0:=ts0
 v0:=tz0
 t3:=tu3
 a3:=tg3
 z3:=ts3
 v3:=tz3
 t4:=tu4
 a4:=tg4
 z4:=ts4
 v4:=tz4
 t5:=tu5
 a5:=tg5
 z5:=ts5
 v5:=tz5
 t9:=tu9
 a9:=tg9
 z9:=ts9
 v9:=tz9
 t22:=tu27
 a22:=tg27
 z22:=ts27
 v22:=tz27
 a24:=tg3
 z24:=ts3
 t25:=Tryz.underlying113
 a25:=Tryz.isAgg113
 z25:=Tryz.sizeOf113
 v25:=Tryz.zeroValue113
 t39:=tu172
 a39:=Tryz.isAgg172
 z39:=ts172
 v39:=tz172
 t45:=tu198
 a45:=Tryz.isAgg198
 z45:=Tryz.sizeOf198
 v45:=Tryz.zeroValue198
 t46:=tu199
 a46:=Tryz.isAgg199
 z46:=Tryz.sizeOf199
 v46:=Tryz.zeroValue199
 t50:=tu108
 a50:=Tryz.isAgg108
 z50:=Tryz.sizeOf108
 v50:=Tryz.zeroValue108
 t53:=tu205
 a53:=Tryz.isAgg205
 z53:=ts205
 v53:=tz205
 t55:=tu207
 a55:=Tryz.isAgg207
 z55:=ts207
 v55:=tz207
 t66:=tu234
 a66:=Tryz.isAgg234
 z66:=ts234
 v66:=Tryz.zeroValue234
 t70:=tu238
 a70:=Tryz.isAgg238
 z70:=Tryz.sizeOf238
 v70:=Tryz.zeroValue238
 t76:=tu251
 a76:=Tryz.isAgg251
 z76:=Tryz.sizeOf251
 v76:=Tryz.zeroValue251
 t77:=tu180
 a77:=Tryz.isAgg180
 z77:=Tryz.sizeOf180
 v77:=Tryz.zeroValue180 }
open Go.RowKit Go.Lib Go.Sort in
theorem Tryz.slices_SortFuncB {α:Type} [Inhabited α] (enc:α->Value) (h1:OneCell enc) (cf:α->α->Int) (hO:SWO (ltOf cf)) (g:Nat) (cb:Array Value) (blk off cap:Nat) (d:Array α) (w:World) (eg:∀ args w,(callFunc g args).run Tryz.prog w=.ok (.enter g args) w) (hcmp:CmpLays1 Tryz.prog g cb enc cf blk off d.size w) (hH:Holds enc w blk off d) (hblk:blk<w.heap.size) (hsz:d.size<4611686018427387904) :
  Calls Tryz.prog 67 #[.slice (some ⟨blk,off,none⟩) d.size cap,.func (.func g) #[] cb] w fun e w' =>
   e=.returned (.tuple #[])/\∃ d' n os,PermIn 0 d.size d d'/\SortedIn (ltOf cf) 0 d.size d'/\w'=sortWorld enc w blk off n d' os:=Any.slices_SortFunc Tryz.laysSlF6B enc h1 cf hO g cb blk off cap d w eg hcmp hH hblk hsz
open Go.RowKit Go.Lib Go.Sort in
theorem Tryz.slices_SortFuncB_none (p:Option Addr) (cap:Nat) (fv:Value) (w:World) :
  Calls Tryz.prog 67 #[.slice p 0 cap,fv] w fun e w'=>e=.returned (.tuple #[])/\w'=w:=AnyF.slices_SortFunc_none { Tryz.laysSlF6B with } p cap fv w
end Go.Proofs
namespace Go.Proofs.YtaenledoagbddaaGreatDoor
open Go.GL
def atO (al:List Ob) (x:Int):Ob:=(al[x.toNat]?).getD ([],0)
theorem zg8 {al:List Ob} {k:Nat} {o:Ob} (h:al[k]?=some o):atO al (k:Int)=o:=by unfold atO;rw [zof,h];rfl
theorem zjj (al:List Ob) (x y:Nat) (hx:x<al.length) (hy:y<al.length) (v:Value) (D:Nat->Prop) (b:Nat) (W:World) (hB:Cells W b 0 [v]) (hl:SlR 2 ROb D W v al):Calls Tryz.prog 68 #[.int .i64 x,.int .i64 y,.pointer (some ⟨b,0,none⟩)] W (Ret fun r w'=>r=.int .i64 (yF (atO al x) (atO al y))/\Ext W w'):=by
 obtain⟨av,cv,rfl⟩:=hl.form
 refine zmc Tryz.func68 O Tryz.ntmps68 O (zmm ?_)
 refine zmJ 900 0 O O (fun h=>h) hB ?_
 refine zms 2 900 0 O O ?_
 refine Vs 6 O ?_
 obtain⟨ox,he_ox,hm_ox⟩:=gE_ al (x) (by omega)
 obtain⟨b_ox,o_ox,c_ox,ha_ox,_,hc_ox,hR_ox⟩:=hl.at he_ox
 obtain⟨v1_ox,rfl,hs_ox⟩:=hR_ox
 obtain⟨a1_ox,n1_ox,rfl⟩:=hs_ox.form
 refine zmI 1000 0 O O hc_ox ?_
 obtain⟨oy,he_oy,hm_oy⟩:=gE_ al (y) (by omega)
 obtain⟨b_oy,o_oy,c_oy,ha_oy,_,hc_oy,hR_oy⟩:=hl.at he_oy
 obtain⟨v1_oy,rfl,hs_oy⟩:=hR_oy
 obtain⟨a1_oy,n1_oy,rfl⟩:=hs_oy.form
 refine zmI 2000 0 O O hc_oy ?_
 refine Vw [900,1000,2000] [] O ?_
 refine Vd [0,1,4,5] 0 (by kernel_rfl) O O O ?_
 refine VD.ix 2 1000 tR37 ts55 O (by kernel_rfl) O ha_ox (by omega) (x) (by omega) O ?_
 refine Vd [3] 0 (by kernel_rfl) O O O ?_
 refine VD.ix 6 2000 tR37 ts55 O (by kernel_rfl) O ha_oy (by omega) (y) (by omega) O ?_
 refine Vd [7] 0 (by kernel_rfl) O O O ?_
 refine zmC 8 0 Tryz.call69 O (by kernel_rfl) O O (fun w hI=>zb8 ox oy _ _ D D w (Tr1 hI.k0 hs_ox) (Tr1 hI.k0 hs_oy)) ?_
 refine Vd [9] 0 (by kernel_rfl) O O O ?_
 refine zlb (by kernel_rfl) ?_
 refine Vs 2 O ?_
 refine zkr Tryz.results68 O (fun w hI=>⟨_,rfl,by rw [zg8 he_ox,zg8 he_oy],hI.k0⟩)
def ziU (n:Nat):Rel Int:=fun _ _ x cs=>cs=[.int .i64 x]/\0<=x/\x<(n:Int)
instance (n:Nat):StC (ziU n):=⟨fun _ _ _ _ _ _ _ _ h=>h⟩
theorem ziy {n:Nat} {w:World} {v:Value} {l:List Int} (h:w.ownsRow 0 3 1 v l.length (l.map zd)) (hl:∀ x ∈ l,0<=x/\x<(n:Int)):OwH 3 1 (ziU n) (fun _=>False) w v l :=
 ⟨⟨_,h,fun i x hx=>⟨by rw [Nat.mul_one,yU (show (l.map zd)[i]?=some (zd x) by rw [zoa,hx];rfl)];rfl,hl x (znU hx)⟩⟩,fun _ h=>h.elim⟩
theorem zg9 {n:Nat} {F:Nat->Prop} {w:World} {v:Value} {l:List Int} (h:OwH 3 1 (ziU n) F w v l):w.ownsRow 0 3 1 v l.length (l.map zd)/\∀ x ∈ l,0<=x/\x<(n:Int):=by
 obtain⟨⟨xs,h1,h2⟩,_⟩:=h
 have hxl:=h1.1
 have:xs=l.map zd:=by
  apply List.ext_getElem?
  intro i
  by_cases hi:i<l.length
  ·
   obtain⟨x,hx⟩:∃ x,l[i]?=some x:=⟨_,znT hi⟩
   obtain⟨h3,_⟩:=h2 i x hx
   rw [Nat.mul_one] at h3
   have h4:=congrArg (fun z=>z[0]?) h3
   simp only [zop,List.getElem?_drop,Nat.add_zero] at h4
   rw [zoa,hx]
   simpa using h4
  . rw [zoh (by omega),zoh (by rw [zod];omega)]
 rw [this] at h1
 refine⟨h1,fun x hx=>?_⟩
 obtain⟨i,hi⟩:=List.mem_iff_getElem?.1 hx
 exact (h2 i x hi).2
theorem zjN (al:List Ob):Go.Sort.SWO (Go.Proofs.ltOf fun x y:Int=>yF (atO al x) (atO al y)):=by
 have hlt:∀ x y:Int,Go.Proofs.ltOf (fun x y:Int=>yF (atO al x) (atO al y)) x y=true ↔ yF (atO al x) (atO al y)<0:=fun x y=>by unfold Go.Proofs.ltOf;rw [decide_eq_true_eq]
 have hlf:∀ x y:Int,Go.Proofs.ltOf (fun x y:Int=>yF (atO al x) (atO al y)) x y=false ↔ ¬ yF (atO al x) (atO al y)<0:=fun x y=>by rw [<- hlt,Bool.not_eq_true]
 refine⟨fun x=>?_,fun x y z=>?_,fun x y z=>?_⟩
 . rw [hlf,km];omega
 . rw [hlt,hlt,hlt];exact jo
 ·
  rw [hlf,hlf,hlf]
  intro h1 h2 h3
  have a1:=xt (atO al x) (atO al y)
  have a2:=xt (atO al y) (atO al z)
  have a3:=xt (atO al x) (atO al z)
  rcases Int.lt_or_le (yF (atO al y) (atO al x)) 0 with b | b
  . have:=jo b h3;omega
  ·
   have e:atO al x=atO al y:=zaN (by omega)
   rw [e] at h3;exact h2 h3
theorem zjk:zed Tryz.prog 67:=⟨fun enc h1 cf hO g cb blk off cap d w eg hcmp hH hblk hsz=>Tryz.slices_SortFuncB enc h1 cf hO g cb blk off cap d w eg hcmp hH hblk hsz,fun p cap fv w=>Tryz.slices_SortFuncB_none p cap fv w⟩
theorem zee (l:List Int) (v:Value) (D:Nat->Prop) (W:World) (hl:SlR 1 zB D W v l):Calls Tryz.prog 85 #[v] W (Ret fun r w'=>r=.int .i64 (kK l 0)/\Ext W w'):=by
 obtain⟨av,cv,rfl⟩:=hl.form
 have hmx:=hl.max
 refine zma Tryz.func85 O Tryz.ntmps85 O (zmm ?_)
 refine Vs 19 O ?_
 refine zmL (σ:=Nat × Int) [6,7] [] [] O (fun e ⟨i,t⟩=>(8,.int .i64 i)::(3,.int .i64 t)::e) (fun e ⟨i,t⟩=>e) (fun⟨i,t⟩=>i<=l.length/\0<=t/\t<=1048576/\kK (l.drop i) t=kK l 0) (fun⟨i,t⟩=>l.length - i) ((0,0)) (zlO O) (zlP O) (fun _=>rfl) (fun _=>rfl) (fun _=>rfl) (⟨zo8 _,Int.le_refl 0,by omega,rfl⟩) ?_
 rintro⟨i,t⟩ ⟨hi,h0,h1,heq⟩
 show V _ _ _ _ _ ((8,.int .i64 i)::(3,.int .i64 t)::_) _ (_) _
 refine Vs 6 O ?_
 refine zk7 O (fun hlt=>?_) (fun hlt=>?_)
 ·
  refine Vs 6 O ?_
  obtain⟨x,he_x,hm_x⟩:=gE_ l (i) (by omega)
  obtain⟨b_x,o_x,c_x,ha_x,_,hc_x,hR_x⟩:=hl.at he_x
  obtain rfl:=hR_x
  refine zmI 1000 0 O O hc_x ?_
  refine V.ix 1000 tR27 ts3 O ha_x (by omega) (_) (rfl) O ?_
  rw [yU he_x,kK] at heq
  refine Vs 10 O ?_
  refine V.sp 14 O (fun g0=>?_) (fun g0=>?_)
  ·
   rw [zo4 (.inl g0)] at heq
   refine Vs 20 O ?_
   refine zkr Tryz.results85 O (fun w hI=>⟨_,rfl,by rw [<- heq],hI.k0⟩)
  ·
   refine Va 7 O (by omega) ?_
   refine zk7 O (fun g1=>?_) (fun g1=>?_)
   ·
    rw [zo4 (.inr (by omega))] at heq
    refine Vs 12 O ?_
    refine zkr Tryz.results85 O (fun w hI=>⟨_,rfl,by rw [<- heq],hI.k0⟩)
   ·
    rw [zo3 (by omega)] at heq
    refine Va 14 O (by omega) ?_
    refine zki (⟨i+1,t+x⟩) (zlO O) (zlP O) (⟨by omega,by omega,by omega,heq⟩) (by first | omega | (dsimp only;omega)) 0 O O
 ·
  obtain rfl:i=l.length:=by omega
  rw [List.drop_length,kK] at heq
  refine Vs 12 O ?_
  refine zkr Tryz.results85 O (fun w hI=>⟨_,rfl,by rw [<- heq],hI.k0⟩)
def ql (l:List Int):Int:=if (l.filter fun n=>decide (0<n)).length=1 then zji l else -1
theorem zga {l:List Int} {x:Int} (h:¬ 0<x):((l++[x]).filter fun n=>decide (0<n)).length=(l.filter fun n=>decide (0<n)).length/\ql (l++[x])=ql l:=by
 have h1:((l++[x]).filter fun n=>decide (0<n))=l.filter fun n=>decide (0<n):=by rw [List.filter_append];simp [h]
 refine⟨by rw [h1],?_⟩
 unfold ql
 rw [h1]
 split
 ·
  rename_i h2
  unfold zji
  have h3:(l.findIdx fun n=>decide (0<n))<l.length:=by
   obtain⟨y,hy⟩:=List.exists_mem_of_length_pos (show 0<(l.filter fun n=>decide (0<n)).length by omega)
   obtain⟨h4,h5⟩:=List.mem_filter.1 hy
   exact List.findIdx_lt_length_of_exists ⟨y,h4,h5⟩
  rw [List.findIdx_append,zo4 h3]
 . rfl
theorem zhm {l:List Int} {x:Int} (h:0<x) (hn:(l.filter fun n=>decide (0<n)).length=0):((l++[x]).filter fun n=>decide (0<n)).length=1/\ql (l++[x])=(l.length:Int):=by
 have h1:((l++[x]).filter fun n=>decide (0<n)).length=1:=by rw [List.filter_append,zo1,hn];simp [h]
 refine⟨h1,?_⟩
 unfold ql
 rw [zo4 h1]
 unfold zji
 have h2:∀ y ∈ l,¬ 0<y:=fun y hy hp=>by
  have:y ∈ l.filter fun n=>decide (0<n):=List.mem_filter.2 ⟨hy,zo5 hp⟩
  rw [List.length_eq_zero_iff.1 hn] at this
  cases this
 have h3:(l.findIdx fun n=>decide (0<n))=l.length:=List.findIdx_eq_length.2 fun y hy=>by simpa using h2 y hy
 rw [List.findIdx_append,zo3 (by omega)]
 simp [h]
theorem zhn {l m:List Int} {x:Int} (h:0<x) (hn:(l.filter fun n=>decide (0<n)).length=1):ql (l++x::m)=-1:=by
 unfold ql
 rw [zo3]
 rw [List.filter_append,zo1,hn,List.filter_cons_of_pos (by simpa using h),zom]
 omega
theorem zcW (l:List Int) (v:Value) (D:Nat->Prop) (W:World) (hl:SlR 1 zB D W v l):Calls Tryz.prog 81 #[v] W (Ret fun r w'=>r=.int .i64 (ql l)/\Ext W w'):=by
 obtain⟨av,cv,rfl⟩:=hl.form
 have hmx:=hl.max
 refine zma Tryz.func81 O Tryz.ntmps81 O (zmm ?_)
 refine Vs 19 O ?_
 refine zmL (σ:=Nat × Int) [6,7] [] [] O (fun e ⟨i,t⟩=>(8,.int .i64 i)::(3,.int .i64 t)::e) (fun e ⟨i,t⟩=>e) (fun⟨i,t⟩=>i<=l.length/\t=ql (l.take i)/\(((l.take i).filter fun n=>decide (0<n)).length=0/\t=-1\/((l.take i).filter fun n=>decide (0<n)).length=1/\0<=t)) (fun⟨i,t⟩=>l.length - i) ((0,-1)) (zlO O) (zlP O) (fun _=>rfl) (fun _=>rfl) (fun _=>rfl) (⟨zo8 _,rfl,.inl ⟨rfl,rfl⟩⟩) ?_
 rintro⟨i,t⟩ ⟨hi,ht,hc⟩
 show V _ _ _ _ _ ((8,.int .i64 i)::(3,.int .i64 t)::_) _ (_) _
 refine Vs 6 O ?_
 refine zk7 O (fun hlt=>?_) (fun hlt=>?_)
 ·
  refine Vs 7 O ?_
  obtain⟨x,he_x,hm_x⟩:=gE_ l (i) (by omega)
  obtain⟨b_x,o_x,c_x,ha_x,_,hc_x,hR_x⟩:=hl.at he_x
  obtain rfl:=hR_x
  refine zmI 1000 0 O O hc_x ?_
  refine V.ix 1000 tR27 ts3 O ha_x (by omega) (_) (rfl) O ?_
  have htk:=zg he_x
  have hl2:(l.take i).length=i:=by rw [zon];omega
  refine Vs 11 O ?_
  refine zk7 O (fun g0=>?_) (fun g0=>?_)
  ·
   refine Vs 7 O ?_
   refine zk7 O (fun g1=>?_) (fun g1=>?_)
   ·
    have h1:((l.take i).filter fun n=>decide (0<n)).length=1:=by omega
    have hr:ql l=-1:=by
     have:=zhn (m:=l.drop (i+1)) g0 h1
     rwa [<- yU he_x,List.take_append_drop] at this
    refine Vs 12 O ?_
    refine zkr Tryz.results81 O (fun w hI=>⟨_,rfl,by rw [hr],hI.k0⟩)
   ·
    have h1:((l.take i).filter fun n=>decide (0<n)).length=0:=by omega
    obtain⟨h2,h3⟩:=zhm g0 h1
    rw [<- htk,hl2] at h3
    rw [<- htk] at h2
    refine Va 12 O (by omega) ?_
    refine zki (⟨i+1,(i:Int)⟩) (zlO O) (zlP O) (⟨by omega,h3.symm,.inr ⟨h2,by omega⟩⟩) (by first | omega | (dsimp only;omega)) 0 O O
  ·
   obtain⟨h2,h3⟩:=zga (l:=l.take i) g0
   rw [<- htk] at h2 h3
   refine Va 7 O (by omega) ?_
   refine zki (⟨i+1,t⟩) (zlO O) (zlP O) (⟨by omega,by rw [h3];exact ht,by rw [h2];exact hc⟩) (by first | omega | (dsimp only;omega)) 0 O O
 ·
  obtain rfl:i=l.length:=by omega
  rw [znY] at ht
  refine Vs 12 O ?_
  refine zkr Tryz.results81 O (fun w hI=>⟨_,rfl,by rw [ht],hI.k0⟩)
theorem zho (a b:Int) (ha:0<=a):Int.gcd a b=Int.gcd b (a.tmod b):=by
 rw [Int.tmod_eq_emod_of_nonneg ha]
 conv=>lhs;rw [<- Int.mul_ediv_add_emod a b]
 rw [Int.gcd_comm]
 simp
theorem zbm (l:List Int) (v:Value) (D:Nat->Prop) (W:World) (hl:SlR 1 zB D W v l) (hn:∀ x ∈ l,0<=x/\x<=9223372036854775807):Calls Tryz.prog 71 #[v] W (Ret fun r w'=>r=.int .i64 (yq l)/\Ext W w'):=by
 obtain⟨av,cv,rfl⟩:=hl.form
 have hmx:=hl.max
 refine zma Tryz.func71 O Tryz.ntmps71 O (zmm ?_)
 refine Vs 19 O ?_
 refine zmL (σ:=Nat × Int) [6,7] [] [] O (fun e ⟨i,g⟩=>(8,.int .i64 i)::(3,.int .i64 g)::e) (fun e ⟨i,g⟩=>e) (fun⟨i,g⟩=>i<=l.length/\0<=g/\g<=9223372036854775807/\(l.drop i).foldl (fun g n=>(Int.gcd g n:Int)) g=yq l) (fun⟨i,g⟩=>l.length - i) ((0,0)) (zlO O) (zlP O) (fun _=>rfl) (fun _=>rfl) (fun _=>rfl) (⟨zo8 _,Int.le_refl 0,by omega,rfl⟩) ?_
 rintro⟨i,g⟩ ⟨hi,h0,h1,heq⟩
 show V _ _ _ _ _ ((8,.int .i64 i)::(3,.int .i64 g)::_) _ (_) _
 refine Vs 6 O ?_
 refine zk7 O (fun hlt=>?_) (fun hlt=>?_)
 ·
  refine Vs 6 O ?_
  obtain⟨x,he_x,hm_x⟩:=gE_ l (i) (by omega)
  obtain⟨b_x,o_x,c_x,ha_x,_,hc_x,hR_x⟩:=hl.at he_x
  obtain rfl:=hR_x
  refine zmI 1000 0 O O hc_x ?_
  refine V.ix 1000 tR27 ts3 O ha_x (by omega) (_) (rfl) O ?_
  have hx:=hn x hm_x
  rw [yU he_x,List.foldl_cons] at heq
  refine Vs 5 O ?_
  refine zmL (σ:=Int × Int) [6,7,8] [] [] O (fun e ⟨d,n⟩=>(3,.int .i64 d)::(5,.int .i64 n)::e) (fun e ⟨d,n⟩=>e) (fun⟨d,n⟩=>0<=d/\0<=n/\d<=9223372036854775807/\n<=9223372036854775807/\Int.gcd d n=Int.gcd g x) (fun⟨d,n⟩=>n.toNat) ((g,x)) (zlO O) (zlP O) (fun _=>rfl) (fun _=>rfl) (fun _=>rfl) (⟨h0,hx.1,h1,hx.2,rfl⟩) ?_
  rintro⟨d,n⟩ ⟨k0,k1,k2,k3,k4⟩
  show V _ _ _ _ _ ((3,.int .i64 d)::(5,.int .i64 n)::_) _ (_) _
  refine Vs 7 O ?_
  refine zk7 O (fun z=>?_) (fun z=>?_)
  ·
   have e1:=Int.tmod_lt_of_pos d (show 0<n by omega)
   have e2:=Int.tmod_nonneg n k0
   have e3:=zho d n k0
   refine Vs 3 O ?_
   refine Vq (by kernel_rfl) ?_
   refine Vs 3 O ?_
   refine zmT O (fun w hI=>R.rem O O (by omega) (by omega)) ?_
   refine Vs 4 O ?_
   refine zki (⟨n,d.tmod n⟩) (zlO O) (zlP O) (⟨k1,e2,k3,by omega,by rw [<- e3];exact k4⟩) (by first | omega | (dsimp only;omega)) 0 O O
  ·
   obtain rfl:n=0:=by omega
   have hd:((Int.gcd g x:Nat):Int)=d:=by rw [<- k4,Int.gcd_zero_right];omega
   rw [hd] at heq
   refine Va 10 O (by omega) ?_
   refine zki (⟨i+1,d⟩) (zlO O) (zlP O) (⟨by omega,k0,k2,heq⟩) (by first | omega | (dsimp only;omega)) 0 O O
 ·
  obtain rfl:i=l.length:=by omega
  rw [List.drop_length] at heq
  have heq:g=yq l:=heq
  refine Vs 12 O ?_
  refine zkr Tryz.results71 O (fun w hI=>⟨_,rfl,by rw [<- heq],hI.k0⟩)
end Go.Proofs.YtaenledoagbddaaGreatDoor
namespace Go.GL
structure MI where
 i:Nat
 o:Oper
 d:Nat
 dp:List Nat
 q:Bool
 Φ:(Nat->Value)->Value->Hp->Prop
abbrev MK:=Nat × Nat × List Nat × Bool
def MI.key (x:MI):MK:=(x.i,x.d,x.dp,x.q)
def zgb (x:MK) (J:List MK):Bool:=x.2.2.1.all fun m=>J.all fun y=>!Nat.beq y.2.1 m
def zhp (i:Nat) (J:List MK):List MK:=J.filter fun y=>!Nat.beq y.1 i
def zhR (ops:Array Oper) (l:Array Bool) (x:MK):Bool:=x.2.2.2&&(Region.noSelect ops&&Region.free .any ops l x.1&&(Region.ready .any ops l).contains x.1)
def zhq (i:Nat):List MK->Option MK
 | []=>none
 | y::r=>cond (Nat.beq y.1 i) (some y) (zhq i r)
def kN (ops:Array Oper) (L3:Array Bool):Nat->List MK->Array Bool->Bool
 | 0,J,l=>J.isEmpty&&(l == L3)
 | k+1,J,l=>match J.find? (zhR ops l) with
  | some x=>zgb x J&&kN ops L3 k (zhp x.1 J) (l.setIfInBounds x.1 true)
  | none=>!(Region.ready .any ops l).isEmpty&&(Region.ready .any ops l).all fun j=>match zhq j J with
   | some x=>!x.2.2.2&&zgb x J&&kN ops L3 k (zhp x.1 J) (l.setIfInBounds x.1 true)
   | none=>false
theorem zcX {i:Nat}:∀ {J:List MK} {x:MK},zhq i J=some x->x ∈ J/\x.1=i
 | [],_,h=>by cases h
 | y::r,x,h=>by
  simp only [zhq] at h
  cases hb:Nat.beq y.1 i with
  | true=>rw [hb] at h;cases h;exact⟨znX ..,zo0 hb⟩
  | false=>rw [hb] at h;obtain⟨h1,h2⟩:=zcX h;exact⟨znW _ h1,h2⟩
structure Dn (w w':World) (hx:Hp) (lo hi:Nat):Prop where
 p0:w.heap.size<=lo
 le:lo<=hi
 p1:hi<=w'.heap.size
 ok:∀ z ∈ hx,z.2.holds w'/\z.2.loc/\(∀ b,¬ z.2.fz b)/\∀ q,z.2.S q->lo<=q/\q<hi
 apart:hx.Pairwise (fun x y=>∀ q,x.2.S q->¬ y.2.S q)
theorem Dn.ext {w w' w2:World} {hx:Hp} {lo hi:Nat} (h:Dn w w' hx lo hi) (hk:Ext w' w2):Dn w w2 hx lo hi :=
 ⟨h.p0,h.le,znZ h.p1 hk.size,fun z hz=>by
  obtain⟨h1,h2,h3,h4⟩:=h.ok z hz
  exact⟨HE.keep h1 h2 hk (fun _ _ h=>h) (fun _ _ h=>h),h2,h3,h4⟩,h.apart⟩
theorem zaY {w w':World} {hx:Hp} (h:Hands [] [] hx w w'):Ext w w':=h.keep.mono fun q _ ⟨x,hx,_⟩=>by cases hx
theorem Dn.of {w a a':World} {hx:Hp} (hk:Ext w a) (h:Hands [] [] hx a a'):Dn w a' hx a.heap.size a'.heap.size :=
 ⟨hk.size,(zaY h).size,zoi _,fun z hz=>by
  obtain⟨h1,h2,h3,h4⟩:=h.ok z hz
  refine⟨h1,h2,h3,fun q hq=>⟨?_,(h4 q hq).2⟩⟩
  rcases (h4 q hq).1 with⟨x,hx,_⟩ | h5
  . cases hx
  ·
   exact h5,h.apart⟩
theorem zcY:∀ H:Hp,yu [] H=H
 | []=>rfl
 | x::r=>by show x::yu [] r=x::r;rw [zcY r]
theorem zgc {Bs:zP} {H:Hp} {w w':World} {hn:Nat->Hp} {lo hi:Nat->Nat} (hI:VI Bs H w) (hk:Ext w w') (K:List Nat) (hnd:K.Nodup) (hd:∀ m ∈ K,Dn w w' (hn m) (lo m) (hi m)) (hap:∀ m ∈ K,∀ m' ∈ K,m ≠ m'->hi m<=lo m'\/hi m'<=lo m):VI Bs (K.flatMap hn++H) w':=by
 have hh:Hands H [] (K.flatMap hn) w w':=by
  refine⟨hk.mono fun q _ h=>h.elim,fun z hz=>?_,?_⟩
  ·
   obtain⟨m,hm,hz⟩:=List.mem_flatMap.1 hz
   obtain⟨h1,h2,h3,h4⟩:=(hd m hm).ok z hz
   exact⟨h1,h2,h3,fun q hq=>⟨.inr (znZ (hd m hm).p0 (h4 q hq).1),Nat.lt_of_lt_of_le (h4 q hq).2 (hd m hm).p1⟩⟩
  ·
   clear hI
   induction K with
   | nil=>exact List.Pairwise.nil
   | cons m r ih =>
    rw [List.nodup_cons] at hnd
    rw [List.flatMap_cons]
    refine List.pairwise_append.2 ⟨(hd m (znX ..)).apart,ih hnd.2 (fun x hx=>hd x (znW _ hx)) (fun x hx y hy=>hap x (znW _ hx) y (znW _ hy)),fun x hx y hy q hq hq'=>?_⟩
    obtain⟨m',hm',hy⟩:=List.mem_flatMap.1 hy
    have g1:=((hd m (znX ..)).ok x hx).2.2.2 q hq
    have g2:=((hd m' (znW _ hm')).ok y hy).2.2.2 q hq'
    rcases hap m (znX ..) m' (znW _ hm') (fun e=>hnd.1 (e ▸ hm')) with h | h <;> omega
 have:=hI.hands hh
 rw [zcY] at this
 exact this
theorem zgd {env:Env} {val:Nat->Value}:∀ (D:List Nat) (m:Nat) (v:Value),get (D.map (fun d=>(d,val d))++env) m=some v->(m ∈ D/\v=val m)\/get env m=some v
 | [],_,_,h=>.inr h
 | d::r,m,v,h=>by
  rw [List.map_cons,List.cons_append] at h
  simp only [GL.get] at h
  cases hb:Nat.beq d m with
  | true =>
   rw [hb] at h
   have e:=zo0 hb
   subst e
   exact .inl ⟨znX ..,(Option.some.inj h).symm⟩
  | false =>
   rw [hb] at h
   rcases zgd r m v h with⟨h1,h2⟩ | h1
   . exact .inl ⟨znW _ h1,h2⟩
   . exact .inr h1
section
variable {P:Program} {n:Nat} {Q:Exit->Act->World->Prop} {ks:List Fr} {env:Env} {A:Tgs} {H Hs:Hp} {Bs B0:zP} {ops:Array Oper} {L:List Nat} {fuel:Nat} {listed:Array Bool}
abbrev MI.Ds (I:List MI) (x:MI) (val:Nat->Value) (hn:Nat->Hp):Prop:=∀ y ∈ I,y.d ∈ x.dp->y.Φ val (val y.d) (hn y.d)
theorem ziz {I:List MI} {x:MI} {J:List MI} (_:(I.map (·.d)).Nodup) (_:∀ y ∈ J,y ∈ I) (h:zgb x.key (J.map MI.key)=true) {y:MI} (_:y ∈ I) (hd:y.d ∈ x.dp):y ∉ J:=by
 intro hyJ
 unfold zgb at h
 rw [List.all_eq_true] at h
 have:=h y.d hd
 rw [List.all_eq_true] at this
 have:=this y.key (List.mem_map.2 ⟨y,hyJ,rfl⟩)
 simp [MI.key,Nat.beq_refl] at this
theorem znq (j:Nat) (I:List MI) (L3:Array Bool) (hI:∀ x ∈ I,ops[x.i]?=some x.o/\x.o.guard=none/\x.o.dst=some x.d/\Nat.blt x.d n=true/\get env x.d=none/\∀ m ∈ x.dp,m ∈ I.map (·.d))
  (hnd:(I.map (·.d)).Nodup) (hni:(I.map (·.i)).Nodup) (hdp:∀ x ∈ I,x.dp.Nodup) (hr:kN ops L3 I.length (I.map MI.key) listed=true) (hB:Bs.drop j=B0) (hu:qo (Hs.map (·.1))=true)
  (hΦ:∀ x ∈ I,∀ val val' v hx,(∀ m ∈ x.dp,val m=val' m)->x.Φ val v hx->x.Φ val' v hx)
  (hc:∀ x ∈ I,x.q=false->∀ val hn,x.Ds I val hn->∀ w,VI Bs (x.dp.flatMap hn++H) w->Does P x.o (x.dp.map (fun m=>(m,val m))++env) w (fun v w'=>∃ hx,x.Φ val v hx/\Hands [] [] hx w w'))
  (hq:∀ x ∈ I,x.q=true->∀ val hn,x.Ds I val hn->∃ v,x.Φ val v []/\∀ w,yf P x.o (x.dp.map (fun m=>(m,val m))++env) w v w)
  (h:∀ val hn,(∀ x ∈ I,x.Φ val (val x.d) (hn x.d))->Hs.map (fun y=>zl ((I.map (·.d)).flatMap hn++H) y.1)=Hs.map (fun y=>some y.2)/\VD P n Q ks ops Hs B0 L fuel L3 (I.map (fun x=>(x.d,val x.d))++env) [] ((I.map (·.d)).flatMap hn++H) Bs) :
  VD P n Q ks ops Hs B0 L (fuel+I.length) listed env A H Bs:=by
 subst hB
 intro hH _ w hw
 have key:∀ (k:Nat) (J:List MI) (listed:Array Bool) (env':Env) (w':World) (val:Nat->Value) (hn:Nat->Hp) (lo hi:Nat->Nat),(∀ x ∈ J,x ∈ I)->kN ops L3 k (J.map MI.key) listed=true->Ext w w'->Sub env env' ->
   (∀ x ∈ I,x ∉ J->get env' x.d=some (val x.d)/\x.Φ val (val x.d) (hn x.d)/\Dn w w' (hn x.d) (lo x.d) (hi x.d)/\∀ m ∈ x.dp,∀ y ∈ I,y.d=m->y ∉ J)->(∀ x ∈ I,x ∉ J->∀ y ∈ I,y ∉ J->x.d ≠ y.d->hi x.d<=lo y.d\/hi y.d<=lo x.d) ->
   WD P n ops (QK P Q ks) (VI (Bs.drop j) Hs) L (fuel+k) listed env' w':=by
  intro k
  induction k with
  | zero =>
   intro J listed env' w' val hn lo hi hJ ho hE hsub hdone hap
   rw [kN,Bool.and_eq_true,List.isEmpty_iff,List.map_eq_nil_iff] at ho
   obtain⟨rfl,ho⟩:=ho
   have e:listed=L3:=by simpa using ho
   rw [e]
   have hall:∀ x ∈ I,x ∉ ([]:List MI):=fun x _=>by simp
   obtain⟨g1,g2⟩:=h val hn fun x hx=>(hdone x hx (hall x hx)).2.1
   have hVI:VI Bs ((I.map (·.d)).flatMap hn++H) w':=zgc hw hE _ hnd (fun m hm=>by
    obtain⟨x,hx,rfl⟩:=List.mem_map.1 hm
    exact (hdone x hx (hall x hx)).2.2.1) (fun m hm m' hm' hne=>by
    obtain⟨x,hx,rfl⟩:=List.mem_map.1 hm
    obtain⟨y,hy,rfl⟩:=List.mem_map.1 hm'
    exact hap x hx (hall x hx) y hy (hall y hy) hne)
   refine (g2 (zlP g1) TgOk.nil w' hVI).sub ?_
   intro m v hv
   have hv':get (I.map (fun x=>(x.d,val x.d))++env) m=some v:=hv
   rw [show (I.map fun x=>(x.d,val x.d))=(I.map (·.d)).map (fun d=>(d,val d)) by rw [List.map_map];rfl] at hv'
   rcases zgd _ m v hv' with⟨h1,h2⟩ | h1
   ·
    obtain⟨x,hx,rfl⟩:=List.mem_map.1 h1
    rw [h2];exact (hdone x hx (hall x hx)).1
   . exact hsub m v h1
  | succ k ih =>
   intro J listed env' w' val hn lo hi hJ ho hE hsub hdone hap
   have one:∀ x ∈ J,zgb x.key (J.map MI.key)=true->kN ops L3 k (zhp x.i (J.map MI.key)) (listed.setIfInBounds x.i true)=true ->
     (Sub (x.dp.map (fun m=>(m,val m))++env) env'/\x.Ds I val hn/\VI Bs (x.dp.flatMap hn++H) w') /\
     ∀ v w2 hx,x.Φ val v hx->Hands [] [] hx w' w2->WD P n ops (QK P Q ks) (VI (Bs.drop j) Hs) L (fuel+k) (listed.setIfInBounds x.i true) ((x.d,v)::env') w2:=by
    intro x hx hmd hmo
    have hxI:=hJ x hx
    have hdn:∀ m ∈ x.dp,∃ y ∈ I,y.d=m/\y ∉ J:=fun m hm=>by
     obtain⟨y,hy,e⟩:=List.mem_map.1 ((hI x hxI).2.2.2.2.2 m hm)
     exact⟨y,hy,e,ziz hnd hJ hmd hy (by rw [e];exact hm)⟩
    refine⟨⟨?_,fun y hy hd=>(hdone y hy (ziz hnd hJ hmd hy hd)).2.1,zgc (lo:=lo) (hi:=hi) hw hE _ (hdp x hxI) (fun m hm=>?_) (fun m hm m' hm' hne=>?_)⟩,?_⟩
    ·
     intro m v hv
     rcases zgd _ m v hv with⟨h1,h2⟩ | h1
     ·
      obtain⟨y,hy,e,hyJ⟩:=hdn m h1
      rw [h2,<- e];exact (hdone y hy hyJ).1
     . exact hsub m v h1
    ·
     obtain⟨y,hy,e,hyJ⟩:=hdn m hm
     rw [<- e];exact (hdone y hy hyJ).2.2.1
    ·
     obtain⟨y,hy,e,hyJ⟩:=hdn m hm
     obtain⟨z,hz,e',hzJ⟩:=hdn m' hm'
     rw [<- e,<- e'];exact hap y hy hyJ z hz hzJ (by rw [e,e'];exact hne)
    ·
     intro v w2 hx2 hv hh
     have k2:=zaY hh
     have hne:∀ y ∈ I,y ∉ J->y.d ≠ x.d:=fun y hy hyJ e=>hyJ (by rw [qB hnd hy hxI e];exact hx)
     have hmem:∀ z ∈ I,z ∉ J.filter (fun y=>!Nat.beq y.i x.i)->z=x\/z ∉ J:=by
      intro z hz hz2
      by_cases hzJ:z ∈ J
      ·
       left
       cases e:Nat.beq z.i x.i with
       | true=>exact qB hni hz hxI (zo0 e)
       | false=>exact absurd (List.mem_filter.2 ⟨hzJ,by simp [e]⟩) hz2
      . exact .inr hzJ
     have hval:∀ z ∈ I,(z=x\/z ∉ J)->∀ m ∈ z.dp,val m=(if m=x.d then v else val m):=by
      intro z hz hzc m hm
      by_cases e:m=x.d
      ·
       exfalso
       rcases hzc with rfl | hzJ
       ·
        obtain⟨y,hy,e',hyJ⟩:=hdn m hm
        exact hne y hy hyJ (e'.trans e)
       . exact (hdone z hz hzJ).2.2.2 m hm x hxI e.symm hx
      . rw [zo3 e]
     refine ih (J.filter (fun y=>!Nat.beq y.i x.i)) (listed.setIfInBounds x.i true) ((x.d,v)::env') w2 (fun m=>if m=x.d then v else val m) (fun m=>if m=x.d then hx2 else hn m) (fun m=>if m=x.d then w'.heap.size else lo m) (fun m=>if m=x.d then w2.heap.size else hi m) (fun z hz=>hJ z (List.mem_filter.1 hz).1) ?_ (hE.ext k2) ?_ ?_ ?_
     ·
      have:=hmo
      unfold zhp at this
      rw [List.filter_map] at this
      exact this
     ·
      intro m u hu2
      simp only [GL.get]
      cases hb:Nat.beq x.d m with
      | true =>
       have e:=zo0 hb
       rw [<- e,(hI x hxI).2.2.2.2.1] at hu2
       cases hu2
      | false=>exact hsub m u hu2
     ·
      intro z hz hz2
      have hzc:=hmem z hz hz2
      have hdz:∀ m ∈ z.dp,∀ y ∈ I,y.d=m->y ∉ J.filter (fun y=>!Nat.beq y.i x.i):=by
       intro m hm y hy e hyf
       have hyJ:=(List.mem_filter.1 hyf).1
       rcases hzc with rfl | hzJ
       . exact ziz hnd hJ hmd hy (by rw [e];exact hm) hyJ
       . exact (hdone z hz hzJ).2.2.2 m hm y hy e hyJ
      rcases hzc with rfl | hzJ
      ·
       refine⟨by simp [GL.get,Nat.beq_refl],?_,?_,hdz⟩
       ·
        simp only [if_true]
        exact hΦ _ hxI _ _ _ _ (hval _ hxI (.inl O)) hv
       ·
        simp only [if_true]
        exact Dn.of hE hh
      ·
       have hzd:=hne z hz hzJ
       simp only [hzd,if_false]
       obtain⟨g1,g2,g3,g4⟩:=hdone z hz hzJ
       refine⟨?_,hΦ z hz _ _ _ _ (hval z hz (.inr hzJ)) g2,g3.ext k2,hdz⟩
       simp only [GL.get]
       cases hb:Nat.beq x.d z.d with
       | true=>exact absurd (zo0 hb).symm hzd
       | false=>exact g1
     ·
      intro z hz hz2 y hy hy2 hzy
      rcases hmem z hz hz2 with rfl | hzJ <;> rcases hmem y hy hy2 with rfl | hyJ
      . exact absurd O hzy
      ·
       simp only [hne y hy hyJ,if_false,if_true]
       exact .inr (hdone y hy hyJ).2.2.1.p1
      ·
       simp only [hne z hz hzJ,if_false,if_true]
       exact .inl (hdone z hz hzJ).2.2.1.p1
      ·
       simp only [hne z hz hzJ,hne y hy hyJ,if_false]
       exact hap z hz hzJ y hy hyJ hzy
   have hfind:∀ y ∈ J.map MI.key,∃ x ∈ J,x.key=y:=fun y hy=>by
    obtain⟨x,hx,e⟩:=List.mem_map.1 hy
    exact⟨x,hx,e⟩
   rw [kN] at ho
   split at ho
   ·
    rename_i y hy
    obtain⟨x,hx,rfl⟩:=hfind y (List.mem_of_find?_eq_some hy)
    have hqx:=List.find?_some hy
    unfold zhR at hqx
    rw [Bool.and_eq_true] at hqx
    rw [Bool.and_eq_true] at ho
    obtain⟨⟨g1,g2,_⟩,g3⟩:=one x hx ho.1 ho.2
    obtain⟨q1,q2,q3,q4,_⟩:=hI x (hJ x hx)
    obtain⟨v,hv,hrun⟩:=hq x (hJ x hx) hqx.1 val hn g2
    exact zme x.i q1 hqx.2 q3 q4 (.inl ⟨fun a _=>by simp [Region.wanted,q2],fun w3 m a ha=>hrun w3 m a (ha.sub g1)⟩) (g3 v w' [] hv ⟨Keep.refl _ _,fun z hz=>(by cases hz),List.Pairwise.nil⟩)
   ·
    intro a ha
    rw [Bool.and_eq_true,List.all_eq_true] at ho
    refine⟨fun h0=>(by rw [h0] at ho;simp at ho),fun i hi=>?_⟩
    have h1:=ho.2 i hi
    split at h1
    ·
     rename_i y hy
     obtain⟨h2,h3⟩:=zcX hy
     obtain⟨x,hx,rfl⟩:=hfind y h2
     have h3:x.i=i:=h3
     subst h3
     rw [Bool.and_eq_true,Bool.and_eq_true,Bool.not_eq_true'] at h1
     obtain⟨⟨g1,g2,g4⟩,g3⟩:=one x hx h1.1.2 h1.2
     obtain⟨q1,q2,q3,q4,_⟩:=hI x (hJ x hx)
     refine zf6 q1 q2 q3 ha ((hc x (hJ x hx) h1.1.1 val hn g2 w' g4).sub g1) ?_
     rintro v w2 ⟨hx2,hv,hh⟩
     have k2:=zaY hh
     exact⟨fun _ _=>((hw.ext (hE.ext k2)).drop j).pick hH hu,g3 v w2 hx2 hv hh _ (ha.put q4)⟩
    . cases h1
 exact key I.length I listed env w (fun _=>undef) (fun _=>[]) (fun _=>0) (fun _=>0) (fun x hx=>hx) hr (Keep.refl _ _) (Sub.refl _) (fun x hx h=>absurd hx h) (fun x hx h=>absurd hx h)
theorem znL (A1:Tgs) (hA1:A1.map (fun p=>zd2 env p.1)=A1.map (fun p=>jx H p.2)) (hA2:A1.all (fun p=>(jx H p.2).isSome)=true) (h:VD P n Q ks ops Hs B0 L fuel listed env A1 H Bs):VD P n Q ks ops Hs B0 L fuel listed env A H Bs:=fun hH _ w hI=>h hH (zlQ hA1 hA2) w hI
end
abbrev Ph:=(Nat->Value)->Value->Hp->Prop
abbrev Psi:=Nat->Ph
def psi:List (Nat × Ph)->Psi
 | [],_=>fun _ _ _=>False
 | (k,f)::r,m=>match Nat.beq k m with
  | true=>f
  | false=>psi r m
def zaZ (Ψ:Psi) (val:Nat->Value) (hn:Nat->Hp):List Nat->Prop
 | []=>True
 | m::r=>Ψ m val (val m) (hn m)/\zaZ Ψ val hn r
def zge (val:Nat->Value):List Nat->Env->Env
 | [],env=>env
 | m::r,env=>(m,val m)::zge val r env
def hpD (hn:Nat->Hp):List Nat->Hp->Hp
 | [],H=>H
 | m::r,H=>hn m++hpD hn r H
theorem zb0 (val:Nat->Value) (env:Env):∀ D:List Nat,zge val D env=D.map (fun m=>(m,val m))++env
 | []=>rfl
 | m::r=>by rw [zge,zb0 val env r];rfl
theorem zef (hn:Nat->Hp) (H:Hp):∀ D:List Nat,hpD hn D H=D.flatMap hn++H
 | []=>rfl
 | m::r=>by rw [hpD,zef hn H r,List.flatMap_cons,List.append_assoc]
theorem dpAll_iff {Ψ:Psi} {val:Nat->Value} {hn:Nat->Hp}:∀ {D:List Nat},zaZ Ψ val hn D ↔ ∀ m ∈ D,Ψ m val (val m) (hn m)
 | []=>by simp [zaZ]
 | m::r=>by simp only [zaZ,List.forall_mem_cons];rw [dpAll_iff]
def zbn:List Nat->Bool
 | []=>true
 | x::r=>r.all (fun y=>!Nat.beq x y)&&zbn r
theorem jR:∀ {l:List Nat},zbn l=true->l.Nodup
 | [],_=>List.Pairwise.nil
 | x::r,h=>by
  rw [zbn,Bool.and_eq_true,List.all_eq_true] at h
  refine List.nodup_cons.2 ⟨fun hx=>?_,jR h.2⟩
  have:=h.1 x hx
  simp [Nat.beq_refl] at this
def zjl (I:List MK) (env:Env):Bool:=zbn (I.map (·.2.1))&&zbn (I.map (·.1))&&I.all fun x=>(get env x.2.1).isNone&&zbn x.2.2.1&&x.2.2.1.all fun m=>(I.map (·.2.1)).any fun y=>Nat.beq y m
section
variable {P:Program} {n:Nat} {Q:Exit->Act->World->Prop} {ks:List Fr} {env:Env} {A:Tgs} {H Hs:Hp} {Bs B0:zP} {ops:Array Oper} {L:List Nat} {fuel:Nat} {listed:Array Bool} {Ψ:Psi}
def MP (P:Program) (n:Nat) (ops:Array Oper) (env:Env) (H:Hp) (Bs:zP) (Ψ:Psi) (x:MK):Prop:=∃ o,(ops[x.1]?=some o/\o.guard=none/\o.dst=some x.2.1/\Nat.blt x.2.1 n=true)/\(∀ val val' v hx,(∀ m ∈ x.2.2.1,val m=val' m)->Ψ x.2.1 val v hx->Ψ x.2.1 val' v hx) /\
 (x.2.2.2=false->∀ val hn,zaZ Ψ val hn x.2.2.1->∀ w,VI Bs (hpD hn x.2.2.1 H) w->Does P o (zge val x.2.2.1 env) w (fun v w'=>∃ hx,Ψ x.2.1 val v hx/\Hands [] [] hx w w')) /\
 (x.2.2.2=true->∀ val hn,zaZ Ψ val hn x.2.2.1->∃ v,Ψ x.2.1 val v []/\∀ w,yf P o (zge val x.2.2.1 env) w v w)
def MPs (P:Program) (n:Nat) (ops:Array Oper) (env:Env) (H:Hp) (Bs:zP) (Ψ:Psi):List MK->Prop
 | []=>True
 | x::r=>MP P n ops env H Bs Ψ x/\MPs P n ops env H Bs Ψ r
theorem MPs.all:∀ {I:List MK},MPs P n ops env H Bs Ψ I->∀ x ∈ I,MP P n ops env H Bs Ψ x
 | y::r,h,x,hx=>by
  rcases zo9.1 hx with rfl | hx
  . exact h.1
  . exact MPs.all h.2 x hx
theorem znM {i d:Nat} {dp:List Nat} {op:Op} {ty:TypeId} {ps:String} {aft:Array Edge} (hi:ops[i]?=some ⟨some d,op,ty,ps,aft,none⟩) (hb:Nat.blt d n=true) (hΦ:∀ val val' v hx,(∀ m ∈ dp,val m=val' m)->Ψ d val v hx->Ψ d val' v hx)
  (hc:∀ val hn,zaZ Ψ val hn dp->∀ w,VI Bs (hpD hn dp H) w->Does P ⟨some d,op,ty,ps,aft,none⟩ (zge val dp env) w (fun v w'=>∃ hx,Ψ d val v hx/\Hands [] [] hx w w')):MP P n ops env H Bs Ψ (i,d,dp,false) :=
 ⟨_,⟨hi,rfl,rfl,hb⟩,hΦ,fun _=>hc,fun h=>by cases h⟩
theorem zl5 {i d:Nat} {dp:List Nat} {op:Op} {ty:TypeId} {ps:String} {aft:Array Edge} (hi:ops[i]?=some ⟨some d,op,ty,ps,aft,none⟩) (hb:Nat.blt d n=true) (hΦ:∀ val val' v hx,(∀ m ∈ dp,val m=val' m)->Ψ d val v hx->Ψ d val' v hx)
  (hc:∀ val hn,zaZ Ψ val hn dp->∃ v,Ψ d val v []/\∀ w,yf P ⟨some d,op,ty,ps,aft,none⟩ (zge val dp env) w v w):MP P n ops env H Bs Ψ (i,d,dp,true) :=
 ⟨_,⟨hi,rfl,rfl,hb⟩,hΦ,fun h=>Bool.noConfusion h,fun _=>hc⟩
theorem Does.new {o:Oper} {w:World} {f:Nat->Value} {cs:List Value} {e:TypeId} (K:Nat) (h:yh P o env w (fun u w'=>∃ b,u=f b/\New w cs e b w')):Does P o env w (fun v w'=>∃ hx,(∃ b,v=f b/\hx=[(K,HE.own b cs e)])/\Hands [] [] hx w w'):=by
 obtain⟨v,w',hr,b,rfl,h1,h2,h3,h4⟩:=h
 refine .inl ⟨_,w',hr,_,⟨b,rfl,rfl⟩,h4.mono fun q _ h=>h.elim,fun z hz=>?_,List.pairwise_singleton _ _⟩
 rw [zob] at hz
 subst hz
 exact⟨h3,trivial,fun _ h=>h,fun q hq=>by have hq:q=b:=hq;exact⟨.inr (by omega),by omega⟩⟩
theorem ziA {H:Hp} {f:FuncId} {args:Array Value} {w:World} {α:Type} {Φ:Value->α->Prop} {Hn:α->Hp} (hc:Calls P f args w (Ret fun r w'=>∃ y,Φ r y/\Hands H [] (Hn y) w w')):Calls P f args w (Ret fun r w'=>∃ hx,(∃ y,Φ r y/\hx=Hn y)/\Hands [] [] hx w w'):=by
 refine hc.mono ?_
 rintro _ w' ⟨r,rfl,y,h1,h2⟩
 refine⟨r,rfl,_,⟨y,h1,rfl⟩,h2.keep.mono fun q _ ⟨x,_,h,_⟩=>by simp [zbw] at h,fun z hz=>?_,h2.apart⟩
 obtain⟨g1,g2,g3,g4⟩:=h2.ok z hz
 refine⟨g1,g2,g3,fun q hq=>⟨.inr ?_,(g4 q hq).2⟩⟩
 rcases (g4 q hq).1 with⟨x,_,h,_⟩ | h
 . simp [zbw] at h
 . exact h
theorem znN (fuel j:Nat) (I:List MK) (Ψ:Psi) (hr:kN ops (zcb (I.map (·.1)) listed) I.length I listed=true) (hs:zjl I env=true) (hB:Bs.drop j=B0) (hu:qo (Hs.map (·.1))=true) (hM:MPs P n ops env H Bs Ψ I)
  (h:∀ val hn,zaZ Ψ val hn (I.map (·.2.1))->Hs.map (fun y=>zl (hpD hn (I.map (·.2.1)) H) y.1)=Hs.map (fun y=>some y.2)/\VD P n Q ks ops Hs B0 L fuel (zcb (I.map (·.1)) listed) (zge val (I.map (·.2.1)) env) [] (hpD hn (I.map (·.2.1)) H) Bs) :
  VD P n Q ks ops Hs B0 L (fuel+I.length) listed env A H Bs:=by
 unfold zjl at hs
 simp only [Bool.and_eq_true,List.all_eq_true,List.any_eq_true,Option.isNone_iff_eq_none] at hs
 obtain⟨⟨s1,s2⟩,s3⟩:=hs
 let mk:MK->MI:=fun x=>⟨x.1,(ops[x.1]?).getD ⟨none,.nilCheck (.tmp 0),0, "",#[],none⟩,x.2.1,x.2.2.1,x.2.2.2,Ψ x.2.1⟩
 have e1:(I.map mk).map (·.d)=I.map (·.2.1):=by rw [List.map_map];rfl
 have e2:(I.map mk).map (·.i)=I.map (·.1):=by rw [List.map_map];rfl
 have e3:(I.map mk).map MI.key=I:=by rw [List.map_map];exact List.map_id'' (fun x=>rfl) I
 have e4:(I.map mk).length=I.length:=zod ..
 have hds:∀ x ∈ I,∀ val hn,MI.Ds (I.map mk) (mk x) val hn->zaZ Ψ val hn x.2.2.1:=fun x hx val hn hD=>dpAll_iff.2 fun m hm=>by
  obtain⟨y,hy,he⟩:=(s3 x hx).2 m hm
  obtain⟨z,hz,rfl⟩:=List.mem_map.1 hy
  have he:=zo0 he
  have:=hD (mk z) (List.mem_map.2 ⟨z,hz,rfl⟩) (by show z.2.1 ∈ x.2.2.1;rw [he];exact hm)
  rw [<- he]
  exact this
 rw [<- e4]
 refine znq j (I.map mk) (zcb (I.map (·.1)) listed) ?_ (by rw [e1];exact jR s1) (by rw [e2];exact jR s2) ?_ (by rw [e3,e4];exact hr) hB hu ?_ ?_ ?_ ?_
 ·
  intro y hy
  obtain⟨x,hx,rfl⟩:=List.mem_map.1 hy
  obtain⟨o,⟨h1,h2,h3,h4⟩,_⟩:=hM.all x hx
  have ho:(mk x).o=o:=by show (ops[x.1]?).getD _=o;rw [h1];rfl
  refine⟨by rw [ho];exact h1,by rw [ho];exact h2,by rw [ho];exact h3,h4,(s3 x hx).1.1,fun m hm=>?_⟩
  rw [e1]
  obtain⟨z,hz,he⟩:=(s3 x hx).2 m hm
  rw [<- zo0 he];exact hz
 ·
  intro y hy
  obtain⟨x,hx,rfl⟩:=List.mem_map.1 hy
  exact jR (s3 x hx).1.2
 ·
  intro y hy
  obtain⟨x,hx,rfl⟩:=List.mem_map.1 hy
  obtain⟨o,_,h2,_⟩:=hM.all x hx
  exact h2
 ·
  intro y hy hq val hn hD w hw
  obtain⟨x,hx,rfl⟩:=List.mem_map.1 hy
  obtain⟨o,⟨h1,_⟩,_,h3,_⟩:=hM.all x hx
  have ho:(mk x).o=o:=by show (ops[x.1]?).getD _=o;rw [h1];rfl
  have:=h3 hq val hn (hds x hx val hn hD) w (by rw [zef];exact hw)
  rw [zb0] at this
  rw [ho];exact this
 ·
  intro y hy hq val hn hD
  obtain⟨x,hx,rfl⟩:=List.mem_map.1 hy
  obtain⟨o,⟨h1,_⟩,_,_,h4⟩:=hM.all x hx
  have ho:(mk x).o=o:=by show (ops[x.1]?).getD _=o;rw [h1];rfl
  have:=h4 hq val hn (hds x hx val hn hD)
  rw [zb0] at this
  rw [ho];exact this
 ·
  intro val hn hall
  have:=h val hn (dpAll_iff.2 fun m hm=>by
   obtain⟨x,hx,rfl⟩:=List.mem_map.1 hm
   exact hall (mk x) (List.mem_map.2 ⟨x,hx,rfl⟩))
  rw [zef,zb0] at this
  rw [e1]
  refine⟨this.1,?_⟩
  rw [show (I.map mk).map (fun x=>(x.d,val x.d))=(I.map (·.2.1)).map (fun m=>(m,val m)) by rw [List.map_map,List.map_map];rfl]
  exact this.2
def phA (K:Nat) (cs:List Value) (t:TypeId):Ph:=fun _ v hx=>∃ b,v=.pointer (some ⟨b,0,none⟩)/\hx=[(K,.own b cs t)]
def phM (s:Nat):Ph:=fun val v hx=>v=val s/\hx=[]
def phX (s j:Nat):Ph:=fun val v hx=>(∃ a,val s=.tuple a/\a[j]?=some v)/\hx=[]
theorem MP.alloc (K:Nat) {i d:Nat} {e:TypeId} {ty:TypeId} {ps:String} {aft:Array Edge} {z:Value} {cs:List Value} (hi:ops[i]?=some ⟨some d,.alloc e,ty,ps,aft,none⟩) (hb:Nat.blt d n=true) (hz:∀ w,(zeroValue e).run P w=.ok z w) (hc:z.cells=cs.toArray) (hΨ:Ψ d=phA K cs e):MP P n ops env H Bs Ψ (i,d,[],false) :=
 znM hi hb (fun val val' v hx _ h=>by rw [hΨ] at h ⊢;exact h) fun val hn _ w _=>by rw [hΨ];exact Does.new K (M.alloc hz hc)
theorem MP.move (s:Nat) {i d:Nat} {ty:TypeId} {ps:String} {aft:Array Edge} (hi:ops[i]?=some ⟨some d,.move (.tmp s),ty,ps,aft,none⟩) (hb:Nat.blt d n=true) (hΨ:Ψ d=phM s):MP P n ops env H Bs Ψ (i,d,[s],true) :=
 zl5 hi hb (fun val val' v hx hd h=>by rw [hΨ] at h ⊢;exact⟨h.1.trans (hd s (List.mem_singleton_self s)),h.2⟩) fun val hn _=>⟨val s,by rw [hΨ];exact⟨rfl,rfl⟩,fun w=>R.move (by show get ((s,val s)::env) s=_;simp only [GL.get,Nat.beq_refl];rfl)⟩
theorem MP.ext (s j:Nat) {i d:Nat} {dp:List Nat} {ty:TypeId} {ps:String} {aft:Array Edge} (hi:ops[i]?=some ⟨some d,.extract (.tmp s) j,ty,ps,aft,none⟩) (hb:Nat.blt d n=true) (hΨ:Ψ d=phX s j) (hs:s ∈ dp) (hg:∀ val,get (zge val dp env) s=some (val s)) (h:∀ val hn,zaZ Ψ val hn dp->∃ a c,val s=.tuple a/\a[j]?=some c):MP P n ops env H Bs Ψ (i,d,dp,true) :=
 zl5 hi hb (fun val val' v hx hd h=>by rw [hΨ] at h ⊢;obtain⟨⟨a,h1,h2⟩,h3⟩:=h;exact⟨⟨a,by rw [<- hd s hs];exact h1,h2⟩,h3⟩) fun val hn hD=>by
  obtain⟨a,c,h1,h2⟩:=h val hn hD
  exact⟨c,by rw [hΨ];exact⟨⟨a,h1,h2⟩,rfl⟩,fun w=>R.extract (show get (zge val dp env) s=_ by rw [hg,h1]) h2⟩
theorem ziB {m:Nat} {v v':Value} {l l':List (Nat × Value)} (h:v=v') (h2:l=l'):(m,v)::l=(m,v')::l':=by rw [h,h2]
theorem zjO {a b c d:Hp} (h:a=b) (h2:c=d):a++c=b++d:=by rw [h,h2]
theorem VD.cast {val:Nat->Value} {hn:Nat->Hp} {D:List Nat} (A1:Tgs) (vals:List (Nat × Value)) (Hn:Hp) (he:D.map (fun m=>(m,val m))=vals) (hh:D.flatMap hn=Hn) (h1:Hs.map (fun y=>zl (Hn++H) y.1)=Hs.map (fun y=>some y.2)) (hA1:A1.map (fun p=>zd2 (vals++env) p.1)=A1.map (fun p=>jx (Hn++H) p.2)) (hA2:A1.all (fun p=>(jx (Hn++H) p.2).isSome)=true)
  (h:VD P n Q ks ops Hs B0 L fuel listed (vals++env) A1 (Hn++H) Bs) :
  Hs.map (fun y=>zl (hpD hn D H) y.1)=Hs.map (fun y=>some y.2)/\VD P n Q ks ops Hs B0 L fuel listed (zge val D env) [] (hpD hn D H) Bs:=by
 rw [zb0,zef]
 subst he hh
 exact⟨h1,znL A1 hA1 hA2 h⟩
end
end Go.GL
namespace Go.Proofs.YtaenledoagbddaaGreatDoor
open Go.GL
theorem zhr (p:(List Int)->Bool) (l:List (List Int)) (v:Value) (D:Nat->Prop) (g:FuncId) (cp cp2:Value) (W:World) (hf:∀ args w,(callFunc g args).run Tryz.prog w=.ok (.enter g args) w) (hl:SlR 1 (RSl 1 zB) D W v l)
  (hc:∀ (x:(List Int)) (u:Value) (w:World),Ext W w->x ∈ l->SlR 1 zB D w u x->Calls Tryz.prog g #[u,cp,cp2] w (Ret fun r w'=>r=.bool (p x)/\Ext w w')) :
  Calls Tryz.prog 78 #[v,.func (.func g) #[] #[cp,cp2]] W (Ret fun r w'=>r=.int .i64 (zhP p l)/\Ext W w'):=by
 obtain⟨av,cv,rfl⟩:=hl.form
 have hmx:=hl.max
 refine zmb Tryz.func78 O Tryz.ntmps78 O (zmm ?_)
 refine Vs 14 O ?_
 refine zmL (σ:=Nat) [0,1,7] [] [] O (fun e i=>(8,.int .i64 i)::e) (fun e i=>e) (fun i=>i<=l.length/\(l.take i).any p=false) (fun i=>l.length - i) (0) (zlO O) (zlP O) (fun _=>rfl) (fun _=>rfl) (fun _=>rfl) (⟨zo8 _,by simp⟩) ?_
 rintro i ⟨hi,hno⟩
 refine Vs 6 O ?_
 refine zk7 O (fun hlt=>?_) (fun hlt=>?_)
 ·
  refine Vs 15 O ?_
  obtain⟨x,he_x,hm_x⟩:=gE_ l (i) (by omega)
  obtain⟨b_x,o_x,c_x,ha_x,_,hc_x,hR_x⟩:=hl.at he_x
  obtain⟨v1_x,rfl,hs_x⟩:=hR_x
  obtain⟨a1_x,n1_x,rfl⟩:=hs_x.form
  refine zmI 1000 0 O O hc_x ?_
  refine V.ix 1000 tR34 ts27 O ha_x (by omega) (_) (rfl) O ?_
  refine Vs 1 O ?_
  refine zmY hf O (fun w hI=>hc x _ w hI.k0 hm_x (Tr1 hI.k0 hs_x)) ?_
  refine Vs 2 O ?_
  refine V.bool O (fun hp=>?_) (fun hp=>?_)
  ·
   refine Vs 12 O ?_
   refine zkr tr78 O (fun w hI=>⟨_,rfl,by rw [zfR hno he_x hp],hI.k0⟩)
  ·
   refine Va 7 O (by omega) ?_
   refine zki (i+1) (zlO O) (zlP O) (⟨by omega,ze5 he_x hno hp⟩) (by first | omega | (dsimp only;omega)) 0 O O
 ·
  obtain rfl:i=l.length:=by omega
  rw [znY] at hno
  refine Vs 11 O ?_
  refine zkr tr78 O (fun w hI=>⟨_,rfl,by rw [zcQ hno],hI.k0⟩)
theorem zhs (p:(List Int)->Bool) (l:List (List Int)) (v:Value) (D:Nat->Prop) (g:FuncId) (cp cp2:Value) (W:World) (hf:∀ args w,(callFunc g args).run Tryz.prog w=.ok (.enter g args) w) (hl:SlR 1 (RSl 1 zB) D W v l)
  (hc:∀ (x:(List Int)) (u:Value) (w:World),Ext W w->x ∈ l->SlR 1 zB D w u x->Calls Tryz.prog g #[u,cp,cp2] w (Ret fun r w'=>r=.bool (p x)/\Ext w w')) :
  Calls Tryz.prog 83 #[v,.func (.func g) #[] #[cp,cp2]] W (Ret fun r w'=>r=.bool (l.any p)/\Ext W w'):=by
 refine zmb Tryz.func83 O Tryz.ntmps83 O (zmm ?_)
 refine Vs 9 O ?_
 refine zmB Tryz.call78 O (fun w hI=>zhr p l v D g cp cp2 w hf (Tr1 hI.k0 hl) (fun x u w' hE hx hd=>hc x u w' ((hI.k0).trans hE (fun _ _ h=>h)) hx hd)) ?_
 refine Vs 5 O ?_
 refine zkr Tryz.results83 O (fun w hI=>⟨_,rfl,by congr 1;rw [Bool.eq_iff_iff,decide_eq_true_iff];exact ze4,hI.k0⟩)
theorem zht (p:(List Int)->Bool) (l:List (List Int)) (v:Value) (D:Nat->Prop) (g:FuncId) (W:World) (hf:∀ args w,(callFunc g args).run Tryz.prog w=.ok (.enter g args) w) (hl:SlR 1 (RSl 1 zB) D W v l)
  (hc:∀ (x:(List Int)) (u:Value) (w:World),Ext W w->x ∈ l->SlR 1 zB D w u x->Calls Tryz.prog g #[u] w (Ret fun r w'=>r=.bool (p x)/\Ext w w')) :
  Calls Tryz.prog 78 #[v,.func (.func g) #[] #[]] W (Ret fun r w'=>r=.int .i64 (zhP p l)/\Ext W w'):=by
 obtain⟨av,cv,rfl⟩:=hl.form
 have hmx:=hl.max
 refine zmb Tryz.func78 O Tryz.ntmps78 O (zmm ?_)
 refine Vs 14 O ?_
 refine zmL (σ:=Nat) [0,1,7] [] [] O (fun e i=>(8,.int .i64 i)::e) (fun e i=>e) (fun i=>i<=l.length/\(l.take i).any p=false) (fun i=>l.length - i) (0) (zlO O) (zlP O) (fun _=>rfl) (fun _=>rfl) (fun _=>rfl) (⟨zo8 _,by simp⟩) ?_
 rintro i ⟨hi,hno⟩
 refine Vs 6 O ?_
 refine zk7 O (fun hlt=>?_) (fun hlt=>?_)
 ·
  refine Vs 15 O ?_
  obtain⟨x,he_x,hm_x⟩:=gE_ l (i) (by omega)
  obtain⟨b_x,o_x,c_x,ha_x,_,hc_x,hR_x⟩:=hl.at he_x
  obtain⟨v1_x,rfl,hs_x⟩:=hR_x
  obtain⟨a1_x,n1_x,rfl⟩:=hs_x.form
  refine zmI 1000 0 O O hc_x ?_
  refine V.ix 1000 tR34 ts27 O ha_x (by omega) (_) (rfl) O ?_
  refine Vs 1 O ?_
  refine zmY hf O (fun w hI=>hc x _ w hI.k0 hm_x (Tr1 hI.k0 hs_x)) ?_
  refine Vs 2 O ?_
  refine V.bool O (fun hp=>?_) (fun hp=>?_)
  ·
   refine Vs 12 O ?_
   refine zkr tr78 O (fun w hI=>⟨_,rfl,by rw [zfR hno he_x hp],hI.k0⟩)
  ·
   refine Va 7 O (by omega) ?_
   refine zki (i+1) (zlO O) (zlP O) (⟨by omega,ze5 he_x hno hp⟩) (by first | omega | (dsimp only;omega)) 0 O O
 ·
  obtain rfl:i=l.length:=by omega
  rw [znY] at hno
  refine Vs 11 O ?_
  refine zkr tr78 O (fun w hI=>⟨_,rfl,by rw [zcQ hno],hI.k0⟩)
theorem zhu (p:(List Int)->Bool) (l:List (List Int)) (v:Value) (D:Nat->Prop) (g:FuncId) (W:World) (hf:∀ args w,(callFunc g args).run Tryz.prog w=.ok (.enter g args) w) (hl:SlR 1 (RSl 1 zB) D W v l)
  (hc:∀ (x:(List Int)) (u:Value) (w:World),Ext W w->x ∈ l->SlR 1 zB D w u x->Calls Tryz.prog g #[u] w (Ret fun r w'=>r=.bool (p x)/\Ext w w')) :
  Calls Tryz.prog 83 #[v,.func (.func g) #[] #[]] W (Ret fun r w'=>r=.bool (l.any p)/\Ext W w'):=by
 refine zmb Tryz.func83 O Tryz.ntmps83 O (zmm ?_)
 refine Vs 9 O ?_
 refine zmB Tryz.call78 O (fun w hI=>zht p l v D g w hf (Tr1 hI.k0 hl) (fun x u w' hE hx hd=>hc x u w' ((hI.k0).trans hE (fun _ _ h=>h)) hx hd)) ?_
 refine Vs 5 O ?_
 refine zkr Tryz.results83 O (fun w hI=>⟨_,rfl,by congr 1;rw [Bool.eq_iff_iff,decide_eq_true_iff];exact ze4,hI.k0⟩)
theorem zhv {H:Hp} {f:FuncId} {args:Array Value} {v:Value} {w:World} (hc:Calls Tryz.prog f args w (Ret fun r w'=>r=v/\Ext w w')):Calls Tryz.prog f args w (Ret fun r w'=>∃ _:Unit,r=v/\Hands H [] [] w w'):=by
 refine hc.mono ?_
 rintro _ w' ⟨_,rfl,rfl,hk⟩
 exact⟨_,rfl,(),rfl,hk.mono fun q _ h=>h.elim,fun x hx=>by (cases hx),List.Pairwise.nil⟩
theorem zdy (row:List Int) (u:Value) (wid tot:Int) (b1 b2:Nat) (D:Nat->Prop) (W:World) (hr:SlR 1 zB D W u row) (h1:Cells W b1 0 [.int .i64 wid]) (h2:Cells W b2 0 [.int .i64 tot]) :
  Calls Tryz.prog 89 #[u,.pointer (some ⟨b1,0,none⟩),.pointer (some ⟨b2,0,none⟩)] W (Ret fun r w'=>r=.bool (decide (¬ ((row.length:Int)=wid/\kK row 0=tot)))/\Ext W w'):=by
 obtain⟨av,cv,rfl⟩:=hr.form
 refine zmc Tryz.func89 O Tryz.ntmps89 O (zmm ?_)
 refine zmJ 900 0 O O (fun h=>h) h1 ?_
 refine zmJ 901 0 O O (fun h=>h) h2 ?_
 refine zms 1 900 0 O O ?_
 refine zms 2 901 0 O O ?_
 refine Vs 6 O ?_
 refine Vw [900,901] [] O ?_
 refine Vd [0,1,2,3,4] 0 (by kernel_rfl) O O O ?_
 refine VD.sp 9 O (fun g0=>?_) (fun g0=>?_)
 ·
  refine Vd [5,7] 0 (by kernel_rfl) O O O ?_
  refine VD.skip 6 0 O (by kernel_rfl) O O ?_
  refine Vd [8,9,10] 0 (by kernel_rfl) O O O ?_
  refine zlb (by kernel_rfl) ?_
  refine Vs 2 O ?_
  refine zkr Tryz.results89 O (fun w hI=>⟨_,rfl,by rw [zo5 (show ¬ ((row.length:Int)=wid/\kK row 0=tot) from fun h=>g0 h.1)],hI.k0⟩)
 ·
  refine Vd [5,7] 0 (by kernel_rfl) O O O ?_
  refine zmC 6 0 Tryz.call85 O (by kernel_rfl) O O (fun w hI=>zee row _ D w (Tr1 hI.k0 hr)) ?_
  refine Vd [8,9,10] 0 (by kernel_rfl) O O O ?_
  refine zlb (by kernel_rfl) ?_
  refine Vs 2 O ?_
  have g0:=zo2.1 g0
  refine zkr Tryz.results89 O (fun w hI=>⟨_,rfl,congrArg Value.bool (zol.2 ⟨fun h g=>h g.2,fun h g=>h ⟨g0,g⟩⟩),hI.k0⟩)
theorem zgf {c:Mx} {r0:List Int} (hhd:c.headD []=r0) (h1:1<=c.length/\c.length<=256) (h2:1<=r0.length/\r0.length<=256/\1<=kK r0 0):(!(c.any fun row=>decide (¬ ((row.length:Int)=(r0.length:Int)/\kK row 0=kK r0 0))))=decide (VMx c):=by
 rw [Bool.eq_iff_iff,decide_eq_true_iff,vmx_prog,hhd,Bool.not_eq_true',List.any_eq_false]
 constructor
 ·
  intro h
  refine⟨h1,h2,fun row hr=>?_⟩
  have:=h row hr
  simp only [decide_eq_true_eq,zo2] at this
  exact⟨by omega,this.2⟩
 ·
  rintro⟨_,_,h⟩ row hr
  have:=h row hr
  simp only [decide_eq_true_eq,zo2]
  exact⟨by omega,this.2⟩
theorem kq (c:Mx) (v:Value) (D:Nat->Prop) (W:World) (hc:SlR 1 (RSl 1 zB) D W v c):Calls Tryz.prog 39 #[.agg #[v]] W (Ret fun r w'=>r=.bool (decide (VMx c))/\Ext W w'):=by
 obtain⟨av,cv,rfl⟩:=hc.form
 have hmx:=hc.max
 refine zma Tryz.func39 O Tryz.ntmps39 O (zmm ?_)
 refine Vs 2 O ?_
 refine V.box 1 O O (fun b1=>?_)
 refine Vs 11 O ?_
 refine V.sp 9 O (fun g0=>?_) (fun g0=>?_)
 ·
  refine Vs 15 O ?_
  refine zkr tr39 O (fun w hI=>⟨_,rfl,by rw [zo6 (fun h=>by have:=h.r1;omega)],hI.k0⟩)
 ·
  refine Vs 7 O ?_
  refine zk7 O (fun g1=>?_) (fun g1=>?_)
  ·
   refine Vs 7 O ?_
   refine zkr tr39 O (fun w hI=>⟨_,rfl,by rw [zo6 (fun h=>by have:=h.r2;omega)],hI.k0⟩)
  ·
   obtain⟨r0,he_r0,hm_r0⟩:=gE_ c (0) (by omega)
   obtain⟨b_r0,o_r0,c_r0,ha_r0,_,hc_r0,hR_r0⟩:=hc.at he_r0
   obtain⟨v1_r0,rfl,hs_r0⟩:=hR_r0
   obtain⟨a1_r0,n1_r0,rfl⟩:=hs_r0.form
   refine zmI 1000 0 O O hc_r0 ?_
   have hhd:c.headD []=r0:=by
    cases c with
    | nil=>simp at he_r0
    | cons a c=>simpa using he_r0
   refine Vs 3 O ?_
   refine Vw [1,1000] [] O ?_
   refine Vd [0,1,5,6] 0 (by kernel_rfl) O O O ?_
   refine VD.ix 2 1000 tR34 ts27 O (by kernel_rfl) O ha_r0 (by omega) (0) (by omega) O ?_
   refine Vd [3,4] 0 (by kernel_rfl) O O O ?_
   refine VD.ix 7 1000 tR34 ts27 O (by kernel_rfl) O ha_r0 (by omega) (0) (by omega) O ?_
   refine Vd [8] 0 (by kernel_rfl) O O O ?_
   refine znN 2 0 [(9,24,[],false),(10,3,[],false),(11,4,[],false)] (psi [(24,fun _ v hx=>∃ y:Unit,v=.int .i64 (kK r0 0)/\hx=[]),(3,phA 3 [Value.int IntKind.i64 0] 3),(4,phA 4 [Value.int IntKind.i64 0] 3)]) (by kernel_rfl) (by kernel_rfl) O O ⟨?_,?_,?_,True.intro⟩ ?_
   . exact znM O O (fun _ _ _ _ _ h=>h) (fun val hn _ w hI=>Does.call (F.call Tryz.call85 (yH O)) (ziA (H:=[]) (zhv (zee r0 _ _ w (Tr1 hI.k0 hs_r0)))))
   . exact MP.alloc 3 O O tz3 O O
   . exact MP.alloc 4 O O tz3 O O
   rintro val hn ⟨⟨u,e24,n24⟩,⟨b3,e3,n3⟩,⟨b4,e4,n4⟩,_⟩
   refine VD.cast [(1,some (1,0)),(5,some (1,0)),(10,some (1,0)),(15,some (1,0)),(17,some (1000,0)),(20,some (1,0)),(22,some (1000,0)),(3,some (3,0)),(4,some (4,0))] _ _ (ziB e24 (ziB e3 (ziB e4 (rfl)))) (zjO n24 (zjO n3 (zjO n4 (rfl)))) O O O ?_
   clear n24 n3 n4
   refine Ve 12 0 O (by kernel_rfl) O O O ?_
   refine Ve 13 0 O (by kernel_rfl) O O O ?_
   refine zlb (by kernel_rfl) ?_
   refine Vs 7 O ?_
   refine V.sp 27 O (fun w1=>?_) (fun w1=>?_)
   ·
    refine Vs 17 O ?_
    refine zkr tr39 O (fun w hI=>⟨_,rfl,by rw [zo6 (fun h=>by have:=h.w1;rw [hhd] at this;omega)],hI.k0⟩)
   ·
    refine Vs 4 O ?_
    refine V.sp 31 O (fun w2=>?_) (fun w2=>?_)
    ·
     refine Vs 13 O ?_
     refine zkr tr39 O (fun w hI=>⟨_,rfl,by rw [zo6 (fun h=>by have:=h.w2;rw [hhd] at this;omega)],hI.k0⟩)
    ·
     refine Vs 5 O ?_
     refine zk7 O (fun w3=>?_) (fun w3=>?_)
     ·
      refine Vs 7 O ?_
      refine zkr tr39 O (fun w hI=>⟨_,rfl,by rw [zo6 (fun h=>by have:=(vmx_prog.1 h).2.1.2.2;rw [hhd] at this;omega)],hI.k0⟩)
     ·
      refine Vs 7 O ?_
      refine zmB Tryz.call83 O (fun w hI=>zhs (fun row=>decide (¬ ((row.length:Int)=(r0.length:Int)/\kK row 0=kK r0 0))) c _ _ _ _ _ w Tryz.call89 (Tr1 hI.k0 hc) (fun x u w' hE _ hd=>zdy x u _ _ b3 b4 _ w' hd (hE.cells (Blk.cells (hI.at 3 O)) (fun h=>h)) (hE.cells (Blk.cells (hI.at 4 O)) (fun h=>h)))) ?_
      refine zm2 O (fun w hI=>zly O (by first | exact za | rfl)) ?_
      refine Vs 4 O ?_
      refine zkr tr39 O (fun w hI=>⟨_,rfl,by rw [zgf hhd ⟨by omega,by omega⟩ ⟨by omega,by omega,by omega⟩],hI.k0⟩)
theorem zgg (row:List Int) (u:Value) (D:Nat->Prop) (W:World) (hr:SlR 1 zB D W u row):Calls Tryz.prog 84 #[u] W (Ret fun r w'=>r=.bool (decide (ql row<0))/\Ext W w'):=by
 refine zma Tryz.func84 O Tryz.ntmps84 O (zmm ?_)
 refine Vs 8 O ?_
 refine zmB Tryz.call81 O (fun w hI=>zcW row _ D w (Tr1 hI.k0 hr)) ?_
 refine Vs 5 O ?_
 refine zkr Tryz.results84 O (fun w hI=>⟨_,rfl,rfl,hI.k0⟩)
theorem zeg {row:List Int}:ql row<0 ↔ (row.filter fun n=>decide (0<n)).length ≠ 1:=by
 unfold ql zji
 split
 . rename_i h;exact⟨fun g=>by omega,fun g=>absurd h g⟩
 . rename_i h;exact⟨fun _=>h,fun _=>by omega⟩
theorem ziC {c:Mx} (hv:VMx c):(!(c.any fun row=>decide (ql row<0)))=decide (VMx c/\zgy c):=by
 rw [Bool.eq_iff_iff,decide_eq_true_iff,Bool.not_eq_true',List.any_eq_false]
 constructor
 ·
  intro h
  refine⟨hv,fun row hr=>?_⟩
  have:=h row hr
  rw [decide_eq_true_iff,zeg] at this
  exact zo2.1 this
 ·
  rintro⟨_,h⟩ row hr
  rw [decide_eq_true_iff,zeg]
  exact zog (h row hr)
theorem zhw (c:Mx) (v:Value) (D:Nat->Prop) (W:World) (hc:SlR 1 (RSl 1 zB) D W v c):Calls Tryz.prog 30 #[.agg #[v]] W (Ret fun r w'=>r=.bool (decide (VMx c/\zgy c))/\Ext W w'):=by
 obtain⟨av,cv,rfl⟩:=hc.form
 refine zma Tryz.func30 O Tryz.ntmps30 O (zmm ?_)
 refine Vs 2 O ?_
 refine V.box 1 O O (fun b1=>?_)
 refine Vs 6 O ?_
 refine zmB Tryz.call39 O (fun w hI=>kq c _ D w (Tr1 hI.k0 hc)) ?_
 refine Vs 1 O ?_
 refine V.sp 5 O (fun v0=>?_) (fun v0=>?_)
 ·
  refine Vs 2 O ?_
  refine zmB Tryz.call83 O (fun w hI=>zhu (fun row=>decide (ql row<0)) c _ _ _ w Tryz.call84 (Tr1 hI.k0 hc) (fun x u w' hE _ hd=>zgg x u _ w' hd)) ?_
  refine zm2 O (fun w hI=>zly O (by first | exact za | rfl)) ?_
  refine Vs 5 O ?_
  refine zkr Tryz.results30 O (fun w hI=>⟨_,rfl,by rw [ziC v0],hI.k0⟩)
 ·
  refine Vs 9 O ?_
  refine zkr Tryz.results30 O (fun w hI=>⟨_,rfl,by rw [zo6 (fun h=>v0 h.1)],hI.k0⟩)
theorem zeI (p v:Value) (b:Nat) (bs:List Value) (s:Int) (hp:p=.pointer none\/p=.pointer (some ⟨b,0,none⟩)) (W:World) (hB:Blk W b [p,v] 162) (hR:W.ownsRow 0 5 1 v bs.length bs) (hne:v.ownBlock ≠ some b) (hlen:bs.length+1<=140737488355328) :
  Calls Tryz.prog 127 #[.pointer (some ⟨b,0,none⟩),.int .u8 s] W (Ret fun r w'=>r=.nilIface/\∃ v',Blk w' b [.pointer (some ⟨b,0,none⟩),v'] 162/\w'.ownsRow 0 5 1 v' (bs.length+1) (bs++[.int .u8 s])/\v'.ownBlock ≠ some b/\Keep (fun q=>q=b\/v.ownBlock=some q) W w'/\∀ q,v'.ownBlock=some q->v.ownBlock=some q\/W.heap.size<=q):=by
 refine zmb Tryz.func127 O Tryz.ntmps127 O (zn0 [(900,.own b [p,v] 162),(901,.row 5 1 v bs.length bs)] (zcM (k1:=900) (k2:=901) hB hR hne).1 (zcM (k1:=900) (k2:=901) hB hR hne).2 ?_)
 refine zms 0 900 0 O O ?_
 refine Vs 8 O ?_
 refine zn1 [900] (Hn:=fun _x:Unit=>[(900,.own b [.pointer (some ⟨b,0,none⟩),v] 162)]) [(0,some (900,0)),(5,some (900,0))] Tryz.call157 O (fun _ _=>rfl) (fun _=>rfl) (fun w hI=>zfI hp (hI.at 900 O) O) ?_
 rintro _ ⟨⟩ rfl
 refine Vs 10 O ?_
 refine zmO 13 [(0,_)] Tryz.runUnderlying160 ts5 tz5 (by decide) O O (by kernel_rfl) (fun b13=>?_)
 refine zmv 901 13 tu160 Tryz.el5 O (by decide) O O (by omega) (by omega) (fun u901=>?_)
 refine Vs 2 O ?_
 refine zmx 901 O (by omega) ?_
 rintro bq cq rfl hcap_901
 refine Vs 9 O ?_
 refine zkr Tryz.results127 O (fun w hI=>⟨_,rfl,rfl,_,hI.at 900 rfl,hI.at 901 rfl,fun h=>zq hI.apart (k:=900) (k':=901) O O O b O h,hI.k0.mono (fun q _ h=>zjC h),zjW hI O rfl⟩)
theorem ziD {Bs:zP} {H:Hp} {k1 k2 b m:Nat} {v p:Value} {bs:List Value} {s:Int} {w:World} (hI:VI Bs H w) (h0:zl H k1=some (.own b [p,v] 162)) (h1:zl H k2=some (.row 5 1 v m bs)) (hne:Nat.beq k1 k2=false) (hp:p=.pointer none\/p=.pointer (some ⟨b,0,none⟩)) (hlen:m+1<=140737488355328) :
  Calls Tryz.prog 127 #[.pointer (some ⟨b,0,none⟩),.int .u8 s] w (Ret fun r w'=>∃ v',r=.nilIface/\Hands H [k1,k2] (ziR k1 k2 b (.pointer (some ⟨b,0,none⟩)) v' (m+1) (bs++[.int .u8 s])) w w'):=by
 have hB:Blk w b [p,v] 162:=hI.at k1 h0
 have hR:w.ownsRow 0 5 1 v m bs:=hI.at k2 h1
 have hm:bs.length=m:=by have:=hR.1;omega
 have hap:v.ownBlock ≠ some b:=fun h=>zq hI.apart h0 h1 hne b rfl h
 refine (zeI p v b bs s hp w hB (by rw [hm];exact hR) hap (by omega)).mono ?_
 rintro e w' ⟨_,rfl,rfl,v',h2,h3,h4,h5,h6⟩
 rw [hm] at h3
 have i0:∀ q,q=b->InS H [k1,k2] q:=fun q hq=>⟨_,zi h0,by simp [zbw,Nat.beq_refl],hq⟩
 have i1:∀ q,v.ownBlock=some q->InS H [k1,k2] q:=fun q hq=>⟨_,zi h1,by simp only [zbw];rw [hne];simp [Nat.beq_refl],hq⟩
 obtain⟨l1,l2⟩:=zcM (k1:=k1) (k2:=k2) h2 h3 h4
 refine⟨_,rfl,v',rfl,h5.mono fun q _ hq=>hq.elim (i0 q) (i1 q),fun x hx=>?_,l2⟩
 obtain⟨g1,g2,g3,g4⟩:=l1 x hx
 refine⟨g1,g2,g3,fun q hq=>⟨?_,g4 q hq⟩⟩
 simp only [zo9,List.not_mem_nil,or_false] at hx
 rcases hx with rfl | rfl
 . exact .inl (i0 q hq)
 . exact (h6 q hq).imp (i1 q) id
theorem zbo {c:UInt8}:∀ {l:List Int},(∀ x ∈ l,-4611686018427387904<=x/\x<=4611686018427387904)->(yN c l).length<=22*l.length
 | [],_=>zo8 _
 | x::l,h=>by
  have h1:=h x (znX ..)
  have h2:=Lib.itoa_length_le x (by omega) (by omega)
  have h3:=zbo (c:=c) fun y hy=>h y (znW _ hy)
  rw [xO,zo1,zom,zom]
  omega
theorem zhx (x:Int):0<(Lib.itoa x).length:=by
 unfold Lib.itoa
 split
 . simp
 . exact List.length_pos_iff.2 (zcl _)
theorem zbp (l:List Int) (hlen:l.length<=200000) (hb:∀ x ∈ l,-4611686018427387904<=x/\x<=4611686018427387904) (v0:Value) (D:Nat->Prop) (W:World) (hl:SlR 1 zB D W v0 l) (ht:Tab W) :
  Calls Tryz.prog 66 #[v0] W (Ret fun r w'=>r=.string (spC l)/\Ext W w'):=by
 obtain⟨ao,co,rfl⟩:=hl.form
 refine zma Tryz.func66 O Tryz.ntmps66 O (zmm ?_)
 refine Vs 7 O ?_
 refine V.alloc 3 Tryz.zeroValue162 O O (fun b3=>?_)
 refine Vs 10 O ?_
 refine zmu 901 5 1 O ?_
 refine Vs 1 O ?_
 refine zmL (σ:=Nat × Value × Value) [3,6,7] [] [3] O (fun e ⟨i,p,v⟩=>(8,.int .i64 i)::e) (fun e ⟨i,p,v⟩=>(3,.own b3 [p,v] 162)::(901,.row 5 1 v (yN 32 (l.take i)).length (Lib.byteCells (yN 32 (l.take i))))::e) (fun⟨i,p,v⟩=>i<=l.length/\(p=.pointer none\/p=.pointer (some ⟨b3,0,none⟩))/\(yN 32 (l.take i)=[]->v=.slice none 0 0)) (fun⟨i,p,v⟩=>l.length - i) ((0,.pointer none,.slice none 0 0)) (zlO O) (zlP O) (fun _=>rfl) (fun _=>rfl) (fun _=>rfl) (⟨zo8 _,.inl rfl,fun _=>rfl⟩) ?_
 rintro⟨i,p,v⟩ ⟨hi,hp,hv⟩
 show V _ _ _ _ _ ((8,.int .i64 i)::_) _ ((3,.own b3 [p,v] 162)::(901,.row 5 1 v (yN 32 (l.take i)).length (Lib.byteCells (yN 32 (l.take i))))::_) _
 have hsl:=zbo (c:=32) (l:=l.take i) fun x hx=>hb x (List.mem_of_mem_take hx)
 rw [zon] at hsl
 refine Vs 6 O ?_
 refine zk7 O (fun hlt=>?_) (fun hlt=>?_)
 ·
  refine Vs 6 O ?_
  obtain⟨x,he_x,hm_x⟩:=gE_ l (i) (by omega)
  obtain⟨b_x,o_x,c_x,ha_x,_,hc_x,hR_x⟩:=hl.at he_x
  obtain rfl:=hR_x
  refine zmI 1000 0 O O hc_x ?_
  refine V.ix 1000 tR27 ts3 O ha_x (by omega) (_) (rfl) O ?_
  have hx:=hb x hm_x
  have hil:=Lib.itoa_length_le x (by omega) (by omega)
  have hst:yN 32 (l.take (i+1))=yN 32 (l.take i)++(Lib.itoa x++[32]):=by
   rw [zg he_x,zcm];simp [yN]
  have hpos:0<(Lib.itoa x).length:=zhx x
  refine Vs 7 O ?_
  refine zmB Tryz.call126 O (fun w hI=>zif x (by omega) (by omega) w (Tr1 hI.k0 ht)) ?_
  refine zn1 [3,901] (Hn:=fun v':Value=>[(3,.own b3 [.pointer (some ⟨b3,0,none⟩),v'] 162),(901,.row 5 1 v' ((yN 32 (l.take i)).length+(⟨(Lib.itoa x).toArray⟩:ByteArray).size) (Lib.byteCells (yN 32 (l.take i))++Lib.strCells (⟨(Lib.itoa x).toArray⟩:ByteArray)))]) [(3,some (3,0)),(10,some (1000,0))] Tryz.call125 O (fun _ _=>rfl) (fun _=>rfl) (fun w hI=>zhc hI O O O hp (by rw [zbS];exact hpos) (by rw [zbS];omega)) ?_
  rintro _ v' rfl
  refine Vs 3 O ?_
  refine zn1 [3,901] (Hn:=fun v'':Value=>[(3,.own b3 [.pointer (some ⟨b3,0,none⟩),v''] 162),(901,.row 5 1 v'' ((yN 32 (l.take i)).length+(⟨(Lib.itoa x).toArray⟩:ByteArray).size+1) (Lib.byteCells (yN 32 (l.take i))++Lib.strCells (⟨(Lib.itoa x).toArray⟩:ByteArray)++[.int .u8 32]))]) [(3,some (3,0)),(10,some (1000,0))] Tryz.call127 O (fun _ _=>rfl) (fun _=>rfl) (fun w hI=>ziD hI O O O (.inr O) (by rw [zbS];omega)) ?_
  rintro _ v'' rfl
  refine zmK 901 O (e':=.row 5 1 v'' (yN 32 (l.take (i+1))).length (Lib.byteCells (yN 32 (l.take (i+1))))) (by rw [hst,zo1,zo1,zbS,zbR,Lib.byteCells_append (yN 32 (l.take i)),Lib.byteCells_append (Lib.itoa x),List.append_assoc,Nat.add_assoc];rfl) ?_
  refine Va 7 O (by omega) ?_
  refine zki (⟨i+1,_,v''⟩) (zlO O) (zlP O) (⟨by omega,.inr rfl,fun h=>by rw [hst] at h;simp at h⟩) (by first | omega | (dsimp only;omega)) 0 O O
 ·
  obtain rfl:i=l.length:=by omega
  rw [znY] at *
  refine Vs 7 O ?_
  refine zn1 [3,901] (Hn:=fun _x:Unit=>[(3,.own b3 [p,v] 162)]) [(3,some (3,0))] Tryz.call128 O (fun _ _=>rfl) (fun _=>rfl) (fun w hI=>zfN hI O O O hv) ?_
  rintro _ ⟨⟩ rfl
  refine Vs 4 O ?_
  refine zkr Tryz.results66 O (fun w hI=>⟨_,rfl,rfl,hI.k0⟩)
end Go.Proofs.YtaenledoagbddaaGreatDoor
namespace Go.GL
theorem RowsOk.add {α:Type} {enc:α->Value} {e:TypeId} {w:World} {rv:List Value} {rows:List (List α)} {u:Value} {r:List α} (h:RowsOk enc e w rv rows) (hu:w.ownsRow 0 e 1 u r.length (r.map enc)) (hap:∀ g,u.ownBlock=some g->∀ (i:Nat) v,rv[i]?=some v->v.ownBlock ≠ some g):RowsOk enc e w (rv++[u]) (rows++[r]):=by
 have hlen:=h.len
 have hat:∀ (i:Nat) (v:Value),(rv++[u])[i]?=some v->(i<rv.length/\rv[i]?=some v)\/(i=rv.length/\v=u):=fun i v hv=>by
  by_cases hi:i<rv.length
  . rw [zoj hi] at hv;exact .inl ⟨hi,hv⟩
  ·
   have hl:=(zo7.1 hv).1
   rw [zo1,zoe] at hl
   obtain rfl:i=rv.length:=by omega
   rw [zok (by omega),Nat.sub_self] at hv
   exact .inr ⟨rfl,by simpa using hv.symm⟩
 refine⟨by rw [zo1,zo1,hlen];rfl,fun i v r' hv hr=>?_,fun i j vi vj g hij hi hj hg=>?_⟩
 ·
  rcases hat i v hv with⟨h1,h2⟩ | ⟨rfl,rfl⟩
  ·
   rw [zoj (by omega)] at hr
   exact h.row i v r' h2 hr
  ·
   rw [hlen,zok (by omega),Nat.sub_self] at hr
   obtain rfl:r=r':=by simpa using hr
   exact hu
 ·
  rcases hat i vi hi with⟨h1,h2⟩ | ⟨rfl,rfl⟩
  ·
   rcases hat j vj hj with⟨h3,h4⟩ | ⟨rfl,rfl⟩
   . exact h.apart i j vi vj g hij h2 h4 hg
   . exact fun hg2=>hap g hg2 i vi h2 hg
  ·
   rcases hat j vj hj with⟨h3,h4⟩ | ⟨rfl,rfl⟩
   . exact fun hg2=>hap g hg j vj h4 hg2
   . exact absurd O hij
theorem RowsOk.nil {α:Type} {enc:α->Value} {e:TypeId} {w:World}:RowsOk enc e w [] ([]:List (List α)):=⟨rfl,fun i v r h=>by simp at h,fun i j vi vj g _ h=>by simp at h⟩
end Go.GL
namespace Go.Proofs.YtaenledoagbddaaGreatDoor
open Go.GL
theorem zjm {rv:List Value} {u:Value} {q:Nat} (hq:∃ (i:Nat) (v:Value),(rv++[u])[i]?=some v/\v.ownBlock=some q):(∃ (i:Nat) (v:Value),rv[i]?=some v/\v.ownBlock=some q)\/u.ownBlock=some q:=by
 obtain⟨i,v,h1,h2⟩:=hq
 by_cases hi:i<rv.length
 . exact .inl ⟨i,v,by rwa [zoj hi] at h1,h2⟩
 ·
  have hl:=(zo7.1 h1).1
  rw [zo1,zoe] at hl
  rw [zok (by omega),show i - rv.length=0 by omega] at h1
  have h3:u=v:=Option.some.inj h1
  exact .inr (h3 ▸ h2)
theorem zgh {c:Mx} {y:Nat} (h:y<(c.headD []).length):(yn c).take (y+1)=(yn c).take y++[jQ c y]:=zg (by unfold yn;rw [zoa,List.getElem?_range h];rfl)
theorem zb1 (c:Mx) (hc1:1<=c.length) (hw:∀ row ∈ c,row.length=(c.headD []).length) (hb:c.length<=1000000/\(c.headD []).length<=1000000) (v:Value) (D:Nat->Prop) (W:World) (hc:SlR 1 (RSl 1 zB) D W v c) :
  Calls Tryz.prog 70 #[v] W (Ret fun r w'=>(∃ rv:List Value,w'.ownsRow 0 27 1 r (yn c).length rv/\RowsOk zd 3 w' rv (yn c)/\(∀ g,r.ownBlock=some g->W.heap.size<=g/\∀ (i:Nat) u,rv[i]?=some u->u.ownBlock ≠ some g)/\∀ (i:Nat) u g,rv[i]?=some u->u.ownBlock=some g->W.heap.size<=g)/\Ext W w'):=by
 obtain⟨av,cv,rfl⟩:=hc.form
 refine zma Tryz.func70 O Tryz.ntmps70 O (zmm ?_)
 obtain⟨r0,he_r0,hm_r0⟩:=gE_ c (0) (by omega)
 obtain⟨b_r0,o_r0,c_r0,ha_r0,_,hc_r0,hR_r0⟩:=hc.at he_r0
 obtain⟨v1_r0,rfl,hs_r0⟩:=hR_r0
 obtain⟨a1_r0,n1_r0,rfl⟩:=hs_r0.form
 refine zmI 1000 0 O O hc_r0 ?_
 have hhd:c.headD []=r0:=by
  cases c with
  | nil=>simp at he_r0
  | cons a c=>simpa using he_r0
 rw [hhd] at hw hb
 refine Vs 14 O ?_
 refine V.ix 1000 tR34 ts27 O ha_r0 (by omega) (0) (by omega) O ?_
 refine Vs 5 O ?_
 refine zmu 900 27 1 O ?_
 refine zmu 901 3 1 O ?_
 refine zmU 901 (e':=RowsP zd 3 [] []) O (fun w hI=>RowsOk.nil) RowsP.loc (fun _ h=>h) (fun q hq=>by obtain⟨i,u,h,_⟩:=hq;simp at h) ?_
 refine Vs 1 O ?_
 refine zmL (σ:=Nat × Value × List Value) [0,11] [] [] O (fun e ⟨y,u,rv⟩=>(12,.int .i64 y)::(3,u)::e) (fun e ⟨y,u,rv⟩=>(900,.row 27 1 u y rv)::(901,RowsP zd 3 rv ((yn c).take y))::e) (fun⟨y,u,rv⟩=>y<=r0.length) (fun⟨y,u,rv⟩=>r0.length - y) ((0,.slice none 0 0,[])) (zlO O) (zlP O) (fun _=>rfl) (fun _=>rfl) (fun _=>rfl) (zo8 _) ?_
 rintro⟨y,u,rv⟩ hy
 show V _ _ _ _ _ ((12,.int .i64 y)::(3,u)::_) _ ((900,.row 27 1 u y rv)::(901,RowsP zd 3 rv ((yn c).take y))::_) _
 refine Vs 6 O ?_
 refine zk7 O (fun hlt=>?_) (fun hlt=>?_)
 ·
  have htk:=zgh (c:=c) (y:=y) (by rw [hhd];omega)
  refine Vs 23 O ?_
  refine zmu 902 3 1 O ?_
  refine Vs 1 O ?_
  refine zmL (σ:=Nat × Value) [0,3,4,11,12,15,16] [900,901] [] O (fun e ⟨x,u2⟩=>(17,.int .i64 x)::(5,u2)::e) (fun e ⟨x,u2⟩=>(902,.row 3 1 u2 x (((jQ c y).take x).map zd))::e) (fun⟨x,u2⟩=>x<=c.length) (fun⟨x,u2⟩=>c.length - x) ((0,.slice none 0 0)) (zlO O) (zlP O) (fun _=>rfl) (fun _=>rfl) (fun _=>rfl) (zo8 _) ?_
  rintro⟨x,u2⟩ hx
  show V _ _ _ _ _ ((17,.int .i64 x)::(5,u2)::_) _ ((902,.row 3 1 u2 x (((jQ c y).take x).map zd))::_) _
  refine Vs 6 O ?_
  refine zk7 O (fun hlt2=>?_) (fun hlt2=>?_)
  ·
   refine Vs 6 O ?_
   obtain⟨row,he_row,hm_row⟩:=gE_ c (x) (by omega)
   obtain⟨b_row,o_row,c_row,ha_row,_,hc_row,hR_row⟩:=hc.at he_row
   obtain⟨v1_row,rfl,hs_row⟩:=hR_row
   obtain⟨a1_row,n1_row,rfl⟩:=hs_row.form
   refine zmI 2000 0 O O hc_row ?_
   refine V.ix 2000 tR34 ts27 O ha_row (by omega) (_) (rfl) O ?_
   have hrl:=hw row hm_row
   obtain⟨e,he_e,hm_e⟩:=gE_ row (y) (by omega)
   obtain⟨b_e,o_e,c_e,ha_e,_,hc_e,hR_e⟩:=hs_row.at he_e
   obtain rfl:=hR_e
   refine zmI 3000 0 O O hc_e ?_
   refine Vs 8 O ?_
   refine V.ix 3000 tR27 ts3 O ha_e (by omega) (y) (by omega) O ?_
   refine Vs 1 O ?_
   refine zmO 26 [(0,_)] tR27 ts3 tz3 (by decide) O O (by kernel_rfl) (fun b26=>?_)
   refine zmv 902 26 tu27 Tryz.el3 O (by decide) O O (by omega) (by omega) (fun u902=>?_)
   refine Va 8 O (by omega) ?_
   refine zmK 902 O (e':=.row 3 1 u902 (x+1) (((jQ c y).take (x+1)).map zd)) (by rw [zg (show (jQ c y)[x]?=some e by unfold jQ;rw [zoa,he_row];show some (row[y]?.getD 0)=_;rw [he_e];rfl),List.map_append];rfl) ?_
   refine zki (⟨x+1,u902⟩) (zlO O) (zlP O) (by omega) (by first | omega | (dsimp only;omega)) 0 O O
  ·
   obtain rfl:x=c.length:=by omega
   refine zmK 902 O (e':=.row 3 1 u2 (jQ c y).length ((jQ c y).map zd)) (by rw [List.take_of_length_le (by rw [qi];exact zoi _),qi]) ?_
   refine zmn (fun w hI=>jr (show w.ownsRow 0 3 1 u2 _ _ from hI.at 902 O)) ?_
   rintro⟨ab,cb,rfl⟩
   refine Vs 8 O ?_
   refine zmO 31 [(0,_)] tR34 ts27 tz27 (by decide) O O (by kernel_rfl) (fun b31=>?_)
   refine zmv 900 31 tu34 Tryz.el27 O (by decide) O O (by omega) (by omega) (fun u900=>?_)
   refine Va 8 O (by omega) ?_
   refine znd 901 902 (e':=RowsP zd 3 (rv++[Value.slice ab (jQ c y).length cb]) ((yn c).take (y+1))) [] O O O (fun w hI=>(by rw [htk];exact (show RowsOk _ _ _ _ _ from hI.at 901 O).add (hI.at 902 O) (fun g hg i v hv hvg=>hI.sep (k:=901) (k2:=902) O O (by decide) ⟨i,v,hv,hvg⟩ hg))) (RowsP.loc) (fun _ h=>h) (fun q (hq:∃ (i:Nat) (v:Value),(rv++[Value.slice ab (jQ c y).length cb])[i]?=some v/\v.ownBlock=some q)=>zjm hq) ?_
   refine zki (⟨y+1,u900,rv++[.slice ab (jQ c y).length cb]⟩) (zlO O) (zlP O) (by omega) (by first | omega | (dsimp only;omega)) 0 O O
 ·
  obtain rfl:y=r0.length:=by omega
  have hl:(yn c).length=r0.length:=by rw [qJ,hhd]
  refine zmK 901 O (e':=RowsP zd 3 rv (yn c)) (by rw [<- hl,znY]) ?_
  refine Vs 12 O ?_
  refine zkr Tryz.results70 O (fun w hI=>⟨_,rfl,⟨rv,by rw [hl];exact hI.at 900 rfl,hI.at 901 rfl,fun g hg=>⟨hI.own 900 0 O O g hg,fun i u hu he=>hI.sep (k:=900) (k2:=901) O O (by decide) hg ⟨i,u,hu,he⟩⟩,fun i u g hu he=>hI.own 901 0 O O g ⟨i,u,hu,he⟩⟩,hI.k0⟩)
end Go.Proofs.YtaenledoagbddaaGreatDoor
namespace Go.GL
theorem zeh {α:Type} {l:List α} {i:Nat} {x:α} (h:l[i]?=some x):l.set i x=l:=by
 apply List.ext_getElem?
 intro j
 rw [List.getElem?_set]
 by_cases e:i=j
 ·
  subst e
  rw [zo4 rfl,zo4 (zo7.1 h).1,h]
 . rw [zo3 e]
section
variable {P:Program} {env:Env} {w:World} {dst:Option Tmp} {ty:TypeId} {pos:String} {aft:Array Edge} {g0:Option (Nat × Bool)}
variable {α:Type} {enc:α->Value} {e:TypeId} {rv:List Value} {rows:List (List α)} {p j g m c:Nat} {r:List α} {a:α}
theorem zb2 (hR:RowsOk enc e w rv rows) {v:Value} (hv:rv[p]?=some v) (hr:rows[p]?=some r):∃ ao c,v=.slice ao r.length c/\(0<r.length->∃ g,ao=some ⟨g,0,none⟩):=by
 have h:=hR.row p v r hv hr
 rcases h.2 with⟨rfl,h0⟩ | ⟨g,cap,cur,rfl,_⟩
 . rw [h0];exact⟨_,_,rfl,fun h=>by omega⟩
 . exact⟨_,_,rfl,fun _=>⟨_,rfl⟩⟩
theorem zcZ (hR:RowsOk enc e w rv rows) (hv:rv[p]?=some (.slice (some ⟨g,0,none⟩) m c)) (hr:rows[p]?=some r) (ha:r[j]?=some a):w.cell? ⟨g,0+(j:Int).toNat*1,none⟩=some (enc a):=by
 have h:=hR.row p _ r hv hr
 obtain⟨ao,c',he⟩:=jr h
 simp only [Value.slice.injEq] at he
 obtain⟨_,rfl,_⟩:=he
 have:=(xN h).2.2 j (enc a) (by rw [zoa,ha];rfl)
 simpa using this
theorem znO {tl:TypeId} {x y:Operand} (hs:∀ w,(sizeOf tl).run P w=.ok 1 w) (hR:RowsOk enc e w rv rows) (hv:rv[p]?=some (.slice (some ⟨g,0,none⟩) m c)) (hr:rows[p]?=some r) (hj:j<r.length) (h1:one (enc a)=true) (hx:ev env x=some (.pointer (some ⟨g,0+(j:Int).toNat*1,none⟩))) (hy:ev env y=some (enc a)) :
  xD P ⟨dst,.store tl x y,ty,pos,aft,g0⟩ env w (fun w'=>RowsOk enc e w' rv (rows.set p (r.set j a))/\Keep (fun q=>∃ (i:Nat) (v:Value),rv[i]?=some v/\v.ownBlock=some q) w w'/\∀ q,(∃ (i:Nat) (v:Value),rv[i]?=some v/\v.ownBlock=some q)->((∃ (i:Nat) (v:Value),rv[i]?=some v/\v.ownBlock=some q)\/w.heap.size<=q)/\q<w'.heap.size):=by
 have ho:=hR.row p _ r hv hr
 obtain⟨ao,c',he⟩:=jr ho
 simp only [Value.slice.injEq] at he
 obtain⟨_,rfl,_⟩:=he
 obtain⟨sp,hB,hc,hcm,hlen⟩:=jU ho
 have hj0:0+(j:Int).toNat*1=j:=by simp
 rw [hj0] at hx
 obtain⟨h6,h7⟩:=qO h1
 obtain⟨w',hrun,hsz,hB',hk⟩:=M.store (dst:=dst) (ty:=ty) (pos:=pos) (aft:=aft) (g:=g0) hs hx hy h6 h7 hB (by rw [zo1,zod];omega)
 have hown:w'.ownsRow 0 e 1 (.slice (some ⟨g,0,none⟩) r.length c) (r.set j a).length ((r.set j a).map enc):=by
  have:=yG (k:=1) (n:=r.length) (cap:=c) hB' hc hcm (by rw [List.length_set];exact hlen)
  rw [List.set_append_left _ _ (by rw [zod];exact hj),Nat.mul_one,List.take_append_of_le_length (by rw [List.length_set,zod];omega),List.take_of_length_le (by rw [List.length_set,zod];omega)] at this
  rw [List.length_set,List.map_set]
  exact this
 have hin:∃ (i:Nat) (v:Value),rv[i]?=some v/\v.ownBlock=some g:=⟨p,_,hv,rfl⟩
 have hput:=hR.put hv hown (.inl rfl) (hk.mono fun q _ hq=>by have hq:q=g:=hq;subst hq;exact rfl)
 rw [zeh hv] at hput
 refine⟨w',hrun,hput,hk.mono fun q _ hq=>by have hq:q=g:=hq;subst hq;exact hin,fun q hq=>⟨.inl hq,?_⟩⟩
 obtain⟨i,v,h8,h9⟩:=hq
 exact Nat.lt_of_lt_of_le (hR.blk h8 h9) hk.size
end
end Go.GL
namespace Go.Proofs.YtaenledoagbddaaGreatDoor
open Go.GL
structure AbsIn (T:List (List Int)) (y:Nat) (C:List (List Int)) (pos:List Nat) (L:List (ByteArray × Value)):Prop where
 le:y<=T.length
 len:C.length=T.length
 later:∀ j,y<=j->C[j]?=T[j]?
 pl:pos.length=(yB (T.take y)).length
 lt:∀ p ∈ pos,p<y
 nd:pos.Nodup
 cols:∀ (k:Nat) p,pos[k]?=some p->C[p]?=(zG (yB (T.take y)))[k]?
 ix:IxIn L ((yB (T.take y)).map (·.1))
theorem zlo (T:List (List Int)):AbsIn T 0 T [] []:=⟨zo8 _,rfl,fun _ _=>rfl,rfl,fun p hp=>(by cases hp),List.Pairwise.nil,fun k p h=>by simp at h,zlm⟩
theorem zc3 {T:List (List Int)} {y:Nat} {col:List Int} (h:T[y]?=some col):yB (T.take (y+1))=xf (yB (T.take y)) col:=by
 rw [zg h]
 unfold yB
 rw [List.foldl_append]
 rfl
theorem AbsIn.zero {T C:List (List Int)} {y:Nat} {pos:List Nat} {L:List (ByteArray × Value)} (h:AbsIn T y C pos L) {col:List Int} (hc:T[y]?=some col) (hg:yq col=0):AbsIn T (y+1) C pos L:=by
 have hm:yB (T.take (y+1))=yB (T.take y):=by rw [zc3 hc];exact zo4 hg
 exact⟨(zo7.1 hc).1,h.len,fun j hj=>h.later j (by omega),by rw [hm];exact h.pl,fun p hp=>Nat.lt_succ_of_lt (h.lt p hp),h.nd,by rw [hm];exact h.cols,by rw [hm];exact h.ix⟩
theorem AbsIn.new {T C:List (List Int)} {y:Nat} {pos:List Nat} {L:List (ByteArray × Value)} (h:AbsIn T y C pos L) {col:List Int} (hc:T[y]?=some col) (hg:yq col ≠ 0) (hn:xy col ∉ (yB (T.take y)).map (·.1)):AbsIn T (y+1) C (pos++[y]) (yR L (spC (xy col)) (.int .i64 (pos.length:Int))):=by
 have hm:yB (T.take (y+1))=yB (T.take y)++[(xy col,yq col)]:=by
  rw [zc3 hc]
  unfold xf
  rw [zo3 hg,zo3 hn]
 refine⟨(zo7.1 hc).1,h.len,fun j hj=>h.later j (by omega),by rw [hm,zo1,zo1,h.pl];rfl,fun p hp=>?_,?_,fun k p hk=>?_,?_⟩
 ·
  rcases zoc.1 hp with hp | hp
  . exact Nat.lt_succ_of_lt (h.lt p hp)
  . rw [zob.1 hp];omega
 ·
  rw [List.nodup_append]
  exact⟨h.nd,List.pairwise_singleton _ _,fun a ha b hb e=>by have:=h.lt a ha;rw [e,zob.1 hb] at this;omega⟩
 ·
  have hcl:(zG (yB (T.take y))).length=pos.length:=by rw [h.pl];simp [zG]
  rw [hm]
  unfold zG at hcl ⊢
  rw [List.map_append]
  by_cases hk2:k<pos.length
  ·
   rw [zoj hk2] at hk
   rw [zoj (by omega)]
   exact h.cols k p hk
  ·
   have hkl:=(zo7.1 hk).1
   rw [zo1,zoe] at hkl
   obtain rfl:k=pos.length:=by omega
   rw [zok (by omega),Nat.sub_self] at hk
   obtain rfl:y=p:=by simpa using hk
   rw [h.later y (zoi _),hc,zok (by omega),hcl,Nat.sub_self]
   simp [zaT]
 ·
  rw [hm,List.map_append,show (pos.length:Int)=(((yB (T.take y)).map (·.1)).length:Int) by rw [zod,h.pl]]
  exact h.ix.add hn
theorem AbsIn.old {T C:List (List Int)} {y:Nat} {pos:List Nat} {L:List (ByteArray × Value)} (h:AbsIn T y C pos L) {col r:List Int} (hc:T[y]?=some col) (hg:yq col ≠ 0) {k p:Nat} (hk:((yB (T.take y)).map (·.1))[k]?=some (xy col)) (hp:pos[k]?=some p) (hr:C[p]?=some r) (_:r.length=col.length):AbsIn T (y+1) (C.set p (List.zipWith (·+·) r col)) pos L:=by
 have hsp:=qh (T.take y)
 have hmem:xy col ∈ (yB (T.take y)).map (·.1):=znU hk
 have hm:yB (T.take (y+1))=(yB (T.take y)).map (fun q=>if q.1=xy col then (q.1,q.2+yq col) else q):=by
  rw [zc3 hc]
  unfold xf
  rw [zo3 hg,zo4 hmem]
 have hpy:=h.lt p (znU hp)
 have hfst:(yB (T.take (y+1))).map (·.1)=(yB (T.take y)).map (·.1):=by
  rw [hm,List.map_map]
  exact List.map_congr_left fun q _=>by simp only [Function.comp];split <;> rfl
 refine⟨(zo7.1 hc).1,by rw [List.length_set];exact h.len,fun j hj=>?_,by rw [hm,zod];exact h.pl,fun q hq=>Nat.lt_succ_of_lt (h.lt q hq),h.nd,fun k' p' hk'=>?_,by rw [hfst];exact h.ix⟩
 ·
  rw [List.getElem?_set,zo3 (by omega)]
  exact h.later j (by omega)
 ·
  have hold:=h.cols k' p' hk'
  rw [hm]
  unfold zG at hold ⊢
  rw [List.map_map,zoa]
  rw [zoa] at hold
  by_cases e:k'=k
  ·
   subst e
   obtain rfl:p=p':=by rw [hp] at hk';exact Option.some.inj hk'
   rw [zoa] at hk
   obtain⟨q,hq,hqe⟩:=Option.map_eq_some_iff.1 hk
   rw [hq] at hold ⊢
   rw [hr] at hold
   have hold:r=q.1.map (q.2*·):=Option.some.inj hold
   rw [List.getElem?_set,zo4 rfl,zo4 (zo7.1 hr).1]
   simp only [Option.map_some,Function.comp,zo4 hqe,Option.some.injEq]
   have hcol:col=q.1.map (yq col*·):=by rw [hqe,zaT]
   rw [hold]
   conv=>lhs;rw [hcol]
   rw [List.zipWith_map,List.zipWith_self]
   exact List.map_congr_left fun x _=>by rw [Int.add_mul]
  ·
   have hpp:p ≠ p':=fun e2=>e (by
    subst e2
    exact (kn h.nd hk').symm.trans (kn h.nd hp))
   rw [List.getElem?_set,zo3 hpp,hold]
   cases hq:(yB (T.take y))[k']? with
   | none=>rfl
   | some q =>
    simp only [Option.map_some,Function.comp]
    rw [zo3]
    intro hqe
    have h1:((yB (T.take y)).map (·.1))[k']?=some (xy col):=by rw [zoa,hq];exact congrArg some hqe
    exact e ((kn hsp.nd h1).symm.trans (kn hsp.nd hk))
end Go.Proofs.YtaenledoagbddaaGreatDoor
namespace Go.GL
section
variable {P:Program} {env:Env} {w:World} {dst:Option Tmp} {ty:TypeId} {pos:String} {aft:Array Edge} {g:Option (Nat × Bool)}
theorem M.mk0 {t e:TypeId} {k by':Nat} {z:Value} {x y:Operand} {m:Nat} {kl kc:IntKind} {zs:List Value} (hu:P.underlying t=some (.slice e)) (he:(P.info? e).map (fun i=>(i.zero,i.size,i.bytes))=some (some z,k,by')) (hx:ev env x=some (.int kl 0)) (hy:ev env y=some (.int kc (m:Int))) (hb:by'*m<=281474976710656) (hm:m<=9223372036854775807) (hz:madeCells z.cells (m*k)=zs.toArray/\zs.length=m*k) :
  yh P ⟨dst,.makeSlice t x y,ty,pos,aft,g⟩ env w (fun r w'=>∃ b:Nat,r=.slice (some ⟨b,0,none⟩) 0 m/\(HE.row e k (.slice (some ⟨b,0,none⟩) 0 m) 0 []).holds w'/\Ext w w'/\∀ q,(HE.row e k (.slice (some ⟨b,0,none⟩) 0 m) 0 []).S q->w.heap.size<=q/\q<w'.heap.size):=by
 obtain⟨u,w',h1,b,h2,h3,h4,h5,h6⟩:=znr (w:=w) (dst:=dst) (ty:=ty) (pos:=pos) (aft:=aft) (g:=g) (env:=env) hu he hx hy hb hm hz.1
 refine⟨u,w',h1,b,h2,?_,h6,fun q hq=>?_⟩
 ·
  have:=yG (k:=k) (n:=0) (cap:=m) h5 (zo8 _) hm hz.2
  show w'.ownsRow 0 e k (.slice (some ⟨b,0,none⟩) 0 m) 0 []
  simpa using this
 ·
  have hq:some b=some q:=hq
  cases hq
  omega
end
end Go.GL
namespace Go.Proofs.YtaenledoagbddaaGreatDoor
open Go.GL
def NxIn (L:List (Int × Value)) (K:List Int):Prop:=L.length=K.length/\∀ s,jN L s=if s ∈ K then some (.int .i64 ((K.idxOf s:Nat):Int)) else none
theorem zlp:NxIn [] []:=⟨rfl,fun _=>rfl⟩
theorem zhy {κ:Type} [DecidableEq κ] {L:List (κ × Value)} {k:κ} {v:Value} (h:jN L k=none):(yR L k v).length=L.length+1:=by
 induction L with
 | nil=>rfl
 | cons x r ih =>
  obtain⟨a,u⟩:=x
  rw [jN] at h
  split at h
  . cases h
  ·
   rename_i hk
   rw [yR,zo3 hk,zom,ih h,zom]
theorem NxIn.add {L:List (Int × Value)} {K:List Int} (h:NxIn L K) {k:Int} (hk:k ∉ K):NxIn (yR L k (.int .i64 (K.length:Int))) (K++[k]):=by
 refine⟨?_,fun s=>?_⟩
 . rw [zhy (by rw [h.2,zo3 hk]),zo1,h.1];rfl
 ·
  rw [jO]
  by_cases e:s=k
  ·
   subst e
   rw [zo4 rfl,zo4 (by simp),List.idxOf_append,zo3 hk]
   simp
  ·
   rw [zo3 e,h.2 s]
   by_cases hs:s ∈ K
   . rw [zo4 hs,zo4 (List.mem_append_left _ hs),List.idxOf_append,zo4 hs]
   . rw [zo3 hs,zo3 (by simp [hs,e])]
theorem zhz {l:List (Int × Value)} {m:Nat} {w:World} (h:MapG (Value.int .i64) w m l):∃ (es:Array MapEntry) (c:Nat),w.heap[m]?=some (.map es c)/\es.size=l.length:=by
 obtain⟨es,c,h1,h2,_⟩:=h
 exact⟨es,c,h1,by have:=congrArg List.length h2;simpa using this⟩
theorem znP {P:Program} {env:Env} {w:World} {dst:Option Tmp} {ty:TypeId} {pos:String} {aft:Array Edge} {g:Option (Nat × Bool)} {t kt et:TypeId} {m:Nat} {l:List (Int × Value)} {x:Operand} (ht:P.underlying t=some (.map kt et)) (h:MapG (Value.int .i64) w m l) (hx:ev env x=some (.map (some m))):yf P ⟨dst,.call ⟨.builtin .len,#[x],#[t]⟩,ty,pos,aft,g⟩ env w (.int .i64 (l.length:Int)) w:=by
 obtain⟨es,c,h1,h2⟩:=zhz h
 intro n a ha
 simp [execOp,resolve,invoke,builtin,Builtin.len_,ha.eval hx,run_underlying ht,MapKept.run_getObj_map h1,goInt,Result.andThen,h2]
theorem zeJ {l:List Int} {i:Nat} {x:Int} (hx:l[i]?=some x):yM (l.take (i+1))=yM (l.take i)++[((zK [] (l.take (i+1))).idxOf x:Int)]/\(x ∈ zK [] (l.take i)->zK [] (l.take (i+1))=zK [] (l.take i))/\(x ∉ zK [] (l.take i)->zK [] (l.take (i+1))=zK [] (l.take i)++[x]):=by
 rw [zg hx]
 refine⟨zaX _ _,fun h=>?_,fun h=>?_⟩
 . rw [xz,zo4 h]
 . rw [xz,zo3 h]
theorem zgi (l:List Int):(zK [] l).length<=l.length:=by
 have:=zbl _ l rfl
 have:∀ (l seen:List Int),(zK seen l).length<=seen.length+l.length:=by
  intro l
  induction l with
  | nil=>intro seen;simp [zK]
  | cons x l ih =>
   intro seen
   have:=ih (if x ∈ seen then seen else seen++[x])
   rw [zK,zom]
   split at this
   . rename_i h;rw [zo4 h];omega
   . rename_i h;rw [zo3 h];rw [zo1,zoe] at this;omega
 have:=this l []
 simpa using this
theorem zgj (l:List Int) (v:Value) (D:Nat->Prop) (W:World) (hl:SlR 1 zB D W v l) (hlen:l.length<=1000000):Calls Tryz.prog 82 #[v] W (Ret fun r w'=>SlR 1 zB (fun b=>W.heap.size<=b) w' r (yM l)/\Ext W w'):=by
 obtain⟨av,cv,rfl⟩:=hl.form
 refine zma Tryz.func82 O Tryz.ntmps82 O (zmm ?_)
 refine Vs 7 O ?_
 refine zn7 900 (E:=fun b=>MapP (Value.int .i64) b []) (u:=fun b=>.map (some b)) O (fun _=>⟨MapP.loc,fun _ h=>h⟩) (fun w hI=>znx) (fun m900=>?_)
 refine Vs 7 O ?_
 refine zn7 12 (E:=fun b=>.row 3 1 (.slice (some ⟨b,0,none⟩) 0 l.length) 0 []) (u:=fun b=>.slice (some ⟨b,0,none⟩) 0 l.length) O (fun _=>⟨trivial,fun _ h=>h⟩) (fun w hI=>M.mk0 tu27 Tryz.el3 O O (by omega) (by omega) ⟨zeT _ _ rfl,by simp⟩) (fun b12=>?_)
 refine Vs 12 O ?_
 refine zmL (σ:=Nat × Value × List (Int × Value)) [3,13,14] [] [] O (fun e ⟨i,u,L⟩=>(15,.int .i64 i)::(4,u)::e) (fun e ⟨i,u,L⟩=>(900,MapP (Value.int .i64) m900 L)::(12,.row 3 1 u i ((yM (l.take i)).map zd))::e) (fun⟨i,u,L⟩=>i<=l.length/\NxIn L (zK [] (l.take i))) (fun⟨i,u,L⟩=>l.length - i) ((0,_,[])) (zlO O) (zlP O) (fun _=>rfl) (fun _=>rfl) (fun _=>rfl) (⟨zo8 _,zlp⟩) ?_
 rintro⟨i,u,L⟩ ⟨hi,hL⟩
 show V _ _ _ _ _ ((15,.int .i64 i)::(4,u)::_) _ ((900,MapP (Value.int .i64) m900 L)::(12,.row 3 1 u i ((yM (l.take i)).map zd))::_) _
 refine Vs 6 O ?_
 refine zk7 O (fun hlt=>?_) (fun hlt=>?_)
 ·
  refine Vs 6 O ?_
  obtain⟨x,he_x,hm_x⟩:=gE_ l (i) (by omega)
  obtain⟨b_x,o_x,c_x,ha_x,_,hc_x,hR_x⟩:=hl.at he_x
  obtain rfl:=hR_x
  refine zmI 1000 0 O O hc_x ?_
  refine V.ix 1000 tR27 ts3 O ha_x (by omega) (_) (rfl) O ?_
  obtain⟨hc1,hc2,hc3⟩:=zeJ he_x
  have hfl:=zgi (l.take i)
  rw [zon] at hfl
  refine Vs 8 O ?_
  refine zm2 O (fun w hI=>znz (KeyOk.int tu3) (hI.at 900 O) tu174 tz3 O O) ?_
  have zl:=hL.2 x
  refine Vs 11 O ?_
  refine zm2 O (fun w hI=>zly O (by first | exact za | rfl)) ?_
  refine Vs 2 O ?_
  refine V.bool O (fun hx=>?_) (fun hx=>?_)
  ·
   have hn:x ∉ zK [] (l.take i):=fun h=>by rw [zl,zo4 h] at hx;simp at hx
   have hfn:=hc3 hn
   have hid:((zK [] (l.take (i+1))).idxOf x:Int)=(L.length:Int):=by rw [hfn,List.idxOf_append,zo3 hn,hL.1];simp
   rw [hid] at hc1
   refine Vs 3 O ?_
   refine zm2 O (fun w hI=>znP tu174 (hI.at 900 O) O) ?_
   refine Vs 7 O ?_
   refine zn8 900 (e':=MapP (Value.int .i64) m900 (yR L x (.int .i64 (L.length:Int)))) O (MapP.loc) (fun _ h=>h) (fun w hI=>znA (KeyOk.int tu3) (hI.at 900 O) tu174 O O O) ?_
   refine Vs 5 O ?_
   refine zmO 34 [(0,_)] tR27 ts3 tz3 (by decide) O O (by kernel_rfl) (fun b34=>?_)
   refine zmv 12 34 tu27 Tryz.el3 O (by decide) O O (by omega) (by omega) (fun u12=>?_)
   refine Va 8 O (by omega) ?_
   refine zmK 12 O (e':=.row 3 1 u12 (i+1) ((yM (l.take (i+1))).map zd)) (by rw [hc1,List.map_append];rfl) ?_
   have hnx:NxIn (yR L x (.int .i64 (L.length:Int))) (zK [] (l.take (i+1))):=by rw [hfn,hL.1];exact hL.add hn
   refine zki (⟨i+1,u12,yR L x (.int .i64 (L.length:Int))⟩) (zlO O) (zlP O) (⟨by omega,hnx⟩) (by first | omega | (dsimp only;omega)) 0 O O
  ·
   have hn:x ∈ zK [] (l.take i):=zo2.1 fun h=>by rw [zl,zo3 h] at hx;simp at hx
   rw [zl,zo4 hn]
   have hfn:=hc2 hn
   rw [hfn] at hc1
   refine Vs 5 O ?_
   refine zmO 1034 [(0,_)] tR27 ts3 tz3 (by decide) O O (by kernel_rfl) (fun b1034=>?_)
   refine zmv 12 1034 tu27 Tryz.el3 O (by decide) O O (by omega) (by omega) (fun u12=>?_)
   refine Va 8 O (by omega) ?_
   refine zmK 12 O (e':=.row 3 1 u12 (i+1) ((yM (l.take (i+1))).map zd)) (by rw [hc1,List.map_append];rfl) ?_
   refine zki (⟨i+1,u12,L⟩) (zlO O) (zlP O) (⟨by omega,by rw [hfn];exact hL⟩) (by first | omega | (dsimp only;omega)) 0 O O
 ·
  obtain rfl:i=l.length:=by omega
  refine zmK 12 O (e':=.row 3 1 u (yM l).length ((yM l).map zd)) (by rw [znY,zeH]) ?_
  refine Vs 12 O ?_
  refine zkr Tryz.results82 O (fun w hI=>⟨_,rfl,zlh zd (fun _ _=>rfl) (hI.at 12 O) (fun b hb=>hI.own 12 0 O O b hb),hI.k0⟩)
theorem zhA {c:Mx} (ho:zgy c):c.map ql=zc2 c:=List.map_congr_left fun row hr=>zo4 (ho row hr)
theorem zgk (c:Mx) (v:Value) (D:Nat->Prop) (W:World) (hc:SlR 1 (RSl 1 zB) D W v c):Calls Tryz.prog 29 #[.agg #[v]] W (Ret fun r w'=>(∃ u,r=.tuple #[u,.int .i64 (if ¬ VMx c then 1 else if ¬ zgy c then 15 else 0)]/\(VMx c/\zgy c->SlR 1 zB (fun b=>W.heap.size<=b) w' u (yM (zc2 c)))/\(¬ (VMx c/\zgy c)->u=.slice none 0 0))/\Ext W w'):=by
 obtain⟨av,cv,rfl⟩:=hc.form
 have hmx:=hc.max
 refine zma Tryz.func29 O Tryz.ntmps29 O (zmm ?_)
 refine Vs 2 O ?_
 refine V.box 1 O O (fun b1=>?_)
 refine Vs 8 O ?_
 refine zmB Tryz.call39 O (fun w hI=>kq c _ D w (Tr1 hI.k0 hc)) ?_
 refine zm2 O (fun w hI=>zly O (by first | exact za | rfl)) ?_
 refine Vs 2 O ?_
 refine zk7 O (fun v0=>?_) (fun v0=>?_)
 ·
  rw [zo4 v0]
  refine Vs 8 O ?_
  refine zku Tryz.results29 O O (fun w hI=>⟨_,rfl,⟨_,rfl,fun h=>absurd h.1 v0,fun _=>rfl⟩,hI.k0⟩)
 ·
  rw [zo3 v0]
  have v0:=zo2.1 v0
  have hr2:=v0.r2
  refine Vs 6 O ?_
  refine zmB Tryz.call30 O (fun w hI=>zhw c _ D w (Tr1 hI.k0 hc)) ?_
  refine zm2 O (fun w hI=>zly O (by first | exact za | rfl)) ?_
  refine Vs 2 O ?_
  refine zk7 O (fun o0=>?_) (fun o0=>?_)
  ·
   have o1:¬ zgy c:=fun h=>o0 ⟨v0,h⟩
   rw [zo4 o1]
   refine Vs 8 O ?_
   refine zku Tryz.results29 O O (fun w hI=>⟨_,rfl,⟨_,rfl,fun h=>absurd h.2 o1,fun h=>rfl⟩,hI.k0⟩)
  ·
   have o0:=(zo2.1 o0).2
   rw [zo3 (zog o0)]
   have hlab:=zhA o0
   refine Vs 16 O ?_
   refine zmu 900 3 1 O ?_
   refine Vs 1 O ?_
   refine zmL (σ:=Nat × Value) [14,15] [] [] O (fun e ⟨i,u⟩=>(16,.int .i64 i)::(4,u)::e) (fun e ⟨i,u⟩=>(900,.row 3 1 u i (((c.take i).map ql).map zd))::e) (fun⟨i,u⟩=>i<=c.length) (fun⟨i,u⟩=>c.length - i) ((0,.slice none 0 0)) (zlO O) (zlP O) (fun _=>rfl) (fun _=>rfl) (fun _=>rfl) (zo8 _) ?_
   rintro⟨i,u⟩ hi
   show V _ _ _ _ _ ((16,.int .i64 i)::(4,u)::_) _ ((900,.row 3 1 u i (((c.take i).map ql).map zd))::_) _
   refine Vs 6 O ?_
   refine zk7 O (fun hlt=>?_) (fun hlt=>?_)
   ·
    refine Vs 6 O ?_
    obtain⟨x,he_x,hm_x⟩:=gE_ c (i) (by omega)
    obtain⟨b_x,o_x,c_x,ha_x,_,hc_x,hR_x⟩:=hc.at he_x
    obtain⟨v1_x,rfl,hs_x⟩:=hR_x
    obtain⟨a1_x,n1_x,rfl⟩:=hs_x.form
    refine zmI 1000 0 O O hc_x ?_
    refine V.ix 1000 tR34 ts27 O ha_x (by omega) (_) (rfl) O ?_
    refine Vs 7 O ?_
    refine zmB Tryz.call81 O (fun w hI=>zcW x _ _ w (Tr1 hI.k0 hs_x)) ?_
    refine zmO 23 [(0,_)] tR27 ts3 tz3 (by decide) O O (by kernel_rfl) (fun b23=>?_)
    refine zmv 900 23 tu27 Tryz.el3 O (by decide) O O (by omega) (by omega) (fun u900=>?_)
    refine Va 8 O (by omega) ?_
    refine zmK 900 O (e':=.row 3 1 u900 (i+1) (((c.take (i+1)).map ql).map zd)) (by rw [zg he_x,List.map_append,List.map_append];rfl) ?_
    refine zki (⟨i+1,u900⟩) (zlO O) (zlP O) (by omega) (by first | omega | (dsimp only;omega)) 0 O O
   ·
    obtain rfl:i=c.length:=by omega
    refine zmK 900 O (e':=.row 3 1 u (zc2 c).length ((zc2 c).map zd)) (by rw [znY,hlab];simp [zc2]) ?_
    have hll:(zc2 c).length<=1000000:=by unfold zc2;rw [zod];omega
    refine Vs 8 O ?_
    refine zmD Tryz.call82 O (fun w hI=>zgj (zc2 c) _ _ w (zlh (D:=fun _=>True) zd (fun _ _=>rfl) (hI.at 900 O) (fun _ _=>trivial)) hll) ?_
    rintro r1 w1 w2 hI1 hk12 hres hlow
    refine Vs 5 O ?_
    refine zku Tryz.results29 O O (fun w hI=>⟨_,rfl,⟨_,rfl,fun _=>(hres.keep zc hI.k0 (fun b hb _ hs=>by have:=hlow b hs;omega)).wide zc (fun b hb=>znZ hI1.k0.size hb),fun h=>absurd ⟨v0,o0⟩ h⟩,hI.k1⟩)
theorem zd0 {w:World} {e:TypeId} {k:Nat} {v:Value} {n:Nat} {xs:List Value} (h:w.ownsRow 0 e k v n xs):∃ ao c,v=.slice ao n c/\(0<n->∃ b,ao=some ⟨b,0,none⟩):=by
 rcases h.2 with⟨rfl,rfl⟩ | ⟨g,cap,cur,rfl,_⟩
 . exact⟨_,_,rfl,fun h=>by omega⟩
 . exact⟨_,_,rfl,fun _=>⟨_,rfl⟩⟩
theorem ziE {H:Hp} {w:World} (k1 k2:Nat) (c:Mx) (hv:VMx c) {v:Value} {D:Nat->Prop} (hc:SlR 1 (RSl 1 zB) D w v c) :
  Calls Tryz.prog 70 #[v] w (Ret fun r w'=>∃ y:Nat × Nat × List Value,r=.slice (some ⟨y.1,0,none⟩) (yn c).length y.2.1/\Hands H [] [(k1,.row 27 1 (.slice (some ⟨y.1,0,none⟩) (yn c).length y.2.1) (yn c).length y.2.2),(k2,RowsP zd 3 y.2.2 (yn c))] w w'):=by
 have h1:=hv.r1
 have h2:=hv.r2
 have h3:=hv.w2
 have h4:=hv.w1
 refine (zb1 c h1 hv.wid ⟨by omega,by omega⟩ v D w hc).mono ?_
 rintro _ w' ⟨r,rfl,⟨rv,g1,g2,g3,g4⟩,hk⟩
 obtain⟨ao,cap,rfl,hb⟩:=zd0 g1
 obtain⟨b,rfl⟩:=hb (by rw [qJ];omega)
 refine⟨_,rfl,(b,cap,rv),rfl,hk.mono fun q _ h=>h.elim,fun x hx=>?_,?_⟩
 ·
  simp only [zo9,List.not_mem_nil,or_false] at hx
  rcases hx with rfl | rfl
  . refine⟨g1,trivial,fun _ h=>h,fun q hq=>⟨.inr (g3 q hq).1,xi g1 hq⟩⟩
  ·
   refine⟨g2,RowsP.loc,fun _ h=>h,fun q hq=>?_⟩
   obtain⟨i,u,hu,he⟩:=hq
   exact⟨.inr (g4 i u q hu he),g2.blk hu he⟩
 ·
  refine List.pairwise_cons.2 ⟨fun x hx=>?_,List.pairwise_singleton _ _⟩
  rw [zob] at hx
  subst hx
  intro q hq hq2
  obtain⟨i,u,hu,he⟩:=hq2
  exact (g3 q hq).2 i u hu he
def qm (r col:List Int) (x:Nat):List Int:=(List.zipWith (·+·) r col).take x++r.drop x
theorem zeK (r col:List Int):qm r col 0=r:=by simp [qm]
theorem zgl {r col:List Int} (h:r.length=col.length) {x:Nat} (hx:x<=r.length):(qm r col x).length=r.length:=by
 unfold qm
 rw [zo1,zon,List.length_zipWith,List.length_drop]
 omega
theorem zeL {r col:List Int} (h:r.length=col.length):qm r col r.length=List.zipWith (·+·) r col:=by
 unfold qm
 rw [List.drop_length,List.append_nil,List.take_of_length_le (by rw [List.length_zipWith];omega)]
theorem zgm {r col:List Int} (h:r.length=col.length) {x:Nat} {a:Int} (ha:r[x]?=some a):(qm r col x)[x]?=some a:=by
 have hl:=(zo7.1 ha).1
 unfold qm
 rw [zok (by rw [zon];omega),zon,List.length_zipWith,show x - min x (min r.length col.length)=0 by omega,List.getElem?_drop]
 exact ha
theorem zgn {r col:List Int} (h:r.length=col.length) {x:Nat} {a b:Int} (ha:r[x]?=some a) (hb:col[x]?=some b):(qm r col x).set x (a+b)=qm r col (x+1):=by
 have hl:=(zo7.1 ha).1
 have hz:(List.zipWith (·+·) r col)[x]?=some (a+b):=by
  rw [List.getElem?_zipWith,ha,hb]
 unfold qm
 rw [zg hz,yU ha,List.set_append_right _ _ (by rw [zon];omega),zon,List.length_zipWith,show x - min x (min r.length col.length)=0 by omega,List.set_cons_zero,List.append_assoc]
 rfl
theorem ziF {w:World} {v:Value} {rv:List Value} {rows:List (List Int)} {D:Nat->Prop} (h1:w.ownsRow 0 27 1 v rows.length rv) (h2:RowsOk zd 3 w rv rows) (hD1:∀ g,v.ownBlock=some g->D g) (hD2:∀ (i:Nat) u g,rv[i]?=some u->u.ownBlock=some g->D g):SlR 1 (RSl 1 zB) D w v rows:=by
 have:OwnR 27 1 (RSl 1 zB) D w v rows:=⟨rv,h1,fun i x hx=>by
  have hlen:=h2.len
  have hl:=(zo7.1 hx).1
  obtain⟨u,hu⟩:∃ u,rv[i]?=some u:=⟨_,znT (by omega)⟩
  have hd:(rv.drop (i*1)).take 1=[u]:=by rw [Nat.mul_one,yU hu];rfl
  rw [hd]
  exact⟨u,rfl,zlh zd (fun _ _=>rfl) (h2.row i u x hu hx) (fun g hg=>hD2 i u g hu hg)⟩⟩
 exact this.sl (by decide) (yV zc) (fun q h=>h) hD1
theorem zgo {c:Mx} (h:VMx c) {col:List Int} (hc:col ∈ yn c):∀ v ∈ col,0<=v/\v<=1048576:=fun v hv=>by
 refine⟨(zg0 h hc).2 v hv,?_⟩
 obtain⟨y,_,rfl⟩:=List.mem_map.1 hc
 obtain⟨row,hr,rfl⟩:=List.mem_map.1 hv
 cases hy:row[y]? with
 | none=>show (0:Int)<=_;omega
 | some v=>exact (((vmx_ref.1 h).2 row hr).2.1 v (znU hy)).2
def zeS (T:Mx):Mx:=(xV (zG (yB T))).mergeSort fun a b=>decide (xL b a<=0)
theorem zdz (T:Mx):IsAbs T (zeS T):=by
 refine⟨List.mergeSort_perm _ _,?_⟩
 have:=List.pairwise_mergeSort (le:=fun a b:List Int=>decide (xL b a<=0)) (fun a b c h1 h2=>by
  simp only [decide_eq_true_eq] at h1 h2 ⊢
  rcases Int.lt_or_eq_of_le h1 with h1 | h1
  ·
   rcases Int.lt_or_eq_of_le h2 with h2 | h2
   . have:=xT h2 h1;omega
   . rw [qg h2];omega
  . rw [<- qg h1];exact h2) (fun a b=>by
  have:=xe a b
  simp only [Bool.or_eq_true,decide_eq_true_eq]
  omega) (xV (zG (yB T)))
 exact this.imp fun h=>by simpa using h
def zhB (c:Mx):Mx:=if VMx c then ko c.length (zeS (yn c)) else []
theorem kZ {c:Mx} (h:VMx c):zhB c=ko c.length (zeS (yn c)):=zo4 h
theorem ziG {c:Mx} (h:¬ VMx c):zhB c=[]:=zo3 h
theorem zeM {c:Mx} (h:VMx c):VMx (zhB c)/\yn (zhB c)=zeS (yn c):=by
 rw [kZ h]
 exact znK h (zdz _)
theorem zhC (A B:List Int):yq (yq A::B)=yq (A++B):=zbX fun d=>by
 constructor
 ·
  intro h n hn
  rcases zoc.1 hn with hn | hn
  . exact Int.dvd_trans (h _ (znX ..)) (yx hn)
  . exact h n (znW _ hn)
 ·
  intro h n hn
  rcases zo9.1 hn with rfl | hn
  . exact xJ fun x hx=>h x (List.mem_append_left _ hx)
  . exact h n (List.mem_append_right _ hn)
theorem ziH {L:Mx} {M:List (List Int × Int)} (h:MSpec L M) (hne:M ≠ []):0<yq (zG M).flatten:=by
 obtain⟨p,hp⟩:=List.exists_mem_of_ne_nil _ hne
 have h1:=(h.good hp).2
 rw [zcS h]
 have hd:=yx (List.mem_map.2 ⟨p,hp,rfl⟩:p.2 ∈ M.map (·.2))
 have h2:=yS (M.map (·.2))
 rcases Int.lt_or_eq_of_le h2 with h3 | h3
 . exact h3
 ·
  rw [<- h3] at hd
  have:=Int.zero_dvd.1 hd
  omega
structure ColsAt (n:Nat) (C:Mx) (y:Nat):Prop where
 len:∀ r ∈ C,r.length=n
 bd:∀ r ∈ C,∀ v ∈ r,0<=v/\v<=((y:Int)+1)*1048576
theorem zlq {c:Mx} (h:VMx c):ColsAt c.length (yn c) 0:=⟨fun r hr=>zaW hr,fun r hr v hv=>by have:=zgo h hr v hv;omega⟩
theorem ColsAt.more {n y:Nat} {C:Mx} (h:ColsAt n C y):ColsAt n C (y+1):=⟨h.len,fun r hr v hv=>by have:=h.bd r hr v hv;omega⟩
theorem ColsAt.add {n y p:Nat} {C:Mx} {r col:List Int} (h:ColsAt n C y) (hr:r ∈ C) (hc:∀ v ∈ col,0<=v/\v<=1048576) (hl:col.length=n):ColsAt n (C.set p (List.zipWith (·+·) r col)) (y+1):=by
 have hrl:=h.len r hr
 refine⟨fun q hq=>?_,fun q hq v hv=>?_⟩
 ·
  rcases List.mem_or_eq_of_mem_set hq with hq | rfl
  . exact h.len q hq
  . rw [List.length_zipWith];omega
 ·
  rcases List.mem_or_eq_of_mem_set hq with hq | rfl
  . have:=h.bd q hq v hv;omega
  ·
   obtain⟨i,hi⟩:=List.mem_iff_getElem?.1 hv
   rw [List.getElem?_zipWith_eq_some] at hi
   obtain⟨a,b,ha,hb,rfl⟩:=hi
   have h1:=h.bd r hr a (znU ha)
   have h2:=hc b (znU hb)
   omega
theorem zhD {l:List Int} {d x:Int} {i:Nat} (hx:l[i]?=some x) (hti:((l.take i).map (· / d)).length=i):((((l.take i).map (· / d))++List.replicate (l.length - i) 0).map zd).set i (.int .i64 (x / d))=(((l.take (i+1)).map (· / d))++List.replicate (l.length - (i+1)) 0).map zd:=by
 have hl:=(zo7.1 hx).1
 rw [show (Value.int .i64 (x / d))=zd (x / d) from rfl,<- List.map_set,zg hx,List.map_append]
 congr 1
 rw [List.set_append_right _ _ (by omega),hti,Nat.sub_self,show l.length - i=(l.length - (i+1))+1 by omega,List.replicate_succ,List.set_cons_zero]
 simp
theorem zbq (l:List Int) (d:Int) (hd:0<d) (hn:∀ x ∈ l,0<=x/\x<=9223372036854775807) (hlen:l.length<=1000000) (v:Value) (D:Nat->Prop) (W:World) (hl:SlR 1 zB D W v l):Calls Tryz.prog 72 #[v,.int .i64 d] W (Ret fun r w'=>SlR 1 zB (fun b=>W.heap.size<=b) w' r (l.map (· / d))/\Ext W w'):=by
 obtain⟨av,cv,rfl⟩:=hl.form
 refine zmb Tryz.func72 O Tryz.ntmps72 O (zmm ?_)
 refine Vs 9 O ?_
 refine zl1 10 tu27 Tryz.el3 O (by omega) (by omega) (zs:=List.replicate l.length (.int .i64 0)) (zeT _ _ O) (by simp) (fun b10=>?_)
 refine zmK 10 O (e':=.row 3 1 (.slice (some ⟨b10,0,none⟩) l.length l.length) l.length ((((l.take 0).map (· / d))++List.replicate (l.length - 0) 0).map zd)) (by simp [zd]) ?_
 refine Vs 12 O ?_
 refine zmL (σ:=Nat) [1,5,11,12] [] [] O (fun e i=>(13,.int .i64 i)::e) (fun e i=>(10,.row 3 1 (.slice (some ⟨b10,0,none⟩) l.length l.length) l.length ((((l.take i).map (· / d))++List.replicate (l.length - i) 0).map zd))::e) (fun i=>i<=l.length) (fun i=>l.length - i) (0) (zlO O) (zlP O) (fun _=>rfl) (fun _=>rfl) (fun _=>rfl) (zo8 _) ?_
 rintro i hi
 refine Vs 6 O ?_
 refine zk7 O (fun hlt=>?_) (fun hlt=>?_)
 ·
  refine Vs 7 O ?_
  obtain⟨x,he_x,hm_x⟩:=gE_ l (i) (by omega)
  obtain⟨b_x,o_x,c_x,ha_x,_,hc_x,hR_x⟩:=hl.at he_x
  obtain rfl:=hR_x
  refine zmI 1000 0 O O hc_x ?_
  refine V.ix 1000 tR27 ts3 O ha_x (by omega) (_) (rfl) O ?_
  have hx:=hn x hm_x
  have hti:((l.take i).map (· / d)).length=i:=by rw [zod,zon];omega
  refine Vs 10 O ?_
  refine zm2 O (fun w hI=>R.quo O O (by omega) (by omega)) ?_
  refine Va 1 O (by omega) ?_
  refine V.rs 10 (i) ts3 O (by omega) (by simp;omega) ?_
  refine zmK 10 O (e':=.row 3 1 (.slice (some ⟨b10,0,none⟩) l.length l.length) l.length ((((l.take (i+1)).map (· / d))++List.replicate (l.length - (i+1)) 0).map zd)) (by rw [<- zhD he_x hti,Int.tdiv_eq_ediv_of_nonneg hx.1]) ?_
  refine Va 7 O (by omega) ?_
  refine zki (i+1) (zlO O) (zlP O) (by omega) (by first | omega | (dsimp only;omega)) 0 O O
 ·
  obtain rfl:i=l.length:=by omega
  refine zmK 10 O (e':=.row 3 1 (.slice (some ⟨b10,0,none⟩) l.length l.length) (l.map (· / d)).length ((l.map (· / d)).map zd)) (by simp) ?_
  refine Vs 12 O ?_
  refine zkr Tryz.results72 O (fun w hI=>⟨_,rfl,zlh zd (fun _ _=>rfl) (hI.at 10 O) (fun b hb=>hI.own 10 0 O O b hb),hI.k0⟩)
end Go.Proofs.YtaenledoagbddaaGreatDoor
namespace Go.Proofs
open Go.Shelf
def Tryz.laysSlF6A_ren:Go.Shelf.Ren:=⟨fun | 6=>73 | 15=>130 | 14=>131 | 28=>167 | 29=>168 | 20=>169 | 21=>170 | 22=>171 | 23=>172 | 24=>173 | 25=>174 | 26=>175 | 27=>176 | 46=>214 | 47=>210 | 48=>211 | 49=>215 | 50=>216 | 57=>230 | n=>n,fun | 22=>34 | 24=>27 | 25=>117 | 3=>3 | 39=>172 | 0=>0 | 53=>205 | 55=>207 | 4=>4 | 46=>199 | 45=>198 | 50=>108 | 5=>5 | 9=>9 | 66=>234 | 70=>238 | 76=>251 | 77=>180 | n=>n,fun | n=>n⟩
theorem Tryz.laysSlF6A:Go.Proofs.SlLaysF.n6 Tryz.prog Tryz.laysSlF6A_ren:={
 mixed:=by kernel_rfl
 f6:=⟨Tryz.f73.name,by decide,Tryz.func73.trans (congrArg some (by kernel_rfl))⟩
 f14:=⟨Tryz.f131.name,by decide,Tryz.func131.trans (congrArg some (by kernel_rfl))⟩
 f15:=Tryz.func130.trans (congrArg some (by kernel_rfl))
 f20:=⟨Tryz.f169.name,by decide,Tryz.func169.trans (congrArg some (by kernel_rfl))⟩
 f21:=⟨Tryz.f170.name,by decide,Tryz.func170.trans (congrArg some (by kernel_rfl))⟩
 f22:=⟨Tryz.f171.name,by decide,Tryz.func171.trans (congrArg some (by kernel_rfl))⟩
 f23:=⟨Tryz.f172.name,by decide,Tryz.func172.trans (congrArg some (by kernel_rfl))⟩
 f24:=⟨Tryz.f173.name,by decide,Tryz.func173.trans (congrArg some (by kernel_rfl))⟩
 f25:=⟨Tryz.f174.name,by decide,Tryz.func174.trans (congrArg some (by kernel_rfl))⟩
 f26:=⟨Tryz.f175.name,by decide,Tryz.func175.trans (congrArg some (by kernel_rfl))⟩
 f27:=⟨Tryz.f176.name,by decide,Tryz.func176.trans (congrArg some (by kernel_rfl))⟩
 f28:=Tryz.func167.trans (congrArg some (by kernel_rfl))
 f29:=Tryz.func168.trans (congrArg some (by kernel_rfl))
 f46:=⟨Tryz.f214.name,by decide,Tryz.func214.trans (congrArg some (by kernel_rfl))⟩
 f47:=Tryz.func210.trans (congrArg some (by kernel_rfl))
 f48:=Tryz.func211.trans (congrArg some (by kernel_rfl))
 f49:=⟨Tryz.f215.name,by decide,Tryz.func215.trans (congrArg some (by kernel_rfl))⟩
 f50:=⟨Tryz.f216.name,by decide,Tryz.func216.trans (congrArg some (by kernel_rfl))⟩
 f57:=⟨Tryz.f230.name,by decide,Tryz.func230.trans (congrArg some (by kernel_rfl))⟩
 t0:=tu0
 a0:=tg0
 z0:=ts0
 v0:=tz0
 t3:=tu3
 a3:=tg3
 z3:=ts3
 v3:=tz3
 t4:=tu4
 a4:=tg4
 z4:=ts4
 v4:=tz4
 t5:=tu5
 a5:=tg5
 z5:=ts5
 v5:=tz5
 t9:=tu9
 a9:=tg9
 z9:=ts9
 v9:=tz9
 t22:=tu34
 a22:=Tryz.isAgg34
 z22:=Tryz.sizeOf34
 v22:=Tryz.zeroValue34
 a24:=tg27
 z24:=ts27
 t25:=Tryz.underlying117
 a25:=Tryz.isAgg117
 z25:=Tryz.sizeOf117
 v25:=Tryz.zeroValue117
 t39:=tu172
 a39:=Tryz.isAgg172
 z39:=ts172
 v39:=tz172
 t45:=tu198
 a45:=Tryz.isAgg198
 z45:=Tryz.sizeOf198
 v45:=Tryz.zeroValue198
 t46:=tu199
 a46:=Tryz.isAgg199
 z46:=Tryz.sizeOf199
 v46:=Tryz.zeroValue199
 t50:=tu108
 a50:=Tryz.isAgg108
 z50:=Tryz.sizeOf108
 v50:=Tryz.zeroValue108
 t53:=tu205
 a53:=Tryz.isAgg205
 z53:=ts205
 v53:=tz205
 t55:=tu207
 a55:=Tryz.isAgg207
 z55:=ts207
 v55:=tz207
 t66:=tu234
 a66:=Tryz.isAgg234
 z66:=ts234
 v66:=Tryz.zeroValue234
 t70:=tu238
 a70:=Tryz.isAgg238
 z70:=Tryz.sizeOf238
 v70:=Tryz.zeroValue238
 t76:=tu251
 a76:=Tryz.isAgg251
 z76:=Tryz.sizeOf251
 v76:=Tryz.zeroValue251
 t77:=tu180
 a77:=Tryz.isAgg180
 z77:=Tryz.sizeOf180
 v77:=Tryz.zeroValue180 }
open Go.RowKit Go.Lib Go.Sort in
theorem Tryz.slices_SortFuncA {α:Type} [Inhabited α] (enc:α->Value) (h1:OneCell enc) (cf:α->α->Int) (hO:SWO (ltOf cf)) (g:Nat) (cb:Array Value) (blk off cap:Nat) (d:Array α) (w:World) (eg:∀ args w,(callFunc g args).run Tryz.prog w=.ok (.enter g args) w) (hcmp:CmpLays1 Tryz.prog g cb enc cf blk off d.size w) (hH:Holds enc w blk off d) (hblk:blk<w.heap.size) (hsz:d.size<4611686018427387904) :
  Calls Tryz.prog 73 #[.slice (some ⟨blk,off,none⟩) d.size cap,.func (.func g) #[] cb] w fun e w' =>
   e=.returned (.tuple #[])/\∃ d' n os,PermIn 0 d.size d d'/\SortedIn (ltOf cf) 0 d.size d'/\w'=sortWorld enc w blk off n d' os:=Any.slices_SortFunc Tryz.laysSlF6A enc h1 cf hO g cb blk off cap d w eg hcmp hH hblk hsz
open Go.RowKit Go.Lib Go.Sort in
theorem Tryz.slices_SortFuncA_none (p:Option Addr) (cap:Nat) (fv:Value) (w:World) :
  Calls Tryz.prog 73 #[.slice p 0 cap,fv] w fun e w'=>e=.returned (.tuple #[])/\w'=w:=AnyF.slices_SortFunc_none { Tryz.laysSlF6A with } p cap fv w
end Go.Proofs
