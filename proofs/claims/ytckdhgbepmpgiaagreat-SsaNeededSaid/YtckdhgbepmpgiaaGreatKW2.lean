/-
  Contracts and the mathematics that the proof needs. Nothing here is a claim.
-/
import Derived.Test.YtckdhgbepmpgiaaGreatKW1
namespace Go.GL
def zjt (env:Env):List Nat->Option Env
 | []=>some []
 | k::r=>match get env k with
  | some v=>(match zjt env r with
   | some l=>some ((k,v)::l)
   | none=>none)
  | none=>none
def zdQ (H:Hp):List Nat->Option Hp
 | []=>some []
 | k::r=>match hget H k with
  | some v=>(match zdQ H r with
   | some l=>some ((k,v)::l)
   | none=>none)
  | none=>none
def zju (A:Tgs):List Nat->Option Tgs
 | []=>some []
 | k::r=>match tgt A k with
  | some v=>(match zju A r with
   | some l=>some ((k,some v)::l)
   | none=>none)
  | none=>none
theorem zcZ {H:Hp}:∀ {ks:List Nat} {H':Hp},zdQ H ks=some H'->Has H' H
 | [],H',h=>by cases h;exact Has.nil
 | k::r,H',h=>by
  unfold zdQ at h
  split at h
  .
   rename_i v hv;split at h
   . rename_i l hl;cases h;exact Has.cons hv (zcZ hl)
   cases h
  cases h
section
variable {P:Program} {T:Tab} {Z:Szs} {n:Nat} {Q:Exit->Act->World->Prop} {ks:List Fr} {pos:Pos} {env:Env} {A:Tgs} {H:Hp} {Bs:zC} {ops:Array Oper} {v:Value}
theorem znH (k j:Nat) {w:World} {b o:Nat} {c:Value} {cs:List Value} (hn:(hget H k).isNone=true) (hp:Bs[j]?=some (w,fun _=>False)) (hc:Cells w b o (c::cs)) (h:V P n Q ks pos env A ((k,.fro b o (c::cs))::H) Bs):V P n Q ks pos env A H Bs :=
 V.fro k (by simpa using hn) (zoU hp) (zoV _ _ (hc 0 c rfl)) (fun h=>h) hc h
theorem znI (k j:Nat) {w:World} {S:Nat->Prop} {b o:Nat} {c:Value} {cs:List Value} (hn:(hget H k).isNone=true) (hp:Bs[j]?=some (w,S)) (hS:¬ S b) (hc:Cells w b o (c::cs)) (h:V P n Q ks pos env A ((k,.fro b o (c::cs))::H) Bs):V P n Q ks pos env A H Bs :=
 V.fro k (by simpa using hn) (zoU hp) (zoV _ _ (hc 0 c rfl)) hS hc h
theorem V.dat {α:Type} {kk:Nat} {R:Rel α} [Dt R] {D:Nat->Prop} {l:List α} (k j:Nat) {w0:World} {S:Nat->Prop} (hn:(hget H k).isNone=true) (hp:Bs[j]?=some (w0,S)) (hk:Nat.blt 0 kk=true) (hd:SlR kk R D w0 v l) (hS:∀ b,D b->b<w0.heap.size->¬ S b)
  (h:V P n Q ks pos env A ((k,.dat (fun b=>D b/\b<w0.heap.size) (fun w=>SlR kk R (fun b=>D b/\b<w0.heap.size) w v l))::H) Bs):V P n Q ks pos env A H Bs :=
 fun hA w' hI=>h (hA.new (by simpa using hn)) w' (by
  have h1:=hI.dat k (p:=(w0,S)) (zoU hp) (show 0<kk by simpa[Nat.blt_eq] using hk) hd hS
  exact h1)
theorem znJ (k:Nat) {e e':HE} (hg:hget H k=some e) (he:e=e') (h:V P n Q ks pos env A (yx H k e') Bs):V P n Q ks pos env A H Bs:=by
 subst he
 intro hA w hI
 have hh:∀ (H:Hp),hget H k=some e->yx H k e=H:=by
  intro H
  induction H with
  | nil=>intro h;cases h
  | cons x r ih =>
   obtain⟨k',e'⟩:=x
   intro h
   simp only[hget]at h
   simp only[yx]
   cases hb:Nat.beq k' k with
   | true=>rw[hb]at h;cases h;rfl
   | false=>rw[hb]at h;simp only[cond_false];rw[ih h]
 rw[hh H hg]at h
 exact h hA w hI
theorem znK {σ:Type} (es hs ts:List Nat) {E1:Env} {H1:Hp} {A1:Tgs} (_hp:(zjt env es,zdQ H hs,zju A ts)=(some E1,some H1,some A1)) (env':Env->σ->Env) (H':Hp->σ->Hp) (I:σ->Prop) (μ:σ->Nat) {c:Code} (s₀:σ) (h₀:Sub (env' E1 s₀) env) (hH:Has (H' H1 s₀) H) (hu:∀ s,qu ((H' H1 s).map (·.1))=true)
  (hA':∀ s,A1.map (fun p=>zdM (env' E1 s) p.1)=A1.map (fun p=>jC (H' H1 s) p.2)) (hA2:∀ s,A1.all (fun p=>(jC (H' H1 s) p.2).isSome)=true) (hI:I s₀)
  (h:∀ s,I s->V P n Q (.k (zjj n (env' E1) (fun s w=>I s/\VI Bs (H' H1 s) w) μ (μ s))::ks) (.c c) (env' E1 s) A1 (H' H1 s) Bs):V P n Q ks (.c (.loop c)) env A H Bs :=
 V.loop (env' E1) A1 (H' H1) I μ s₀ h₀ hH hu (fun s=>⟨hA' s,hA2 s⟩) hI h
theorem znL {σ:Type} (es hs ts:List Nat) {E1:Env} {H1:Hp} {A1:Tgs} (_hp:(zjt env es,zdQ H hs,zju A ts)=(some E1,some H1,some A1)) (env':Env->σ->Env) (H':Hp->σ->Hp) (I:σ->Prop) {c:Code}
  (hA':∀ s,A1.map (fun p=>zdM (env' E1 s) p.1)=A1.map (fun p=>jC (H' H1 s) p.2)) (hA2:∀ s,A1.all (fun p=>(jC (H' H1 s) p.2).isSome)=true)
  (h:V P n Q (.k (zjk n (env' E1) (fun s w=>I s/\VI Bs (H' H1 s) w))::ks) (.c c) env A H Bs) (hk:∀ s,I s->V P n Q ks (.e .normal) (env' E1 s) A1 (H' H1 s) Bs):V P n Q ks (.c c) env A H Bs :=
 V.cut (env' E1) A1 (H' H1) I (fun s=>⟨hA' s,hA2 s⟩) h hk
theorem znM {id:Nat} {l:List Oper} (hs L:List Nat) {Hs:Hp} (hm:P.follows .mixedOrders=true) (hp:zdQ H hs=some Hs) (h:VD P n Q ks l.toArray Hs Bs L l.length (Array.replicate l.length false) env A H Bs):V P n Q ks (.c (.region id l.toArray true)) env A H Bs:=zme Hs L hm (zcZ hp) h
end
def zkZ:List Value->List Value->Option (List Value)
 | [],l=>some l
 | u::us,l=>match zkZ us l with
  | some r=>some (u::r)
  | none=>none
def zci:List Value->Option (List Value)
 | []=>some []
 | v::r=>match zet v with
  | some us=>(match zci r with
   | some l=>zkZ us l
   | none=>none)
  | none=>none
def zki:Value->List Value
 | .agg ⟨l⟩=>l
 | v=>[v]
def zjv (places:List (Nat × Nat)):List Value->List (Nat × Value)->Option (List Value)
 | cs,[]=>some cs
 | cs,(i,v)::r=>match nth places i with
  | some (off,_)=>(match wrE (zki v) off cs with
   | some cs'=>zjv places cs' r
   | none=>none)
  | none=>none
section
variable {P:Program} {T:Tab} {Z:Szs} {n:Nat} {Q:Exit->Act->World->Prop} {ks:List Fr} {pos:Pos} {env:Env} {A:Tgs} {H Hs:Hp} {Bs B0:zC} {ops:Array Oper} {rest:List Oper} {v:Value} {L:List Nat} {fuel:Nat} {listed:Array Bool}
variable {d:Nat} {op:Op} {ty:TypeId} {ps:String} {aft:Array Edge} {g:Option (Nat × Bool)}
theorem V.bs (k:Nat) {t e:TypeId} {len kk:Nat} {parts:Array (Nat × Operand)} {z:Value} {cs:List Value} (vs:List (Nat × Value)) (hu:∀ w,(underlying t).run P w=.ok (.slice e) w) (hs:∀ w,(sizeOf e).run P w=.ok kk w) (hz:∀ w,(zeroValue e).run P w=.ok z w)
  (hlen:len*kk ≠ 0/\len*kk<=16777216) (hn:(Nat.blt d n,gd ops env g,(hget H k).isNone,parts.toList.map (fun p=>(p.1,ev env p.2)))=(true,some true,true,vs.map (fun p=>(p.1,some p.2)))) (_hcs:zci (vs.map (·.2))=some cs) (hf:Instr.fill (fun i=>some (i*kk,kk)) ((Array.range (len*kk)).map (z.cells[· % z.cells.size]!)) vs=some cs.toArray)
  (h:∀ b,V P n Q ks (.o ops rest) ((d,.slice (some ⟨b,0,none⟩) len len)::env) ((d,none)::A) ((k,.own b cs e)::H) Bs):V P n Q ks (.o ops (⟨some d,.buildSlice t len parts,ty,ps,aft,g⟩::rest)) env A H Bs:=by
 simp only[Prod.mk.injEq]at hn
 exact zne k (u:=fun b=>.slice (some ⟨b,0,none⟩) len len) (by rw[hn.1,hn.2.1,hn.2.2.1]) (fun _ _=>M.buildSlice vs hu hs hz hlen hn.2.2.2 hf) h
theorem znN {α:Type} {R:Rel α} (k:Nat) {t e:TypeId} {kk by':Nat} {z:Value} {x y:Operand} {m:Nat} {xs:List Value} {vy:Value} {l:List α} (enc:α->List Value) (hc:∀ x,(enc x).length=kk) (h1:∀ x,∀ u ∈ enc x,u.oneCell'=true) (hR:∀ D w x cs,R D w x cs->cs=enc x)
  (hu:P.underlying t=some (.slice e)) (he:(P.info? e).map (fun i=>(i.zero,i.size,i.bytes))=some (some z,kk,by')) (hzs:z.cells.size=kk) (hk0:0<kk) (hn:(Nat.blt d n,gd ops env g,hget H k,ev env x,ev env y)=(true,some true,some (.row e kk v m xs),some v,some vy))
  (hsl:∀ w,VI Bs H w->∃ D,SlR kk R D w vy l) (hmax:m+l.length<=9223372036854775807) (hby:(m+l.length)*by'<=140737488355328)
  (h:∀ u,V P n Q ks (.o ops rest) ((d,u)::env) ((d,none)::A) (yx H k (.row e kk u (m+l.length) (xs++l.flatMap enc))) Bs):V P n Q ks (.o ops (⟨some d,.call ⟨.builtin .append,#[x,y],#[t,t]⟩,ty,ps,aft,g⟩::rest)) env A H Bs:=by
 simp only[Prod.mk.injEq]at hn
 obtain⟨h2,h3,h4,h5,h6⟩:=hn
 intro hA w hI
 obtain⟨D,hsl⟩:=hsl w hI
 refine zlY h2 h3 (zmr enc hc h1 (fun x cs=>hR D w x cs) hu he hzs hk0 h5 h6 hsl (hI.at k h4) hmax hby) ?_
 rintro u w' ⟨ho,hf,hk⟩
 refine h u (TgOk.none (hA.res h4 ?_)) w' (hI.set h4 hk ho trivial (fun _ h=>h) (fun q hq=>⟨?_,qj ho hq⟩))
 . simp[ji,h4]
 rcases hf with hf | ⟨g',hf,hg'⟩
 . exact .inl (by show v.ownBlock=some q;rw[<- hf];exact hq)
 have hq:u.ownBlock=some q:=hq
 rw[hf]at hq;cases hq;exact .inr hg'
theorem znO {t:TypeId} {parts:Array (Nat × Operand)} {l:List Value} (zs:List Value) (places:List (Nat × Nat)) (vs:List (Nat × Value)) (hn:(Nat.blt d n,gd ops env g,parts.toList.map (fun p=>(p.1,ev env p.2)))=(true,some true,vs.map (fun p=>(p.1,some p.2)))) (_hl:zjv places zs vs=some l) (hb:∀ w,(Instr.build t vs.toArray).run P w=.ok (.agg l.toArray) w)
  (h:V P n Q ks (.o ops rest) ((d,.agg l.toArray)::env) ((d,none)::A) H Bs):V P n Q ks (.o ops (⟨some d,.build t parts,ty,ps,aft,g⟩::rest)) env A H Bs:=by
 simp only[Prod.mk.injEq]at hn
 exact zmS (by rw[hn.1,hn.2.1]) (fun _ _=>R.build vs hn.2.2 hb) h
theorem znQ (i:Nat) (hi:ops[i]?=some ⟨some d,op,ty,ps,aft,g⟩) (hc:zhC ops [i] listed=true) (hn:(Nat.blt d n,gd ops env g)=(true,some true)) (hr:∀ w,yo P ⟨some d,op,ty,ps,aft,g⟩ env w v w)
  (h:VD P n Q ks ops Hs B0 L fuel (listed.setIfInBounds i true) ((d,v)::env) ((d,none)::A) H Bs):VD P n Q ks ops Hs B0 L (fuel+1) listed env A H Bs:=by
 simp only[Prod.mk.injEq]at hn
 unfold zhC at hc
 rw[zpv]at hc
 exact fun hH hA w hI=>zn5 i hi hc.1 O hn.1 (.inl ⟨qs hn.2,fun w' nn a haa=>hr w' nn a haa⟩) (h hH hA.none w hI)
theorem znP (i:Nat) {t:TypeId} {parts:Array (Nat × Operand)} {l:List Value} (zs:List Value) (places:List (Nat × Nat)) (vs:List (Nat × Value)) (hi:ops[i]?=some ⟨some d,.build t parts,ty,ps,aft,g⟩) (hc:zhC ops [i] listed=true) (hn:(Nat.blt d n,gd ops env g,parts.toList.map (fun p=>(p.1,ev env p.2)))=(true,some true,vs.map (fun p=>(p.1,some p.2)))) (_hl:zjv places zs vs=some l) (hb:∀ w,(Instr.build t vs.toArray).run P w=.ok (.agg l.toArray) w)
  (h:VD P n Q ks ops Hs B0 L fuel (listed.setIfInBounds i true) ((d,.agg l.toArray)::env) ((d,none)::A) H Bs):VD P n Q ks ops Hs B0 L (fuel+1) listed env A H Bs:=by
 simp only[Prod.mk.injEq]at hn
 exact znQ i hi hc (by rw[hn.1,hn.2.1]) (fun _=>R.build vs hn.2.2 hb) h
theorem VD.bs (i k j:Nat) {t e:TypeId} {len kk:Nat} {parts:Array (Nat × Operand)} {z:Value} {cs:List Value} (vs:List (Nat × Value)) (hu:∀ w,(underlying t).run P w=.ok (.slice e) w) (hs:∀ w,(sizeOf e).run P w=.ok kk w) (hz:∀ w,(zeroValue e).run P w=.ok z w)
  (hlen:len*kk ≠ 0/\len*kk<=16777216) (hi:ops[i]?=some ⟨some d,.buildSlice t len parts,ty,ps,aft,g⟩) (hr:Region.ready .any ops listed=[i]) (hn:(Nat.blt d n,gd ops env g,(hget H k).isNone,qu (Hs.map (·.1)),parts.toList.map (fun p=>(p.1,ev env p.2)),Bs.drop j)=(true,some true,true,true,vs.map (fun p=>(p.1,some p.2)),B0)) (_hcs:zci (vs.map (·.2))=some cs) (hf:Instr.fill (fun i=>some (i*kk,kk)) ((Array.range (len*kk)).map (z.cells[· % z.cells.size]!)) vs=some cs.toArray)
  (h:∀ b,VD P n Q ks ops Hs B0 L fuel (listed.setIfInBounds i true) ((d,.slice (some ⟨b,0,none⟩) len len)::env) ((d,none)::A) ((k,.own b cs e)::H) Bs):VD P n Q ks ops Hs B0 L (fuel+1) listed env A H Bs:=by
 simp only[Prod.mk.injEq]at hn
 exact znf i k j (u:=fun b=>.slice (some ⟨b,0,none⟩) len len) hi hr (by rw[hn.1,hn.2.1,hn.2.2.1,hn.2.2.2.1]) hn.2.2.2.2.2 (fun _ _=>M.buildSlice vs hu hs hz hlen hn.2.2.2.2.1 hf) h
theorem zns (k:Nat) {t:TypeId} {kk m:Nat} {xs:List Value} (hn:hget H k=some (.row t kk v m xs)) (hm:0<m) (h:∀ b c,v=.slice (some ⟨b,0,none⟩) m c->m<=c->VD P n Q ks ops Hs B0 L fuel listed env A H Bs):VD P n Q ks ops Hs B0 L fuel listed env A H Bs:=by
 intro hH hA w hI
 have ho:w.ownsRow 0 t kk v m xs:=hI.at k hn
 rcases ho.2 with⟨_,hm0⟩ | ⟨b,cap,cur,hv,_,_,hc,_⟩
 . omega
 exact h b cap hv hc hH hA w hI
end
end Go.GL
namespace Go.Proofs
open Go.GL
def Tryz.szs:Szs:=[(3,0),(27,0),(26,3),(169,2),(24,0),(70,3),(36,1),(30,2),(22,0),(72,10),(34,0),(159,2),(68,0),(89,0),(28,0),(66,0),(88,4),(94,0),(4,0),(100,0),(45,3),(142,5),(56,0),(63,0),(47,2),(65,4),(23,0),(59,3),(117,3),(126,2),(67,0),(85,2),(57,0),(109,6),(9,0),(262,0),(52,0),(124,0),(193,3),(121,0),(120,0),(195,0)]
theorem Tryz.szsOk:zmJ Tryz.prog Tryz.szs :=
 zmN (show Szs.one _ 3 0 from⟨tg3,ts3⟩) <|
 zmN (show Szs.one _ 27 0 from⟨tg27,ts27⟩) <|
 zmN (show Szs.one _ 26 3 from⟨tg26,ts26⟩) <|
 zmN (show Szs.one _ 169 2 from⟨Tryz.isAgg169,Tryz.sizeOf169⟩) <|
 zmN (show Szs.one _ 24 0 from⟨tg24,ts24⟩) <|
 zmN (show Szs.one _ 70 3 from⟨tg70,ts70⟩) <|
 zmN (show Szs.one _ 36 1 from⟨tg36,ts36⟩) <|
 zmN (show Szs.one _ 30 2 from⟨Tryz.isAgg30,ts30⟩) <|
 zmN (show Szs.one _ 22 0 from⟨tg22,Tryz.sizeOf22⟩) <|
 zmN (show Szs.one _ 72 10 from⟨tg72,ts72⟩) <|
 zmN (show Szs.one _ 34 0 from⟨tg34,ts34⟩) <|
 zmN (show Szs.one _ 159 2 from⟨tg159,ts159⟩) <|
 zmN (show Szs.one _ 68 0 from⟨tg68,Tryz.sizeOf68⟩) <|
 zmN (show Szs.one _ 89 0 from⟨Tryz.isAgg89,ts89⟩) <|
 zmN (show Szs.one _ 28 0 from⟨Tryz.isAgg28,Tryz.sizeOf28⟩) <|
 zmN (show Szs.one _ 66 0 from⟨tg66,Tryz.sizeOf66⟩) <|
 zmN (show Szs.one _ 88 4 from⟨Tryz.isAgg88,ts88⟩) <|
 zmN (show Szs.one _ 94 0 from⟨Tryz.isAgg94,ts94⟩) <|
 zmN (show Szs.one _ 4 0 from⟨tg4,ts4⟩) <|
 zmN (show Szs.one _ 100 0 from⟨tg100,ts100⟩) <|
 zmN (show Szs.one _ 45 3 from⟨Tryz.isAgg45,Tryz.sizeOf45⟩) <|
 zmN (show Szs.one _ 142 5 from⟨tg142,ts142⟩) <|
 zmN (show Szs.one _ 56 0 from⟨Tryz.isAgg56,Tryz.sizeOf56⟩) <|
 zmN (show Szs.one _ 63 0 from⟨Tryz.isAgg63,Tryz.sizeOf63⟩) <|
 zmN (show Szs.one _ 47 2 from⟨tg47,ts47⟩) <|
 zmN (show Szs.one _ 65 4 from⟨Tryz.isAgg65,ts65⟩) <|
 zmN (show Szs.one _ 23 0 from⟨tg23,Tryz.sizeOf23⟩) <|
 zmN (show Szs.one _ 59 3 from⟨Tryz.isAgg59,ts59⟩) <|
 zmN (show Szs.one _ 117 3 from⟨Tryz.isAgg117,Tryz.sizeOf117⟩) <|
 zmN (show Szs.one _ 126 2 from⟨Tryz.isAgg126,Tryz.sizeOf126⟩) <|
 zmN (show Szs.one _ 67 0 from⟨tg67,Tryz.sizeOf67⟩) <|
 zmN (show Szs.one _ 85 2 from⟨Tryz.isAgg85,ts85⟩) <|
 zmN (show Szs.one _ 57 0 from⟨Tryz.isAgg57,Tryz.sizeOf57⟩) <|
 zmN (show Szs.one _ 109 6 from⟨tg109,ts109⟩) <|
 zmN (show Szs.one _ 9 0 from⟨tg9,ts9⟩) <|
 zmN (show Szs.one _ 262 0 from⟨Tryz.isAgg262,Tryz.sizeOf262⟩) <|
 zmN (show Szs.one _ 52 0 from⟨Tryz.isAgg52,Tryz.sizeOf52⟩) <|
 zmN (show Szs.one _ 124 0 from⟨Tryz.isAgg124,Tryz.sizeOf124⟩) <|
 zmN (show Szs.one _ 193 3 from⟨Tryz.isAgg193,ts193⟩) <|
 zmN (show Szs.one _ 121 0 from⟨Tryz.isAgg121,Tryz.sizeOf121⟩) <|
 zmN (show Szs.one _ 120 0 from⟨Tryz.isAgg120,ts120⟩) <|
 zmN (show Szs.one _ 195 0 from⟨Tryz.isAgg195,Tryz.sizeOf195⟩) <|
 zmL
end Go.Proofs
namespace Go.Proofs.YtckdhgbepmpgiaaGreat
open Go.GL
section
variable {n:Nat} {Q:Exit->Act->World->Prop} {ks ks':List Fr} {pos pos':Pos} {env env':Env} {A A':Tgs} {H H' Hs:Hp} {Bs B0:zC} {ops:Array Oper} {L:List Nat} {fuel:Nat} {listed:Array Bool} {v:Value}
theorem Vs (k:Nat) (h:zcW Tryz.tab Tryz.szs n k none ks pos env A H=some (none,ks',pos',env',A',H')) (hr:V Tryz.prog n Q ks' pos' env' A' H' Bs):V Tryz.prog n Q ks pos env A H Bs:=V.go Tryz.tabOk Tryz.szsOk k h hr
theorem Va (k:Nat) {p:Prop} (h:zcW Tryz.tab Tryz.szs n k none ks pos env A H=some (some p,ks',pos',env',A',H')) (hp:p) (hr:V Tryz.prog n Q ks' pos' env' A' H' Bs):V Tryz.prog n Q ks pos env A H Bs:=V.goA Tryz.tabOk Tryz.szsOk k h hp hr
theorem Vq {id:Nat} {l:List Oper} (hB:Region.lexB .any l.toArray=true) (h:V Tryz.prog n Q ks (.q l.toArray l) env A H Bs):V Tryz.prog n Q ks (.c (.region id l.toArray true)) env A H Bs:=zmb Tryz.mixed hB h
theorem Vw {id:Nat} {l:List Oper} (hs L:List Nat) (hp:zdQ H hs=some Hs) (h:VD Tryz.prog n Q ks l.toArray Hs Bs L l.length (Array.replicate l.length false) env A H Bs):V Tryz.prog n Q ks (.c (.region id l.toArray true)) env A H Bs:=znM hs L Tryz.mixed hp h
theorem Vd (is:List Nat) (j:Nat) (hc:zch ops L is listed=true) (hB:Bs.drop j=B0) (hv:zhL Tryz.tab Tryz.szs n ops Hs is none env A=some (none,env',A')) (hH0:qu (Hs.map (·.1))=true) (h:VD Tryz.prog n Q ks ops Hs B0 L fuel (zer is listed) env' A' H Bs):VD Tryz.prog n Q ks ops Hs B0 L (addN is fuel) listed env A H Bs:=VD.ps Tryz.tabOk Tryz.szsOk is j hc hB hv hH0 h
theorem Vb (is:List Nat) (j:Nat) {p:Prop} (hc:zch ops L is listed=true) (hB:Bs.drop j=B0) (hv:zhL Tryz.tab Tryz.szs n ops Hs is none env A=some (some p,env',A')) (hH0:qu (Hs.map (·.1))=true) (hp:p) (h:VD Tryz.prog n Q ks ops Hs B0 L fuel (zer is listed) env' A' H Bs):VD Tryz.prog n Q ks ops Hs B0 L (addN is fuel) listed env A H Bs:=zn8 Tryz.tabOk Tryz.szsOk is j hc hB hv hH0 hp h
theorem Ve (i j:Nat) {t:TypeId} {x y:Operand} {ty:TypeId} {ps:String} {aft:Array Edge} {g:Option (Nat × Bool)} (hi:ops[i]?=some ⟨none,.store t x y,ty,ps,aft,g⟩) (hr:Region.ready .any ops listed=[i]) (hn:(gd ops env g,zaL Tryz.szs env A H t x y,qu (Hs.map (·.1)))=(some true,some H',true)) (hB:Bs.drop j=B0) (hH':Hs.map (fun x=>hget H' x.1)=Hs.map (fun x=>some x.2))
  (h:VD Tryz.prog n Q ks ops Hs B0 L fuel (listed.setIfInBounds i true) env A H' Bs):VD Tryz.prog n Q ks ops Hs B0 L (fuel+1) listed env A H Bs:=VD.st i j Tryz.szsOk hi hr hn hB hH' h
theorem Vl (i:Nat) {t:TypeId} {x y:Operand} {ty:TypeId} {ps:String} {aft:Array Edge} {g:Option (Nat × Bool)} (hi:ops[i]?=some ⟨none,.store t x y,ty,ps,aft,g⟩) (hr:Region.ready .any ops listed=[i]) (hn:(gd ops env g,zaL Tryz.szs env A H t x y,L.contains i)=(some true,some H',true))
  (h:VDx Tryz.prog n Q ks ops (VI B0 Hs) L fuel (listed.setIfInBounds i true) env A H' Bs):VD Tryz.prog n Q ks ops Hs B0 L (fuel+1) listed env A H Bs:=znG i Tryz.szsOk hi hr hn h
end
end Go.Proofs.YtckdhgbepmpgiaaGreat
namespace Go.GL
mutual
def Tm.nodes:Tm->Nat
 | .mk _ _ ks=>1+tnodes ks
def tnodes:List Tm->Nat
 | []=>0
 | k::r=>k.nodes+tnodes r
end
mutual
def Tm.depth:Tm->Nat
 | .mk _ _ ks=>tdepth ks+1
def tdepth:List Tm->Nat
 | []=>0
 | k::r=>max k.depth (tdepth r)
end
mutual
def St.nodes:St->Nat
 | .mk _ _ _ _ t f g _=>1+t.nodes+snodes f+snodes g
def snodes:List St->Nat
 | []=>0
 | s::r=>s.nodes+snodes r
end
mutual
def St.bulk:St->Nat
 | .mk _ _ _ _ t f g b=>1+t.nodes+b.length+sbulk f+sbulk g
def sbulk:List St->Nat
 | []=>0
 | s::r=>s.bulk+sbulk r
end
mutual
def St.size:St->Nat
 | .mk _ _ _ _ _ f g _=>1+ssize f+ssize g
def ssize:List St->Nat
 | []=>0
 | s::r=>s.size+ssize r
end
mutual
def St.depth:St->Nat
 | .mk _ _ _ _ _ f g _=>max (sdepth f+1) (sdepth g+1)
def sdepth:List St->Nat
 | []=>0
 | s::r=>max s.depth (sdepth r)
end
mutual
/-- Some term of a step is nested too deep. -/
def St.tdeep:St->Bool
 | .mk _ _ _ _ t f g _=>decide (12<t.depth) || stdeep f || stdeep g
def stdeep:List St->Bool
 | []=>false
 | s::r=>s.tdeep || stdeep r
end
theorem Tm.nodes_eq (t:Tm):t.nodes=1+tnodes t.kids:=by cases t;rfl
theorem Tm.depth_eq (t:Tm):t.depth=tdepth t.kids+1:=by cases t;rfl
theorem St.nodes_eq (s:St):s.nodes=1+s.term.nodes+snodes s.thn+snodes s.els:=by cases s;rfl
theorem St.bulk_eq (s:St):s.bulk=1+s.term.nodes+s.bounds.length+sbulk s.thn+sbulk s.els:=by cases s;rfl
theorem St.size_eq (s:St):s.size=1+ssize s.thn+ssize s.els:=by cases s;rfl
theorem St.depth_eq (s:St):s.depth=max (sdepth s.thn+1) (sdepth s.els+1):=by cases s;rfl
theorem St.tdeep_eq (s:St):s.tdeep=(decide (12<s.term.depth) || stdeep s.thn || stdeep s.els):=by cases s;rfl
theorem qv (a b:List Tm):tnodes (a++b)=tnodes a+tnodes b:=by
 induction a with
 | nil=>simp[tnodes]
 | cons x r ih=>simp[tnodes,ih,zrb]
theorem zcj (a b:List Tm):tdepth (a++b)=max (tdepth a) (tdepth b):=by
 induction a with
 | nil=>simp[tdepth]
 | cons x r ih=>simp[tdepth,ih,Nat.max_assoc]
theorem jW (a b:List St):snodes (a++b)=snodes a+snodes b:=by
 induction a with
 | nil=>simp[snodes]
 | cons x r ih=>simp[snodes,ih,zrb]
theorem xY (a b:List St):sbulk (a++b)=sbulk a+sbulk b:=by
 induction a with
 | nil=>simp[sbulk]
 | cons x r ih=>simp[sbulk,ih,zrb]
theorem za6 (a b:List St):ssize (a++b)=ssize a+ssize b:=by
 induction a with
 | nil=>simp[ssize]
 | cons x r ih=>simp[ssize,ih,zrb]
theorem qw (a b:List St):sdepth (a++b)=max (sdepth a) (sdepth b):=by
 induction a with
 | nil=>simp[sdepth]
 | cons x r ih=>simp[sdepth,ih,Nat.max_assoc]
theorem qx (a b:List St):stdeep (a++b)=(stdeep a || stdeep b):=by
 induction a with
 | nil=>simp[stdeep]
 | cons x r ih=>simp[stdeep,ih,Bool.or_assoc]
theorem zd {α:Type} {l:List α} {i:Nat} {x:α} (h:l[i]?=some x):l.take (i+1)=l.take i++[x]:=by
 rw[List.take_add_one,h];rfl
theorem jD {l:List Tm} {i:Nat} {x:Tm} (h:l[i]?=some x):tnodes (l.take (i+1))=tnodes (l.take i)+x.nodes:=by rw[zd h,qv];simp[tnodes]
theorem zaP {l:List Tm} {i:Nat} {x:Tm} (h:l[i]?=some x):tdepth (l.take (i+1))=max (tdepth (l.take i)) x.depth:=by rw[zd h,zcj];simp[tdepth]
theorem zaQ {l:List St} {i:Nat} {x:St} (h:l[i]?=some x):snodes (l.take (i+1))=snodes (l.take i)+x.nodes:=by rw[zd h,jW];simp[snodes]
theorem zf8 {l:List St} {i:Nat} {x:St} (h:l[i]?=some x):sbulk (l.take (i+1))=sbulk (l.take i)+x.bulk:=by rw[zd h,xY];simp[sbulk]
theorem jj {l:List St} {i:Nat} {x:St} (h:l[i]?=some x):ssize (l.take (i+1))=ssize (l.take i)+x.size:=by rw[zd h,za6];simp[ssize]
theorem zaR {l:List St} {i:Nat} {x:St} (h:l[i]?=some x):sdepth (l.take (i+1))=max (sdepth (l.take i)) x.depth:=by rw[zd h,qw];simp[sdepth]
theorem zaS {l:List St} {i:Nat} {x:St} (h:l[i]?=some x):stdeep (l.take (i+1))=(stdeep (l.take i) || x.tdeep):=by rw[zd h,qx];simp[stdeep]
theorem ym {α:Type} {l:List α} {i:Nat} {x:α} (h:l[i]?=some x):l=l.take i++x::l.drop (i+1):=by
 obtain⟨h1,h2⟩:=zp7.1 h
 rw[<- h2,List.getElem_cons_drop,zr5]
theorem qR {l:List St} {x:St} (h:x ∈ l):x.bulk<=sbulk l:=by
 obtain⟨i,hi⟩:=zqH.1 h
 rw[ym hi,xY];simp[sbulk];omega
theorem xp {l:List Tm} {i:Nat} {x:Tm} (h:l[i]?=some x):tnodes l=tnodes (l.take i)+x.nodes+tnodes (l.drop (i+1)):=by
 conv=>lhs;rw[ym h]
 rw[qv];simp[tnodes,zrb]
theorem xZ {l:List St} {i:Nat} {x:St} (h:l[i]?=some x):snodes l=snodes (l.take i)+x.nodes+snodes (l.drop (i+1)):=by
 conv=>lhs;rw[ym h]
 rw[jW];simp[snodes,zrb]
theorem zdR {l:List St} {i:Nat} {x:St} (h:l[i]?=some x):sbulk l=sbulk (l.take i)+x.bulk+sbulk (l.drop (i+1)):=by
 conv=>lhs;rw[ym h]
 rw[xY];simp[sbulk,zrb]
theorem xa {l:List St} {i:Nat} {x:St} (h:l[i]?=some x):ssize l=ssize (l.take i)+x.size+ssize (l.drop (i+1)):=by
 conv=>lhs;rw[ym h]
 rw[za6];simp[ssize,zrb]
theorem zaT (l:List Tm):l.length<=tnodes l:=by
 induction l with
 | nil=>simp
 | cons x r ih=>have:=x.nodes_eq;simp[tnodes];omega
theorem zck (l:List St):l.length<=snodes l:=by
 induction l with
 | nil=>simp
 | cons x r ih=>have:=x.nodes_eq;simp[snodes];omega
theorem zd0:∀ l:List St,snodes l<=sbulk l:=by
 intro l
 induction l using zmB with
 | h l ih =>
  have key:∀ r:List St,(∀ s ∈ r,snodes s.thn<=sbulk s.thn/\snodes s.els<=sbulk s.els)->snodes r<=sbulk r:=by
   intro r
   induction r with
   | nil=>intro _;simp[snodes]
   | cons x r ih2 =>
    intro h
    have h1:=h x (zoX ..)
    have h2:=ih2 (fun s hs=>h s (zoW _ hs))
    have h3:=x.nodes_eq
    have h4:=x.bulk_eq
    simp only[snodes,sbulk];omega
  exact key l ih
theorem zd1:∀ l:List St,ssize l<=snodes l:=by
 intro l
 induction l using zmB with
 | h l ih =>
  have key:∀ r:List St,(∀ s ∈ r,ssize s.thn<=snodes s.thn/\ssize s.els<=snodes s.els)->ssize r<=snodes r:=by
   intro r
   induction r with
   | nil=>intro _;simp[ssize]
   | cons x r ih2 =>
    intro h
    have h1:=h x (zoX ..)
    have h2:=ih2 (fun s hs=>h s (zoW _ hs))
    have h3:=x.nodes_eq
    have h4:=x.size_eq
    simp only[snodes,ssize];omega
  exact key l ih
theorem jk (l:List St):l.length<=ssize l:=by
 induction l with
 | nil=>simp
 | cons x r ih=>have:=x.size_eq;simp[ssize];omega
theorem za7:∀ l:List Tm,tdepth l<=tnodes l:=by
 have key:∀ l:List Tm,(∀ k ∈ l,k.depth<=k.nodes)->tdepth l<=tnodes l:=by
  intro l
  induction l with
  | nil=>intro _;simp[tdepth]
  | cons x r ih =>
   intro h
   have h1:=h x (zoX ..)
   have h2:=ih (fun k hk=>h k (zoW _ hk))
   simp only[tdepth,tnodes];omega
 have all:∀ t:Tm,t.depth<=t.nodes:=by
  intro t
  induction t using zmz with
  | h t ih =>
   have:=key t.kids ih
   rw[t.depth_eq,t.nodes_eq];omega
 exact fun l=>key l (fun k _=>all k)
theorem qS:∀ l:List St,sdepth l<=snodes l:=by
 intro l
 induction l using zmB with
 | h l ih =>
  have key:∀ r:List St,(∀ s ∈ r,sdepth s.thn<=snodes s.thn/\sdepth s.els<=snodes s.els)->sdepth r<=snodes r:=by
   intro r
   induction r with
   | nil=>intro _;simp[sdepth]
   | cons x r ih2 =>
    intro h
    have h1:=h x (zoX ..)
    have h2:=ih2 (fun s hs=>h s (zoW _ hs))
    have h3:=x.nodes_eq
    have h4:=x.depth_eq
    simp only[snodes,sdepth];omega
  exact key l ih
def zA:List Ht->Nat
 | []=>0
 | h::r=>h.term.nodes+zA r
theorem jX (a b:List Ht):zA (a++b)=zA a+zA b:=by
 induction a with
 | nil=>simp[zA]
 | cons x r ih=>simp[zA,ih,zrb]
theorem jE {l:List Ht} {i:Nat} {x:Ht} (h:l[i]?=some x):zA (l.take (i+1))=zA (l.take i)+x.term.nodes:=by rw[zd h,jX];simp[zA]
theorem xq {l:List Ht} {i:Nat} {x:Ht} (h:l[i]?=some x):zA l=zA (l.take i)+x.term.nodes+zA (l.drop (i+1)):=by
 conv=>lhs;rw[ym h]
 rw[jX];simp[zA,zrb]
theorem znR {a b:Nd} (h1:a.kind=b.kind) (h2:a.at_=b.at_) (h3:a.next=b.next) (h4:a.other=b.other):a=b:=by
 cases a;cases b;simp_all
mutual
/-- The number of nodes of a step. -/
def St.wid:St->Nat
 | .mk a _ _ _ _ f g _=>1+widL f+widL g+(if a=4 then 1 else 0)
def widL:List St->Nat
 | []=>0
 | s::r=>s.wid+widL r
end
theorem St.wid_eq (s:St):s.wid=1+widL s.thn+widL s.els+(if s.act=4 then 1 else 0):=by cases s;rfl
theorem zaU (a b:List St):widL (a++b)=widL a+widL b:=by
 induction a with
 | nil=>simp[widL]
 | cons x r ih=>simp[widL,ih,zrb]
theorem zaV {l:List St} {i:Nat} {x:St} (h:l[i]?=some x):widL (l.take (i+1))=widL (l.take i)+x.wid:=by rw[zd h,zaU];simp[widL]
theorem kS {l:List St} {i:Nat} {x:St} (h:l[i]?=some x):widL l=widL (l.take i)+x.wid+widL (l.drop (i+1)):=by
 conv=>lhs;rw[ym h]
 rw[zaU];simp[widL,zrb]
theorem xd:∀ l:List St,widL l<=2*ssize l:=by
 intro l
 induction l using zmB with
 | h l ih =>
  have key:∀ r:List St,(∀ s ∈ r,widL s.thn<=2*ssize s.thn/\widL s.els<=2*ssize s.els)->widL r<=2*ssize r:=by
   intro r
   induction r with
   | nil=>intro _;simp[widL]
   | cons x r ih2 =>
    intro h
    have h1:=h x (zoX ..)
    have h2:=ih2 (fun s hs=>h s (zoW _ hs))
    have h3:=x.wid_eq
    have h4:=x.size_eq
    have h5:(if x.act=4 then 1 else 0)<=1:=by split<;>omega
    simp only[widL,ssize];omega
  exact key l ih
mutual
def St.lay:St->Nat->Nat->Nat->List Nd
 | .mk a _ _ _ _ f g _,at_,node,e =>
  if a=3 then ⟨3,at_,if f.isEmpty then e else (node+1:Nat),if g.isEmpty then e else (node+1+widL f:Nat)⟩::(layL f (at_+1) (node+1) e++layL g (at_+1+ssize f) (node+1+widL f) e)
  else if a=4 then ⟨4,at_,(node+1:Nat),-1⟩::⟨5,at_,if f.isEmpty then (node+1:Nat) else (node+2:Nat),e⟩::layL f (at_+1) (node+2) (node+1)
  else [⟨2,at_,e,-1⟩]
def layL:List St->Nat->Nat->Nat->List Nd
 | [],_,_,_=>[]
 | s::r,at_,node,after=>s.lay at_ node (if r.isEmpty then after else node+s.wid)++layL r (at_+s.size) (node+s.wid) after
end
theorem St.lay_eq (s:St) (at_ node e:Nat):s.lay at_ node e =
  if s.act=3 then ⟨3,at_,if s.thn.isEmpty then e else (node+1:Nat),if s.els.isEmpty then e else (node+1+widL s.thn:Nat)⟩::(layL s.thn (at_+1) (node+1) e++layL s.els (at_+1+ssize s.thn) (node+1+widL s.thn) e)
  else if s.act=4 then ⟨4,at_,(node+1:Nat),-1⟩::⟨5,at_,if s.thn.isEmpty then (node+1:Nat) else (node+2:Nat),e⟩::layL s.thn (at_+1) (node+2) (node+1)
  else [⟨2,at_,e,-1⟩]:=by cases s;rw[St.lay];rfl
def zi (f:Fl):List Nd:=⟨0,-1,1,-1⟩::(layL f.body 0 1 (1+widL f.body)++[⟨1,-1,-1,-1⟩])
abbrev qy:=Nat × Bool
def qK (ns:List Nd) (to:Int) (e:qy):List Nd:=ns.modify e.1 fun x=>if e.2 then { x with other:=to } else { x with next:=to }
def zq (ns:List Nd) (to:Int) (es:List qy):List Nd:=es.foldl (fun ns e=>qK ns to e) ns
structure Bd where
 nodes:List Nd
 step:Nat
mutual
def St.one:St->Nat->Bd->Bd × List qy
 | .mk a _ _ _ _ f g _,at_,b =>
  if a=3 then
   let x:=listB f { nodes:=b.nodes++[⟨3,b.step,-1,-1⟩],step:=b.step+1 } [(at_,false)]
   let y:=listB g x.1 [(at_,true)]
   (y.1,x.2++y.2)
  else if a=4 then
   let x:=listB f { nodes:=qK (b.nodes++[⟨4,b.step,-1,-1⟩,⟨5,b.step,-1,-1⟩]) (at_+1:Nat) (at_,false),step:=b.step+1 } [(at_+1,false)]
   ({ x.1 with nodes:=zq x.1.nodes (at_+1:Nat) x.2 },[(at_+1,true)])
  else ({ nodes:=b.nodes++[⟨2,b.step,-1,-1⟩],step:=b.step+1 },[(at_,false)])
def listB:List St->Bd->List qy->Bd × List qy
 | [],b,ins=>(b,ins)
 | s::r,b,ins =>
  let x:=s.one b.nodes.length { b with nodes:=zq b.nodes b.nodes.length ins }
  listB r x.1 x.2
end
theorem St.one_eq (s:St) (at_:Nat) (b:Bd):s.one at_ b =
  if s.act=3 then
   ((listB s.els (listB s.thn { nodes:=b.nodes++[⟨3,b.step,-1,-1⟩],step:=b.step+1 } [(at_,false)]).1 [(at_,true)]).1,
    (listB s.thn { nodes:=b.nodes++[⟨3,b.step,-1,-1⟩],step:=b.step+1 } [(at_,false)]).2++(listB s.els (listB s.thn { nodes:=b.nodes++[⟨3,b.step,-1,-1⟩],step:=b.step+1 } [(at_,false)]).1 [(at_,true)]).2)
  else if s.act=4 then
   ({ (listB s.thn { nodes:=qK (b.nodes++[⟨4,b.step,-1,-1⟩,⟨5,b.step,-1,-1⟩]) (at_+1:Nat) (at_,false),step:=b.step+1 } [(at_+1,false)]).1 with
    nodes:=zq (listB s.thn { nodes:=qK (b.nodes++[⟨4,b.step,-1,-1⟩,⟨5,b.step,-1,-1⟩]) (at_+1:Nat) (at_,false),step:=b.step+1 } [(at_+1,false)]).1.nodes (at_+1:Nat)
     (listB s.thn { nodes:=qK (b.nodes++[⟨4,b.step,-1,-1⟩,⟨5,b.step,-1,-1⟩]) (at_+1:Nat) (at_,false),step:=b.step+1 } [(at_+1,false)]).2 },[(at_+1,true)])
  else ({ nodes:=b.nodes++[⟨2,b.step,-1,-1⟩],step:=b.step+1 },[(at_,false)]):=by cases s;rw[St.one];rfl
theorem kT (s:St) (r:List St) (b:Bd) (ins:List qy):listB (s::r) b ins=listB r (s.one b.nodes.length { b with nodes:=zq b.nodes b.nodes.length ins }).1 (s.one b.nodes.length { b with nodes:=zq b.nodes b.nodes.length ins }).2:=by rw[listB]
def zev (f:Fl):List Nd :=
 zq (listB f.body { nodes:=[⟨0,-1,-1,-1⟩],step:=0 } [(0,false)]).1.nodes ((listB f.body { nodes:=[⟨0,-1,-1,-1⟩],step:=0 } [(0,false)]).1.nodes.length:Nat) (listB f.body { nodes:=[⟨0,-1,-1,-1⟩],step:=0 } [(0,false)]).2++[⟨1,-1,-1,-1⟩]
theorem zM (ns:List Nd) (to:Int) (e:qy):(qK ns to e).length=ns.length:=by simp[qK]
theorem zH (es:List qy):∀ (ns:List Nd) (to:Int),(zq ns to es).length=ns.length:=by
 induction es with
 | nil=>intro ns to;rfl
 | cons e r ih=>intro ns to;rw[zq,zqo,<- zq,ih,zM]
theorem xe (e:qy) (r:List qy) (ns:List Nd) (to:Int):zq ns to (e::r)=zq (qK ns to e) to r:=rfl
theorem jY (a b:List qy) (ns:List Nd) (to:Int):zq ns to (a++b)=zq (zq ns to a) to b:=by simp[zq,]
theorem zg7 (ns:List Nd) (to to':Int) (e e':qy) (h:to=to'\/e ≠ e'):qK (qK ns to e) to' e'=qK (qK ns to' e') to e:=by
 apply zqe
 intro i
 simp only[qK,List.getElem?_modify]
 obtain⟨a,p⟩:=e
 obtain⟨a',p'⟩:=e'
 dsimp only
 by_cases h1:a=i<;>by_cases h2:a'=i<;>simp only[h1,h2,if_true,if_false]<;>cases ns[i]?<;>simp
 rename_i x
 cases p<;>cases p'<;>simp
 .
  rcases h with h | h
  . exact h.symm
  exact absurd (by rw[h1,h2]) h
 rcases h with h | h
 . exact h.symm
 exact absurd (by rw[h1,h2]) h
theorem zaW (es:List qy):∀ (ns:List Nd) (to to':Int) (e:qy),(to=to'\/e ∉ es)->zq (qK ns to' e) to es=qK (zq ns to es) to' e:=by
 induction es with
 | nil=>intro ns to to' e _;rfl
 | cons x r ih =>
  intro ns to to' e h
  rw[xe,xe,<- ih _ _ _ _ (h.imp id (fun h hm=>h (zoW _ hm)))]
  congr 1
  exact zg7 _ _ _ _ _ (h.imp (fun h=>h.symm) (fun h he=>h (by rw[he];exact zoX ..)))
theorem zdS (es es':List qy) (ns:List Nd) (to:Int):zq (zq ns to es) to es'=zq (zq ns to es') to es:=by
 induction es generalizing ns with
 | nil=>rfl
 | cons e r ih =>
  rw[xe,ih,xe,zaW _ _ _ _ _ (.inl rfl)]
theorem zd2 {ns ms:List Nd} {to:Int} {e:qy} (h:e.1<ns.length):qK (ns++ms) to e=qK ns to e++ms:=by
 apply zqe
 intro i
 simp only[qK,List.getElem?_modify]
 by_cases h1:i<ns.length
 . rw[zpj h1,zpj (by simpa using h1),List.getElem?_modify]
 rw[zpk (by omega),zpk (by simp;omega)]
 simp[show ¬ e.1=i by omega]
theorem zdT {es:List qy}:∀ {ns ms:List Nd} {to:Int},(∀ e ∈ es,e.1<ns.length)->zq (ns++ms) to es=zq ns to es++ms:=by
 induction es with
 | nil=>intro ns ms to _;rfl
 | cons e r ih =>
  intro ns ms to h
  rw[xe,xe,zd2 (h e (zoX ..)),ih (fun x hx=>by rw[zM];exact h x (zoW _ hx))]
theorem jZ {ns:List Nd} {x:Nd} {to:Int} {p:Bool} {k:Nat} (hk:k=ns.length):qK (ns++[x]) to (k,p)=ns++[if p then { x with other:=to } else { x with next:=to }]:=by
 subst hk
 apply zqe
 intro i
 simp only[qK,List.getElem?_modify]
 by_cases h1:i<ns.length
 . rw[zpj h1,zpj h1];simp[show ¬ ns.length=i by omega]
 rw[zpk (by omega),zpk (by omega)]
 by_cases h2:i=ns.length
 . subst h2;simp
 rw[zph (by simp;omega),zph (by simp;omega)];simp
theorem zcl {ns ms:List Nd} {x:Nd} {to:Int} {p:Bool} {k:Nat} (hk:k=ns.length):qK (ns++x::ms) to (k,p)=ns++(if p then { x with other:=to } else { x with next:=to })::ms:=by
 have:=zd2 (ns:=ns++[x]) (ms:=ms) (to:=to) (e:=(k,p)) (by simp;omega)
 rw[zq3,zr0,jZ hk]at this
 simpa using this
mutual
def St.plainB:St->Bool
 | .mk a _ _ _ _ f g _=>(if a=3 then true else if a=4 then g.isEmpty else f.isEmpty&&g.isEmpty)&&plainL f&&plainL g
def plainL:List St->Bool
 | []=>true
 | s::r=>s.plainB&&plainL r
end
theorem St.plainB_eq (s:St):s.plainB=((if s.act=3 then true else if s.act=4 then s.els.isEmpty else s.thn.isEmpty&&s.els.isEmpty)&&plainL s.thn&&plainL s.els):=by cases s;rw[St.plainB];rfl
theorem yN {l:List St} (h:plainL l=true):∀ s ∈ l,s.plainB=true:=by
 induction l with
 | nil=>intro s hs;simp at hs
 | cons x r ih =>
  intro s hs
  rw[plainL,zpv]at h
  rcases zp9.1 hs with rfl | hs
  . exact h.1
  exact ih h.2 s hs
theorem zaX {l:List St} (h:∀ s ∈ l,s.plainB=true):plainL l=true:=by
 induction l with
 | nil=>rfl
 | cons x r ih=>rw[plainL,h x (zoX ..),ih (fun s hs=>h s (zoW _ hs))];rfl
structure BOk (l:List St) (b:Bd) (ins:List qy) (c:Bd) (outs:List qy):Prop where
 len:c.nodes.length=b.nodes.length+widL l
 step:c.step=b.step+ssize l
 out:∀ e ∈ outs,e ∈ ins\/b.nodes.length<=e.1
 lt:∀ e ∈ outs,e.1<c.nodes.length
 lay:∀ after:Nat,zq c.nodes after outs=zq b.nodes (if l.isEmpty then after else b.nodes.length:Nat) ins++layL l b.step b.nodes.length after
structure OOk (s:St) (b:Bd) (c:Bd) (outs:List qy):Prop where
 len:c.nodes.length=b.nodes.length+s.wid
 step:c.step=b.step+s.size
 out:∀ e ∈ outs,b.nodes.length<=e.1
 lt:∀ e ∈ outs,e.1<c.nodes.length
 lay:∀ after:Nat,zq c.nodes after outs=b.nodes++s.lay b.step b.nodes.length after
theorem zd3 (s:St) (hp:s.plainB=true) (h1:∀ (b:Bd) (ins:List qy),(∀ e ∈ ins,e.1<b.nodes.length)->BOk s.thn b ins (listB s.thn b ins).1 (listB s.thn b ins).2)
  (h2:∀ (b:Bd) (ins:List qy),(∀ e ∈ ins,e.1<b.nodes.length)->BOk s.els b ins (listB s.els b ins).1 (listB s.els b ins).2) (b:Bd):OOk s b (s.one b.nodes.length b).1 (s.one b.nodes.length b).2:=by
 rw[s.plainB_eq,zpv,zpv]at hp
 have hw:=s.wid_eq
 have hz:=s.size_eq
 rw[s.one_eq]
 by_cases a3:s.act=3
 .
  rw[zp3 (show ¬ s.act=4 by omega)]at hw
  simp only[zp4 a3]
  have H1:=h1 { nodes:=b.nodes++[⟨3,b.step,-1,-1⟩],step:=b.step+1 } [(b.nodes.length,false)] (by simp)
  generalize hx:listB s.thn { nodes:=b.nodes++[⟨3,b.step,-1,-1⟩],step:=b.step+1 } [(b.nodes.length,false)]=x at H1
  obtain⟨len1,qN,out1,lt1,lay1⟩:=H1
  simp only[zp1,zpe]at len1 qN out1 lay1
  have H2:=h2 x.1 [(b.nodes.length,true)] (by simp;omega)
  generalize hy:listB s.els x.1 [(b.nodes.length,true)]=y at H2
  obtain⟨len2,step2,out2,lt2,lay2⟩:=H2
  refine⟨by omega,by omega,?_,?_,?_⟩
  .
   intro e he
   rcases zpc.1 he with he | he
   .
    rcases out1 e he with h | h
    . rw[zpb.1 h];exact zpi _
    omega
   rcases out2 e he with h | h
   . rw[zpb.1 h];exact zpi _
   omega
  .
   intro e he
   rcases zpc.1 he with he | he
   . have:=lt1 e he;omega
   exact lt2 e he
  intro after
  have hnot:(b.nodes.length,true) ∉ x.2:=by
   intro h
   rcases out1 _ h with h | h
   . simp at h
   dsimp only at h;omega
  rw[jY,zdS,lay2,zdT (by intro e he;rw[zH];exact lt1 e he)]
  rw[show ∀ (t:Int),zq x.1.nodes t [(b.nodes.length,true)]=qK x.1.nodes t (b.nodes.length,true) from fun _=>rfl]
  rw[zaW _ _ _ _ _ (.inr hnot),lay1]
  rw[show ∀ (t:Int) (ns:List Nd),zq ns t [(b.nodes.length,false)]=qK ns t (b.nodes.length,false) from fun _ _=>rfl]
  rw[jZ rfl,zq3,zr0,zcl rfl,s.lay_eq,zp4 a3]
  rw[zq3,zq5,qN,len1]
  simp only[if_true,zpB,if_false]
  congr 2
  apply znR<;>dsimp only
  . split<;>rfl
  rw[apply_ite Nat.cast]
 by_cases a4:s.act=4
 .
  rw[zp4 a4]at hw
  rw[zp3 a3,zp4 a4]at hp
  have he0:s.els=[]:=by simpa using hp.1.1
  rw[he0]at hw hz
  simp only[widL,ssize]at hw hz
  simp only[zp3 a3,zp4 a4]
  have hst:qK (b.nodes++[⟨4,b.step,-1,-1⟩,⟨5,b.step,-1,-1⟩]) (b.nodes.length+1:Nat) (b.nodes.length,false)=b.nodes++[⟨4,b.step,(b.nodes.length+1:Nat),-1⟩,⟨5,b.step,-1,-1⟩]:=by rw[zcl rfl];rfl
  rw[hst]
  have H1:=h1 { nodes:=b.nodes++[⟨4,b.step,(b.nodes.length+1:Nat),-1⟩,⟨5,b.step,-1,-1⟩],step:=b.step+1 } [(b.nodes.length+1,false)] (by simp)
  generalize hx:listB s.thn { nodes:=b.nodes++[⟨4,b.step,(b.nodes.length+1:Nat),-1⟩,⟨5,b.step,-1,-1⟩],step:=b.step+1 } [(b.nodes.length+1,false)]=x at H1
  obtain⟨len1,qN,out1,lt1,lay1⟩:=H1
  simp only[zp1,zpm,List.length_nil]at len1 qN out1 lay1
  refine⟨by rw[zH];omega,by dsimp only;omega,?_,?_,?_⟩
  .
   intro e he
   rw[zpb.1 he];dsimp only;omega
  .
   intro e he
   rw[zpb.1 he,zH];dsimp only;omega
  intro after
  dsimp only
  rw[lay1]
  simp only[show ∀ (t:Int) (ns:List Nd) (q:Bool),zq ns t [(b.nodes.length+1,q)]=qK ns t (b.nodes.length+1,q) from fun _ _ _=>rfl]
  rw[show ∀ (x y:Nd),b.nodes++[x,y]=(b.nodes++[x])++[y] from fun x y=>by simp]
  rw[jZ (by simp)]
  rw[zq3 (b.nodes++[_]),zr0,zcl (by simp),s.lay_eq,zp3 a3,zp4 a4,zq3,zr0]
  simp only[if_true,zpB,if_false]
  congr 3
  apply znR<;>dsimp only
  rw[apply_ite Nat.cast]
 rw[zp3 a4]at hw
 rw[zp3 a3,zp3 a4,zpv,zqq,zqq]at hp
 rw[hp.1.1.1,hp.1.1.2]at hw hz
 simp only[widL,ssize]at hw hz
 simp only[zp3 a3,zp3 a4]
 refine⟨by simp;omega,by dsimp only;omega,?_,?_,?_⟩
 . intro e he;rw[zpb.1 he];exact zpi _
 . intro e he;rw[zpb.1 he];simp
 intro after
 dsimp only
 rw[show ∀ (t:Int) (ns:List Nd),zq ns t [(b.nodes.length,false)]=qK ns t (b.nodes.length,false) from fun _ _=>rfl]
 rw[jZ rfl,s.lay_eq,zp3 a3,zp3 a4]
 rfl
theorem xf (l:List St):plainL l=true->∀ (b:Bd) (ins:List qy),(∀ e ∈ ins,e.1<b.nodes.length)->BOk l b ins (listB l b ins).1 (listB l b ins).2:=by
 induction l using zmB with
 | h l ih =>
 intro hp
 have key:∀ r:List St,(∀ x ∈ r,x ∈ l)->∀ (b:Bd) (ins:List qy),(∀ e ∈ ins,e.1<b.nodes.length)->BOk r b ins (listB r b ins).1 (listB r b ins).2:=by
  intro r
  induction r with
  | nil =>
   intro _ b ins hi
   rw[listB]
   exact⟨by simp[widL],by simp[ssize],fun e he=>.inl he,hi,fun after=>by simp[layL]⟩
  | cons s r ihr =>
   intro hm b ins hi
   have hs:=yN hp s (hm s (zoX ..))
   have hs2:=hs
   rw[s.plainB_eq,zpv,zpv]at hs2
   have H:=zd3 s hs (fun b ins h=>(ih s (hm s (zoX ..))).1 hs2.1.2 b ins h) (fun b ins h=>(ih s (hm s (zoX ..))).2 hs2.2 b ins h) { b with nodes:=zq b.nodes b.nodes.length ins }
   rw[kT]
   dsimp only at H
   rw[zH]at H
   generalize s.one b.nodes.length { b with nodes:=zq b.nodes b.nodes.length ins }=x at H
   obtain⟨len1,qN,out1,lt1,lay1⟩:=H
   simp only[zH]at len1 qN out1 lt1 lay1
   have H2:=ihr (fun y hy=>hm y (zoW _ hy)) x.1 x.2 lt1
   generalize listB r x.1 x.2=y at H2
   obtain⟨len2,step2,out2,lt2,lay2⟩:=H2
   refine⟨by simp only[widL];omega,by simp only[ssize];omega,?_,lt2,?_⟩
   .
    intro e he
    rcases out2 e he with h | h
    . exact .inr (out1 e h)
    exact .inr (by omega)
   intro after
   rw[lay2,lay1,layL,zq3,len1,qN]
   simp only[List.isEmpty_cons,zpB,if_false]
 exact key l (fun x h=>h)
theorem zhN (f:Fl) (hp:plainL f.body=true):zev f=zi f:=by
 have H:=xf f.body hp { nodes:=[⟨0,-1,-1,-1⟩],step:=0 } [(0,false)] (by simp)
 unfold zev zi
 generalize listB f.body { nodes:=[⟨0,-1,-1,-1⟩],step:=0 } [(0,false)]=x at H ⊢
 obtain⟨len1,qN,out1,lt1,lay1⟩:=H
 simp only[zpe]at len1 lay1
 rw[lay1,len1]
 rw[show ∀ (t:Int) (ns:List Nd),zq ns t [((0:Nat),false)]=qK ns t (0,false) from fun _ _=>rfl]
 have h1:∀ t:Int,qK [⟨0,-1,-1,-1⟩] t (0,false)=[⟨0,-1,t,-1⟩]:=fun t=>rfl
 rw[h1]
 have h2:((if f.body.isEmpty then 1+widL f.body else 1:Nat):Int)=1:=by
  split
  .
   rename_i h
   have:f.body=[]:=by simpa using h
   rw[this];rfl
  rfl
 rw[h2]
 rfl
theorem zS (l:List St):plainL l=true->∀ at_ node after,(layL l at_ node after).length=widL l:=by
 intro hp at_ node after
 have H:=xf l hp { nodes:=List.replicate node ⟨0,0,0,0⟩,step:=at_ } [] (by simp)
 have h1:=H.lay after
 have h2:=congrArg List.length h1
 rw[zH,H.len]at h2
 simp[zq]at h2
 exact h2.symm
theorem yH (f:Fl) (hp:plainL f.body=true):(zi f).length=widL f.body+2:=by
 simp[zi,zS _ hp]
structure Nums (ns:List Nd) (a n:Nat):Prop where
 range:∀ x ∈ ns,(a:Int)<=x.at_/\x.at_<(a+n:Nat)
 ord:ns.Pairwise fun x y=>x.at_<=y.at_
 all:∀ k,k<n->∃ x ∈ ns,x.at_=(a+k:Nat)
theorem Nums.nil (a:Nat):Nums [] a 0:=⟨fun x h=>by simp at h,List.Pairwise.nil,fun k h=>by omega⟩
theorem Nums.append {ns ms:List Nd} {a n b m:Nat} (h:Nums ns a n) (h':Nums ms b m) (hb:b=a+n):Nums (ns++ms) a (n+m):=by
 subst hb
 refine⟨fun x hx=>?_,?_,fun k hk=>?_⟩
 .
  rcases zpc.1 hx with hx | hx
  . have:=h.range x hx;omega
  have:=h'.range x hx;omega
 .
  rw[zqP]
  refine⟨h.ord,h'.ord,fun x hx y hy=>?_⟩
  have:=h.range x hx
  have:=h'.range y hy
  omega
 by_cases hk2:k<n
 .
  obtain⟨x,hx,e⟩:=h.all k hk2
  exact⟨x,zqD _ hx,e⟩
 obtain⟨x,hx,e⟩:=h'.all (k - n) (by omega)
 exact⟨x,zqE _ hx,by rw[e];omega⟩
theorem Nums.cons {ns:List Nd} {a n:Nat} {x:Nd} (h:Nums ns (a+1) n) (hx:x.at_=a):Nums (x::ns) a (n+1):=by
 refine⟨fun y hy=>?_,?_,fun k hk=>?_⟩
 .
  rcases zp9.1 hy with rfl | hy
  . omega
  have:=h.range y hy;omega
 .
  rw[zqQ]
  exact⟨fun y hy=>by have:=h.range y hy;omega,h.ord⟩
 by_cases hk2:k=0
 . subst hk2;exact⟨x,zoX ..,hx⟩
 obtain⟨y,hy,e⟩:=h.all (k - 1) (by omega)
 exact⟨y,zoW _ hy,by rw[e];omega⟩
theorem znS {ns:List Nd} {a n:Nat} {x:Nd} (h:Nums ns a n) (hn:0<n) (hx:x.at_=a):Nums (x::ns) a n:=by
 refine⟨fun y hy=>?_,?_,fun k hk=>?_⟩
 .
  rcases zp9.1 hy with rfl | hy
  . omega
  exact h.range y hy
 .
  rw[zqQ]
  exact⟨fun y hy=>by have:=h.range y hy;omega,h.ord⟩
 obtain⟨y,hy,e⟩:=h.all k hk
 exact⟨y,zoW _ hy,e⟩
theorem jl (l:List St):plainL l=true->∀ a node after,Nums (layL l a node after) a (ssize l):=by
 induction l using zmB with
 | h l ih =>
 intro hp
 have key:∀ r:List St,(∀ x ∈ r,x ∈ l)->∀ a node after,Nums (layL r a node after) a (ssize r):=by
  intro r
  induction r with
  | nil=>intro _ a node after;exact Nums.nil a
  | cons s r ihr =>
   intro hm a node after
   have hs:=yN hp s (hm s (zoX ..))
   rw[s.plainB_eq,zpv,zpv]at hs
   have h1:=(ih s (hm s (zoX ..))).1 hs.1.2
   have h2:=(ih s (hm s (zoX ..))).2 hs.2
   rw[layL,ssize]
   refine Nums.append ?_ (ihr (fun y hy=>hm y (zoW _ hy)) _ _ _) O
   generalize (if r.isEmpty=true then after else node+s.wid)=e
   have hz:=s.size_eq
   rw[s.lay_eq]
   by_cases a3:s.act=3
   .
    rw[zp4 a3,show s.size=(ssize s.thn+ssize s.els)+1 by omega]
    exact Nums.cons (Nums.append (h1 _ _ _) (h2 _ _ _) O) O
   by_cases a4:s.act=4
   .
    rw[zp3 a3,zp4 a4]at hs
    rw[zp3 a3,zp4 a4]
    have he0:s.els=[]:=by simpa using hs.1.1
    rw[he0]at hz
    simp only[ssize]at hz
    rw[show s.size=ssize s.thn+1 by omega]
    exact znS (Nums.cons (h1 _ _ _) O) (by omega) O
   rw[zp3 a3,zp3 a4,zpv,zqq,zqq]at hs
   rw[zp3 a3,zp3 a4]
   rw[hs.1.1.1,hs.1.1.2]at hz
   simp only[ssize]at hz
   rw[show s.size=0+1 by omega]
   exact Nums.cons (Nums.nil _) O
 exact key l (fun x h=>h)
open Go.RowKit
def Wr (p:TypeId->Bool) (W0:Nat) (w:World) (k:Nat):Prop:=W0<=k/\∀ cs e,Blk w k cs e->p e=true
abbrev KT (p:TypeId->Bool) (W0:Nat) (w w':World):Prop:=Keep (Wr p W0 w) w w'
section
variable {p:TypeId->Bool} {W0:Nat} {w w' w'':World}
theorem Blk.ty {b:Nat} {cs cs':List Value} {e e':TypeId} (h:Blk w b cs e) (h':Blk w b cs' e'):e=e'/\cs=cs':=by
 unfold Blk at h h'
 rw[h]at h'
 injection h' with h'
 injection h' with h1 h2
 exact⟨h2,List.toArray_inj h1⟩
theorem Blk.ne {a b:Nat} {cs cs':List Value} {e e':TypeId} (h:Blk w a cs e) (h':Blk w b cs' e') (hne:e ≠ e'):a ≠ b:=by
 rintro rfl
 exact hne (h.ty h').1
theorem Wr.mk {k:Nat} {cs:List Value} {e:TypeId} (hW:W0<=k) (hb:Blk w k cs e) (hp:p e=true):Wr p W0 w k:=⟨hW,fun cs' e' h=>by rw[<- (hb.ty h).1];exact hp⟩
theorem KT.refl:KT p W0 w w:=Keep.refl _ _
theorem KT.trans (h:KT p W0 w w') (h':KT p W0 w' w''):KT p W0 w w'':=by
 refine Keep.trans h h' (fun k hk hT=>?_)
 by_cases hS:Wr p W0 w k
 . exact hS
 exfalso
 apply hS
 refine⟨hT.1,fun cs e h2=>hT.2 cs e ?_⟩
 unfold Blk at h2 ⊢
 rw[h.block k hk hS];exact h2
theorem znT (h:Ext w w'):KT p W0 w w':=Keep.mono h (fun _ _ h=>h.elim)
theorem KT.ext' (h:KT p W0 w w') (h':Ext w' w''):KT p W0 w w'':=KT.trans h (znT h')
theorem znV {b:Nat} {cs cs':List Value} {e:TypeId} (hb:Blk w b cs e) (hp:p e=true) (hW:W0<=b) (h:zdO w b cs' e w'):KT p W0 w w' :=
 h.2.2.mono (fun k _ (hk:k=b)=>by subst hk;exact Wr.mk hW hb hp)
theorem yF {e:TypeId} {k:Nat} {v:Value} {n:Nat} {xs:List Value} (h:w.ownsRow 0 e k v n xs) {g:Nat} (hg:v.ownBlock=some g):∃ cs,Blk w g cs e:=by
 rcases h.2 with⟨rfl,_⟩ | ⟨g',cap,cur,rfl,_,h2,_⟩
 . simp[Value.ownBlock]at hg
 simp[Value.ownBlock]at hg
 subst hg
 exact⟨cur.toList,by unfold Blk;simpa using h2⟩
theorem KT.row {e:TypeId} {k:Nat} {v:Value} {n:Nat} {xs:List Value} (ho:w.ownsRow 0 e k v n xs) (hp:p e=true) (hW:∀ g,v.ownBlock=some g->W0<=g) (h:Keep (fun k=>v.ownBlock=some k) w w'):KT p W0 w w' :=
 h.mono (fun g _ hg=>by obtain⟨cs,hb⟩:=yF ho hg;exact Wr.mk (hW g hg) hb hp)
theorem KT.new {S:Nat->Prop} (h:KT p W0 w w') (h':Keep S w' w'') (hS:∀ k,S k->w.heap.size<=k):KT p W0 w w'' :=
 Keep.trans h h' (fun k hk hT=>absurd (hS k hT) (by omega))
theorem znW (h:KT p W0 w w') (hW:w.heap.size<=W0):Ext w w':=Keep.mono h (fun k hk ⟨h1,_⟩=>by omega)
theorem KT.blk (h:KT p W0 w w') {b:Nat} {cs:List Value} {e:TypeId} (hb:Blk w b cs e) (hp:p e=false):Blk w' b cs e :=
 Keep.blk h hb (fun⟨_,h2⟩=>by have:=h2 _ _ hb;rw[hp]at this;cases this)
theorem KT.own (h:KT p W0 w w') {e:TypeId} {k:Nat} {v:Value} {n:Nat} {xs:List Value} (ho:w.ownsRow 0 e k v n xs) (hp:p e=false):w'.ownsRow 0 e k v n xs :=
 zk ho h (fun g hg ⟨_,h2⟩=>by obtain⟨cs,hb⟩:=yF ho hg;have:=h2 _ _ hb;rw[hp]at this;cases this)
theorem KT.sl (h:KT p W0 w w') {α:Type} {k:Nat} {R:Rel α} (hs:yd R) {D:Nat->Prop} {v:Value} {l:List α} (hl:SlR k R D w v l) (hD:∀ q,D q->q<W0):SlR k R D w' v l :=
 hl.keep hs h (fun q hq _ ⟨h1,_⟩=>by have:=hD q hq;omega)
abbrev Above (B:Nat) (w w':World):Prop:=Keep (fun k=>B<=k) w w'
theorem znU {B:Nat} (h:Ext w w'):Above B w w':=Keep.mono h (fun _ _ h=>h.elim)
theorem Above.then {B:Nat} (h:Above B w w') (h':Above B w' w''):Above B w w'':=Keep.trans h h' (fun _ _ h=>h)
theorem Above.ext' {B:Nat} (h:Above B w w') (h':Ext w' w''):Above B w w'':=Keep.ext h h'
theorem znX {B:Nat} {S:Nat->Prop} (h:Keep S w w') (hS:∀ k,S k->B<=k):Above B w w':=Keep.mono h (fun k _ hk=>hS k hk)
theorem Above.sl {B:Nat} (h:Above B w w') {α:Type} {k:Nat} {R:Rel α} (hs:yd R) {D:Nat->Prop} {v:Value} {l:List α} (hl:SlR k R D w v l) (hD:∀ q,D q->q<B):SlR k R D w' v l :=
 hl.keep hs h (fun q hq _ (h1:B<=q)=>by have:=hD q hq;omega)
end
end Go.GL
namespace Go.Proofs
theorem Tryz.el3:(Tryz.prog.info? 3).map (fun i=>(i.zero,i.size,i.bytes))=some (some ((Value.int IntKind.i64 0)),1,8):=by kernel_rfl
theorem Tryz.el4:(Tryz.prog.info? 4).map (fun i=>(i.zero,i.size,i.bytes))=some (some ((Value.bool false)),1,1):=by kernel_rfl
theorem Tryz.el27:(Tryz.prog.info? 27).map (fun i=>(i.zero,i.size,i.bytes))=some (some ((Value.slice none 0 0)),1,24):=by kernel_rfl
theorem Tryz.el65:(Tryz.prog.info? 65).map (fun i=>(i.zero,i.size,i.bytes))=some (some ((Value.agg #[Value.int IntKind.i64 0,Value.int IntKind.i64 0,Value.int IntKind.i64 0,Value.int IntKind.i64 0])),4,32):=by kernel_rfl
theorem Tryz.el72:(Tryz.prog.info? 72).map (fun i=>(i.zero,i.size,i.bytes))=some (some ((Value.agg #[Value.int IntKind.i64 0,Value.int IntKind.i64 0,Value.int IntKind.i64 0,Value.int IntKind.i64 0,Value.int IntKind.i64 0,Value.int IntKind.i64 0,Value.slice none 0 0,Value.slice none 0 0,Value.slice none 0 0,Value.slice none 0 0])),10,144):=by kernel_rfl
theorem Tryz.el120:(Tryz.prog.info? 120).map (fun i=>(i.zero,i.size,i.bytes))=some (some (Value.nilFunc),1,8):=by kernel_rfl
theorem Tryz.el142:(Tryz.prog.info? 142).map (fun i=>(i.zero,i.size,i.bytes))=some (some ((Value.agg #[Value.string { data:=#[] },Value.int IntKind.i64 0,Value.int IntKind.i64 0,Value.int IntKind.i64 0,Value.int IntKind.i64 0])),5,48):=by kernel_rfl
theorem Tryz.el159:(Tryz.prog.info? 159).map (fun i=>(i.zero,i.size,i.bytes))=some (some ((Value.agg #[Value.int IntKind.i64 0,Value.int IntKind.i64 0])),2,16):=by kernel_rfl
end Go.Proofs
namespace Go.GL
structure Item where
 i:Nat
 o:Oper
 d:Nat
 R:World->Value->World->Prop
def kf (ops:Array Oper) (L3:Array Bool):Nat->List Nat->Array Bool->Bool
 | 0,is,listed=>is.isEmpty&&(listed == L3)
 | k+1,is,listed=>!(Region.ready .any ops listed).isEmpty&&(Region.ready .any ops listed).all (fun j=>is.contains j&&kf ops L3 k (is.filter (fun x=>x != j)) (listed.setIfInBounds j true))
def zjw (R:World->Value->World->Prop) (v:Value) (R':World->Value->World->Prop) (u:Value):Prop :=
 (∃ a a' c c',R a v a'/\R' c u c'/\Ext a' c)\/(∃ a a' c c',R a v a'/\R' c u c'/\Ext c' a)
theorem qT {α:Type} {f:α->Nat}:∀ {l:List α},(l.map f).Nodup->∀ {x y:α},x ∈ l->y ∈ l->f x=f y->x=y
 | [],_,_,_,hx,_,_=>by simp at hx
 | z::r,h,x,y,hx,hy,e=>by
  rw[zqy,zqN]at h
  rcases zp9.1 hx with h1 | h1
  .
   rcases zp9.1 hy with h2 | h2
   . rw[h1,h2]
   exact absurd (zqI.2 ⟨y,h2,by rw[<- e,h1]⟩) h.1
  rcases zp9.1 hy with h2 | h2
  . exact absurd (zqI.2 ⟨x,h1,by rw[e,h2]⟩) h.1
  exact qT h.2 h1 h2 e
theorem zd4 {env:Env} {val:Nat->Value}:∀ (I:List Item) (m:Nat) (v:Value),get (I.map (fun x=>(x.d,val x.d))++env) m=some v->(∃ x ∈ I,x.d=m/\v=val m)\/get env m=some v
 | [],m,v,h=>.inr h
 | x::r,m,v,h=>by
  rw[zqy,zq5]at h
  simp only[GL.get]at h
  cases hb:Nat.beq x.d m with
  | true =>
   rw[hb]at h
   have e:=zp0 hb
   exact .inl ⟨x,zoX ..,e,by rw[<- e];exact(Option.some.inj h).symm⟩
  | false =>
   rw[hb]at h
   rcases zd4 r m v h with⟨y,hy,h1,h2⟩ | h1
   . exact .inl ⟨y,zoW _ hy,h1,h2⟩
   exact .inr h1
section
variable {P:Program} {n:Nat} {ops:Array Oper} {Q:Exit->Act->World->Prop} {S:World->Prop} {L:List Nat} {env:Env} {w:World} {fuel:Nat} {listed:Array Bool}
theorem zg8 {i d:Nat} {o:Oper} {R:Value->World->Prop} {K:Act->World->Prop} {Q':Exit->Act->World->Prop} {a:Act} (hi:ops[i]?=some o) (hg:o.guard=none) (hd:o.dst=some d) (ha:Ok n env a) (hm:Does P o env w R)
  (h:∀ v w',R v w'->K (a.put (some d) v) w'):wpOp P ops Q' i K a w:=by
 refine zaE hi hg ?_
 unfold Oper.wp
 rcases hm with⟨v,w',h1,h2⟩ | ⟨f,args,h1,h2⟩
 .
  rw[h1 n a ha,Oper.upon_value,hd]
  exact h v w' h2
 rw[h1 n a ha,Oper.upon_enter]
 refine h2.mono ?_
 rintro e w' ⟨v,rfl,hR⟩
 simp only[hd]
 exact h v w' hR
theorem znY (I:List Item) {L3:Array Bool} (hI:∀ x ∈ I,ops[x.i]?=some x.o/\x.o.guard=none/\x.o.dst=some x.d/\Nat.blt x.d n=true/\get env x.d=none)
  (hnd:(I.map (·.d)).Nodup) (hni:(I.map (·.i)).Nodup) (hr:kf ops L3 I.length (I.map (·.i)) listed=true)
  (hS:∀ w',Ext w w'->S w') (hR:∀ x ∈ I,∀ a v a',x.R a v a'->Ext a a') (hm:∀ x ∈ I,∀ w',Ext w w'->Does P x.o env w' (x.R w'))
  (h:∀ (val:Nat->Value) w',Ext w w'->(∀ x ∈ I,zkY w x.R (val x.d) w')->(∀ x ∈ I,∀ y ∈ I,x.d ≠ y.d->zjw x.R (val x.d) y.R (val y.d))->WD P n ops Q S L fuel L3 (I.map (fun x=>(x.d,val x.d))++env) w') :
  WD P n ops Q S L (fuel+I.length) listed env w:=by
 have key:∀ (k:Nat) (J:List Item) (listed:Array Bool) (env':Env) (w':World) (val:Nat->Value),(∀ x ∈ J,x ∈ I)->kf ops L3 k (J.map (·.i)) listed=true->Ext w w'->Sub env env' ->
   (∀ x ∈ I,x ∉ J->get env' x.d=some (val x.d)/\zkY w x.R (val x.d) w')->(∀ x ∈ I,x ∉ J->∀ y ∈ I,y ∉ J->x.d ≠ y.d->zjw x.R (val x.d) y.R (val y.d)) ->
   WD P n ops Q S L (fuel+k) listed env' w':=by
  intro k
  induction k with
  | zero =>
   intro J listed env' w' val hJ ho hE hsub hdone hap
   rw[kf,zpv,zqq,List.map_eq_nil_iff]at ho
   obtain⟨rfl,ho⟩:=ho
   have e:listed=L3:=by simpa using ho
   rw[e]
   refine(h val w' hE (fun x hx=>(hdone x hx (by simp)).2) (fun x hx y hy hne=>hap x hx (by simp) y hy (by simp) hne)).sub ?_
   intro m v hv
   rcases zd4 I m v hv with⟨x,hx,e1,e2⟩ | h1
   . rw[<- e1,(hdone x hx (by simp)).1,e2,e1]
   exact hsub m v h1
  | succ k ih =>
   intro J listed env' w' val hJ ho hE hsub hdone hap a ha
   rw[kf,zpv,zq0]at ho
   refine⟨fun h0=>(by rw[h0]at ho;simp at ho),fun j hj=>?_⟩
   have h1:=ho.2 j hj
   rw[zpv]at h1
   obtain⟨x,hx,rfl⟩:∃ x ∈ J,x.i=j:=by simpa using h1.1
   have hxI:=hJ x hx
   obtain⟨q1,q2,q3,q4,q5⟩:=hI x hxI
   refine zg8 q1 q2 q3 ha ((hm x hxI w' hE).sub hsub) (fun v w2 hv=>?_)
   have k2:=hR x hxI _ _ _ hv
   refine⟨fun _ _=>hS _ (hE.ext k2),?_⟩
   have hne:∀ y ∈ I,y ∉ J->y.d ≠ x.d:=fun y hy hyJ e=>hyJ (by rw[qT hnd hy hxI e];exact hx)
   have hmem:∀ z ∈ I,z ∉ J.filter (fun y=>y.i != x.i)->z=x\/z ∉ J:=by
    intro z hz hz2
    by_cases hzJ:z ∈ J
    .
     left
     by_cases e:z.i=x.i
     . exact qT hni hz hxI e
     exact absurd (zqF.2 ⟨hzJ,by simpa using e⟩) hz2
    exact .inr hzJ
   refine ih (J.filter (fun y=>y.i != x.i)) (listed.setIfInBounds x.i true) ((x.d,v)::env') w2 (fun m=>if m=x.d then v else val m) (fun z hz=>hJ z (zqF.1 hz).1) ?_ (hE.ext k2) ?_ ?_ ?_ _ (ha.put q4)
   .
    have:=h1.2
    rw[List.filter_map]at this
    exact this
   .
    intro m u hu
    simp only[GL.get]
    cases hb:Nat.beq x.d m with
    | true =>
     have e:=zp0 hb
     rw[<- e,q5]at hu
     cases hu
    | false=>exact hsub m u hu
   .
    intro z hz hz2
    rcases hmem z hz hz2 with rfl | hzJ
    .
     refine⟨by simp[GL.get,],?_⟩
     simp only[if_true]
     exact⟨w',w2,hE,hv,Keep.refl _ _⟩
    have hzd:=hne z hz hzJ
    simp only[hzd,if_false]
    obtain⟨g1,a1,a2,g2,g3,g4⟩:=hdone z hz hzJ
    refine⟨?_,a1,a2,g2,g3,g4.ext k2⟩
    simp only[GL.get]
    cases hb:Nat.beq x.d z.d with
    | true=>exact absurd (zp0 hb).symm hzd
    | false=>exact g1
   intro z hz hz2 y hy hy2 hzy
   rcases hmem z hz hz2 with rfl | hzJ<;>rcases hmem y hy hy2 with rfl | hyJ
   . exact absurd O hzy
   .
    have hyd:=hne y hy hyJ
    simp only[hyd,if_false,if_true]
    obtain⟨_,a1,a2,g2,g3,g4⟩:=hdone y hy hyJ
    exact .inr ⟨_,_,_,_,hv,g3,g4⟩
   .
    have hzd:=hne z hz hzJ
    simp only[hzd,if_false,if_true]
    obtain⟨_,a1,a2,g2,g3,g4⟩:=hdone z hz hzJ
    exact .inl ⟨_,_,_,_,g3,hv,g4⟩
   simp only[hne z hz hzJ,hne y hy hyJ,if_false]
   exact hap z hz hzJ y hy hyJ hzy
 refine key I.length I listed env w (fun _=>undef) (fun x hx=>hx) hr (Keep.refl _ _) (Sub.refl _) (fun x hx h=>absurd hx h) (fun x hx h=>absurd hx h)
end
end Go.GL
namespace Go.Proofs.YtckdhgbepmpgiaaGreat
open Go.GL
def qL (x:Nd):List Value:=[.int .i64 x.kind,.int .i64 x.at_,.int .i64 x.next,.int .i64 x.other]
theorem zT (x:Nd):(qL x).length=4:=rfl
theorem jm (x:Nd):∀ u ∈ qL x,u.oneCell'=true:=by simp[qL,Value.oneCell']
def bty (e:TypeId):Bool:=e == 197 || e == 65
theorem zl0:bty 197=true:=by decide
theorem zkL:bty 65=true:=by decide
structure BdS (W0 B:Nat) (w:World) (b:Bd) (v:Value):Prop where
 blk:Blk w B [v,.int .i64 b.step] 197
 row:w.ownsRow 0 65 4 v b.nodes.length (b.nodes.flatMap qL)
 low:W0<=B
 far:∀ g,v.ownBlock=some g->W0<=g
theorem BdS.ext {W0 B:Nat} {w w':World} {b:Bd} {v:Value} (h:BdS W0 B w b v) (hk:Ext w w'):BdS W0 B w' b v:=⟨hk.blk h.blk (fun h=>h),zk h.row hk (fun _ _ h=>h),h.low,h.far⟩
theorem BdS.ne {W0 B:Nat} {w:World} {b:Bd} {v:Value} (h:BdS W0 B w b v) {g:Nat} (hg:v.ownBlock=some g):g ≠ B:=by
 obtain⟨cs,hb⟩:=yF h.row hg
 exact hb.ne h.blk (by decide)
def HC (B:Nat) (w:World) (e:qy) (x:Value):Prop:=∃ bb ab,x=.func (.func (if e.2 then 215 else 166)) #[] #[.pointer (some ⟨bb,0,none⟩),.pointer (some ⟨ab,0,none⟩)]/\Blk w bb [.pointer (some ⟨B,0,none⟩)] 195/\Blk w ab [.int .i64 e.1] 3
theorem HC.one {B:Nat} {w:World} {e:qy} {x:Value} (h:HC B w e x):x.oneCell'=true:=by obtain⟨_,_,rfl,_⟩:=h;rfl
theorem HC.ext {B:Nat} {w w':World} {e:qy} {x:Value} (h:HC B w e x) (hk:Ext w w'):HC B w' e x:=by
 obtain⟨bb,ab,h1,h2,h3⟩:=h
 exact⟨bb,ab,h1,hk.blk h2 (fun h=>h),hk.blk h3 (fun h=>h)⟩
theorem HC.kt {B W0:Nat} {w w':World} {e:qy} {x:Value} (h:HC B w e x) (hk:KT bty W0 w w'):HC B w' e x:=by
 obtain⟨bb,ab,h1,h2,h3⟩:=h
 exact⟨bb,ab,h1,hk.blk h2 (by decide),hk.blk h3 (by decide)⟩
def Hung (B:Nat) (w:World) (v:Value) (es:List qy):Prop:=∃ xs:List Value,w.ownsRow 0 120 1 v es.length xs/\∀ (i:Nat) e x,es[i]?=some e->xs[i]?=some x->HC B w e x
theorem Hung.ext {B:Nat} {w w':World} {v:Value} {es:List qy} (h:Hung B w v es) (hk:Ext w w'):Hung B w' v es:=by
 obtain⟨xs,h1,h2⟩:=h
 exact⟨xs,zk h1 hk (fun _ _ h=>h),fun i e x he hx=>(h2 i e x he hx).ext hk⟩
theorem Hung.kt {B W0:Nat} {w w':World} {v:Value} {es:List qy} (h:Hung B w v es) (hk:KT bty W0 w w'):Hung B w' v es:=by
 obtain⟨xs,h1,h2⟩:=h
 exact⟨xs,hk.own h1 (by decide),fun i e x he hx=>(h2 i e x he hx).kt hk⟩
theorem Hung.form {B:Nat} {w:World} {v:Value} {es:List qy} (h:Hung B w v es):∃ ao c,v=.slice ao es.length c/\es.length<=c:=by
 obtain⟨xs,h1,h2⟩:=h
 rcases h1.2 with⟨rfl,h3⟩ | ⟨g,cap,cur,rfl,h3,h4,h5,h6⟩
 . rw[h3];exact⟨_,_,rfl,zpi _⟩
 exact⟨_,_,rfl,h5⟩
theorem Hung.at {B:Nat} {w:World} {ao:Option Addr} {n c:Nat} {es:List qy} (h:Hung B w (.slice ao n c) es) {i:Nat} {e:qy} (he:es[i]?=some e):∃ g x,ao=some ⟨g,0,none⟩/\Cells w g (0+i*1) [x]/\HC B w e x:=by
 obtain⟨xs,h1,h2⟩:=h
 have hi:=(zp7.1 he).1
 have hxl:=h1.1
 obtain⟨x,hx⟩:∃ x,xs[i]?=some x:=⟨_,zoT (by omega)⟩
 rcases h1.2 with⟨h3,h4⟩ | ⟨g,cap,cur,h3,_,h4,h5,h6,h7,h8⟩
 . omega
 cases h3
 refine⟨g,x,rfl,?_,h2 i e x he hx⟩
 intro j u hu
 cases j with
 | zero =>
  simp at hu;subst hu
  have hb:Blk w g cur.toList 120:=by unfold Blk;simpa using h4
  have:=hb.cells i x (by rw[<- h8,zpp]at hx;split at hx;exact hx;cases hx)
  simpa using this
 | succ j=>simp at hu
theorem zcm (B:Nat) (k:Nat) (w:World):Calls Tryz.prog 126 #[.pointer (some ⟨B,0,none⟩),.int .i64 k] w (Ret fun r w'=>HC B w' (k,false) r/\Ext w w'):=by
 have hE:=Keep.refl (fun _=>False) w
 refine zn2 Tryz.func126 O Tryz.ntmps126 O (Gs 2 O (zlY O O (M.box O O) ?_))
 rintro _ w_bb ⟨bb,rfl,hg_bb,hs_bb,hB_bb,hk_bb⟩
 have hge_bb:_<=bb:=zoZ hE.size (zri hg_bb.symm)
 replace hE:=Tr1 hk_bb hE
 refine zlY O O (M.box O O) ?_
 rintro _ w_ab ⟨ab,rfl,hg_ab,hs_ab,hB_ab,hk_ab⟩
 have hn_bb_ab:bb ≠ ab:=by have:=hB_bb.lt;omega
 have hge_ab:_<=ab:=zoZ hE.size (zri hg_ab.symm)
 obtain⟨hE,hB_bb⟩:=Tr2 hk_ab hE hB_bb
 refine Gs 10 O (zls Tryz.results126 O ⟨_,rfl,⟨bb,ab,rfl,hB_bb,hB_ab⟩,hE⟩)
theorem zew (B:Nat) (k:Nat) (w:World):Calls Tryz.prog 204 #[.pointer (some ⟨B,0,none⟩),.int .i64 k] w (Ret fun r w'=>HC B w' (k,true) r/\Ext w w'):=by
 have hE:=Keep.refl (fun _=>False) w
 refine zn2 Tryz.func204 O Tryz.ntmps204 O (Gs 2 O (zlY O O (M.box O O) ?_))
 rintro _ w_bb ⟨bb,rfl,hg_bb,hs_bb,hB_bb,hk_bb⟩
 have hge_bb:_<=bb:=zoZ hE.size (zri hg_bb.symm)
 replace hE:=Tr1 hk_bb hE
 refine zlY O O (M.box O O) ?_
 rintro _ w_ab ⟨ab,rfl,hg_ab,hs_ab,hB_ab,hk_ab⟩
 have hn_bb_ab:bb ≠ ab:=by have:=hB_bb.lt;omega
 have hge_ab:_<=ab:=zoZ hE.size (zri hg_ab.symm)
 obtain⟨hE,hB_bb⟩:=Tr2 hk_ab hE hB_bb
 refine Gs 10 O (zls Tryz.results204 O ⟨_,rfl,⟨bb,ab,rfl,hB_bb,hB_ab⟩,hE⟩)
theorem zcn (L:List Nd) (i:Nat) (hi:i<L.length) (sp:List Value) (to:Int) (p:Bool):(L.flatMap qL++sp).set (i*4+(if p then 3 else 2)) (.int .i64 to)=(qK L to (i,p)).flatMap qL++sp:=by
 have h1:=zem (enc:=qL) zT hi (if p then { L[i] with other:=to } else { L[i] with next:=to }) sp
 have h2:qK L to (i,p)=L.set i (if p then { L[i] with other:=to } else { L[i] with next:=to }):=by
  apply zqe
  intro j
  simp only[qK,List.getElem?_modify,List.getElem?_set]
  by_cases hj:i=j
  . subst hj;simp[hi]
  simp[hj]
 rw[h2,<- h1]
 have h3:=zem (enc:=qL) zT hi L[i] sp
 rw[List.set_getElem_self]at h3
 have ht:((L.flatMap qL++sp).take (i*4)).length=i*4:=by
  have:=yk zT L
  rw[zpn,zp1];omega
 generalize (L.flatMap qL++sp).drop (i*4+4)=C at h3 ⊢
 generalize (L.flatMap qL++sp).take (i*4)=A at h3 ht ⊢
 rw[<- h3,zq3,zq3,zqY _ _ (by rw[ht];exact Nat.le_add_right _ _),ht,zre]
 cases p<;>rfl
theorem zhO (W0 B bb ab i:Nat) (to:Int) (b:Bd) (v:Value) (w:World) (hb:BdS W0 B w b v) (hbb:Blk w bb [.pointer (some ⟨B,0,none⟩)] 195) (hab:Blk w ab [.int .i64 (i:Nat)] 3) (hi:i<b.nodes.length) :
  Calls Tryz.prog 166 #[.int .i64 to,.pointer (some ⟨bb,0,none⟩),.pointer (some ⟨ab,0,none⟩)] w (Ret fun _ w'=>BdS W0 B w' { b with nodes:=qK b.nodes to (i,false) } v/\KT bty W0 w w'):=by
 obtain⟨g,cap,sp,rfl,_,hnc,hcm,hBg,hlen⟩:=jS zT (by decide) hb.row (by intro h;rw[h]at hi;simp at hi)
 have hB:=hb.blk
 have hll:=yk zT b.nodes
 have hfl:(b.nodes.flatMap qL++sp).length=b.nodes.length*4+sp.length:=by rw[zp1,hll]
 have hgB:=hb.ne rfl
 have yx:=zcn b.nodes i hi sp to false
 refine zn3 Tryz.func166 O Tryz.ntmps166 O (Dw (fun q=>Ext w q) [8] (fun wd1 hD _=>?_))
 refine WD.take 0 O (by kernel_rfl) O O O hD (fun w1 hw1=>R.load Tryz.isAgg195 O ((hw1.blk hbb (fun h=>h)).cells 0 _ O)) (Ds [1,2] (by kernel_rfl) O (WD.take 3 O (by kernel_rfl) O O O hD (fun w1 hw1=>R.load tg34 O ((hw1.blk hB (fun h=>h)).cells 0 _ O)) (WD.take 4 O (by kernel_rfl) O O O hD (fun w1 hw1=>R.load tg3 O ((hw1.blk hab (fun h=>h)).cells 0 _ O)) (Da [5,6,7] (by kernel_rfl) O (by omega) (zm2 8 O (by kernel_rfl) O O (M.store ts3 O O O O (hD.blk hBg (fun h=>h)) (by rw[hfl];show 0+(i:Int).toNat*4+2<_;omega)) ?_)))))
 rintro wf ⟨_,hBf,hkf⟩
 refine⟨fun h=>absurd (zpb.2 O) h,?_⟩
 rw[show 0+(i:Int).toNat*4+_=i*4+(if false then 3 else 2) by simp,yx]at hBf
 have hK:KT bty W0 w wf:=Keep.trans (znT hD) hkf (fun q hq h=>by have h:q=g:=h;subst h;exact Wr.mk (hb.far _ rfl) hBg zkL)
 refine G.done (by kernel_rfl) ?_ _
 refine zlG Tryz.results166 ⟨_,rfl,⟨hkf.blk (hD.blk hB (fun h=>h)) (fun h=>hgB h.symm),?_,hb.low,hb.far⟩,hK⟩
 have h:=zcb zT (k:=b.nodes.length) hBf (by rw[zp1,yk zT,zM];omega) (by rw[zM];exact zpi _) hnc hcm
 rw[zr7 (by rw[zM];exact zpi _)]at h
 rw[zM];exact h
theorem zg9 (W0 B bb ab i:Nat) (to:Int) (b:Bd) (v:Value) (w:World) (hb:BdS W0 B w b v) (hbb:Blk w bb [.pointer (some ⟨B,0,none⟩)] 195) (hab:Blk w ab [.int .i64 (i:Nat)] 3) (hi:i<b.nodes.length) :
  Calls Tryz.prog 215 #[.int .i64 to,.pointer (some ⟨bb,0,none⟩),.pointer (some ⟨ab,0,none⟩)] w (Ret fun _ w'=>BdS W0 B w' { b with nodes:=qK b.nodes to (i,true) } v/\KT bty W0 w w'):=by
 obtain⟨g,cap,sp,rfl,_,hnc,hcm,hBg,hlen⟩:=jS zT (by decide) hb.row (by intro h;rw[h]at hi;simp at hi)
 have hB:=hb.blk
 have hll:=yk zT b.nodes
 have hfl:(b.nodes.flatMap qL++sp).length=b.nodes.length*4+sp.length:=by rw[zp1,hll]
 have hgB:=hb.ne rfl
 have yx:=zcn b.nodes i hi sp to true
 refine zn3 Tryz.func215 O Tryz.ntmps215 O (Dw (fun q=>Ext w q) [8] (fun wd1 hD _=>?_))
 refine WD.take 0 O (by kernel_rfl) O O O hD (fun w1 hw1=>R.load Tryz.isAgg195 O ((hw1.blk hbb (fun h=>h)).cells 0 _ O)) (Ds [1,2] (by kernel_rfl) O (WD.take 3 O (by kernel_rfl) O O O hD (fun w1 hw1=>R.load tg34 O ((hw1.blk hB (fun h=>h)).cells 0 _ O)) (WD.take 4 O (by kernel_rfl) O O O hD (fun w1 hw1=>R.load tg3 O ((hw1.blk hab (fun h=>h)).cells 0 _ O)) (Da [5,6,7] (by kernel_rfl) O (by omega) (zm2 8 O (by kernel_rfl) O O (M.store ts3 O O O O (hD.blk hBg (fun h=>h)) (by rw[hfl];show 0+(i:Int).toNat*4+3<_;omega)) ?_)))))
 rintro wf ⟨_,hBf,hkf⟩
 refine⟨fun h=>absurd (zpb.2 O) h,?_⟩
 rw[show 0+(i:Int).toNat*4+_=i*4+(if true then 3 else 2) by simp,yx]at hBf
 have hK:KT bty W0 w wf:=Keep.trans (znT hD) hkf (fun q hq h=>by have h:q=g:=h;subst h;exact Wr.mk (hb.far _ rfl) hBg zkL)
 refine G.done (by kernel_rfl) ?_ _
 refine zlG Tryz.results215 ⟨_,rfl,⟨hkf.blk (hD.blk hB (fun h=>h)) (fun h=>hgB h.symm),?_,hb.low,hb.far⟩,hK⟩
 have h:=zcb zT (k:=b.nodes.length) hBf (by rw[zp1,yk zT,zM];omega) (by rw[zM];exact zpi _) hnc hcm
 rw[zr7 (by rw[zM];exact zpi _)]at h
 rw[zM];exact h
theorem zex (W0 B:Nat) (kind:Int) (b:Bd) (v:Value) (w:World) (hb:BdS W0 B w b v) (hW:W0<=w.heap.size) (hsz:b.nodes.length<=100000) :
  Calls Tryz.prog 203 #[.pointer (some ⟨B,0,none⟩),.int .i64 kind] w (Ret fun _ w'=>(∃ v',BdS W0 B w' { b with nodes:=b.nodes++[⟨kind,b.step,-1,-1⟩] } v')/\KT bty W0 w w'):=by
 have hB:=hb.blk
 refine zn2 Tryz.func203 O Tryz.ntmps203 O (Dw (fun q=>Blk q B [v,.int .i64 b.step] 197) [15] (fun wd hD _=>?_))
 have hb1:=hb.ext hD
 refine Ds [0,1,2,3] (by kernel_rfl) O (WD.take 4 O (by kernel_rfl) O O O hb1.blk (fun w1 hw1=>R.load tg34 O (hw1.cells 0 _ O)) (Ds [5,6,7,8] (by kernel_rfl) O (WD.take 9 O (by kernel_rfl) O O O hb1.blk (fun w1 hw1=>R.load tg3 O (hw1.cells 1 _ O)) (zmf 10 O (by kernel_rfl) O O O (fun w1=>R.build (v:=.agg #[.int .i64 kind,.int .i64 b.step,.int .i64 (-1),.int .i64 (-1)]) [(0,_),(1,_),(2,_),(3,_)] O (fun _=>by kernel_rfl)) (zlX 11 O (by kernel_rfl) O O O (M.buildSlice (cs:=qL ⟨kind,b.step,-1,-1⟩) [(0,_)] tR34 ts65 tz65 (by decide) O (by kernel_rfl)) ?_)))))
 rintro _ w2 ⟨b2,rfl,hb2,hs2,hB2,hk2⟩
 have hb3:=hb1.ext hk2
 refine⟨fun _=>hb3.blk,?_⟩
 refine zlX 12 O (by kernel_rfl) O O O (M.append tu34 Tryz.el65 O (by decide) O O hb3.row O (Cells.add hB2.cells) (jm _) (by omega) (by omega)) ?_
 rintro v' w3 ⟨hown,hfr,hk3,_⟩
 have hBB:=hk3.blk hb3.blk (fun h=>hb3.ne h rfl)
 refine⟨fun _=>hBB,?_⟩
 refine Ds [13,14] (by kernel_rfl) O ?_
 obtain⟨av,cv,rfl⟩:=xW hown
 refine zm2 15 O (by kernel_rfl) O O (M.store ts34 O O O O hBB (by simp)) ?_
 rintro wf ⟨_,hBf,hkf⟩
 refine⟨fun h=>absurd (zpb.2 O) h,?_⟩
 have hsz1:=hD.size
 have hfar:∀ g,Value.ownBlock (.slice av (b.nodes.length+1) cv)=some g->W0<=g/\g ≠ B:=by
  intro g hg
  rcases hfr with h | ⟨g',h1,h2⟩
  . exact⟨hb.far g (by rw[<- h];exact hg),hb3.ne (by rw[<- h];exact hg)⟩
  rw[h1]at hg;cases hg
  have:=hb3.blk.lt
  exact⟨by omega,by omega⟩
 refine G.done (by kernel_rfl) ?_ _
 refine zlG Tryz.results203 ⟨_,rfl,⟨.slice av (b.nodes.length+1) cv,hBf,?_,hb.low,fun g hg=>(hfar g hg).1⟩,?_⟩
 .
  have h:=zk hown hkf (fun g hg h=>(hfar g hg).2 h)
  rw[zp1,zqi]
  simpa using h
 exact KT.trans (KT.trans (znT (hD.ext hk2)) (KT.row hb3.row zkL hb3.far hk3)) (hkf.mono (fun q hq h=>by have h:q=B:=h;subst h;exact Wr.mk hb.low hBB zl0))
theorem zdU (W0 B i:Nat) (p:Bool) (to:Int) (b:Bd) (v x:Value) (w:World) (hb:BdS W0 B w b v) (hx:HC B w (i,p) x) (hi:i<b.nodes.length) :
  ∃ f,∃ cs:List Value,x=.func (.func f) #[] cs.toArray/\(∀ args w,(callFunc f args).run Tryz.prog w=.ok (.enter f args) w)/\Calls Tryz.prog f (([]:List Value)++[Value.int .i64 to]++cs).toArray w (Ret fun _ w'=>BdS W0 B w' { b with nodes:=qK b.nodes to (i,p) } v/\KT bty W0 w w'):=by
 obtain⟨bb,ab,rfl,h1,h2⟩:=hx
 cases p
 . exact⟨_,[_,_],rfl,Tryz.call166,zhO W0 B bb ab i to b v w hb h1 h2 hi⟩
 exact⟨_,[_,_],rfl,Tryz.call215,zg9 W0 B bb ab i to b v w hb h1 h2 hi⟩
theorem BdS.bump {W0 B:Nat} {w w':World} {b:Bd} {v:Value} (h:BdS W0 B w b v) (hw:zdO w B [v,.int .i64 ((b.step:Int)+1)] 197 w'):BdS W0 B w' { b with step:=b.step+1 } v/\KT bty W0 w w' :=
 ⟨⟨hw.2.1,zk h.row hw.2.2 (fun _ hg he=>h.ne hg he),h.low,h.far⟩,znV h.blk zl0 h.low hw⟩
theorem Hung.lit {B:Nat} {w:World} {g:Nat} {x:Value} {e:qy} (hb:Blk w g [x] 120) (hx:HC B w e x):Hung B w (.slice (some ⟨g,0,none⟩) 1 1) [e] :=
 ⟨[x],yp (k:=1) (n:=1) (cap:=1) hb (zpi _) (by decide) rfl,fun i e' x' he hx'=>by
  cases i with
  | zero=>simp at he hx';subst he;subst hx';exact hx
  | succ i=>simp at he⟩
theorem Hung.len {B:Nat} {w:World} {v:Value} {es:List qy} (h:Hung B w v es):es.length<=9223372036854775807:=by
 obtain⟨xs,h1,_⟩:=h
 obtain⟨_,_,_,h2,h3⟩:=xM h1
 omega
theorem zhP (s:St) (h1:∀ b ins,(listB s.thn b ins).2.length<=max ins.length 1+widL s.thn) (h2:∀ b ins,(listB s.els b ins).2.length<=max ins.length 1+widL s.els) (a:Nat) (b:Bd):(s.one a b).2.length<=1+s.wid:=by
 rw[s.one_eq]
 have hw:=s.wid_eq
 split
 .
  dsimp only
  rw[zp1]
  have e1:=h1 { nodes:=b.nodes++[⟨3,b.step,-1,-1⟩],step:=b.step+1 } [(a,false)]
  have e2:=h2 (listB s.thn { nodes:=b.nodes++[⟨3,b.step,-1,-1⟩],step:=b.step+1 } [(a,false)]).1 [(a,true)]
  simp only[zpe]at e1 e2
  omega
 split<;>simp
theorem zd5 (l:List St):∀ b ins,(listB l b ins).2.length<=max ins.length 1+widL l:=by
 induction l using zmB with
 | h l ih =>
 have key:∀ r:List St,(∀ x ∈ r,x ∈ l)->∀ b ins,(listB r b ins).2.length<=max ins.length 1+widL r:=by
  intro r
  induction r with
  | nil=>intro _ b ins;rw[listB];dsimp only;omega
  | cons s r ihr =>
   intro hm b ins
   have h1:=zhP s (ih s (hm s (zoX ..))).1 (ih s (hm s (zoX ..))).2 b.nodes.length { b with nodes:=zq b.nodes b.nodes.length ins }
   rw[kT]
   have h2:=ihr (fun y hy=>hm y (zoW _ hy)) (s.one b.nodes.length { b with nodes:=zq b.nodes b.nodes.length ins }).1 (s.one b.nodes.length { b with nodes:=zq b.nodes b.nodes.length ins }).2
   simp only[widL]
   omega
 exact key l (fun x h=>h)
theorem jF {ns:List Nd} {to:Int} {es:List qy} {i:Nat} {e:qy} (h:es[i]?=some e):zq ns to (es.take (i+1))=qK (zq ns to (es.take i)) to e:=by rw[zd h,jY];rfl
def zga (l:List St):Prop:=∀ (W0 B:Nat) (v vin:Value) (D:Nat->Prop) (w:World) (b:Bd) (nv:Value) (ins:List qy),SlR 10 RSt D w v l->(∀ q,D q->q<W0)->BdS W0 B w b nv->Hung B w vin ins->(∀ e ∈ ins,e.1<b.nodes.length)->W0<=w.heap.size ->
 plainL l=true->b.nodes.length+widL l<=100000->b.step+ssize l<=100000 ->
 Calls Tryz.prog 125 #[.pointer (some ⟨B,0,none⟩),v,vin] w (Ret fun r w'=>(∃ nv',BdS W0 B w' (listB l b ins).1 nv')/\Hung B w' r (listB l b ins).2/\(r.ownBlock=vin.ownBlock\/∃ g,r.ownBlock=some g/\w.heap.size<=g)/\KT bty W0 w w')
theorem zkj (s:St) (h1:zga s.thn) (h2:zga s.els) (W0 B:Nat) (cs:List Value) (D:Nat->Prop) (w:World) (b:Bd) (nv:Value) (hs:RSt D w s cs) (hD:∀ q,D q->q<W0) (hb:BdS W0 B w b nv) (hW:W0<=w.heap.size) (hp:s.plainB=true)
  (hn:b.nodes.length+s.wid<=100000) (hst:b.step+s.size<=100000) :
  Calls Tryz.prog 165 #[.pointer (some ⟨B,0,none⟩),.agg cs.toArray,.int .i64 b.nodes.length] w (Ret fun r w'=>(∃ nv',BdS W0 B w' (s.one b.nodes.length b).1 nv')/\Hung B w' r (s.one b.nodes.length b).2/\(∃ g,r.ownBlock=some g/\w.heap.size<=g)/\KT bty W0 w w'):=by
 have hs1:=hs.one
 obtain⟨v1,v2,v3,v4,rfl,hk,ht,he,hbs⟩:=hs.get
 have hw:=s.wid_eq
 have hz:=s.size_eq
 have hp2:=hp
 rw[s.plainB_eq,zpv,zpv]at hp2
 have hwl:=hW
 refine zn3 Tryz.func165 O Tryz.ntmps165 O (Gs 2 O (zlY O O (M.box O O) ?_))
 rintro _ w1 ⟨c,rfl,hc,hs1',hBc,hk1⟩
 replace hb:=hb.ext hk1
 have hE1:KT bty W0 w w1:=znT hk1
 refine Gs 7 O (zmV O tg66 (hBc.cells 0 _ O) (Gs 9 O (zlc O (fun a3=>?_) (fun a3=>?_))))
 .
  rw[s.one_eq,zp4 a3]
  rw[zp3 (show ¬ s.act=4 by omega)]at hw
  refine Gs 3 O (G.call O Tryz.call203 (zex W0 B 3 b nv w1 hb (by have:=hk1.size;omega) (by omega)) ?_)
  rintro _ w2 ⟨⟨nv2,hb2⟩,hK2⟩
  have hE2:=hE1.trans hK2
  have hBc2:=hK2.blk hBc (by decide)
  refine Gs 7 O (zmV O tg3 (hb2.blk.cells 1 (.int .i64 b.step) O) (Ga 3 O (by omega) (zm3 O (M.store ts3 O O O O hb2.blk (by simp)) ?_)))
  rintro w3 hw3
  obtain⟨hb3,hK3⟩:=hb2.bump hw3
  have hE3:=hE2.trans hK3
  have hBc3:=hK3.blk hBc2 (by decide)
  refine Gs 3 O (Dw (fun q=>Blk q c [.int .i64 s.act,.int .i64 s.cost,.int .i64 s.var,.int .i64 s.n,.int .i64 s.term.op,.int .i64 s.term.n,v1,v2,v3,v4] 72) [] (fun w4 hk4 _=>?_))
  have hBc4:=hk4.blk hBc3 (fun h=>h)
  have hb4:=hb3.ext hk4
  have hE4:=hE3.ext' hk4
  refine Ds [0,1] (by kernel_rfl) O (WD.take 2 O (by kernel_rfl) O O O hBc4 (fun w1 hw1=>R.load tg24 O (hw1.cells 7 _ O)) (Ds [3,4] (by kernel_rfl) O (WD.call 5 O (by kernel_rfl) O O O (F.call (vs:=[_,_]) Tryz.call126 O) (zcm B b.nodes.length w4) ?_)))
  rintro x w5 ⟨hx,hk5⟩
  have hBc5:=hk5.blk hBc4 (fun h=>h)
  have hb5:=hb4.ext hk5
  have hE5:=hE4.ext' hk5
  refine⟨fun _=>hBc5,?_⟩
  have hx0:=hx
  obtain⟨bb,ab,rfl,_,_⟩:=hx
  refine zlX 6 O (by kernel_rfl) O O O (M.buildSlice (cs:=[.func (.func 166) #[] #[.pointer (some ⟨bb,0,none⟩),.pointer (some ⟨ab,0,none⟩)]]) [(0,_)] tR198 ts120 tz120 (by decide) O (by kernel_rfl)) ?_
  rintro _ w6 ⟨g6,rfl,hg6,hs6,hB6,hk6⟩
  have hBc6:=hk6.blk hBc5 (fun h=>h)
  have hb6:=hb5.ext hk6
  have hE6:=hE5.ext' hk6
  refine⟨fun _=>hBc6,?_⟩
  have hu6:=Hung.lit hB6 (hx0.ext hk6)
  have hsz6:=hE6.size
  refine WD.call 7 O (by kernel_rfl) O O O (F.call (vs:=[_,_,_]) Tryz.call125 O) (h1 W0 B _ _ D w6 _ _ _ (hE6.sl zc ht hD) hD hb6 hu6 (by simp) (by omega) hp2.1.2 (by simp;omega) (by dsimp only;omega)) ?_
  rintro r7 w7 ⟨⟨nv7,hb7⟩,hu7,hf7,hK7⟩
  have hBc7:=hK7.blk hBc6 (by decide)
  have hE7:=hE6.trans hK7
  refine⟨fun _=>hBc7,?_⟩
  have hl7:=xf s.thn hp2.1.2 { nodes:=b.nodes++[⟨3,b.step,-1,-1⟩],step:=b.step+1 } [(b.nodes.length,false)] (by simp)
  have hh7:=zd5 s.thn { nodes:=b.nodes++[⟨3,b.step,-1,-1⟩],step:=b.step+1 } [(b.nodes.length,false)]
  simp only[zpe]at hh7
  generalize hX:listB s.thn { nodes:=b.nodes++[⟨3,b.step,-1,-1⟩],step:=b.step+1 } [(b.nodes.length,false)]=X at hb7 hu7 hl7 hh7 ⊢
  have hlen7:=hl7.len
  have hstep7:=hl7.step
  simp only[zp1,zpe]at hlen7 hstep7
  have hr7:∃ g,r7.ownBlock=some g/\w.heap.size<=g:=by
   have:=hE5.size
   rcases hf7 with h | ⟨g,h,h'⟩
   . exact⟨g6,by rw[h];rfl,by omega⟩
   exact⟨g,h,by omega⟩
  refine Ds [8] (by kernel_rfl) O (G.done (by kernel_rfl) ?_ _)
  refine Gs 2 O (Dw (fun q=>Blk q c [.int .i64 s.act,.int .i64 s.cost,.int .i64 s.var,.int .i64 s.n,.int .i64 s.term.op,.int .i64 s.term.n,v1,v2,v3,v4] 72) [] (fun x4 yk4 _=>?_))
  have yBc4:=yk4.blk hBc7 (fun h=>h)
  have yb4:=hb7.ext yk4
  have yu4:=hu7.ext yk4
  have yE4:=hE7.ext' yk4
  refine Ds [0,1,2] (by kernel_rfl) O (WD.take 3 O (by kernel_rfl) O O O yBc4 (fun w1 hw1=>R.load tg24 O (hw1.cells 8 _ O)) (Ds [4,5] (by kernel_rfl) O (WD.call 6 O (by kernel_rfl) O O O (F.call (vs:=[_,_]) Tryz.call204 O) (zew B b.nodes.length x4) ?_)))
  rintro x x5 ⟨hx,yk5⟩
  have yBc5:=yk5.blk yBc4 (fun h=>h)
  have yb5:=yb4.ext yk5
  have yu5:=yu4.ext yk5
  have yE5:=yE4.ext' yk5
  refine⟨fun _=>yBc5,?_⟩
  have hx0:=hx
  obtain⟨bb,ab,rfl,_,_⟩:=hx
  refine zlX 7 O (by kernel_rfl) O O O (M.buildSlice (cs:=[.func (.func 215) #[] #[.pointer (some ⟨bb,0,none⟩),.pointer (some ⟨ab,0,none⟩)]]) [(0,_)] tR198 ts120 tz120 (by decide) O (by kernel_rfl)) ?_
  rintro _ x6 ⟨g6',rfl,yg6,ys6,yB6,yk6⟩
  have yBc6:=yk6.blk yBc5 (fun h=>h)
  have yb6:=yb5.ext yk6
  have yu6:=yu5.ext yk6
  have yE6:=yE5.ext' yk6
  refine⟨fun _=>yBc6,?_⟩
  have zu6:=Hung.lit yB6 (hx0.ext yk6)
  have ysz6:=yE6.size
  refine WD.call 8 O (by kernel_rfl) O O O (F.call (vs:=[_,_,_]) Tryz.call125 O) (h2 W0 B _ _ D x6 _ _ _ (yE6.sl zc he hD) hD yb6 zu6 (by intro e he;rw[zpb.1 he];dsimp only;omega) (by omega) hp2.2 (by omega) (by omega)) ?_
  rintro r8 x7 ⟨⟨nv8,yb7⟩,yu7,yf7,yK7⟩
  have yBc7:=yK7.blk yBc6 (by decide)
  have yE7:=yE6.trans yK7
  have zu7:=yu6.kt yK7
  refine⟨fun _=>yBc7,?_⟩
  have hh8:=zd5 s.els X.1 [(b.nodes.length,true)]
  simp only[zpe]at hh8
  generalize listB s.els X.1 [(b.nodes.length,true)]=Y at yb7 yu7 hh8 ⊢
  obtain⟨xs7,ho7,hat7⟩:=zu7
  obtain⟨xs8,ho8,hat8⟩:=yu7
  have h1c:∀ u ∈ xs8,u.oneCell'=true:=by
   intro u hu
   obtain⟨i,hi⟩:=zqH.1 hu
   have hlt:=(zp7.1 hi).1
   have h8:=ho8.1
   exact(hat8 i Y.2[i] u (zoT (by omega)) hi).one
  refine zlX 9 O (by kernel_rfl) O O O (zn9 Tryz.underlying198 Tryz.el120 O (by decide) O O ho7 ho8 h1c (by omega) (by omega)) ?_
  rintro u x8 ⟨hou,hfu,yk8⟩
  have hfr8:∀ k,r7.ownBlock=some k->w.heap.size<=k:=by
   intro k hk
   obtain⟨g,h,h'⟩:=hr7
   rw[h]at hk;cases hk;exact h'
  have yE8:KT bty W0 w x8:=yE7.new yk8 hfr8
  have hbl8:∀ k cs e,Blk x7 k cs e->e ≠ 120->Blk x8 k cs e:=fun k cs e hb hne=>yk8.blk hb (fun h=>by
   obtain⟨cs',hb'⟩:=yF ho7 h
   exact hne (hb.ty hb').1)
  refine⟨fun _=>hbl8 _ _ _ yBc7 (by decide),?_⟩
  refine Ds [10] (by kernel_rfl) O (G.done (by kernel_rfl) ?_ _)
  refine Gs 4 O ?_
  refine zls Tryz.results165 O ⟨_,rfl,⟨nv8,hbl8 _ _ _ yb7.blk (by decide),zk yb7.row yk8 (fun g hg h=>by
    obtain⟨cs',hb'⟩:=yF ho7 h
    obtain⟨cs2,hb2⟩:=yF yb7.row hg
    exact absurd (hb2.ty hb').1 (by decide)),yb7.low,yb7.far⟩,⟨xs7++xs8,by rw[zp1];exact hou,?_⟩,?_,yE8⟩
  .
   have hcc:∀ e x,HC B x7 e x->HC B x8 e x:=by
    rintro e x ⟨bb,ab,q1,q2,q3⟩
    exact⟨bb,ab,q1,hbl8 _ _ _ q2 (by decide),hbl8 _ _ _ q3 (by decide)⟩
   intro i e x he' hx'
   have hl1:=ho7.1
   by_cases hi:i<X.2.length
   .
    rw[zpj hi]at he'
    rw[zpj (by omega)]at hx'
    exact hcc _ _ (hat7 i e x he' hx')
   rw[zpk (by omega)]at he'
   rw[zpk (by omega),show i - xs7.length=i - X.2.length by omega]at hx'
   exact hcc _ _ (hat8 _ e x he' hx')
  rcases hfu with h | ⟨g,h,h'⟩
  .
   obtain⟨g,q1,q2⟩:=hr7
   exact⟨g,by rw[h];exact q1,q2⟩
  have:=yE7.size
  exact⟨g,h,by omega⟩
 rw[s.one_eq,zp3 a3]
 refine Gs 6 O (zlc O (fun a4=>?_) (fun a4=>?_))
 .
  rw[zp4 a4]
  rw[zp4 a4]at hw
  rw[zp3 a3,zp4 a4]at hp2
  refine Gs 3 O (G.call O Tryz.call203 (zex W0 B 4 b nv w1 hb (by have:=hk1.size;omega) (by omega)) ?_)
  rintro _ w2 ⟨⟨nv2,hb2⟩,hK2⟩
  have hE2:=hE1.trans hK2
  have hBc2:=hK2.blk hBc (by decide)
  refine Gs 5 O (G.call O Tryz.call203 (zex W0 B 5 _ nv2 w2 hb2 (by have:=hE2.size;omega) (by simp;omega)) ?_)
  rintro _ w3 ⟨⟨nv3,hb3⟩,hK3⟩
  have hE3:=hE2.trans hK3
  have hBc3:=hK3.blk hBc2 (by decide)
  dsimp only at hb3
  rw[zq3,zr0]at hb3
  refine Gs 7 O (zmV O tg3 (hb3.blk.cells 1 (.int .i64 b.step) O) (Ga 3 O (by omega) (zm3 O (M.store ts3 O O O O hb3.blk (by simp)) ?_)))
  rintro w4 hw4
  obtain⟨hb4,hK4⟩:=hb3.bump hw4
  dsimp only at hb4
  have hE4:=hE3.trans hK4
  have hBc4:=hK4.blk hBc3 (by decide)
  obtain⟨g,cap,sp,rfl,_,hnc,hcm,hBg,hlen⟩:=jS zT (by decide) hb4.row (by simp)
  have hlx:(b.nodes++[⟨4,b.step,-1,-1⟩,⟨5,b.step,-1,-1⟩]:List Nd).length=b.nodes.length+2:=by simp
  have hfl:((b.nodes++[⟨4,b.step,-1,-1⟩,⟨5,b.step,-1,-1⟩]:List Nd).flatMap qL++sp).length=(b.nodes.length+2)*4+sp.length:=by rw[zp1,yk zT,hlx]
  have yx:=zcn (b.nodes++[⟨4,b.step,-1,-1⟩,⟨5,b.step,-1,-1⟩]) b.nodes.length (by omega) sp (b.nodes.length+1:Nat) false
  refine Gs 7 O (zmV O tg34 (hb4.blk.cells 0 _ O) (Ga 3 O (by omega) (zmR O O (zlO tR34 ts65 O O O (by simp;omega)) (Gs 1 O (zm3 O (M.store ts3 O O O O hBg (by rw[hfl];show 0+(b.nodes.length:Int).toNat*4+2<_;omega)) ?_)))))
  rintro w5 ⟨_,hBf,hkf⟩
  have e5:0+(b.nodes.length:Int).toNat*4+2=b.nodes.length*4+(if false then 3 else 2):=by simp
  have hBf':Blk w5 g (((b.nodes++[⟨4,b.step,-1,-1⟩,⟨5,b.step,-1,-1⟩]:List Nd).flatMap qL++sp).set (0+(b.nodes.length:Int).toNat*4+2) (.int .i64 (b.nodes.length+1:Nat))) 65:=hBf
  rw[e5,yx]at hBf'
  have hK5:KT bty W0 w4 w5:=znV hBg zkL (hb4.far _ rfl) ⟨‹_›,hBf,hkf⟩
  have hE5:=hE4.trans hK5
  have hBc5:=hK5.blk hBc4 (by decide)
  have hgB:=hb4.ne rfl
  have hb5:BdS W0 B w5 { nodes:=qK (b.nodes++[⟨4,b.step,-1,-1⟩,⟨5,b.step,-1,-1⟩]) (b.nodes.length+1:Nat) (b.nodes.length,false),step:=b.step+1 } (.slice (some ⟨g,0,none⟩) (b.nodes++[⟨4,b.step,-1,-1⟩,⟨5,b.step,-1,-1⟩]:List Nd).length cap):=by
   refine⟨hkf.blk hb4.blk (fun h=>hgB h.symm),?_,hb4.low,hb4.far⟩
   have h:=zcb zT (k:=(b.nodes++[⟨4,b.step,-1,-1⟩,⟨5,b.step,-1,-1⟩]:List Nd).length) hBf' (by rw[zp1,yk zT,zM,hlx];exact hfl.symm.trans hlen) (by rw[zM];exact zpi _) hnc hcm
   rw[zr7 (by rw[zM];exact zpi _)]at h
   dsimp only
   rw[zM];exact h
  refine Gs 4 O (Dw (fun q=>Blk q c [.int .i64 s.act,.int .i64 s.cost,.int .i64 s.var,.int .i64 s.n,.int .i64 s.term.op,.int .i64 s.term.n,v1,v2,v3,v4] 72) [] (fun w6 hk6 _=>?_))
  have hBc6:=hk6.blk hBc5 (fun h=>h)
  have hb6:=hb5.ext hk6
  have hE6:=hE5.ext' hk6
  refine Ds [0,1] (by kernel_rfl) O (WD.take 2 O (by kernel_rfl) O O O hBc6 (fun w1 hw1=>R.load tg24 O (hw1.cells 7 _ O)) (Da [3,4,5,10] (by kernel_rfl) O (by omega) (WD.call 6 O (by kernel_rfl) O O O (F.call (vs:=[_,_]) Tryz.call126 O) (zcm B (b.nodes.length+1) w6) ?_)))
  rintro x w7 ⟨hx,hk7⟩
  have hBc7:=hk7.blk hBc6 (fun h=>h)
  have hb7:=hb6.ext hk7
  have hE7:=hE6.ext' hk7
  refine⟨fun _=>hBc7,?_⟩
  have hx0:=hx
  obtain⟨bb,ab,rfl,_,_⟩:=hx
  refine zlX 7 O (by kernel_rfl) O O O (M.buildSlice (cs:=[.func (.func 166) #[] #[.pointer (some ⟨bb,0,none⟩),.pointer (some ⟨ab,0,none⟩)]]) [(0,_)] tR198 ts120 tz120 (by decide) O (by kernel_rfl)) ?_
  rintro _ w8 ⟨g8,rfl,hg8,hs8,hB8,hk8⟩
  have hBc8:=hk8.blk hBc7 (fun h=>h)
  have hb8:=hb7.ext hk8
  have hE8:=hE7.ext' hk8
  refine⟨fun _=>hBc8,?_⟩
  have hu8:=Hung.lit hB8 (hx0.ext hk8)
  have hsz8:=hE8.size
  refine WD.call 8 O (by kernel_rfl) O O O (F.call (vs:=[_,_,_]) Tryz.call125 O) (h1 W0 B _ _ D w8 _ _ _ (hE8.sl zc ht hD) hD hb8 hu8 (by intro e he;rw[zpb.1 he];dsimp only;rw[zM,hlx];omega) (by omega) hp2.1.2 (by dsimp only;rw[zM,hlx];omega) (by dsimp only;omega)) ?_
  rintro r9 w9 ⟨⟨nv9,hb9⟩,hu9,hf9,hK9⟩
  have hBc9:=hK9.blk hBc8 (by decide)
  have hE9:=hE8.trans hK9
  refine⟨fun _=>hBc9,?_⟩
  have hl9:=xf s.thn hp2.1.2 { nodes:=qK (b.nodes++[⟨4,b.step,-1,-1⟩,⟨5,b.step,-1,-1⟩]) (b.nodes.length+1:Nat) (b.nodes.length,false),step:=b.step+1 } [(b.nodes.length+1,false)] (by intro e he;rw[zpb.1 he];dsimp only;rw[zM,hlx];omega)
  generalize hX:listB s.thn { nodes:=qK (b.nodes++[⟨4,b.step,-1,-1⟩,⟨5,b.step,-1,-1⟩]) (b.nodes.length+1:Nat) (b.nodes.length,false),step:=b.step+1 } [(b.nodes.length+1,false)]=X at hb9 hu9 hl9 ⊢
  obtain⟨a9,c9,rfl,_⟩:=hu9.form
  have hlen9:=hl9.len
  have hlt9:=hl9.lt
  have hmx9:=hu9.len
  dsimp only at hlen9
  rw[zM,hlx]at hlen9
  refine Ds [9] (by kernel_rfl) O (G.done (by kernel_rfl) ?_ _)
  refine Gs 1 O (zln (σ:=Unit) (fun u=>[(0,.pointer (some ⟨B,0,none⟩)),(2,.int .i64 b.nodes.length)]) (fun u=>fun w'=>(∃ nv',BdS W0 B w' { X.1 with nodes:=zq X.1.nodes (b.nodes.length+1:Nat) X.2 } nv')/\KT bty W0 w w') ?_ ?_)
  .
   refine Gs 1 O (G.loop (σ:=Nat) (fun j=>[(0,.pointer (some ⟨B,0,none⟩)),(2,.int .i64 b.nodes.length),(71,.slice a9 X.2.length c9),(72,.int .i64 X.2.length),(73,.int .i64 j)]) (fun j=>fun w'=>j<=X.2.length/\(∃ nv',BdS W0 B w' { X.1 with nodes:=zq X.1.nodes (b.nodes.length+1:Nat) (X.2.take j) } nv')/\Hung B w' (.slice a9 X.2.length c9) X.2/\KT bty W0 w w') (fun j=>X.2.length - j) (0) (Sub.of O) (⟨zp8 _,⟨_,hb9⟩,hu9,hE9⟩) ?_)
   rintro j y1 ⟨hj,⟨nvj,hbj⟩,huj,hEj⟩
   refine Gs 6 O (zlc O (fun hlt=>?_) (fun hge=>?_))
   .
    obtain⟨e,he⟩:∃ e,X.2[j]?=some e:=⟨_,zoT (by omega)⟩
    obtain⟨ge,x,rfl,hcx,hHx⟩:=huj.at he
    obtain⟨ie,pe⟩:=e
    obtain⟨f,fcs,rfl,hcf,hcall⟩:=zdU W0 B ie pe (b.nodes.length+1:Nat) _ _ x y1 hbj hHx (by dsimp only;rw[zH];exact hlt9 _ (zoU he))
    refine Ga 7 O (by omega) (zmV O Tryz.isAgg120 (hcx 0 _ O) (Ga 7 O (by omega) (zlV O hcf hcall ?_)))
    rintro _ y2 ⟨hb',hK'⟩
    refine Ga 7 O (by omega) (G.back (j+1) (Sub.of O) (⟨by omega,⟨nvj,by rw[jF he];exact hb'⟩,huj.kt hK',hEj.trans hK'⟩) (by first | omega | (dsimp only;omega)))
   have hjj:j=X.2.length:=by omega
   subst hjj
   rw[zoY]at hbj
   refine Gs 4 O (zlp (()) (Sub.of O) (⟨⟨nvj,hbj⟩,hEj⟩))
  rintro u y3 ⟨⟨nv3',yb3⟩,yE3⟩
  refine Ga 6 O (by omega) (G.call O Tryz.call204 (zew B (b.nodes.length+1) y3) ?_)
  rintro x y4 ⟨hx,yk4⟩
  have hx0:=hx
  obtain⟨bb,ab,rfl,_,_⟩:=hx
  refine zlY O O (M.buildSlice (cs:=[.func (.func 215) #[] #[.pointer (some ⟨bb,0,none⟩),.pointer (some ⟨ab,0,none⟩)]]) [(0,_)] tR198 ts120 tz120 (by decide) O (by kernel_rfl)) ?_
  rintro _ y5 ⟨g5,rfl,yg5,ys5,yB5,yk5⟩
  have:=yE3.size
  have:=yk4.size
  refine Gs 6 O (zls Tryz.results165 O ⟨_,rfl,⟨nv3',(yb3.ext yk4).ext yk5⟩,Hung.lit yB5 (hx0.ext yk5),⟨g5,rfl,by omega⟩,(yE3.ext' yk4).ext' yk5⟩)
 rw[zp3 a4]
 rw[zp3 a4]at hw
 rw[zp3 a3,zp3 a4]at hp2
 refine Gs 6 O (G.call O Tryz.call203 (zex W0 B 2 b nv w1 hb (by have:=hk1.size;omega) (by omega)) ?_)
 rintro _ w2 ⟨⟨nv2,hb2⟩,hK2⟩
 have hE2:=hE1.trans hK2
 refine Gs 7 O (zmV O tg3 (hb2.blk.cells 1 (.int .i64 b.step) O) (Ga 3 O (by omega) (zm3 O (M.store ts3 O O O O hb2.blk (by simp)) ?_)))
 rintro w3 hw3
 obtain⟨hb3,hK3⟩:=hb2.bump hw3
 have hE3:=hE2.trans hK3
 refine Gs 6 O (G.call O Tryz.call126 (zcm B b.nodes.length w3) ?_)
 rintro x w4 ⟨hx,hk4⟩
 have hx0:=hx
 obtain⟨bb,ab,rfl,_,_⟩:=hx
 refine zlY O O (M.buildSlice (cs:=[.func (.func 166) #[] #[.pointer (some ⟨bb,0,none⟩),.pointer (some ⟨ab,0,none⟩)]]) [(0,_)] tR198 ts120 tz120 (by decide) O (by kernel_rfl)) ?_
 rintro _ w5 ⟨g5,rfl,hg5,hs5,hB5,hk5⟩
 have:=hE3.size
 have:=hk4.size
 refine Gs 4 O (zls Tryz.results165 O ⟨_,rfl,⟨nv2,(hb3.ext hk4).ext hk5⟩,Hung.lit hB5 (hx0.ext hk5),⟨g5,rfl,by omega⟩,(hE3.ext' hk4).ext' hk5⟩)
theorem zaY {α:Type} {l:List α} {i:Nat} {x:α} (h:l[i]?=some x):l.drop i=x::l.drop (i+1):=by
 obtain⟨h1,h2⟩:=zp7.1 h
 rw[<- h2,List.getElem_cons_drop]
theorem zjx (l:List St):zga l:=by
 induction l using zmB with
 | h l ih =>
 intro W0 B v vin D w b nv ins hl hD hb hu hlt hW hp hn hst
 obtain⟨av,cv,rfl⟩:=hl.form
 have hmx:=hl.max
 refine zn3 Tryz.func125 O Tryz.ntmps125 O (Gs 14 O (G.loop (σ:=Nat × Value) (fun⟨i,vi⟩=>[(0,.pointer (some ⟨B,0,none⟩)),(2,vi),(12,.slice av l.length cv),(13,.int .i64 l.length),(14,.int .i64 i)]) (fun⟨i,vi⟩=>fun w'=>i<=l.length/\(∃ b' nv' ins',BdS W0 B w' b' nv'/\Hung B w' vi ins'/\(∀ e ∈ ins',e.1<b'.nodes.length)/\listB (l.drop i) b' ins'=listB l b ins/\b'.nodes.length=b.nodes.length+widL (l.take i)/\b'.step=b.step+ssize (l.take i))/\(vi.ownBlock=vin.ownBlock\/∃ g,vi.ownBlock=some g/\w.heap.size<=g)/\KT bty W0 w w') (fun⟨i,vi⟩=>l.length - i) ((0,vin)) (Sub.of O) (⟨zp8 _,⟨b,nv,ins,hb,hu,hlt,rfl,by simp[widL],by simp[ssize]⟩,.inl rfl,KT.refl⟩) ?_))
 rintro⟨i,vi⟩ w1 ⟨hi,⟨b1,nv1,ins1,hb1,hu1,hlt1,hL1,hn1,hs1⟩,hf1,hE1⟩
 show G _ _ _ _ _ [(0,.pointer (some ⟨B,0,none⟩)),(2,vi),(12,.slice av l.length cv),(13,.int .i64 l.length),(14,.int .i64 i)] _
 refine Gs 6 O (zlc O (fun hlt'=>?_) (fun hge=>?_))
 .
  obtain⟨s,he⟩:∃ x,l[i]?=some x:=⟨_,zoT (by omega)⟩
  have hm:=zoU he
  have hl1:=hE1.sl zc hl hD
  obtain⟨bq,oq,cq,haq,hDq,hcl,hcq,hRq⟩:∃ b o cs,av=some ⟨b,o,none⟩/\D b/\cs.length=10/\Cells w1 b (o+i*10) cs/\RSt D w1 s cs:=by
   obtain⟨ao',cap',h1,h2,h3,h4⟩:=hl1
   cases h1
   exact h4 i s he
  have hone:=hRq.one
  have hps:=yN hp s hm
  have hws:=kS he
  have hzs:=xa he
  obtain⟨v1,v2,v3,v4,rfl,q1,q2,q3,q4⟩:=hRq.get
  refine Gs 6 O (zmR O O (zlO tR24 ts72 O O haq (by omega)) (zmX O tg72 ts72 hcq O (zlY O O (M.alloc (cs:=_) tz72 O) ?_)))
  rintro _ w2 ⟨c,rfl,hc,hsc,hBc0,hk2⟩
  refine zm3 O (zm4 ts72 O O O O hone hBc0 (by simp)) ?_
  rintro w3 ⟨_,hBc,hkc⟩
  have hk3:Ext w1 w3:=hk2.trans hkc (fun q hq h=>by have h:q=c:=h;omega)
  have hE3:=hE1.ext' hk3
  replace hb1:=hb1.ext hk3
  replace hu1:=hu1.ext hk3
  obtain⟨an,cn,rfl,hnc,_⟩:=xM hb1.row
  obtain⟨a1,c1,rfl,_⟩:=hu1.form
  have hmx1:=hu1.len
  have hBc':Blk w3 c [.int .i64 s.act,.int .i64 s.cost,.int .i64 s.var,.int .i64 s.n,.int .i64 s.term.op,.int .i64 s.term.n,v1,v2,v3,v4] 72:=hBc
  refine Gs 7 O (zmV O tg34 (hb1.blk.cells 0 _ O) (Gs 13 O (G.loop (σ:=Nat) (fun j=>[(0,.pointer (some ⟨B,0,none⟩)),(8,.pointer (some ⟨c,0,none⟩)),(9,.int .i64 b1.nodes.length),(12,.slice av l.length cv),(13,.int .i64 l.length),(14,.int .i64 i),(23,.slice a1 ins1.length c1),(24,.int .i64 ins1.length),(25,.int .i64 j)]) (fun j=>fun w'=>j<=ins1.length/\BdS W0 B w' { b1 with nodes:=zq b1.nodes b1.nodes.length (ins1.take j) } (.slice an b1.nodes.length cn)/\Hung B w' (.slice a1 ins1.length c1) ins1/\Blk w' c [.int .i64 s.act,.int .i64 s.cost,.int .i64 s.var,.int .i64 s.n,.int .i64 s.term.op,.int .i64 s.term.n,v1,v2,v3,v4] 72/\KT bty W0 w3 w') (fun j=>ins1.length - j) (0) (Sub.of O) (⟨zp8 _,hb1,hu1,hBc',KT.refl⟩) ?_)))
  rintro j y1 ⟨hj,hbj,huj,hBj,hFj⟩
  have hEj:=hE3.trans hFj
  refine Gs 6 O (zlc O (fun hjl=>?_) (fun hjg=>?_))
  .
   obtain⟨e,hee⟩:∃ e,ins1[j]?=some e:=⟨_,zoT (by omega)⟩
   obtain⟨ge,x,rfl,hcx,hHx⟩:=huj.at hee
   obtain⟨ie,pe⟩:=e
   obtain⟨f,fcs,rfl,hcf,hcall⟩:=zdU W0 B ie pe (b1.nodes.length:Nat) _ _ x y1 hbj hHx (by dsimp only;rw[zH];exact hlt1 _ (zoU hee))
   refine Ga 7 O (by omega) (zmV O Tryz.isAgg120 (hcx 0 _ O) (Gs 6 O (zlV O hcf hcall ?_)))
   rintro _ y2 ⟨hb',hK'⟩
   refine Ga 7 O (by omega) (G.back (j+1) (Sub.of O) (⟨by omega,by rw[jF hee];exact hb',huj.kt hK',hK'.blk hBj (by decide),hFj.trans hK'⟩) (by first | omega | (dsimp only;omega)))
  have hjj:j=ins1.length:=by omega
  subst hjj
  rw[zoY]at hbj
  have hszj:=hEj.size
  have hone:=zkj s (ih s hm).1 (ih s hm).2 W0 B _ D y1 { b1 with nodes:=zq b1.nodes b1.nodes.length ins1 } _ (RSt.put (s:=s) (hFj.sl zl (q1.ext zl hk3) hD) (hFj.sl zc (q2.ext zc hk3) hD) (hFj.sl zc (q3.ext zc hk3) hD) (hFj.sl ze (q4.ext ze hk3) hD)) hD hbj (by omega) hps (by dsimp only;rw[zH];omega) (by dsimp only;omega)
  have hbt:=zd3 s hps (fun b ins h=>xf s.thn (by rw[s.plainB_eq,zpv,zpv]at hps;exact hps.1.2) b ins h) (fun b ins h=>xf s.els (by rw[s.plainB_eq,zpv,zpv]at hps;exact hps.2) b ins h) { b1 with nodes:=zq b1.nodes b1.nodes.length ins1 }
  simp only[zH]at hone hbt
  refine Gs 7 O (zmX O tg72 ts72 hBj.cells O (Gs 1 O (G.call O Tryz.call165 hone ?_)))
  rintro r y2 ⟨⟨nv2,hb2⟩,hu2,⟨g2,hg2,hg2'⟩,hK2⟩
  refine Ga 8 O (by omega) (G.back ((i+1,r)) (Sub.of O) (⟨by omega,⟨_,nv2,_,hb2,hu2,hbt.lt,?_,?_,?_⟩,.inr ⟨g2,hg2,by omega⟩,hEj.trans hK2⟩) (by first | omega | (dsimp only;omega)))
  . rw[<- hL1,zaY he,kT]
  . have:=hbt.len;dsimp only at this;rw[zH]at this;rw[zaV he];omega
  have:=hbt.step;dsimp only at this;rw[jj he];omega
 have hii:i=l.length:=by omega
 subst hii
 rw[zqa,listB]at hL1
 refine Gs 12 O (zls Tryz.results125 O ⟨_,rfl,⟨nv1,by rw[<- hL1];exact hb1⟩,by rw[<- hL1];exact hu1,hf1,hE1⟩)
theorem jn (l:List St):∀ (v:Value) (D:Nat->Prop) (w:World),SlR 10 RSt D w v l->ssize l<=1000000->Calls Tryz.prog 56 #[v] w (Ret fun r w'=>r=.int .i64 (ssize l)/\Ext w w'):=by
 induction l using zmB with
 | h l ih =>
 intro v D w hl hsz
 have hlen:=jk l
 obtain⟨ao,cap,rfl⟩:=hl.form
 refine zn1 Tryz.func56 O Tryz.ntmps56 O (Gs 17 O (G.loop (σ:=Nat) (fun i=>[(0,.slice ao l.length cap),(3,.int .i64 (ssize (l.take i))),(4,.int .i64 i)]) (fun i=>fun w'=>i<=l.length/\Ext w w') (fun i=>l.length - i) (0) (Sub.of O) (⟨zp8 _,Keep.refl _ _⟩) ?_))
 rintro i w1 ⟨hi,hL1⟩
 replace hl:=Tr1 hL1 hl
 refine Gs 9 O (zlc O (fun hlt=>?_) (fun hge=>?_))
 .
  obtain⟨s,he_s,hm_s⟩:=gE_ l (i) (by omega)
  obtain⟨b_s,o_s,c_s,ha_s,_,hc_s,hR_s⟩:=hl.at he_s
  have h1_s:=RSt.one hR_s
  obtain⟨v1_s,v2_s,v3_s,v4_s,rfl,hk_s,ht_s,hs_s,hb_s⟩:=hR_s.get
  obtain⟨a1_s,n1_s,rfl⟩:=hk_s.form
  obtain⟨a2_s,n2_s,rfl⟩:=ht_s.form
  obtain⟨a3_s,n3_s,rfl⟩:=hs_s.form
  obtain⟨a4_s,n4_s,rfl⟩:=hb_s.form
  have hlt_s:b_s<_:=zoV _ _ (hc_s 0 _ rfl)
  have hsp:=xa he_s
  have hse:=s.size_eq
  refine Gs 4 O (Dw (fun q=>Ext w1 q) [] (fun wd1 hD _=>?_))
  refine Da [0,1,2,3] (by kernel_rfl) O (by omega) (zmf 4 O (by kernel_rfl) O O O (fun w1=>zlO tR24 ts72 O O ha_s (by omega)) (Ds [5] (by kernel_rfl) O (WD.take 6 O (by kernel_rfl) O O O hD (fun w1 hw1=>R.load tg24 O (hw1.cells hc_s (fun h=>h) 7 _ O)) (Ds [9,10] (by kernel_rfl) O (zmf 11 O (by kernel_rfl) O O O (fun w1=>zlO tR24 ts72 O O ha_s (by omega)) (Ds [12] (by kernel_rfl) O (WD.take 13 O (by kernel_rfl) O O O hD (fun w1 hw1=>R.load tg24 O (hw1.cells hc_s (fun h=>h) 8 _ O)) ?_)))))))
  refine WD.call 7 O (by kernel_rfl) O O O (F.call (vs:=[_]) tc56 O) ((ih s hm_s).1 _ D _ (ht_s.ext zc hD) (by omega)) ?_
  rintro _ wz2 ⟨rfl,hz2⟩
  replace hD:=hD.ext hz2
  refine⟨fun _=>hD,?_⟩
  refine Da [8] (by kernel_rfl) O (by omega) (WD.call 14 O (by kernel_rfl) O O O (F.call (vs:=[_]) tc56 O) ((ih s hm_s).2 _ D _ (hs_s.ext zc hD) (by omega)) ?_)
  rintro _ wz3 ⟨rfl,hz3⟩
  replace hD:=hD.ext hz3
  refine⟨fun _=>hD,?_⟩
  refine Da [15,16] (by kernel_rfl) O (by omega) (G.done (by kernel_rfl) ?_ _)
  obtain⟨hl,hL1,hc_s,hk_s,ht_s,hs_s,hb_s⟩:=Tr7 hD hl hL1 hc_s hk_s ht_s hs_s hb_s
  refine Ga 7 O (by omega) (G.back (i+1) (Sub.cons O (Sub.cons (yr O (by rw[jj he_s];omega)) (Sub.of O))) (⟨by omega,hL1⟩) (by first | omega | (dsimp only;omega)))
 have:i=l.length:=by omega
 subst this
 refine Gs 12 O (zls Tryz.results56 O ⟨_,rfl,by rw[zoY],hL1⟩)
theorem qU (t:Tm):∀ (cs:List Value) (D:Nat->Prop) (w:World),RTm D w t cs->t.nodes<=1000000->Calls Tryz.prog 105 #[.agg cs.toArray] w (Ret fun r w'=>r=.int .i64 t.nodes/\Ext w w'):=by
 induction t using zmz with
 | h t ih =>
 intro cs D w ht hsz
 have hlen:=zaT t.kids
 have hse:=t.nodes_eq
 obtain⟨v,rfl,hk⟩:=ht.get
 obtain⟨ao,cap,rfl⟩:=hk.form
 have hE:=Keep.refl (fun _=>False) w
 refine zn1 Tryz.func105 O Tryz.ntmps105 O (Gs 2 O (zlY O O (M.box O O) ?_))
 rintro _ w_b ⟨b,rfl,hg_b,hs_b,hB_b,hk_b⟩
 have hge_b:_<=b:=zoZ hE.size (zri hg_b.symm)
 obtain⟨hE,hk⟩:=Tr2 hk_b hE hk
 refine Gs 15 O (G.loop (σ:=Nat) (fun i=>[(1,.pointer (some ⟨b,0,none⟩)),(3,.int .i64 (1+tnodes (t.kids.take i):Nat)),(4,.int .i64 i)]) (fun i=>fun w'=>i<=t.kids.length/\Ext w_b w') (fun i=>t.kids.length - i) (0) (Sub.of O) (⟨zp8 _,Keep.refl _ _⟩) ?_)
 rintro i w1 ⟨hi,hL1⟩
 obtain⟨hE,hk,hB_b⟩:=Tr3 hL1 hE hk hB_b
 refine Gs 5 O (zmV O tg68 (hB_b.cells 2 _ O) (Gs 4 O (zlc O (fun hlt=>?_) (fun hge=>?_))))
 .
  obtain⟨k,he_k,hm_k⟩:=gE_ t.kids (i) (by omega)
  obtain⟨b_k,o_k,c_k,ha_k,_,hc_k,hR_k⟩:=hk.at he_k
  have h1_k:=RTm.one hR_k
  obtain⟨v1_k,rfl,hk_k⟩:=hR_k.get
  obtain⟨a1_k,n1_k,rfl⟩:=hk_k.form
  have hlt_k:b_k<_:=zoV _ _ (hc_k 0 _ rfl)
  have hsp:=xp he_k
  refine Gs 7 O (zmV O tg68 (hB_b.cells 2 _ O) (Gs 1 O (zmR O O (zlO tR68 ts70 O O ha_k (by omega)) (zmX O tg70 ts70 hc_k O (G.call O Tryz.call105 (ih k hm_k _ D _ (RTm.put hk_k) (by omega)) ?_)))))
  rintro _ wz1 ⟨rfl,hz1⟩
  obtain⟨hE,hk,hB_b,hL1,hc_k,hk_k⟩:=Tr6 hz1 hE hk hB_b hL1 hc_k hk_k
  refine Ga 10 O (by omega) (G.back (i+1) (Sub.cons O (Sub.cons (yr O (by rw[jD he_k];omega)) (Sub.of O))) (⟨by omega,hL1⟩) (by first | omega | (dsimp only;omega)))
 have:i=t.kids.length:=by omega
 subst this
 refine Gs 12 O (zls Tryz.results105 O ⟨_,rfl,by rw[zoY,t.nodes_eq],hE⟩)
theorem qV (t:Tm):∀ (cs:List Value) (D:Nat->Prop) (w:World),RTm D w t cs->t.nodes<=1000000->Calls Tryz.prog 106 #[.agg cs.toArray] w (Ret fun r w'=>r=.int .i64 t.depth/\Ext w w'):=by
 induction t using zmz with
 | h t ih =>
 intro cs D w ht hsz
 have hlen:=zaT t.kids
 have hse:=t.nodes_eq
 obtain⟨v,rfl,hk⟩:=ht.get
 obtain⟨ao,cap,rfl⟩:=hk.form
 have hE:=Keep.refl (fun _=>False) w
 refine zn1 Tryz.func106 O Tryz.ntmps106 O (Gs 2 O (zlY O O (M.box O O) ?_))
 rintro _ w_b ⟨b,rfl,hg_b,hs_b,hB_b,hk_b⟩
 have hge_b:_<=b:=zoZ hE.size (zri hg_b.symm)
 obtain⟨hE,hk⟩:=Tr2 hk_b hE hk
 refine Gs 15 O (G.loop (σ:=Nat) (fun i=>[(1,.pointer (some ⟨b,0,none⟩)),(3,.int .i64 (tdepth (t.kids.take i):Nat)),(4,.int .i64 i)]) (fun i=>fun w'=>i<=t.kids.length/\Ext w_b w') (fun i=>t.kids.length - i) (0) (Sub.of O) (⟨zp8 _,Keep.refl _ _⟩) ?_)
 rintro i w1 ⟨hi,hL1⟩
 obtain⟨hE,hk,hB_b⟩:=Tr3 hL1 hE hk hB_b
 refine Gs 5 O (zmV O tg68 (hB_b.cells 2 _ O) (Gs 4 O (zlc O (fun hlt=>?_) (fun hge=>?_))))
 .
  obtain⟨k,he_k,hm_k⟩:=gE_ t.kids (i) (by omega)
  obtain⟨b_k,o_k,c_k,ha_k,_,hc_k,hR_k⟩:=hk.at he_k
  have h1_k:=RTm.one hR_k
  obtain⟨v1_k,rfl,hk_k⟩:=hR_k.get
  obtain⟨a1_k,n1_k,rfl⟩:=hk_k.form
  have hlt_k:b_k<_:=zoV _ _ (hc_k 0 _ rfl)
  have hsp:=xp he_k
  have htk:=zaP he_k
  refine Gs 7 O (zmV O tg68 (hB_b.cells 2 _ O) (Gs 1 O (zmR O O (zlO tR68 ts70 O O ha_k (by omega)) (zmX O tg70 ts70 hc_k O (G.call O Tryz.call106 (ih k hm_k _ D _ (RTm.put hk_k) (by omega)) ?_)))))
  rintro _ wz1 ⟨rfl,hz1⟩
  obtain⟨hE,hk,hB_b,hL1,hc_k,hk_k⟩:=Tr6 hz1 hE hk hB_b hL1 hc_k hk_k
  refine Gs 10 O (zlc O (fun hgt=>?_) (fun hle=>?_))
  . refine Ga 11 O (by omega) (G.back (i+1) (Sub.cons O (Sub.cons (yr O (by rw[htk];omega)) (Sub.of O))) (⟨by omega,hL1⟩) (by first | omega | (dsimp only;omega)))
  refine Ga 8 O (by omega) (G.back (i+1) (Sub.cons O (Sub.cons (yr O (by rw[htk];omega)) (Sub.of O))) (⟨by omega,hL1⟩) (by first | omega | (dsimp only;omega)))
 have:i=t.kids.length:=by omega
 subst this
 have hdp:=za7 t.kids
 rw[zoY]
 refine Ga 13 O (by omega) (zls Tryz.results106 O ⟨_,rfl,by rw[t.depth_eq];rfl,hE⟩)
theorem zdV (l:List St):∀ (v:Value) (D:Nat->Prop) (w:World),SlR 10 RSt D w v l->snodes l<=1000000->Calls Tryz.prog 104 #[v] w (Ret fun r w'=>r=.int .i64 (snodes l)/\Ext w w'):=by
 induction l using zmB with
 | h l ih =>
 intro v D w hl hsz
 have hlen:=zck l
 obtain⟨ao,cap,rfl⟩:=hl.form
 refine zn1 Tryz.func104 O Tryz.ntmps104 O (Gs 17 O (G.loop (σ:=Nat) (fun i=>[(0,.slice ao l.length cap),(3,.int .i64 (snodes (l.take i))),(4,.int .i64 i)]) (fun i=>fun w'=>i<=l.length/\Ext w w') (fun i=>l.length - i) (0) (Sub.of O) (⟨zp8 _,Keep.refl _ _⟩) ?_))
 rintro i w1 ⟨hi,hL1⟩
 replace hl:=Tr1 hL1 hl
 refine Gs 9 O (zlc O (fun hlt=>?_) (fun hge=>?_))
 .
  obtain⟨s,he_s,hm_s⟩:=gE_ l (i) (by omega)
  obtain⟨b_s,o_s,c_s,ha_s,_,hc_s,hR_s⟩:=hl.at he_s
  have h1_s:=RSt.one hR_s
  obtain⟨v1_s,v2_s,v3_s,v4_s,rfl,hk_s,ht_s,hs_s,hb_s⟩:=hR_s.get
  obtain⟨a1_s,n1_s,rfl⟩:=hk_s.form
  obtain⟨a2_s,n2_s,rfl⟩:=ht_s.form
  obtain⟨a3_s,n3_s,rfl⟩:=hs_s.form
  obtain⟨a4_s,n4_s,rfl⟩:=hb_s.form
  have hlt_s:b_s<_:=zoV _ _ (hc_s 0 _ rfl)
  have hsp:=xZ he_s
  have hse:=s.nodes_eq
  refine Gs 4 O (Dw (fun q=>Ext w1 q) [] (fun wd1 hD _=>?_))
  refine Da [0,1,2,3] (by kernel_rfl) O (by omega) (zmf 4 O (by kernel_rfl) O O O (fun w1=>zlO tR24 ts72 O O ha_s (by omega)) (Ds [5] (by kernel_rfl) O (WD.take 6 O (by kernel_rfl) O O O hD (fun w1 hw1=>zlQ tg70 ts70 O (by rfl) ((hw1.cells hc_s (fun h=>h)).sub 4 3)) (Ds [9,10] (by kernel_rfl) O (zmf 11 O (by kernel_rfl) O O O (fun w1=>zlO tR24 ts72 O O ha_s (by omega)) (Ds [12] (by kernel_rfl) O (WD.take 13 O (by kernel_rfl) O O O hD (fun w1 hw1=>R.load tg24 O (hw1.cells hc_s (fun h=>h) 7 _ O)) ?_)))))))
  refine Ds [16,17] (by kernel_rfl) O (zmf 18 O (by kernel_rfl) O O O (fun w1=>zlO tR24 ts72 O O ha_s (by omega)) (Ds [19] (by kernel_rfl) O (WD.take 20 O (by kernel_rfl) O O O hD (fun w1 hw1=>R.load tg24 O (hw1.cells hc_s (fun h=>h) 8 _ O)) (WD.call 7 O (by kernel_rfl) O O O (F.call (vs:=[_]) Tryz.call105 O) (qU s.term _ D _ (RTm.put (hk_s.ext zl hD)) (by omega)) ?_))))
  rintro _ wz2 ⟨rfl,hz2⟩
  replace hD:=hD.ext hz2
  refine⟨fun _=>hD,?_⟩
  refine Da [8] (by kernel_rfl) O (by omega) (WD.call 14 O (by kernel_rfl) O O O (F.call (vs:=[_]) Tryz.call104 O) ((ih s hm_s).1 _ D _ (ht_s.ext zc hD) (by omega)) ?_)
  rintro _ wz3 ⟨rfl,hz3⟩
  replace hD:=hD.ext hz3
  refine⟨fun _=>hD,?_⟩
  refine Da [15] (by kernel_rfl) O (by omega) (WD.call 21 O (by kernel_rfl) O O O (F.call (vs:=[_]) Tryz.call104 O) ((ih s hm_s).2 _ D _ (hs_s.ext zc hD) (by omega)) ?_)
  rintro _ wz4 ⟨rfl,hz4⟩
  replace hD:=hD.ext hz4
  refine⟨fun _=>hD,?_⟩
  refine Da [22,23] (by kernel_rfl) O (by omega) (G.done (by kernel_rfl) ?_ _)
  obtain⟨hl,hL1,hc_s,hk_s,ht_s,hs_s,hb_s⟩:=Tr7 hD hl hL1 hc_s hk_s ht_s hs_s hb_s
  refine Ga 7 O (by omega) (G.back (i+1) (Sub.cons O (Sub.cons (yr O (by rw[zaQ he_s];omega)) (Sub.of O))) (⟨by omega,hL1⟩) (by first | omega | (dsimp only;omega)))
 have:i=l.length:=by omega
 subst this
 refine Gs 12 O (zls Tryz.results104 O ⟨_,rfl,by rw[zoY],hL1⟩)
theorem zaZ (l:List St):∀ (v:Value) (D:Nat->Prop) (w:World),SlR 10 RSt D w v l->snodes l<=1000000->Calls Tryz.prog 107 #[v] w (Ret fun r w'=>r=.int .i64 (sdepth l)/\Ext w w'):=by
 induction l using zmB with
 | h l ih =>
 intro v D w hl hsz
 have hlen:=zck l
 obtain⟨ao,cap,rfl⟩:=hl.form
 refine zn1 Tryz.func107 O Tryz.ntmps107 O (Gs 17 O (G.loop (σ:=Nat) (fun i=>[(0,.slice ao l.length cap),(3,.int .i64 (sdepth (l.take i))),(4,.int .i64 i)]) (fun i=>fun w'=>i<=l.length/\Ext w w') (fun i=>l.length - i) (0) (Sub.of O) (⟨zp8 _,Keep.refl _ _⟩) ?_))
 rintro i w1 ⟨hi,hL1⟩
 replace hl:=Tr1 hL1 hl
 refine Gs 9 O (zlc O (fun hlt=>?_) (fun hge=>?_))
 .
  obtain⟨s,he_s,hm_s⟩:=gE_ l (i) (by omega)
  obtain⟨b_s,o_s,c_s,ha_s,_,hc_s,hR_s⟩:=hl.at he_s
  have h1_s:=RSt.one hR_s
  obtain⟨v1_s,v2_s,v3_s,v4_s,rfl,hk_s,ht_s,hs_s,hb_s⟩:=hR_s.get
  obtain⟨a1_s,n1_s,rfl⟩:=hk_s.form
  obtain⟨a2_s,n2_s,rfl⟩:=ht_s.form
  obtain⟨a3_s,n3_s,rfl⟩:=hs_s.form
  obtain⟨a4_s,n4_s,rfl⟩:=hb_s.form
  have hlt_s:b_s<_:=zoV _ _ (hc_s 0 _ rfl)
  have hsp:=xZ he_s
  have hse:=s.nodes_eq
  have htk:=zaR he_s
  have hde:=s.depth_eq
  have hd1:=qS s.thn
  have hd2:=qS s.els
  refine Gs 8 O (zmR O O (zlO tR24 ts72 O O ha_s (by omega)) (Gs 1 O (zmV O tg24 (hc_s 7 _ O) (G.call O Tryz.call107 ((ih s hm_s).1 _ D _ ht_s (by omega)) ?_))))
  rintro _ wz1 ⟨rfl,hz1⟩
  obtain⟨hl,hL1,hc_s,hk_s,ht_s,hs_s,hb_s⟩:=Tr7 hz1 hl hL1 hc_s hk_s ht_s hs_s hb_s
  refine Ga 8 O (by omega) (zmR O O (zlO tR24 ts72 O O ha_s (by omega)) (Gs 1 O (zmV O tg24 (hc_s 8 _ O) (G.call O Tryz.call107 ((ih s hm_s).2 _ D _ hs_s (by omega)) ?_))))
  rintro _ wz2 ⟨rfl,hz2⟩
  obtain⟨hl,hL1,hc_s,hk_s,ht_s,hs_s,hb_s⟩:=Tr7 hz2 hl hL1 hc_s hk_s ht_s hs_s hb_s
  refine Ga 12 O (by omega) (zlc O (fun h1=>?_) (fun h1=>?_))
  .
   refine Gs 12 O (zlc O (fun h2=>?_) (fun h2=>?_))
   . refine Ga 11 O (by omega) (G.back (i+1) (Sub.cons O (Sub.cons (yr O (by rw[htk];omega)) (Sub.of O))) (⟨by omega,hL1⟩) (by first | omega | (dsimp only;omega)))
   refine Ga 8 O (by omega) (G.back (i+1) (Sub.cons O (Sub.cons (yr O (by rw[htk];omega)) (Sub.of O))) (⟨by omega,hL1⟩) (by first | omega | (dsimp only;omega)))
  refine Gs 9 O (zlc O (fun h2=>?_) (fun h2=>?_))
  . refine Ga 11 O (by omega) (G.back (i+1) (Sub.cons O (Sub.cons (yr O (by rw[htk];omega)) (Sub.of O))) (⟨by omega,hL1⟩) (by first | omega | (dsimp only;omega)))
  refine Ga 8 O (by omega) (G.back (i+1) (Sub.cons O (Sub.cons (yr O (by rw[htk];omega)) (Sub.of O))) (⟨by omega,hL1⟩) (by first | omega | (dsimp only;omega)))
 have:i=l.length:=by omega
 subst this
 refine Gs 12 O (zls Tryz.results107 O ⟨_,rfl,by rw[zoY],hL1⟩)
theorem zb0 (l:List St):∀ (v:Value) (D:Nat->Prop) (w:World),SlR 10 RSt D w v l->snodes l<=1000000->Calls Tryz.prog 108 #[v] w (Ret fun r w'=>r=.bool (stdeep l)/\Ext w w'):=by
 induction l using zmB with
 | h l ih =>
 intro v D w hl hsz
 have hlen:=zck l
 obtain⟨ao,cap,rfl⟩:=hl.form
 refine zn1 Tryz.func108 O Tryz.ntmps108 O (Gs 12 O (G.loop (σ:=Nat) (fun i=>[(0,.slice ao l.length cap),(3,.int .i64 i)]) (fun i=>fun w'=>i<=l.length/\stdeep (l.take i)=false/\Ext w w') (fun i=>l.length - i) (0) (Sub.of O) (⟨zp8 _,rfl,Keep.refl _ _⟩) ?_))
 rintro i w1 ⟨hi,hno,hL1⟩
 replace hl:=Tr1 hL1 hl
 refine Gs 9 O (zlc O (fun hlt=>?_) (fun hge=>?_))
 .
  obtain⟨s,he_s,hm_s⟩:=gE_ l (i) (by omega)
  obtain⟨b_s,o_s,c_s,ha_s,_,hc_s,hR_s⟩:=hl.at he_s
  have h1_s:=RSt.one hR_s
  obtain⟨v1_s,v2_s,v3_s,v4_s,rfl,hk_s,ht_s,hs_s,hb_s⟩:=hR_s.get
  obtain⟨a1_s,n1_s,rfl⟩:=hk_s.form
  obtain⟨a2_s,n2_s,rfl⟩:=ht_s.form
  obtain⟨a3_s,n3_s,rfl⟩:=hs_s.form
  obtain⟨a4_s,n4_s,rfl⟩:=hb_s.form
  have hlt_s:b_s<_:=zoV _ _ (hc_s 0 _ rfl)
  have hsp:=xZ he_s
  have hse:=s.nodes_eq
  have htk:=zaS he_s
  rw[hno,zpC,s.tdeep_eq]at htk
  have hyes:(decide (12<s.term.depth) || stdeep s.thn || stdeep s.els)=true->stdeep l=true:=by
   intro h
   rw[ym he_s,qx]
   simp only[stdeep,s.tdeep_eq,h,zpM,zpJ]
  refine Gs 8 O (zmR O O (zlO tR24 ts72 O O ha_s (by omega)) (Gs 1 O (zmX O tg70 ts70 (hc_s.sub 4 3) O (G.call O Tryz.call106 (qV s.term _ D _ (RTm.put hk_s) (by omega)) ?_))))
  rintro _ wz1 ⟨rfl,hz1⟩
  obtain⟨hl,hL1,hc_s,hk_s,ht_s,hs_s,hb_s⟩:=Tr7 hz1 hl hL1 hc_s hk_s ht_s hs_s hb_s
  refine Gs 2 O (G.sp 17 O (fun h1=>?_) (fun h1=>?_))
  .
   have h1':decide (12<s.term.depth)=true:=zp5 (by omega)
   refine Gs 29 O (zls tr108 O ⟨_,rfl,by rw[hyes (by rw[h1'];rfl)],hL1⟩)
  have h1':decide (12<s.term.depth)=false:=zp6 (by omega)
  refine Gs 2 O (zmR O O (zlO tR24 ts72 O O ha_s (by omega)) (Gs 1 O (zmV O tg24 (hc_s 7 _ O) (G.call O Tryz.call108 ((ih s hm_s).1 _ D _ ht_s (by omega)) ?_))))
  rintro _ wz2 ⟨rfl,hz2⟩
  obtain⟨hl,hL1,hc_s,hk_s,ht_s,hs_s,hb_s⟩:=Tr7 hz2 hl hL1 hc_s hk_s ht_s hs_s hb_s
  refine Gs 2 O (zmP 25 O (fun h2=>?_) (fun h2=>?_))
  . refine Gs 21 O (zls tr108 O ⟨_,rfl,by rw[hyes (by rw[h2];simp)],hL1⟩)
  refine Gs 2 O (zmR O O (zlO tR24 ts72 O O ha_s (by omega)) (Gs 1 O (zmV O tg24 (hc_s 8 _ O) (G.call O Tryz.call108 ((ih s hm_s).2 _ D _ hs_s (by omega)) ?_))))
  rintro _ wz3 ⟨rfl,hz3⟩
  obtain⟨hl,hL1,hc_s,hk_s,ht_s,hs_s,hb_s⟩:=Tr7 hz3 hl hL1 hc_s hk_s ht_s hs_s hb_s
  refine Gs 3 O (G.bool O (fun h3=>?_) (fun h3=>?_))
  . refine Gs 11 O (zls tr108 O ⟨_,rfl,by rw[hyes (by rw[h3];simp)],hL1⟩)
  refine Ga 8 O (by omega) (G.back (i+1) (Sub.of O) (⟨by omega,by rw[htk,h1',h2,h3];rfl,hL1⟩) (by first | omega | (dsimp only;omega)))
 have:i=l.length:=by omega
 subst this
 rw[zoY]at hno
 refine Gs 11 O (zls tr108 O ⟨_,rfl,by rw[hno],hL1⟩)
theorem zR (a b:Int) (w:World):Calls Tryz.prog 113 #[.int .i64 a,.int .i64 b] w (Ret fun r w'=>r=.int .i64 (max a b)/\Ext w w'):=by
 refine zn2 Tryz.func113 O Tryz.ntmps113 O (Gs 13 O (zlc O (fun h=>?_) (fun h=>?_)))
 . refine Gs 8 O (zls Tryz.results113 O ⟨_,rfl,by rw[Int.max_eq_left (by omega)],Keep.refl _ _⟩)
 refine Gs 9 O (zls Tryz.results113 O ⟨_,rfl,by rw[Int.max_eq_right (by omega)],Keep.refl _ _⟩)
theorem zt (a b:Int) (w:World):Calls Tryz.prog 114 #[.int .i64 a,.int .i64 b] w (Ret fun r w'=>r=.int .i64 (min a b)/\Ext w w'):=by
 refine zn2 Tryz.func114 O Tryz.ntmps114 O (Gs 13 O (zlc O (fun h=>?_) (fun h=>?_)))
 . refine Gs 8 O (zls Tryz.results114 O ⟨_,rfl,by rw[Int.min_eq_left (by omega)],Keep.refl _ _⟩)
 refine Gs 9 O (zls Tryz.results114 O ⟨_,rfl,by rw[Int.min_eq_right (by omega)],Keep.refl _ _⟩)
def yY (n low high:Int):Int:=if n<low then low else if high<n then high else n
theorem zJ (p:Bool) (w:World):Calls Tryz.prog 131 #[.bool p] w (Ret fun r w'=>r=.int .i64 (if p then 1 else 0)/\Ext w w'):=by
 refine zn1 Tryz.func131 O Tryz.ntmps131 O (Gs 11 O (G.bool O (fun h=>?_) (fun h=>?_)))
 . refine Gs 7 O (zls Tryz.results131 O ⟨_,rfl,by rw[h];rfl,Keep.refl _ _⟩)
 refine Gs 8 O (zls Tryz.results131 O ⟨_,rfl,by rw[h];rfl,Keep.refl _ _⟩)
theorem zb1 (a:Int) (w:World) (ha:-4611686018427387904<=a):Calls Tryz.prog 182 #[.int .i64 a] w (Ret fun r w'=>r=.int .i64 (if a<0 then -a else a)/\Ext w w'):=by
 refine zn1 Tryz.func182 O Tryz.ntmps182 O (Gs 12 O (zlc O (fun h=>?_) (fun h=>?_)))
 . refine Ga 9 O (by omega) (zls Tryz.results182 O ⟨_,rfl,by rw[zp4 h],Keep.refl _ _⟩)
 refine Gs 9 O (zls Tryz.results182 O ⟨_,rfl,by rw[zp3 h],Keep.refl _ _⟩)
theorem zd6 (a b c:Int) (w:World) (hbc:b<=c):Calls Tryz.prog 132 #[.int .i64 a,.int .i64 b,.int .i64 c] w (Ret fun r w'=>r=.int .i64 (yY a b c)/\Ext w w'):=by
 refine zn3 Tryz.func132 O Tryz.ntmps132 O (Gs 16 O (zls Tryz.results132 O ⟨_,rfl,?_,Keep.refl _ _⟩))
 congr 1
 unfold yY
 split
 . omega
 split<;>omega
theorem zb2 (t:Tm):∀ (cs:List Value) (D:Nat->Prop) (w:World) (left:Int),RTm D w t cs -> -100000<=left->left<=1000000->Calls Tryz.prog 58 #[.agg cs.toArray,.int .i64 left] w (Ret fun r w'=>(∃ m:Int,r=.int .i64 m/\((t.nodes:Int)<=left->m=left - t.nodes)/\(¬ (t.nodes:Int)<=left->m<0/\min left 0 - 1<=m))/\Ext w w'):=by
 induction t using zmz with
 | h t ih =>
 intro cs D w left ht h1 h2
 have hse:=t.nodes_eq
 obtain⟨v,rfl,hk⟩:=ht.get
 have hmx:=hk.max
 obtain⟨ao,cap,rfl⟩:=hk.form
 have hE:=Keep.refl (fun _=>False) w
 refine zn2 Tryz.func58 O Tryz.ntmps58 O (Gs 2 O (zlY O O (M.box O O) ?_))
 rintro _ w_b ⟨b,rfl,hg_b,hs_b,hB_b,hk_b⟩
 have hge_b:_<=b:=zoZ hE.size (zri hg_b.symm)
 obtain⟨hE,hk⟩:=Tr2 hk_b hE hk
 refine Ga 17 O (by omega) (G.loop (σ:=Nat × Int) (fun⟨i,x⟩=>[(1,.int .i64 x),(2,.pointer (some ⟨b,0,none⟩)),(5,.int .i64 i)]) (fun⟨i,x⟩=>fun w'=>i<=t.kids.length/\((1+tnodes (t.kids.take i):Nat)<=left->x=left - (1+tnodes (t.kids.take i):Nat))/\(¬ ((1+tnodes (t.kids.take i):Nat):Int)<=left->x<0/\min left 0 - 1<=x)/\Ext w_b w') (fun⟨i,x⟩=>t.kids.length - i) ((0,left - 1)) (Sub.of O) (⟨zp8 _,fun _=>rfl,fun h=>by simp[tnodes]at h;omega,Keep.refl _ _⟩) ?_)
 rintro⟨i,x⟩ w1 ⟨hi,hy,hn,hL1⟩
 show G _ _ _ _ _ [(1,.int .i64 x),(2,.pointer (some ⟨b,0,none⟩)),(5,.int .i64 i)] _
 obtain⟨hE,hk,hB_b⟩:=Tr3 hL1 hE hk hB_b
 refine Gs 5 O (zmV O tg68 (hB_b.cells 2 _ O) (Gs 3 O ?_))
 have hend:(i=t.kids.length\/x<0)->((t.nodes:Int)<=left->x=left - t.nodes)/\(¬ (t.nodes:Int)<=left->x<0/\min left 0 - 1<=x):=by
  intro h
  have hle:tnodes (t.kids.take i)<=tnodes t.kids:=by
   have:=qv (t.kids.take i) (t.kids.drop i)
   rw[zr5]at this
   omega
  rcases h with h | h
  .
   rw[h,zoY]at hy hn
   constructor
   . intro h3;rw[hy (by omega)];omega
   intro h3;exact hn (by omega)
  constructor
  . intro h3;have:=hy (by omega);omega
  intro h3
  by_cases h4:((1+tnodes (t.kids.take i):Nat):Int)<=left
  . have:=hy h4;omega
  exact hn h4
 refine G.sp 13 O (fun hlt=>?_) (fun hlt=>?_)
 .
  refine Gs 5 O (zlc O (fun hx0=>?_) (fun hx0=>?_))
  .
   obtain⟨k,he_k,hm_k⟩:=gE_ t.kids (i) (by omega)
   obtain⟨b_k,o_k,c_k,ha_k,_,hc_k,hR_k⟩:=hk.at he_k
   have h1_k:=RTm.one hR_k
   obtain⟨v1_k,rfl,hk_k⟩:=hR_k.get
   obtain⟨a1_k,n1_k,rfl⟩:=hk_k.form
   have hlt_k:b_k<_:=zoV _ _ (hc_k 0 _ rfl)
   have hsp:=jD he_k
   refine Gs 6 O (zmV O tg68 (hB_b.cells 2 _ O) (Gs 1 O (zmR O O (zlO tR68 ts70 O O ha_k (by omega)) (zmX O tg70 ts70 hc_k O (Gs 1 O (G.call O Tryz.call58 (ih k hm_k _ D _ x (RTm.put hk_k) (by omega) (by by_cases h4:((1+tnodes (t.kids.take i):Nat):Int)<=left<;>first | (have:=hy h4;omega) | (have:=hn h4;omega))) ?_))))))
   rintro _ wz1 ⟨⟨m,rfl,hm1,hm2⟩,hz1⟩
   obtain⟨hE,hk,hB_b,hL1,hc_k,hk_k⟩:=Tr6 hz1 hE hk hB_b hL1 hc_k hk_k
   refine Ga 9 O (by omega) (G.back ((i+1,m)) (Sub.of O) (⟨by omega,?_,?_,hL1⟩) (by first | omega | (dsimp only;omega)))
   .
    intro h3
    rw[hsp]at h3 ⊢
    have:=hy (by omega)
    rw[hm1 (by omega)];omega
   intro h3
   rw[hsp]at h3
   by_cases h4:((1+tnodes (t.kids.take i):Nat):Int)<=left
   .
    have:=hy h4
    have:=hm2 (by omega)
    omega
   have:=hn h4;omega
  refine Gs 12 O (zls Tryz.results58 O ⟨_,rfl,⟨x,rfl,hend (.inr (by omega))⟩,hE⟩)
 refine Gs 18 O (zls Tryz.results58 O ⟨_,rfl,⟨x,rfl,hend (.inl (by omega))⟩,hE⟩)
theorem zd7 (l:List St):∀ (v:Value) (D:Nat->Prop) (w:World) (left:Int),SlR 10 RSt D w v l -> -10<=left->left<=1000000->Calls Tryz.prog 57 #[v,.int .i64 left] w (Ret fun r w'=>(∃ m:Int,r=.int .i64 m/\((sbulk l:Int)<=left->m=left - sbulk l)/\(¬ (sbulk l:Int)<=left->m<0/\min left (-1)<=m))/\Ext w w'):=by
 induction l using zmB with
 | h l ih =>
 intro v D w left hl h1 h2
 have hmx:=hl.max
 obtain⟨ao,cap,rfl⟩:=hl.form
 refine zn2 Tryz.func57 O Tryz.ntmps57 O (Gs 12 O (G.loop (σ:=Nat × Int) (fun⟨i,x⟩=>[(0,.slice ao l.length cap),(1,.int .i64 x),(5,.int .i64 i)]) (fun⟨i,x⟩=>fun w'=>i<=l.length/\((sbulk (l.take i):Int)<=left->x=left - sbulk (l.take i))/\(¬ (sbulk (l.take i):Int)<=left->x<0/\min left (-1)<=x)/\Ext w w') (fun⟨i,x⟩=>l.length - i) ((0,left)) (Sub.of O) (⟨zp8 _,fun _=>by simp[sbulk],fun h=>by simp[sbulk]at h;omega,Keep.refl _ _⟩) ?_))
 rintro⟨i,x⟩ w1 ⟨hi,hy,hn,hL1⟩
 show G _ _ _ _ _ [(0,.slice ao l.length cap),(1,.int .i64 x),(5,.int .i64 i)] _
 replace hl:=Tr1 hL1 hl
 have hend:(i=l.length\/x<0)->((sbulk l:Int)<=left->x=left - sbulk l)/\(¬ (sbulk l:Int)<=left->x<0/\min left (-1)<=x):=by
  intro h
  have hle:sbulk (l.take i)<=sbulk l:=by
   have:=xY (l.take i) (l.drop i)
   rw[zr5]at this
   omega
  rcases h with h | h
  .
   rw[h,zoY]at hy hn
   exact⟨hy,hn⟩
  constructor
  . intro h3;have:=hy (by omega);omega
  intro h3
  by_cases h4:(sbulk (l.take i):Int)<=left
  . have:=hy h4;omega
  exact hn h4
 refine Gs 8 O (G.sp 10 O (fun hlt=>?_) (fun hlt=>?_))
 .
  refine Gs 5 O (zlc O (fun hx0=>?_) (fun hx0=>?_))
  .
   obtain⟨s,he_s,hm_s⟩:=gE_ l (i) (by omega)
   obtain⟨b_s,o_s,c_s,ha_s,_,hc_s,hR_s⟩:=hl.at he_s
   have h1_s:=RSt.one hR_s
   obtain⟨v1_s,v2_s,v3_s,v4_s,rfl,hk_s,ht_s,hs_s,hb_s⟩:=hR_s.get
   obtain⟨a1_s,n1_s,rfl⟩:=hk_s.form
   obtain⟨a2_s,n2_s,rfl⟩:=ht_s.form
   obtain⟨a3_s,n3_s,rfl⟩:=hs_s.form
   obtain⟨a4_s,n4_s,rfl⟩:=hb_s.form
   have hlt_s:b_s<_:=zoV _ _ (hc_s 0 _ rfl)
   have hsp:=zf8 he_s
   have hss:=zdR he_s
   have hbe:=s.bulk_eq
   have hyes:(sbulk (l.take i):Int)<=left/\x=left - sbulk (l.take i):=by
    by_cases h4:(sbulk (l.take i):Int)<=left
    . exact⟨h4,hy h4⟩
    have:=hn h4;omega
   have hbm:=hb_s.max
   refine Gs 8 O (zmR O O (zlO tR24 ts72 O O ha_s (by omega)) (Gs 1 O (zmX O tg70 ts70 (hc_s.sub 4 3) O (Ga 2 O (by omega) (G.call O Tryz.call58 (zb2 s.term _ D _ (x - 1) (RTm.put hk_s) (by omega) (by omega)) ?_)))))
   rintro _ wz1 ⟨⟨m1,rfl,hm1,hm2⟩,hz1⟩
   obtain⟨hl,hL1,hc_s,hk_s,ht_s,hs_s,hb_s⟩:=Tr7 hz1 hl hL1 hc_s hk_s ht_s hs_s hb_s
   refine Gs 9 O (zmR O O (zlO tR24 ts72 O O ha_s (by omega)) (Gs 1 O (zmV O tg27 (hc_s 9 _ O) (Gs 4 O (zlc O (fun hb=>?_) (fun hb=>?_))))))
   .
    refine Gs 12 O (zls Tryz.results57 O ⟨_,rfl,⟨-1,rfl,fun h3=>?_,fun h3=>by omega⟩,hL1⟩)
    by_cases h5:(s.term.nodes:Int)<=x - 1
    . have:=hm1 h5;omega
    omega
   have h5:(s.term.nodes:Int)<=x - 1:=by
    by_cases h5:(s.term.nodes:Int)<=x - 1
    . exact h5
    have:=hm2 h5;omega
   have hm:=hm1 h5
   refine Gs 2 O (Dw (fun q=>Ext wz1 q) [] (fun wd2 hD _=>?_))
   refine Ds [0,1] (by kernel_rfl) O (zmf 2 O (by kernel_rfl) O O O (fun w1=>zlO tR24 ts72 O O ha_s (by omega)) (Ds [3] (by kernel_rfl) O (WD.take 4 O (by kernel_rfl) O O O hD (fun w1 hw1=>R.load tg24 O (hw1.cells hc_s (fun h=>h) 8 _ O)) (Ds [5,6] (by kernel_rfl) O (zmf 7 O (by kernel_rfl) O O O (fun w1=>zlO tR24 ts72 O O ha_s (by omega)) (Ds [8] (by kernel_rfl) O (WD.take 9 O (by kernel_rfl) O O O hD (fun w1 hw1=>R.load tg24 O (hw1.cells hc_s (fun h=>h) 7 _ O)) ?_)))))))
   refine Ds [10,11,12] (by kernel_rfl) O (zmf 13 O (by kernel_rfl) O O O (fun w1=>zlO tR24 ts72 O O ha_s (by omega)) (Ds [14] (by kernel_rfl) O (WD.take 15 O (by kernel_rfl) O O O hD (fun w1 hw1=>R.load tg27 O (hw1.cells hc_s (fun h=>h) 9 _ O)) (Da [16,17] (by kernel_rfl) O (by omega) (WD.call 18 O (by kernel_rfl) O O O (F.call (vs:=[_,_]) Tryz.call57 O) ((ih s hm_s).1 _ D _ (m1 - s.bounds.length) (ht_s.ext zc hD) (by omega) (by omega)) ?_)))))
   rintro _ wz3 ⟨⟨m2,rfl,h6,h7⟩,hz3⟩
   replace hD:=hD.ext hz3
   refine⟨fun _=>hD,?_⟩
   refine WD.call 19 O (by kernel_rfl) O O O (F.call (vs:=[_,_]) Tryz.call57 O) ((ih s hm_s).2 _ D _ m2 (hs_s.ext zc hD) (by by_cases h:(sbulk s.thn:Int)<=m1 - s.bounds.length<;>first | (have:=h6 h;omega) | (have:=h7 h;omega)) (by by_cases h:(sbulk s.thn:Int)<=m1 - s.bounds.length<;>first | (have:=h6 h;omega) | (have:=h7 h;omega))) ?_
   rintro _ wz4 ⟨⟨m3,rfl,h8,h9⟩,hz4⟩
   replace hD:=hD.ext hz4
   refine⟨fun _=>hD,?_⟩
   refine Ds [20] (by kernel_rfl) O (G.done (by kernel_rfl) ?_ _)
   obtain⟨hl,hL1,hc_s,hk_s,ht_s,hs_s,hb_s⟩:=Tr7 hD hl hL1 hc_s hk_s ht_s hs_s hb_s
   refine Ga 7 O (by omega) (G.back ((i+1,m3)) (Sub.of O) (⟨by omega,?_,?_,hL1⟩) (by first | omega | (dsimp only;omega)))
   .
    intro h3
    rw[hsp]at h3 ⊢
    have:=h6 (by omega)
    rw[h8 (by omega)];omega
   intro h3
   rw[hsp]at h3
   by_cases h:(sbulk s.thn:Int)<=m1 - s.bounds.length
   .
    have:=h6 h
    by_cases h':(sbulk s.els:Int)<=m2
    . have:=h8 h';omega
    have:=h9 h';omega
   have:=h7 h
   by_cases h':(sbulk s.els:Int)<=m2
   . omega
   have:=h9 h';omega
  refine Gs 12 O (zls Tryz.results57 O ⟨_,rfl,⟨x,rfl,hend (.inr (by omega))⟩,hL1⟩)
 refine Gs 18 O (zls Tryz.results57 O ⟨_,rfl,⟨x,rfl,hend (.inl (by omega))⟩,hL1⟩)
theorem zhQ (f:Fl) (a b:Int) (v1 v2 v3:Value) (D:Nat->Prop) (w:World) (h:RFl D w f v1 v2 v3) (hb:0<=b/\b<=1000000) (ha:a<=1000):Calls Tryz.prog 28 #[.agg #[v1,v2,v3],.int .i64 a,.int .i64 b] w (Ret fun r w'=>r=.bool (decide ((f.vars.length:Int)<=a/\(f.hatches.length:Int)<=a/\((sbulk f.body+zA f.hatches:Nat):Int)<=b))/\Ext w w'):=by
 obtain⟨hv,hh,hbd⟩:=h
 obtain⟨a1,n1,rfl⟩:=hv.form
 obtain⟨a2,n2,rfl⟩:=hh.form
 obtain⟨a3,n3,rfl⟩:=hbd.form
 have hmx:=hh.max
 have hE:=Keep.refl (fun _=>False) w
 refine zn3 Tryz.func28 O Tryz.ntmps28 O (Gs 2 O (zlY O O (M.box O O) ?_))
 rintro _ w_g ⟨g,rfl,hg_g,hs_g,hB_g,hk_g⟩
 have hge_g:_<=g:=zoZ hE.size (zri hg_g.symm)
 obtain⟨hE,hh,hbd⟩:=Tr3 hk_g hE hh hbd
 refine Gs 7 O (zmV O tg22 (hB_g.cells 0 _ O) (Gs 4 O (G.sp 15 O (fun h1=>?_) (fun h1=>?_))))
 . refine Gs 16 O (zls Tryz.results28 O ⟨_,rfl,by rw[zp6 (by omega)],hE⟩)
 refine Gs 1 O (zmV O tg23 (hB_g.cells 1 _ O) (Gs 6 O (zlc O (fun h2=>?_) (fun h2=>?_))))
 . refine Gs 7 O (zls Tryz.results28 O ⟨_,rfl,by rw[zp6 (by omega)],hE⟩)
 refine Gs 5 O (zmV O tg24 (hB_g.cells 2 _ O) (Gs 1 O (G.call O Tryz.call57 (zd7 f.body _ D _ b hbd (by omega) (by omega)) ?_)))
 rintro _ wz1 ⟨⟨m,rfl,hm1,hm2⟩,hz1⟩
 obtain⟨hE,hh,hbd,hB_g⟩:=Tr4 hz1 hE hh hbd hB_g
 refine Gs 7 O (zmV O tg23 (hB_g.cells 1 _ O) (Gs 5 O (G.loop (σ:=Nat × Int) (fun⟨i,x⟩=>[(7,.int .i64 x),(27,.slice a2 f.hatches.length n2),(28,.int .i64 f.hatches.length),(29,.int .i64 i)]) (fun⟨i,x⟩=>fun w'=>i<=f.hatches.length/\(((sbulk f.body+zA (f.hatches.take i):Nat):Int)<=b->x=b - (sbulk f.body+zA (f.hatches.take i):Nat))/\(¬ ((sbulk f.body+zA (f.hatches.take i):Nat):Int)<=b->x<0 /\ -1 - (i:Int)<=x)/\Ext wz1 w') (fun⟨i,x⟩=>f.hatches.length - i) ((0,m)) (Sub.of O) (⟨zp8 _,fun h=>by simp[zA]at h ⊢;omega,fun h=>by simp[zA]at h ⊢;omega,Keep.refl _ _⟩) ?_)))
 rintro⟨i,x⟩ w1 ⟨hi,hy,hn,hL1⟩
 show G _ _ _ _ _ [(7,.int .i64 x),(27,.slice a2 f.hatches.length n2),(28,.int .i64 f.hatches.length),(29,.int .i64 i)] _
 obtain⟨hE,hh,hbd,hB_g⟩:=Tr4 hL1 hE hh hbd hB_g
 refine Gs 6 O (zlc O (fun hlt=>?_) (fun hlt=>?_))
 .
  obtain⟨e,he_e,hm_e⟩:=gE_ f.hatches (i) (by omega)
  obtain⟨b_e,o_e,c_e,ha_e,_,hc_e,hR_e⟩:=hh.at he_e
  have h1_e:=RHt.one hR_e
  obtain⟨v1_e,rfl,hk_e⟩:=hR_e
  obtain⟨a1_e,n1_e,rfl⟩:=hk_e.form
  have hlt_e:b_e<_:=zoV _ _ (hc_e 0 _ rfl)
  have hsp:=jE he_e
  refine Gs 6 O (zmR O O (zlO tR23 ts109 O O ha_e (by omega)) (zmX O tg109 ts109 hc_e O (zlY O O (M.alloc (cs:=_) tz109 O) ?_)))
  rintro _ wa2 ⟨c,rfl,hg_c,hs_c,hB_c,hk_c⟩
  refine zm3 O (zm4 ts109 O O O O h1_e hB_c (by simp)) ?_
  rintro w_c ⟨_,hB_c,hkk_c⟩
  replace hk_c:=hk_c.trans hkk_c (fun q hq h=>by have h:q=c:=h;omega)
  have hn_g_c:g ≠ c:=by have:=hB_g.lt;omega
  have hge_c:_<=c:=zoZ hE.size (zri hg_c.symm)
  obtain⟨hE,hh,hbd,hB_g,hL1,hc_e,hk_e⟩:=Tr7 hk_c hE hh hbd hB_g hL1 hc_e hk_e
  refine Gs 4 O (zmX O tg70 ts70 (hB_c.cells.sub 3 3) O (Gs 1 O (G.call O Tryz.call58 (zb2 e.term _ D _ x (RTm.put hk_e) (by by_cases h4:((sbulk f.body+zA (f.hatches.take i):Nat):Int)<=b<;>first | (have:=hy h4;omega) | (have:=hn h4;omega)) (by by_cases h4:((sbulk f.body+zA (f.hatches.take i):Nat):Int)<=b<;>first | (have:=hy h4;omega) | (have:=hn h4;omega))) ?_)))
  rintro _ wz3 ⟨⟨m2,rfl,h6,h7⟩,hz3⟩
  obtain⟨hE,hh,hbd,hB_g,hL1,hc_e,hk_e⟩:=Tr7 hz3 hE hh hbd hB_g hL1 hc_e hk_e
  replace hB_c:=Tr1 hz3 hB_c
  refine Ga 8 O (by omega) (G.back ((i+1,m2)) (Sub.of O) (⟨by omega,?_,?_,hL1⟩) (by first | omega | (dsimp only;omega)))
  .
   intro h3
   rw[hsp]at h3 ⊢
   have:=hy (by omega)
   rw[h6 (by omega)];omega
  intro h3
  rw[hsp]at h3
  by_cases h4:((sbulk f.body+zA (f.hatches.take i):Nat):Int)<=b
  .
   have:=hy h4
   have:=h7 (by omega)
   omega
  have:=hn h4
  have:=h7 (by omega)
  omega
 have:i=f.hatches.length:=by omega
 subst this
 rw[zoY]at hy hn
 refine Gs 13 O (zls Tryz.results28 O ⟨_,rfl,?_,hE⟩)
 congr 1
 by_cases h4:((sbulk f.body+zA f.hatches:Nat):Int)<=b
 . rw[zp5 (by have:=hy h4;omega),zp5 (by omega)]
 rw[zp6 (by have:=hn h4;omega),zp6 (by omega)]
def zm (op:Int):Int:=if op=0\/op=24 then 0 else if op=6\/op=7 then 1 else if 8<=op/\op<=22 then 2 else if op=23 then 3 else if op=25 then -2 else -1
theorem zf9 (op:Int) (w:World):Calls Tryz.prog 150 #[.int .i64 op] w (Ret fun r w'=>r=.int .i64 (zm op)/\Ext w w'):=by
 refine zn1 Tryz.func150 O Tryz.ntmps150 O (Gs 19 O (zlc O (fun k0=>?_) (fun k0=>?_)))
 . refine Gs 11 O (zls tr150 O ⟨_,rfl,by unfold zm;repeat (first | rw[zp4 (by omega)] | rw[zp3 (by omega)]),Keep.refl _ _⟩)
 refine Gs 5 O (zlc O (fun k24=>?_) (fun k24=>?_))
 . refine Gs 8 O (zls tr150 O ⟨_,rfl,by unfold zm;repeat (first | rw[zp4 (by omega)] | rw[zp3 (by omega)]),Keep.refl _ _⟩)
 refine Gs 7 O (zlc O (fun k6=>?_) (fun k6=>?_))
 . refine Gs 11 O (zls tr150 O ⟨_,rfl,by unfold zm;repeat (first | rw[zp4 (by omega)] | rw[zp3 (by omega)]),Keep.refl _ _⟩)
 refine Gs 5 O (zlc O (fun k7=>?_) (fun k7=>?_))
 . refine Gs 8 O (zls tr150 O ⟨_,rfl,by unfold zm;repeat (first | rw[zp4 (by omega)] | rw[zp3 (by omega)]),Keep.refl _ _⟩)
 refine Gs 7 O (zlc O (fun k8=>?_) (fun k8=>?_))
 . refine Gs 11 O (zls tr150 O ⟨_,rfl,by unfold zm;repeat (first | rw[zp4 (by omega)] | rw[zp3 (by omega)]),Keep.refl _ _⟩)
 refine Gs 6 O (zlc O (fun k9=>?_) (fun k9=>?_))
 . refine Gs 11 O (zls tr150 O ⟨_,rfl,by unfold zm;repeat (first | rw[zp4 (by omega)] | rw[zp3 (by omega)]),Keep.refl _ _⟩)
 refine Gs 6 O (zlc O (fun k10=>?_) (fun k10=>?_))
 . refine Gs 11 O (zls tr150 O ⟨_,rfl,by unfold zm;repeat (first | rw[zp4 (by omega)] | rw[zp3 (by omega)]),Keep.refl _ _⟩)
 refine Gs 6 O (zlc O (fun k11=>?_) (fun k11=>?_))
 . refine Gs 11 O (zls tr150 O ⟨_,rfl,by unfold zm;repeat (first | rw[zp4 (by omega)] | rw[zp3 (by omega)]),Keep.refl _ _⟩)
 refine Gs 6 O (zlc O (fun k12=>?_) (fun k12=>?_))
 . refine Gs 11 O (zls tr150 O ⟨_,rfl,by unfold zm;repeat (first | rw[zp4 (by omega)] | rw[zp3 (by omega)]),Keep.refl _ _⟩)
 refine Gs 6 O (zlc O (fun k13=>?_) (fun k13=>?_))
 . refine Gs 11 O (zls tr150 O ⟨_,rfl,by unfold zm;repeat (first | rw[zp4 (by omega)] | rw[zp3 (by omega)]),Keep.refl _ _⟩)
 refine Gs 6 O (zlc O (fun k14=>?_) (fun k14=>?_))
 . refine Gs 11 O (zls tr150 O ⟨_,rfl,by unfold zm;repeat (first | rw[zp4 (by omega)] | rw[zp3 (by omega)]),Keep.refl _ _⟩)
 refine Gs 6 O (zlc O (fun k15=>?_) (fun k15=>?_))
 . refine Gs 11 O (zls tr150 O ⟨_,rfl,by unfold zm;repeat (first | rw[zp4 (by omega)] | rw[zp3 (by omega)]),Keep.refl _ _⟩)
 refine Gs 6 O (zlc O (fun k16=>?_) (fun k16=>?_))
 . refine Gs 11 O (zls tr150 O ⟨_,rfl,by unfold zm;repeat (first | rw[zp4 (by omega)] | rw[zp3 (by omega)]),Keep.refl _ _⟩)
 refine Gs 6 O (zlc O (fun k17=>?_) (fun k17=>?_))
 . refine Gs 11 O (zls tr150 O ⟨_,rfl,by unfold zm;repeat (first | rw[zp4 (by omega)] | rw[zp3 (by omega)]),Keep.refl _ _⟩)
 refine Gs 6 O (zlc O (fun k18=>?_) (fun k18=>?_))
 . refine Gs 11 O (zls tr150 O ⟨_,rfl,by unfold zm;repeat (first | rw[zp4 (by omega)] | rw[zp3 (by omega)]),Keep.refl _ _⟩)
 refine Gs 6 O (zlc O (fun k19=>?_) (fun k19=>?_))
 . refine Gs 11 O (zls tr150 O ⟨_,rfl,by unfold zm;repeat (first | rw[zp4 (by omega)] | rw[zp3 (by omega)]),Keep.refl _ _⟩)
 refine Gs 6 O (zlc O (fun k20=>?_) (fun k20=>?_))
 . refine Gs 11 O (zls tr150 O ⟨_,rfl,by unfold zm;repeat (first | rw[zp4 (by omega)] | rw[zp3 (by omega)]),Keep.refl _ _⟩)
 refine Gs 6 O (zlc O (fun k21=>?_) (fun k21=>?_))
 . refine Gs 11 O (zls tr150 O ⟨_,rfl,by unfold zm;repeat (first | rw[zp4 (by omega)] | rw[zp3 (by omega)]),Keep.refl _ _⟩)
 refine Gs 5 O (zlc O (fun k22=>?_) (fun k22=>?_))
 . refine Gs 8 O (zls tr150 O ⟨_,rfl,by unfold zm;repeat (first | rw[zp4 (by omega)] | rw[zp3 (by omega)]),Keep.refl _ _⟩)
 refine Gs 6 O (zlc O (fun k23=>?_) (fun k23=>?_))
 . refine Gs 8 O (zls tr150 O ⟨_,rfl,by unfold zm;repeat (first | rw[zp4 (by omega)] | rw[zp3 (by omega)]),Keep.refl _ _⟩)
 refine Gs 6 O (zlc O (fun k25=>?_) (fun k25=>?_))
 . refine Gs 8 O (zls tr150 O ⟨_,rfl,by unfold zm;repeat (first | rw[zp4 (by omega)] | rw[zp3 (by omega)]),Keep.refl _ _⟩)
 refine Gs 9 O (zls tr150 O ⟨_,rfl,by unfold zm;repeat (first | rw[zp4 (by omega)] | rw[zp3 (by omega)]),Keep.refl _ _⟩)
theorem zdW (op:Int) (w:World):Calls Tryz.prog 128 #[.int .i64 op] w (Ret fun r w'=>(∃ a b:Int,r=.tuple #[.int .i64 a,.int .i64 b]/\(a<0 ↔ zm op=-1)/\(0<=zm op->a=zm op/\b=zm op)/\(zm op=-2->a=2/\b=33))/\Ext w w'):=by
 refine zn1 Tryz.func128 O Tryz.ntmps128 O (Gs 13 O (G.sp 7 O (fun h1=>?_) (fun h1=>?_)))
 .
  refine Gs 16 O ?_
  have e:zm op=0:=by unfold zm;rw[zp4 (by omega)]
  refine zlv tr128 O O ⟨_,rfl,⟨0,0,rfl,by rw[e];omega,fun _=>by rw[e];exact⟨rfl,rfl⟩,fun h=>by rw[e]at h;omega⟩,Keep.refl _ _⟩
 refine Gs 6 O (zlc O (fun h2=>?_) (fun h2=>?_))
 .
  refine Gs 9 O ?_
  have e:zm op=0:=by unfold zm;rw[zp4 (by omega)]
  refine zlv tr128 O O ⟨_,rfl,⟨0,0,rfl,by rw[e];omega,fun _=>by rw[e];exact⟨rfl,rfl⟩,fun h=>by rw[e]at h;omega⟩,Keep.refl _ _⟩
 refine Gs 5 O (G.sp 14 O (fun h3=>?_) (fun h3=>?_))
 .
  refine Gs 16 O ?_
  have e:zm op=1:=by unfold zm;rw[zp3 (by omega),zp4 (by omega)]
  refine zlv tr128 O O ⟨_,rfl,⟨1,1,rfl,by rw[e];omega,fun _=>by rw[e];exact⟨rfl,rfl⟩,fun h=>by rw[e]at h;omega⟩,Keep.refl _ _⟩
 refine Gs 6 O (zlc O (fun h4=>?_) (fun h4=>?_))
 .
  refine Gs 9 O ?_
  have e:zm op=1:=by unfold zm;rw[zp3 (by omega),zp4 (by omega)]
  refine zlv tr128 O O ⟨_,rfl,⟨1,1,rfl,by rw[e];omega,fun _=>by rw[e];exact⟨rfl,rfl⟩,fun h=>by rw[e]at h;omega⟩,Keep.refl _ _⟩
 refine Gs 1 O (zln (σ:=Bool) (fun q=>[(0,.int .i64 op),(18,.bool q)]) (fun q=>fun w'=>(q=true ↔ 8<=op/\op<=22)/\w'=w) ?_ ?_)
 .
  refine Gs 4 O (G.sp 21 O (fun h5=>?_) (fun h5=>?_))
  . refine Gs 5 O (zlp (decide (op<=22)) (Sub.of O) (⟨by simp;omega,rfl⟩))
  refine Gs 5 O (zlp (false) (Sub.cons O (Sub.cons (by first | rfl | (show some (Value.bool false)=some (Value.bool _);simp[*])) Sub.nil)) (⟨by simp;omega,rfl⟩))
 rintro q w1 ⟨hq,hw1⟩
 subst hw1
 refine Gs 1 O (G.bool O (fun h6=>?_) (fun h6=>?_))
 .
  have h7:=hq.1 h6
  refine Gs 9 O ?_
  have e:zm op=2:=by unfold zm;rw[zp3 (by omega),zp3 (by omega),zp4 (by omega)]
  refine zlv tr128 O O ⟨_,rfl,⟨2,2,rfl,by rw[e];omega,fun _=>by rw[e];exact⟨rfl,rfl⟩,fun h=>by rw[e]at h;omega⟩,Keep.refl _ _⟩
 have h7:¬ (8<=op/\op<=22):=fun h=>by rw[hq.2 h]at h6;cases h6
 refine Gs 7 O (zlc O (fun h8=>?_) (fun h8=>?_))
 .
  refine Gs 9 O ?_
  have e:zm op=3:=by unfold zm;rw[zp3 (by omega),zp3 (by omega),zp3 (by omega),zp4 (by omega)]
  refine zlv tr128 O O ⟨_,rfl,⟨3,3,rfl,by rw[e];omega,fun _=>by rw[e];exact⟨rfl,rfl⟩,fun h=>by rw[e]at h;omega⟩,Keep.refl _ _⟩
 refine Gs 7 O (zlc O (fun h9=>?_) (fun h9=>?_))
 .
  refine Gs 9 O ?_
  have e:zm op=-2:=by unfold zm;rw[zp3 (by omega),zp3 (by omega),zp3 (by omega),zp3 (by omega),zp4 (by omega)]
  refine zlv tr128 O O ⟨_,rfl,⟨2,33,rfl,by rw[e];omega,fun h=>by rw[e]at h;omega,fun _=>⟨rfl,rfl⟩⟩,Keep.refl _ _⟩
 refine Gs 10 O ?_
 have e:zm op=-1:=by unfold zm;rw[zp3 (by omega),zp3 (by omega),zp3 (by omega),zp3 (by omega),zp3 (by omega)]
 refine zlv tr128 O O ⟨_,rfl,⟨-1,-1,rfl,by rw[e];omega,fun h=>by rw[e]at h;omega,fun h=>by rw[e]at h;omega⟩,Keep.refl _ _⟩
@[irreducible] def xv (n:Int):Bool:=decide (97<=n/\n<=122)
@[irreducible] def yG (n:Int):Bool:=decide (48<=n/\n<=57\/n=46\/n=95)
def okB (i:Nat) (n:Int):Bool:=xv n || (decide (i ≠ 0)&&yG n)
@[irreducible] def zb3 (s:ByteArray):Bool:=decide (1<=s.size/\s.size<=40/\∀ (i:Nat) (h:i<s.size),okB i (s[i].toNat:Int)=true)
theorem za8 (s:ByteArray) (w:World):Calls Tryz.prog 61 #[.string s] w (Ret fun r w'=>r=.bool (zb3 s)/\Ext w w'):=by
 refine zn1 Tryz.func61 O Tryz.ntmps61 O (Gs 12 O (G.sp 10 O (fun h1=>?_) (fun h1=>?_)))
 . refine Gs 14 O (zls tr61 O ⟨_,rfl,by rw[zb3,zp6 (fun h=>by omega)],Keep.refl _ _⟩)
 refine Gs 6 O (zlc O (fun h2=>?_) (fun h2=>?_))
 . refine Gs 7 O (zls tr61 O ⟨_,rfl,by rw[zb3,zp6 (fun h=>by omega)],Keep.refl _ _⟩)
 refine Gs 9 O (G.loop (σ:=Nat) (fun i=>[(0,.string s),(3,.int .i64 i)]) (fun i=>fun w'=>i<=s.size/\(∀ (j:Nat) (h:j<s.size),j<i->okB j (s[j].toNat:Int)=true)/\w'=w) (fun i=>s.size - i) (0) (Sub.of O) (⟨zp8 _,fun j _ h=>absurd h (zrn _),rfl⟩) ?_)
 rintro i w1 ⟨hi,hall,hw1⟩
 subst hw1
 refine Gs 9 O (zlc O (fun hlt=>?_) (fun hlt=>?_))
 .
  have hlt':i<s.size:=by omega
  refine Gs 8 O (zmR O O (zmw tu9 O O i O hlt') ?_)
  obtain⟨n,hn⟩:∃ n:Int,n=(s[i].toNat:Int):=⟨_,rfl⟩
  rw[<- hn]
  refine Gs 4 O (zln (σ:=Bool) (fun q=>[(0,.string s),(3,.int .i64 i),(4,.int .u8 n),(5,.bool q)]) (fun q=>fun w'=>q=xv n/\w'=w1) ?_ ?_)
  .
   refine Gs 4 O (G.sp 26 O (fun a=>?_) (fun a=>?_))
   . refine Gs 5 O (zlp (decide (n<=122)) (Sub.of O) (⟨by unfold xv;congr 1;simp;omega,rfl⟩))
   refine Gs 5 O (zlp (false) (Sub.cons O (Sub.cons O (Sub.cons O (Sub.cons (by first | rfl | (show some (Value.bool false)=some (Value.bool _);simp[*])) Sub.nil)))) (⟨by unfold xv;rw[zp6 (by omega)],rfl⟩))
  rintro q w2 ⟨hq,hw2⟩
  subst hq
  refine Gs 2 O (zln (σ:=Bool) (fun q=>[(0,.string s),(3,.int .i64 i),(5,.bool (xv n)),(6,.bool q)]) (fun q=>fun w'=>q=yG n/\w'=w2) ?_ ?_)
  .
   refine Gs 4 O (G.sp 32 O (fun a=>?_) (fun a=>?_))
   .
    refine Gs 4 O (G.sp 36 O (fun b=>?_) (fun b=>?_))
    . refine Gs 9 O (zlp (true) (Sub.cons O (Sub.cons O (Sub.cons O (Sub.cons (by first | rfl | (show some (Value.bool true)=some (Value.bool _);simp[*])) Sub.nil)))) (⟨by unfold yG;rw[zp5 (by omega)],rfl⟩))
    refine Gs 4 O (G.sp 40 O (fun c=>?_) (fun c=>?_))
    . refine Gs 5 O (zlp (true) (Sub.cons O (Sub.cons O (Sub.cons O (Sub.cons (by first | rfl | (show some (Value.bool true)=some (Value.bool _);simp[*])) Sub.nil)))) (⟨by unfold yG;rw[zp5 (by omega)],rfl⟩))
    refine Gs 5 O (zlp (decide (n=95)) (Sub.of O) (⟨by unfold yG;congr 1;simp;omega,rfl⟩))
   refine Gs 8 O (G.sp 40 O (fun c=>?_) (fun c=>?_))
   . refine Gs 5 O (zlp (true) (Sub.cons O (Sub.cons O (Sub.cons O (Sub.cons (by first | rfl | (show some (Value.bool true)=some (Value.bool _);simp[*])) Sub.nil)))) (⟨by unfold yG;rw[zp5 (by omega)],rfl⟩))
   refine Gs 5 O (zlp (decide (n=95)) (Sub.of O) (⟨by unfold yG;congr 1;simp;omega,rfl⟩))
  rintro q w3 ⟨hq,hw3⟩
  subst hq
  have hstep:okB i n=true->∀ (j:Nat) (h:j<s.size),j<i+1->okB j (s[j].toNat:Int)=true:=by
   intro h0 j h h1
   by_cases e:j=i
   . subst e;rw[<- hn];exact h0
   exact hall j h (by omega)
  have hbad:okB i n=false->zb3 s=false:=by
   intro h0
   rw[zb3,zp6]
   rintro⟨_,_,h3⟩
   have:=h3 i hlt'
   rw[<- hn,h0]at this
   cases this
  have hw:w3=w1:=by rw[hw3,hw2]
  refine Gs 4 O (zmR O O (zms O (by first | exact za | rfl)) (Gs 1 O (zmP 46 O (fun l=>?_) (fun l=>?_))))
  .
   have l':xv n=false:=by simpa using l
   refine Gs 3 O (G.sp 49 O (fun z=>?_) (fun z=>?_))
   . refine Gs 18 O (zls tr61 O ⟨_,rfl,by rw[hbad (by unfold okB;rw[l',zp6 (by omega)];rfl)],by rw[hw];exact Keep.refl _ _⟩)
   have z':decide (i ≠ 0)=true:=zp5 (by omega)
   refine Gs 1 O (zmR O O (zms O (by first | exact za | rfl)) (Gs 4 O (G.bool O (fun o=>?_) (fun o=>?_))))
   .
    have o':yG n=false:=by simpa using o
    refine Gs 11 O (zls tr61 O ⟨_,rfl,by rw[hbad (by unfold okB;rw[l',o'];simp)],by rw[hw];exact Keep.refl _ _⟩)
   have o':yG n=true:=by simpa using o
   refine Ga 8 O (by omega) (G.back (i+1) (Sub.of O) (⟨by omega,hstep (by unfold okB;rw[o',z'];simp),hw⟩) (by first | omega | (dsimp only;omega)))
  have l':xv n=true:=by simpa using l
  refine Ga 18 O (by omega) (G.back (i+1) (Sub.of O) (⟨by omega,hstep (by unfold okB;rw[l'];rfl),hw⟩) (by first | omega | (dsimp only;omega)))
 refine Gs 11 O (zls tr61 O ⟨_,rfl,by rw[zb3,zp5 ⟨by omega,by omega,fun j h=>hall j h (by omega)⟩],Keep.refl _ _⟩)
theorem kg (s:ByteArray) (w:World):Calls Tryz.prog 157 #[.string s] w (Ret fun r w'=>r=.bool (zb3 s)/\Ext w w'):=by
 refine zn1 Tryz.func157 O Tryz.ntmps157 O (Gs 11 O (G.sp 8 O (fun h1=>?_) (fun h1=>?_)))
 .
  have h1':s.size=0:=by
   have:=congrArg List.length h1
   rw[ByteArray.toList_eq]at this
   simpa using this
  refine Gs 14 O (zls tr157 O ⟨_,rfl,by rw[zb3,zp6 (fun h=>by omega)],Keep.refl _ _⟩)
 have h1':s.size ≠ 0:=by
  intro h
  apply h1
  have:s.toList.length=0:=by rw[ByteArray.toList_eq];simpa using h
  rw[zqc this,ByteArray.toList_eq]
 refine Gs 6 O (zlc O (fun h2=>?_) (fun h2=>?_))
 . refine Gs 7 O (zls tr157 O ⟨_,rfl,by rw[zb3,zp6 (fun h=>by omega)],Keep.refl _ _⟩)
 refine Gs 11 O (G.loop (σ:=Nat) (fun i=>[(0,.string s),(14,.int .i64 s.size),(15,.int .i64 i)]) (fun i=>fun w'=>i<=s.size/\(∀ (j:Nat) (h:j<s.size),j<i->okB j (s[j].toNat:Int)=true)/\w'=w) (fun i=>s.size - i) (0) (Sub.of O) (⟨zp8 _,fun j _ h=>absurd h (zrn _),rfl⟩) ?_)
 rintro i w1 ⟨hi,hall,hw1⟩
 subst hw1
 refine Gs 6 O (zlc O (fun hlt=>?_) (fun hlt=>?_))
 .
  have hlt':i<s.size:=by omega
  refine Gs 14 O (zmR O O (zmw tu9 O O i O hlt') ?_)
  obtain⟨n,hn⟩:∃ n:Int,n=(s[i].toNat:Int):=⟨_,rfl⟩
  rw[<- hn]
  refine Gs 4 O (zln (σ:=Bool) (fun q=>[(0,.string s),(14,.int .i64 s.size),(15,.int .i64 i),(3,.int .i64 i),(4,.int .u8 n),(5,.bool q)]) (fun q=>fun w'=>q=xv n/\w'=w1) ?_ ?_)
  .
   refine Gs 4 O (G.sp 23 O (fun a=>?_) (fun a=>?_))
   . refine Gs 5 O (zlp (decide (n<=122)) (Sub.of O) (⟨by unfold xv;congr 1;simp;omega,rfl⟩))
   refine Gs 5 O (zlp (false) (Sub.cons O (Sub.cons O (Sub.cons O (Sub.cons O (Sub.cons O (Sub.cons (by first | rfl | (show some (Value.bool false)=some (Value.bool _);simp[*])) Sub.nil)))))) (⟨by unfold xv;rw[zp6 (by omega)],rfl⟩))
  rintro q w3 ⟨hq,hw⟩
  subst hq
  have hstep:okB i n=true->∀ (j:Nat) (h:j<s.size),j<i+1->okB j (s[j].toNat:Int)=true:=by
   intro h0 j h h1
   by_cases e:j=i
   . subst e;rw[<- hn];exact h0
   exact hall j h (by omega)
  have hbad:okB i n=false->zb3 s=false:=by
   intro h0
   rw[zb3,zp6]
   rintro⟨_,_,h3⟩
   have:=h3 i hlt'
   rw[<- hn,h0]at this
   cases this
  refine Gs 4 O (zmR O O (zms O (by first | exact za | rfl)) (Gs 1 O (zmP 29 O (fun l=>?_) (fun l=>?_))))
  .
   have l':xv n=false:=by simpa using l
   refine Gs 3 O (G.sp 32 O (fun z=>?_) (fun z=>?_))
   . refine Gs 30 O (zls tr157 O ⟨_,rfl,by rw[hbad (by unfold okB;rw[l',zp6 (by omega)];rfl)],by rw[hw];exact Keep.refl _ _⟩)
   have z':decide (i ≠ 0)=true:=zp5 (by omega)
   have fin:(yG n=false->False)->okB i n=true:=fun h=>by
    unfold okB;rw[z']
    cases ho:yG n
    . exact(h ho).elim
    simp
   have bad:yG n=false->zb3 s=false:=fun h=>hbad (by unfold okB;rw[l',h];simp)
   refine Gs 3 O (G.sp 35 O (fun a=>?_) (fun a=>?_))
   .
    refine Gs 8 O (G.sp 43 O (fun b=>?_) (fun b=>?_))
    .
     refine Gs 7 O (zlc O (fun c=>?_) (fun c=>?_))
     .
      have ho:yG n=false:=by unfold yG;exact zp6 (by omega)
      refine Gs 11 O (zls tr157 O ⟨_,rfl,by rw[bad ho],by rw[hw];exact Keep.refl _ _⟩)
     refine Ga 7 O (by omega) (G.back (i+1) (Sub.of O) (⟨by omega,hstep (fin (fun h=>by unfold yG at h;have:=of_decide_eq_false h;omega)),hw⟩) (by first | omega | (dsimp only;omega)))
    refine Ga 15 O (by omega) (G.back (i+1) (Sub.of O) (⟨by omega,hstep (fin (fun h=>by unfold yG at h;have:=of_decide_eq_false h;omega)),hw⟩) (by first | omega | (dsimp only;omega)))
   refine Gs 4 O (G.sp 39 O (fun b0=>?_) (fun b0=>?_))
   .
    refine Gs 4 O (G.sp 43 O (fun b=>?_) (fun b=>?_))
    .
     refine Gs 7 O (zlc O (fun c=>?_) (fun c=>?_))
     .
      have ho:yG n=false:=by unfold yG;exact zp6 (by omega)
      refine Gs 11 O (zls tr157 O ⟨_,rfl,by rw[bad ho],by rw[hw];exact Keep.refl _ _⟩)
     refine Ga 7 O (by omega) (G.back (i+1) (Sub.of O) (⟨by omega,hstep (fin (fun h=>by unfold yG at h;have:=of_decide_eq_false h;omega)),hw⟩) (by first | omega | (dsimp only;omega)))
    refine Ga 15 O (by omega) (G.back (i+1) (Sub.of O) (⟨by omega,hstep (fin (fun h=>by unfold yG at h;have:=of_decide_eq_false h;omega)),hw⟩) (by first | omega | (dsimp only;omega)))
   refine Ga 19 O (by omega) (G.back (i+1) (Sub.of O) (⟨by omega,hstep (fin (fun h=>by unfold yG at h;have:=of_decide_eq_false h;omega)),hw⟩) (by first | omega | (dsimp only;omega)))
  have l':xv n=true:=by simpa using l
  refine Ga 29 O (by omega) (G.back (i+1) (Sub.of O) (⟨by omega,hstep (by unfold okB;rw[l'];rfl),hw⟩) (by first | omega | (dsimp only;omega)))
 refine Gs 11 O (zls tr157 O ⟨_,rfl,by rw[zb3,zp5 ⟨by omega,by omega,fun j h=>hall j h (by omega)⟩],Keep.refl _ _⟩)
@[irreducible] def zar (low high:Int):Bool:=decide (low<=high /\ -1048576<=low/\high<=1048576)
theorem ki (a b:Int) (w:World):Calls Tryz.prog 62 #[.int .i64 a,.int .i64 b] w (Ret fun r w'=>r=.bool (zar a b)/\Ext w w'):=by
 refine zn2 Tryz.func62 O Tryz.ntmps62 O (Gs 11 O (G.sp 8 O (fun h1=>?_) (fun h1=>?_)))
 .
  refine Gs 4 O (G.sp 12 O (fun h2=>?_) (fun h2=>?_))
  . refine Gs 7 O (zls Tryz.results62 O ⟨_,rfl,by unfold zar;congr 2;simp;omega,Keep.refl _ _⟩)
  refine Gs 7 O (zls Tryz.results62 O ⟨_,rfl,by rw[zar,zp6 (by omega)],Keep.refl _ _⟩)
 refine Gs 11 O (zls Tryz.results62 O ⟨_,rfl,by rw[zar,zp6 (by omega)],Keep.refl _ _⟩)
theorem qe (a b:Int) (w:World):Calls Tryz.prog 88 #[.int .i64 a,.int .i64 b] w (Ret fun r w'=>r=.bool (zar a b)/\Ext w w'):=by
 refine zn2 Tryz.func88 O Tryz.ntmps88 O (Gs 11 O (G.sp 8 O (fun h1=>?_) (fun h1=>?_)))
 .
  refine Gs 4 O (G.sp 12 O (fun h2=>?_) (fun h2=>?_))
  . refine Gs 7 O (zls Tryz.results88 O ⟨_,rfl,by unfold zar;congr 2;simp;omega,Keep.refl _ _⟩)
  refine Gs 7 O (zls Tryz.results88 O ⟨_,rfl,by rw[zar,zp6 (by omega)],Keep.refl _ _⟩)
 refine Gs 11 O (zls Tryz.results88 O ⟨_,rfl,by rw[zar,zp6 (by omega)],Keep.refl _ _⟩)
def yE (op:Int) (n:Nat):Bool:=if 0<=zm op then decide ((n:Int)=zm op) else decide (zm op=-2/\2<=n/\n<=33)
def kU (vs:List Vr) (n:Int):Bool:=match vs[n.toNat]? with
 | some v=>decide (v.kind=0)
 | none=>false
def qm (vs:List Vr) (inputs:Bool) (op n:Int):Bool:=if op=24 then decide (0<=n/\n<vs.length)&&!(inputs&&kU vs n) else decide (op=0\/n=0)
mutual
def zu (vs:List Vr) (inputs:Bool):Tm->Bool
 | .mk op n ks=>yE op ks.length&&qm vs inputs op n&&formedL vs inputs ks
def formedL (vs:List Vr) (inputs:Bool):List Tm->Bool
 | []=>true
 | k::r=>zu vs inputs k&&formedL vs inputs r
end
section
variable {vs:List Vr} {inp:Bool}
theorem yO (t:Tm):zu vs inp t=(yE t.op t.kids.length&&qm vs inp t.op t.n&&formedL vs inp t.kids):=by cases t;rw[zu];rfl
theorem jw (a b:List Tm):formedL vs inp (a++b)=(formedL vs inp a&&formedL vs inp b):=by
 induction a with
 | nil=>simp[formedL]
 | cons x r ih=>simp[formedL,ih,Bool.and_assoc]
theorem za9 {l:List Tm} {i:Nat} {x:Tm} (h:l[i]?=some x):formedL vs inp (l.take (i+1))=(formedL vs inp (l.take i)&&zu vs inp x):=by rw[zd h,jw];simp[formedL]
theorem zX {l:List Tm} {x:Tm} (h:formedL vs inp l=true) (hx:x ∈ l):zu vs inp x=true:=by
 obtain⟨i,hi⟩:=zqH.1 hx
 rw[ym hi,jw]at h
 simp[formedL]at h
 exact h.2.1
theorem zb4 {l:List Tm} {x:Tm} (hx:x ∈ l) (h:zu vs inp x=false):formedL vs inp l=false:=by
 cases h1:formedL vs inp l with
 | false=>rfl
 | true=>rw[zX h1 hx]at h;cases h
theorem ye {op:Int} {n:Nat} (h:zm op=-1\/(0<=zm op/\(n:Int) ≠ zm op)\/(zm op=-2/\(n<2\/33<n))):yE op n=false:=by
 unfold yE
 split
 . exact zp6 (by omega)
 exact zp6 (by omega)
theorem qz {op:Int} {n:Nat} (h:(0<=zm op/\(n:Int)=zm op)\/(zm op=-2/\2<=n/\n<=33)):yE op n=true:=by
 unfold yE
 split
 . exact zp5 (by omega)
 exact zp5 (by omega)
theorem jo (op:Int):zm op=0\/zm op=1\/zm op=2\/zm op=3\/zm op=-2\/zm op=-1:=by
 unfold zm;(repeat' split);all_goals omega
theorem zbP {n:Int} (h:0<=n/\n<vs.length) {v:Vr} (hv:vs[n.toNat]?=some v):qm vs inp 24 n=!(inp&&decide (v.kind=0)):=by
 unfold qm kU
 rw[zp4 rfl,zp5 h,hv,zpL]
theorem zbQ {n:Int} (h:¬ (0<=n/\n<vs.length)):qm vs inp 24 n=false:=by
 unfold qm
 rw[zp4 rfl,zp6 h];rfl
theorem jG {op n:Int} (h:op ≠ 24):qm vs inp op n=decide (op=0\/n=0):=by
 unfold qm
 rw[zp3 h]
end
theorem zd8 (vs:List Vr) (inp:Bool) (vv:Value) (Dv:Nat->Prop) (t:Tm):∀ (cs:List Value) (D:Nat->Prop) (w:World),SlR 5 RVr Dv w vv vs->RTm D w t cs->Calls Tryz.prog 110 #[vv,.agg cs.toArray,.bool inp] w (Ret fun r w'=>r=.bool (zu vs inp t)/\Ext w w'):=by
 induction t using zmz with
 | h t ih =>
 intro cs D w hvs ht
 obtain⟨v,rfl,hk⟩:=ht.get
 have hmx:=hk.max
 obtain⟨ao,cap,rfl⟩:=hk.form
 obtain⟨av,nv,rfl⟩:=hvs.form
 have hfe:=yO (vs:=vs) (inp:=inp) t
 have hkv:=jo t.op
 have hE:=Keep.refl (fun _=>False) w
 refine zn3 Tryz.func110 O Tryz.ntmps110 O (Gs 2 O (zlY O O (M.box O O) ?_))
 rintro _ w_b ⟨b,rfl,hg_b,hs_b,hB_b,hk_b⟩
 have hge_b:_<=b:=zoZ hE.size (zri hg_b.symm)
 obtain⟨hE,hvs,hk⟩:=Tr3 hk_b hE hvs hk
 refine Gs 6 O (zmV O tg67 (hB_b.cells 0 _ O) (G.call O Tryz.call150 (zf9 t.op _) ?_))
 rintro _ wz1 ⟨rfl,hz1⟩
 obtain⟨hE,hvs,hk,hB_b⟩:=Tr4 hz1 hE hvs hk hB_b
 refine Gs 5 O (zln (σ:=Bool) (fun q=>[(0,.slice av vs.length nv),(2,.bool inp),(4,.pointer (some ⟨b,0,none⟩)),(40,.bool q)]) (fun q=>fun w'=>q=(!yE t.op t.kids.length)/\w'=wz1) ?_ ?_)
 .
  refine Gs 4 O (G.sp 14 O (fun h1=>?_) (fun h1=>?_))
  . refine Gs 27 O (zlp (true) (Sub.cons O (Sub.cons O (Sub.cons O (Sub.cons (by first | rfl | (show some (Value.bool true)=some (Value.bool _);simp[*])) Sub.nil)))) (⟨by rw[ye (.inl h1)];rfl,rfl⟩))
  refine Gs 3 O (G.sp 17 O (fun h2=>?_) (fun h2=>?_))
  .
   refine Gs 1 O (zmV O tg68 (hB_b.cells 2 _ O) (Gs 6 O (G.sp 25 O (fun h3=>?_) (fun h3=>?_))))
   . refine Gs 16 O (zlp (true) (Sub.cons O (Sub.cons O (Sub.cons O (Sub.cons (by first | rfl | (show some (Value.bool true)=some (Value.bool _);simp[*])) Sub.nil)))) (⟨by rw[ye (.inr (.inl ⟨by omega,h3⟩))];rfl,rfl⟩))
   refine Gs 3 O (G.sp 28 O (fun h4=>?_) (fun h4=>?_))
   . exact absurd h4 (by omega)
   refine Gs 13 O (zlp (false) (Sub.cons O (Sub.cons O (Sub.cons O (Sub.cons (by first | rfl | (show some (Value.bool false)=some (Value.bool _);simp[*])) Sub.nil)))) (⟨by rw[qz (.inl ⟨by omega,by omega⟩)];rfl,rfl⟩))
  refine Gs 11 O (G.sp 28 O (fun h4=>?_) (fun h4=>?_))
  .
   refine Gs 1 O (zmV O tg68 (hB_b.cells 2 _ O) (Gs 3 O (G.sp 33 O (fun h5=>?_) (fun h5=>?_))))
   . refine Gs 8 O (zlp (true) (Sub.cons O (Sub.cons O (Sub.cons O (Sub.cons (by first | rfl | (show some (Value.bool true)=some (Value.bool _);simp[*])) Sub.nil)))) (⟨by rw[ye (.inr (.inr ⟨h4,by omega⟩))];rfl,rfl⟩))
   refine Gs 1 O (zmV O tg68 (hB_b.cells 2 _ O) (Gs 6 O (zlp (decide ((33:Int)<(t.kids.length:Int))) (Sub.of O) (⟨?_,rfl⟩))))
   by_cases h6:(33:Int)<(t.kids.length:Int)
   . rw[ye (.inr (.inr ⟨h4,by omega⟩)),zp5 h6];rfl
   rw[qz (.inr ⟨h4,by omega,by omega⟩),zp6 h6];rfl
  exact absurd h4 (by omega)
 rintro q w2 ⟨hq,hw2⟩
 subst hw2
 refine Gs 1 O (G.bool O (fun hq1=>?_) (fun hq1=>?_))
 .
  have hf:yE t.op t.kids.length=false:=by rw[hq1]at hq;simpa using hq.symm
  refine Gs 7 O (zls tr110 O ⟨_,rfl,by rw[hfe,hf];rfl,hE⟩)
 have hf:yE t.op t.kids.length=true:=by rw[hq1]at hq;simpa using hq.symm
 rw[hf,zpL]at hfe
 refine Gs 6 O (zmV O tg67 (hB_b.cells 0 _ O) (Gs 3 O (zln (σ:=Unit) (fun u=>[(0,.slice av vs.length nv),(2,.bool inp),(4,.pointer (some ⟨b,0,none⟩))]) (fun u=>fun w'=>qm vs inp t.op t.n=true/\w'=w2) ?_ ?_)))
 .
  refine zlc O (fun h24=>?_) (fun h24=>?_)
  .
   have hrn:¬ (0<=t.n/\t.n<vs.length)->zu vs inp t=false:=fun h=>by rw[hfe,h24,zbQ h];rfl
   refine Gs 3 O (zmV O tg3 (hB_b.cells 1 _ O) (Gs 2 O (G.sp 47 O (fun n0=>?_) (fun n0=>?_))))
   . refine Gs 29 O (zls tr110 O ⟨_,rfl,by rw[hrn (by omega)],hE⟩)
   refine Gs 1 O (zmV O tg3 (hB_b.cells 1 _ O) (Gs 5 O (G.sp 54 O (fun n1=>?_) (fun n1=>?_))))
   . refine Gs 22 O (zls tr110 O ⟨_,rfl,by rw[hrn (by omega)],hE⟩)
   obtain⟨x,he_x,hm_x⟩:=gE_ vs (t.n.toNat) (by omega)
   obtain⟨b_x,o_x,c_x,ha_x,_,hc_x,hR_x⟩:=hvs.at he_x
   have h1_x:=RVr.one hR_x
   obtain rfl:=hR_x
   have hlt_x:b_x<_:=zoV _ _ (hc_x 0 _ rfl)
   have hrf:=zbP (vs:=vs) (inp:=inp) (n:=t.n) ⟨by omega,by omega⟩ he_x
   refine Gs 2 O (zmP 56 O (fun hi=>?_) (fun hi=>?_))
   .
    refine Gs 2 O (zmV O tg3 (hB_b.cells 1 _ O) (zmR O O (zlO tR22 ts142 O O ha_x (by omega)) (Gs 1 O (zmV O tg100 (hc_x 1 _ O) (Gs 5 O (zlc O (fun hk0=>?_) (fun hk0=>?_)))))))
    . refine Gs 8 O (zls tr110 O ⟨_,rfl,by rw[hfe,h24,hrf,hi,zp5 hk0];rfl,hE⟩)
    refine Gs 1 O (zlp (()) (Sub.of O) (⟨by rw[h24,hrf,hi,zp6 hk0];rfl,rfl⟩))
   refine Gs 13 O (zlp (()) (Sub.of O) (⟨by rw[h24,hrf,hi];rfl,rfl⟩))
  have hrf:=jG (vs:=vs) (inp:=inp) (n:=t.n) h24
  refine Gs 3 O (zmV O tg67 (hB_b.cells 0 _ O) (Gs 2 O (G.sp 69 O (fun o0=>?_) (fun o0=>?_))))
  .
   refine Gs 1 O (zmV O tg3 (hB_b.cells 1 _ O) (Gs 4 O (zlc O (fun n0=>?_) (fun n0=>?_))))
   . refine Gs 8 O (zls tr110 O ⟨_,rfl,by rw[hfe,hrf,zp6 (by omega)];rfl,hE⟩)
   refine Gs 1 O (zlp (()) (Sub.of O) (⟨by rw[hrf,zp5 (by omega)],rfl⟩))
  refine Gs 8 O (zlp (()) (Sub.of O) (⟨by rw[hrf,zp5 (by omega)],rfl⟩))
 rintro u w3 ⟨hrf,hw3⟩
 subst hw3
 rw[hrf,zpL]at hfe
 refine Gs 8 O (G.loop (σ:=Nat) (fun i=>[(0,.slice av vs.length nv),(2,.bool inp),(4,.pointer (some ⟨b,0,none⟩)),(8,.int .i64 i)]) (fun i=>fun w'=>i<=t.kids.length/\formedL vs inp (t.kids.take i)=true/\Ext w3 w') (fun i=>t.kids.length - i) (0) (Sub.of O) (⟨zp8 _,by simp[formedL],Keep.refl _ _⟩) ?_)
 rintro i w4 ⟨hi,hall,hL1⟩
 obtain⟨hE,hvs,hk,hB_b⟩:=Tr4 hL1 hE hvs hk hB_b
 refine Gs 5 O (zmV O tg68 (hB_b.cells 2 _ O) (Gs 4 O (zlc O (fun hlt=>?_) (fun hlt=>?_))))
 .
  obtain⟨k,he_k,hm_k⟩:=gE_ t.kids (i) (by omega)
  obtain⟨b_k,o_k,c_k,ha_k,_,hc_k,hR_k⟩:=hk.at he_k
  have h1_k:=RTm.one hR_k
  obtain⟨v1_k,rfl,hk_k⟩:=hR_k.get
  obtain⟨a1_k,n1_k,rfl⟩:=hk_k.form
  have hlt_k:b_k<_:=zoV _ _ (hc_k 0 _ rfl)
  refine Gs 8 O (zmV O tg68 (hB_b.cells 2 _ O) (Gs 1 O (zmR O O (zlO tR68 ts70 O O ha_k (by omega)) (zmX O tg70 ts70 hc_k O (Gs 1 O (G.call O Tryz.call110 (ih k hm_k _ D _ hvs (RTm.put hk_k)) ?_))))))
  rintro _ wz2 ⟨rfl,hz2⟩
  obtain⟨hE,hvs,hk,hB_b,hL1,hc_k,hk_k⟩:=Tr7 hz2 hE hvs hk hB_b hL1 hc_k hk_k
  refine zmR O O (zms O (by first | exact za | rfl)) (Gs 2 O (G.bool O (fun hb=>?_) (fun hb=>?_)))
  .
   have hb':zu vs inp k=false:=by simpa using hb
   refine Gs 11 O (zls tr110 O ⟨_,rfl,by rw[hfe,zb4 hm_k hb'],hE⟩)
  have hb':zu vs inp k=true:=by simpa using hb
  refine Ga 8 O (by omega) (G.back (i+1) (Sub.of O) (⟨by omega,by rw[za9 he_k,hall,hb'];rfl,hL1⟩) (by first | omega | (dsimp only;omega)))
 have:i=t.kids.length:=by omega
 subst this
 rw[zoY]at hall
 refine Gs 11 O (zls tr110 O ⟨_,rfl,by rw[hfe,hall],hE⟩)
theorem km (vs:List Vr) (inp:Bool) (vv:Value) (Dv:Nat->Prop) (t:Tm):∀ (cs:List Value) (D:Nat->Prop) (w:World),SlR 5 RVr Dv w vv vs->RTm D w t cs->Calls Tryz.prog 87 #[vv,.agg cs.toArray,.bool inp] w (Ret fun r w'=>r=.bool (zu vs inp t)/\Ext w w'):=by
 induction t using zmz with
 | h t ih =>
 intro cs D w hvs ht
 have hcs1:=ht.one
 obtain⟨v,rfl,hk⟩:=ht.get
 have hmx:=hk.max
 obtain⟨ao,cap,rfl⟩:=hk.form
 obtain⟨av,nv,rfl⟩:=hvs.form
 have hfe:=yO (vs:=vs) (inp:=inp) t
 have hkv:=jo t.op
 have hE:=Keep.refl (fun _=>False) w
 refine zn3 Tryz.func87 O Tryz.ntmps87 O (Gs 2 O (zlY O O (M.box O O) ?_))
 rintro _ w_b ⟨b,rfl,hg_b,hs_b,hB_b,hk_b⟩
 have hge_b:_<=b:=zoZ hE.size (zri hg_b.symm)
 obtain⟨hE,hvs,hk⟩:=Tr3 hk_b hE hvs hk
 refine Gs 6 O (zmV O tg67 (hB_b.cells 0 _ O) (G.call O Tryz.call128 (zdW t.op _) ?_))
 rintro _ wz1 ⟨⟨la,mo,rfl,hk1,hk2,hk3⟩,hz1⟩
 obtain⟨hE,hvs,hk,hB_b⟩:=Tr4 hz1 hE hvs hk hB_b
 refine Gs 9 O (zln (σ:=Bool) (fun q=>[(0,.slice av vs.length nv),(2,.bool inp),(4,.pointer (some ⟨b,0,none⟩)),(32,.bool q)]) (fun q=>fun w'=>q=(!yE t.op t.kids.length)/\w'=wz1) ?_ ?_)
 .
  refine Gs 4 O (G.sp 19 O (fun h1=>?_) (fun h1=>?_))
  . refine Gs 14 O (zlp (true) (Sub.cons O (Sub.cons O (Sub.cons O (Sub.cons (by first | rfl | (show some (Value.bool true)=some (Value.bool _);simp[*])) Sub.nil)))) (⟨by rw[ye (.inl (hk1.1 h1))];rfl,rfl⟩))
  have h1':zm t.op ≠ -1:=fun h=>h1 (hk1.2 h)
  refine Gs 1 O (zmV O tg68 (hB_b.cells 2 _ O) (Gs 5 O (G.sp 26 O (fun h2=>?_) (fun h2=>?_))))
  .
   refine Gs 7 O (zlp (true) (Sub.cons O (Sub.cons O (Sub.cons O (Sub.cons (by first | rfl | (show some (Value.bool true)=some (Value.bool _);simp[*])) Sub.nil)))) (⟨?_,rfl⟩))
   rcases (show 0<=zm t.op\/zm t.op=-2 by omega) with h | h
   .
    have:=hk2 h
    rw[ye (.inr (.inl ⟨h,by omega⟩))];rfl
   have:=hk3 h
   rw[ye (.inr (.inr ⟨h,by omega⟩))];rfl
  refine Gs 1 O (zmV O tg68 (hB_b.cells 2 _ O) (Gs 5 O (zlp (decide (mo<(t.kids.length:Int))) (Sub.of O) (⟨?_,rfl⟩))))
  rcases (show 0<=zm t.op\/zm t.op=-2 by omega) with h | h
  .
   have:=hk2 h
   by_cases h3:mo<(t.kids.length:Int)
   . rw[ye (.inr (.inl ⟨h,by omega⟩)),zp5 h3];rfl
   rw[qz (.inl ⟨h,by omega⟩),zp6 h3];rfl
  have:=hk3 h
  by_cases h3:mo<(t.kids.length:Int)
  . rw[ye (.inr (.inr ⟨h,by omega⟩)),zp5 h3];rfl
  rw[qz (.inr ⟨h,by omega,by omega⟩),zp6 h3];rfl
 rintro q w2 ⟨hq,hw2⟩
 subst hw2
 refine Gs 1 O (G.bool O (fun hq1=>?_) (fun hq1=>?_))
 .
  have hf:yE t.op t.kids.length=false:=by rw[hq1]at hq;simpa using hq.symm
  refine Gs 7 O (zls tr87 O ⟨_,rfl,by rw[hfe,hf];rfl,hE⟩)
 have hf:yE t.op t.kids.length=true:=by rw[hq1]at hq;simpa using hq.symm
 rw[hf,zpL]at hfe
 refine Gs 6 O (zmV O tg67 (hB_b.cells 0 _ O) (Gs 2 O (zln (σ:=Unit) (fun u=>[(0,.slice av vs.length nv),(2,.bool inp),(4,.pointer (some ⟨b,0,none⟩))]) (fun u=>fun w'=>qm vs inp t.op t.n=true/\w'=w2) ?_ ?_)))
 .
  refine Gs 7 O (zlc O (fun h0=>?_) (fun h0=>?_))
  .
   have hrf:=jG (vs:=vs) (inp:=inp) (n:=t.n) (show t.op ≠ 24 by omega)
   refine Gs 2 O (zlp (()) (Sub.of O) (⟨by rw[hrf,zp5 (by omega)],rfl⟩))
  refine Gs 6 O (zlc O (fun h24=>?_) (fun h24=>?_))
  .
   have hrn:¬ (0<=t.n/\t.n<vs.length)->zu vs inp t=false:=fun h=>by rw[hfe,h24,zbQ h];rfl
   refine Gs 3 O (zmV O tg3 (hB_b.cells 1 _ O) (Gs 2 O (G.sp 45 O (fun n0=>?_) (fun n0=>?_))))
   . refine Gs 30 O (zls tr87 O ⟨_,rfl,by rw[hrn (by omega)],hE⟩)
   refine Gs 1 O (zmV O tg3 (hB_b.cells 1 _ O) (Gs 5 O (G.sp 52 O (fun n1=>?_) (fun n1=>?_))))
   . refine Gs 23 O (zls tr87 O ⟨_,rfl,by rw[hrn (by omega)],hE⟩)
   obtain⟨x,he_x,hm_x⟩:=gE_ vs (t.n.toNat) (by omega)
   obtain⟨b_x,o_x,c_x,ha_x,_,hc_x,hR_x⟩:=hvs.at he_x
   have h1_x:=RVr.one hR_x
   obtain rfl:=hR_x
   have hlt_x:b_x<_:=zoV _ _ (hc_x 0 _ rfl)
   have hrf:=zbP (vs:=vs) (inp:=inp) (n:=t.n) ⟨by omega,by omega⟩ he_x
   refine Gs 2 O (zmP 54 O (fun hi=>?_) (fun hi=>?_))
   .
    refine Gs 2 O (zmV O tg3 (hB_b.cells 1 _ O) (zmR O O (zlO tR22 ts142 O O ha_x (by omega)) (Gs 1 O (zmV O tg100 (hc_x 1 _ O) (Gs 5 O (zlc O (fun hk0=>?_) (fun hk0=>?_)))))))
    . refine Gs 9 O (zls tr87 O ⟨_,rfl,by rw[hfe,h24,hrf,hi,zp5 hk0];rfl,hE⟩)
    refine Gs 2 O (zlp (()) (Sub.of O) (⟨by rw[h24,hrf,hi,zp6 hk0];rfl,rfl⟩))
   refine Gs 14 O (zlp (()) (Sub.of O) (⟨by rw[h24,hrf,hi];rfl,rfl⟩))
  have hrf:=jG (vs:=vs) (inp:=inp) (n:=t.n) h24
  refine Gs 3 O (zmV O tg3 (hB_b.cells 1 _ O) (Gs 3 O (zlc O (fun n0=>?_) (fun n0=>?_))))
  . refine Gs 9 O (zls tr87 O ⟨_,rfl,by rw[hfe,hrf,zp6 (by omega)];rfl,hE⟩)
  refine Gs 2 O (zlp (()) (Sub.of O) (⟨by rw[hrf,zp5 (by omega)],rfl⟩))
 rintro u w3 ⟨hrf,hw3⟩
 subst hw3
 rw[hrf,zpL]at hfe
 refine Gs 5 O (zmV O tg68 (hB_b.cells 2 _ O) (Gs 5 O (G.loop (σ:=Nat) (fun i=>[(0,.slice av vs.length nv),(2,.bool inp),(65,.slice ao t.kids.length cap),(66,.int .i64 t.kids.length),(67,.int .i64 i)]) (fun i=>fun w'=>i<=t.kids.length/\formedL vs inp (t.kids.take i)=true/\Ext w3 w') (fun i=>t.kids.length - i) (0) (Sub.of O) (⟨zp8 _,by simp[formedL],Keep.refl _ _⟩) ?_)))
 rintro i w4 ⟨hi,hall,hL1⟩
 obtain⟨hE,hvs,hk,hB_b⟩:=Tr4 hL1 hE hvs hk hB_b
 refine Gs 6 O (zlc O (fun hlt=>?_) (fun hlt=>?_))
 .
  obtain⟨k,he_k,hm_k⟩:=gE_ t.kids (i) (by omega)
  obtain⟨b_k,o_k,c_k,ha_k,_,hc_k,hR_k⟩:=hk.at he_k
  have h1_k:=RTm.one hR_k
  obtain⟨v1_k,rfl,hk_k⟩:=hR_k.get
  obtain⟨a1_k,n1_k,rfl⟩:=hk_k.form
  have hlt_k:b_k<_:=zoV _ _ (hc_k 0 _ rfl)
  refine Gs 6 O (zmR O O (zlO tR68 ts70 O O ha_k (by omega)) (zmX O tg70 ts70 hc_k O (zlY O O (M.alloc (cs:=_) tz70 O) ?_)))
  rintro _ wa2 ⟨c,rfl,hg_c,hs_c,hB_c,hk_c⟩
  refine zm3 O (zm4 ts70 O O O O h1_k hB_c (by simp)) ?_
  rintro w_c ⟨_,hB_c,hkk_c⟩
  replace hk_c:=hk_c.trans hkk_c (fun q hq h=>by have h:q=c:=h;omega)
  have hn_b_c:b ≠ c:=by have:=hB_b.lt;omega
  have hge_c:_<=c:=zoZ hE.size (zri hg_c.symm)
  obtain⟨hE,hvs,hk,hB_b,hL1,hc_k,hk_k⟩:=Tr7 hk_c hE hvs hk hB_b hL1 hc_k hk_k
  refine Gs 5 O (zmX O tg70 ts70 hB_c.cells O (Gs 1 O (G.call O Tryz.call87 (ih k hm_k _ D _ hvs (RTm.put hk_k)) ?_)))
  rintro _ wz3 ⟨rfl,hz3⟩
  obtain⟨hE,hvs,hk,hB_b,hL1,hc_k,hk_k⟩:=Tr7 hz3 hE hvs hk hB_b hL1 hc_k hk_k
  replace hB_c:=Tr1 hz3 hB_c
  refine zmR O O (zms O (by first | exact za | rfl)) (Gs 2 O (G.bool O (fun hb=>?_) (fun hb=>?_)))
  .
   have hb':zu vs inp k=false:=by simpa using hb
   refine Gs 11 O (zls tr87 O ⟨_,rfl,by rw[hfe,zb4 hm_k hb'],hE⟩)
  have hb':zu vs inp k=true:=by simpa using hb
  refine Ga 7 O (by omega) (G.back (i+1) (Sub.of O) (⟨by omega,by rw[za9 he_k,hall,hb'];rfl,hL1⟩) (by first | omega | (dsimp only;omega)))
 have:i=t.kids.length:=by omega
 subst this
 rw[zoY]at hall
 refine Gs 11 O (zls tr87 O ⟨_,rfl,by rw[hfe,hall],hE⟩)
open Go.GL
abbrev Rg:=Int × Int
def okR (r:Rg):Bool:=decide (-1048576<=r.1/\r.2<=1048576)
def yz (r:Rg):Prop := -1048576<=r.1/\r.1<=r.2/\r.2<=1048576
def yR (x:Rg) (l:List Rg):Rg:=l.foldl (fun o r=>(min o.1 r.1,max o.2 r.2)) x
def xF (a b:Rg):Rg:=yR (a.1*b.1,a.1*b.1) [(a.1*b.2,a.1*b.2),(a.2*b.1,a.2*b.1),(a.2*b.2,a.2*b.2)]
theorem kV {x:Rg} {l:List Rg} {i:Nat} {r:Rg} (h:l[i]?=some r):yR x (l.take (i+1))=(min (yR x (l.take i)).1 r.1,max (yR x (l.take i)).2 r.2):=by
 rw[zd h];simp[yR]
theorem zb5 {x y:Int} (hx:-1048576<=x/\x<=1048576) (hy:-1048576<=y/\y<=1048576):-1099511627776<=x*y/\x*y<=1099511627776:=by
 have h1:=Int.natAbs_mul x y
 have h2:x.natAbs*y.natAbs<=1048576*1048576:=Nat.mul_le_mul (by omega) (by omega)
 omega
theorem zgb (a b:Rg) (w:World):Calls Tryz.prog 169 #[.agg #[.int .i64 a.1,.int .i64 a.2],.agg #[.int .i64 b.1,.int .i64 b.2]] w (Ret fun r w'=>r=.agg #[.int .i64 (min a.1 b.1),.int .i64 (max a.2 b.2)]/\Ext w w'):=by
 have hE:=Keep.refl (fun _=>False) w
 refine zn2 Tryz.func169 O Tryz.ntmps169 O (Gs 2 O (zlY O O (M.box O O) ?_))
 rintro _ w_x ⟨x,rfl,hg_x,hs_x,hB_x,hk_x⟩
 have hge_x:_<=x:=zoZ hE.size (zri hg_x.symm)
 replace hE:=Tr1 hk_x hE
 refine zlY O O (M.box O O) ?_
 rintro _ w_y ⟨y,rfl,hg_y,hs_y,hB_y,hk_y⟩
 have hn_x_y:x ≠ y:=by have:=hB_x.lt;omega
 have hge_y:_<=y:=zoZ hE.size (zri hg_y.symm)
 obtain⟨hE,hB_x⟩:=Tr2 hk_y hE hB_x
 refine zlY O O (M.alloc (cs:=_) tz159 O) ?_
 rintro _ w_r ⟨r,rfl,hg_r,hs_r,hB_r,hk_r⟩
 have hn_x_r:x ≠ r:=by have:=hB_x.lt;omega
 have hn_y_r:y ≠ r:=by have:=hB_y.lt;omega
 have hge_r:_<=r:=zoZ hE.size (zri hg_r.symm)
 obtain⟨hE,hB_x,hB_y⟩:=Tr3 hk_r hE hB_x hB_y
 refine Gs 5 O (zmV O tg3 (hB_x.cells 0 _ O) (Gs 1 O (zmV O tg3 (hB_y.cells 0 _ O) (Gs 2 O (zmV O tg3 (hB_x.cells 1 _ O) (Gs 1 O (zmV O tg3 (hB_y.cells 1 _ O) (Gs 1 O (zmR O O (R.build (v:=.agg #[.int .i64 (min a.1 b.1),.int .i64 (max a.2 b.2)]) [(0,_),(1,_)] O (fun _=>by kernel_rfl)) (zm3 O (zm4 ts159 O O O O (by simp[Value.oneCell']) hB_r (by simp)) ?_))))))))))
 rintro wf ⟨_,hBf,hkf⟩
 refine Gs 3 O (zlA Tryz.results169 O (zj tg159 ts159 O hBf.cells) ?_)
 exact⟨_,rfl,rfl,hE.trans hkf (fun q hq h=>by have h:q=r:=h;omega)⟩
theorem zco (a b:Int) (w:World) (ha:-1048576<=a/\a<=1048576) (hb:-1048576<=b/\b<=1048576):Calls Tryz.prog 168 #[.int .i64 a,.int .i64 b] w (Ret fun r w'=>r=.int .i64 (a*b)/\Ext w w'):=by
 have:=zb5 ha hb
 refine zn2 Tryz.func168 O Tryz.ntmps168 O (Ga 14 O (by omega) (zls Tryz.results168 O ⟨_,rfl,rfl,Keep.refl _ _⟩))
theorem zfa (a b:Rg) (w:World) (ha:yz a) (hb:yz b):Calls Tryz.prog 167 #[.agg #[.int .i64 a.1,.int .i64 a.2],.agg #[.int .i64 b.1,.int .i64 b.2],.func (.func 168) #[] #[]] w (Ret fun r w'=>r=.agg #[.int .i64 (xF a b).1,.int .i64 (xF a b).2]/\Ext w w'):=by
 unfold yz at ha hb
 have hE:=Keep.refl (fun _=>False) w
 refine zn3 Tryz.func167 O Tryz.ntmps167 O (Gs 2 O (zlY O O (M.box O O) ?_))
 rintro _ w_x ⟨x,rfl,hg_x,hs_x,hB_x,hk_x⟩
 have hge_x:_<=x:=zoZ hE.size (zri hg_x.symm)
 replace hE:=Tr1 hk_x hE
 refine zlY O O (M.box O O) ?_
 rintro _ w_y ⟨y,rfl,hg_y,hs_y,hB_y,hk_y⟩
 have hn_x_y:x ≠ y:=by have:=hB_x.lt;omega
 have hge_y:_<=y:=zoZ hE.size (zri hg_y.symm)
 obtain⟨hE,hB_x⟩:=Tr2 hk_y hE hB_x
 refine zlY O O (M.alloc (cs:=_) tz159 O) ?_
 rintro _ w_r ⟨r,rfl,hg_r,hs_r,hB_r,hk_r⟩
 have hn_x_r:x ≠ r:=by have:=hB_x.lt;omega
 have hn_y_r:y ≠ r:=by have:=hB_y.lt;omega
 have hge_r:_<=r:=zoZ hE.size (zri hg_r.symm)
 obtain⟨hE,hB_x,hB_y⟩:=Tr3 hk_r hE hB_x hB_y
 refine Gs 6 O (zmV O tg3 (hB_x.cells 0 _ O) (Gs 1 O (zmV O tg3 (hB_y.cells 0 _ O) (zlV O Tryz.call168 (zco a.1 b.1 _ (by omega) (by omega)) ?_))))
 rintro _ wz1 ⟨rfl,hz1⟩
 obtain⟨hE,hB_x,hB_y,hB_r⟩:=Tr4 hz1 hE hB_x hB_y hB_r
 refine Gs 7 O (zmR O O (R.build (v:=.agg #[.int .i64 (a.1*b.1),.int .i64 (a.1*b.1)]) [(0,_),(1,_)] O (fun _=>by kernel_rfl)) (zlY O O (M.alloc (cs:=_) tz159 O) ?_))
 rintro _ wa2 ⟨o,rfl,hg_o,hs_o,hB_o,hk_o⟩
 refine zm3 O (zm4 ts159 O O O O (by simp[Value.oneCell']) hB_o (by simp)) ?_
 rintro w_o ⟨_,hB_o,hkk_o⟩
 replace hk_o:=hk_o.trans hkk_o (fun q hq h=>by have h:q=o:=h;omega)
 have hn_x_o:x ≠ o:=by have:=hB_x.lt;omega
 have hn_y_o:y ≠ o:=by have:=hB_y.lt;omega
 have hn_r_o:r ≠ o:=by have:=hB_r.lt;omega
 have hge_o:_<=o:=zoZ hE.size (zri hg_o.symm)
 obtain⟨hE,hB_x,hB_y,hB_r⟩:=Tr4 hk_o hE hB_x hB_y hB_r
 refine Gs 4 O (Dw (fun q=>Ext w_o q) [] (fun wd3 hD _=>?_))
 refine Ds [0,1] (by kernel_rfl) O (WD.take 2 O (by kernel_rfl) O O O hD (fun w1 hw1=>R.load tg3 O ((hw1.blk hB_x (fun h=>h)).cells 0 _ O)) (Ds [3] (by kernel_rfl) O (WD.take 4 O (by kernel_rfl) O O O hD (fun w1 hw1=>R.load tg3 O ((hw1.blk hB_y (fun h=>h)).cells 1 _ O)) (Ds [6,7] (by kernel_rfl) O (WD.take 8 O (by kernel_rfl) O O O hD (fun w1 hw1=>R.load tg3 O ((hw1.blk hB_x (fun h=>h)).cells 1 _ O)) (Ds [9] (by kernel_rfl) O (WD.take 10 O (by kernel_rfl) O O O hD (fun w1 hw1=>R.load tg3 O ((hw1.blk hB_y (fun h=>h)).cells 0 _ O)) ?_)))))))
 refine Ds [12,13] (by kernel_rfl) O (WD.take 14 O (by kernel_rfl) O O O hD (fun w1 hw1=>R.load tg3 O ((hw1.blk hB_x (fun h=>h)).cells 1 _ O)) (Ds [15] (by kernel_rfl) O (WD.take 16 O (by kernel_rfl) O O O hD (fun w1 hw1=>R.load tg3 O ((hw1.blk hB_y (fun h=>h)).cells 1 _ O)) (Ds [20] (by kernel_rfl) O (WD.call 5 O (by kernel_rfl) O O O (zlU (vs:=[_,_]) Tryz.call168 O O) (zco a.1 b.2 _ (by omega) (by omega)) ?_)))))
 rintro _ wz4 ⟨rfl,hz4⟩
 replace hD:=hD.ext hz4
 refine⟨fun _=>hD,?_⟩
 refine WD.call 11 O (by kernel_rfl) O O O (zlU (vs:=[_,_]) Tryz.call168 O O) (zco a.2 b.1 _ (by omega) (by omega)) ?_
 rintro _ wz5 ⟨rfl,hz5⟩
 replace hD:=hD.ext hz5
 refine⟨fun _=>hD,?_⟩
 refine WD.call 17 O (by kernel_rfl) O O O (zlU (vs:=[_,_]) Tryz.call168 O O) (zco a.2 b.2 _ (by omega) (by omega)) ?_
 rintro _ wz6 ⟨rfl,hz6⟩
 replace hD:=hD.ext hz6
 refine⟨fun _=>hD,?_⟩
 refine zlX 18 O (by kernel_rfl) O O O (M.buildSlice (cs:=[.int .i64 (a.1*b.2),.int .i64 (a.2*b.1),.int .i64 (a.2*b.2)]) [(0,_),(1,_),(2,_)] tR27 ts3 tz3 (by decide) O (by kernel_rfl)) ?_
 rintro _ ws ⟨s,rfl,hg_s,hs_s,hB_s,hk_s⟩
 have hEs:=hD.ext hk_s
 have hso:s ≠ o:=by have:=hB_o.lt;have:=hD.size;omega
 refine⟨fun _=>hEs,?_⟩
 refine Ds [19] (by kernel_rfl) O (G.done (by kernel_rfl) ?_ _)
 obtain⟨hE,hB_x,hB_y,hB_r,hB_o⟩:=Tr5 hEs hE hB_x hB_y hB_r hB_o
 obtain⟨es,hes⟩:∃ es:List Int,es=[a.1*b.2,a.2*b.1,a.2*b.2]:=⟨_,rfl⟩
 have hel:es.length=3:=by rw[hes];rfl
 have hBs:Blk ws s (es.map (.int .i64)) 3:=by rw[hes];exact hB_s
 have hp:=zb5 (x:=a.1) (y:=b.1) (by omega) (by omega)
 refine Gs 2 O (G.loop (σ:=Nat) (fun k=>[(6,.pointer (some ⟨r,0,none⟩)),(8,.pointer (some ⟨o,0,none⟩)),(38,.slice (some ⟨s,0,none⟩) 3 3),(39,.int .i64 3),(40,.int .i64 k)]) (fun k=>fun w'=>k<=3/\Blk w' o [.int .i64 (yR (a.1*b.1,a.1*b.1) ((es.map (fun x=>(x,x))).take k)).1,.int .i64 (yR (a.1*b.1,a.1*b.1) ((es.map (fun x=>(x,x))).take k)).2] 159/\Keep (fun q=>q=o) ws w') (fun k=>3 - k) (0) (Sub.of O) (⟨zp8 _,hB_o,Keep.refl _ _⟩) ?_)
 rintro k w1 ⟨hk,hB_o,hk1⟩
 refine Gs 6 O (zlc O (fun hlt=>?_) (fun hlt=>?_))
 .
  obtain⟨x,hx⟩:∃ x,es[k]?=some x:=⟨_,zoT (by omega)⟩
  refine Ga 7 O (by omega) (zmV O tg3 ((hk1.blk hBs hso).cells.el1 k O (by rw[zpa,hx];rfl)) ?_)
  refine Gs 4 O (zmX O tg159 ts159 hB_o.cells O (Gs 2 O (zmR O O (R.build (v:=.agg #[.int .i64 x,.int .i64 x]) [(0,_),(1,_)] O (fun _=>by kernel_rfl)) (G.call O Tryz.call169 (zgb (yR (a.1*b.1,a.1*b.1) ((es.map (fun x=>(x,x))).take k)) (x,x) w1) ?_))))
  rintro _ w2 ⟨rfl,hk2⟩
  refine zm3 O (zm4 ts159 O O O O (by simp[Value.oneCell']) (hk2.blk hB_o (fun h=>h)) (by simp)) ?_
  rintro w3 ⟨_,hB3,hk3⟩
  refine Ga 7 O (by omega) (G.back (k+1) (Sub.of O) (⟨by omega,?_,(hk1.ext hk2).trans hk3 (fun _ _ h=>h)⟩) (by first | omega | (dsimp only;omega)))
  rw[kV (show (es.map (fun x=>(x,x)))[k]?=some (x,x) by rw[zpa,hx];rfl)]
  exact hB3
 have hk3:k=3:=by omega
 subst hk3
 have hr1:=hk1.blk hB_r hn_r_o
 have e:yR (a.1*b.1,a.1*b.1) ((es.map (fun x=>(x,x))).take 3)=xF a b:=by rw[hes];rfl
 rw[e]at hB_o
 refine Gs 7 O (zmX O tg159 ts159 hB_o.cells O (zm3 O (zm4 ts159 O O O O (by simp[Value.oneCell']) hr1 (by simp)) ?_))
 rintro wf ⟨_,hBf,hkf⟩
 refine Gs 3 O (zlA Tryz.results167 O (zj tg159 ts159 O hBf.cells) ?_)
 exact⟨_,rfl,rfl,(hE.trans hk1 (fun q hq h=>by have h:q=o:=h;omega)).trans hkf (fun q hq h=>by have h:q=r:=h;omega)⟩
def at2 (l:List Rg) (i:Nat):Rg:=l[i]?.getD (0,0)
theorem zP {l:List Rg} {i:Nat} {x:Rg} (h:l[i]?=some x):at2 l i=x:=by simp[at2,h]
def vat (vs:List Vr) (n:Int):Rg:=match vs[n.toNat]? with
 | some v=>(v.low,v.high)
 | none=>(0,0)
theorem zgc {vs:List Vr} {n:Int} {v:Vr} (h:vs[n.toNat]?=some v):vat vs n=(v.low,v.high):=by simp[vat,h]
def zh (vs:List Vr) (op n:Int) (l:List Rg):Rg :=
 if op=0 then (n,n)
 else if op=24 then vat vs n
 else if op=6 then (-(at2 l 0).2,-(at2 l 0).1)
 else if op=8 then ((at2 l 0).1+(at2 l 1).1,(at2 l 0).2+(at2 l 1).2)
 else if op=9 then ((at2 l 0).1 - (at2 l 1).2,(at2 l 0).2 - (at2 l 1).1)
 else if op=10 then xF (at2 l 0) (at2 l 1)
 else if op=11 then (if 0<=(at2 l 0).1/\0<=(at2 l 1).1 then 0 else -(max (at2 l 0).2 (-(at2 l 0).1)),max (at2 l 0).2 (-(at2 l 0).1))
 else if op=12 then (if (at2 l 1).1<0 then min ((at2 l 1).1+1) 0 else 0,if 0<(at2 l 1).2 then max ((at2 l 1).2 - 1) 0 else 0)
 else if op=21 then (min (at2 l 0).1 (at2 l 1).1,min (at2 l 0).2 (at2 l 1).2)
 else if op=22 then (max (at2 l 0).1 (at2 l 1).1,max (at2 l 0).2 (at2 l 1).2)
 else if op=23\/op=25 then yR (at2 l 1) (l.drop 2)
 else (0,1)
structure NodeOk (vs:List Vr) (op n:Int) (l:List Rg):Prop where
 k0:op=0\/op=24->l.length=0
 k1:op=6\/op=7->l.length=1
 k2:8<=op/\op<=22->l.length=2
 k3:op=23\/op=25->2<=l.length/\l.length<=33
 good:∀ r ∈ l,yz r
 var:op=24->0<=n/\n<vs.length
 vars:∀ v ∈ vs,yz (v.low,v.high)
theorem qW {vs:List Vr} {inp:Bool} {op n:Int} {l:List Rg} {k:Nat} (hl:l.length=k) (h1:yE op k=true) (h2:qm vs inp op n=true) (hg:∀ r ∈ l,yz r) (hv:∀ v ∈ vs,yz (v.low,v.high)):NodeOk vs op n l:=by
 have h3:(0<=zm op->(l.length:Int)=zm op)/\(¬ 0<=zm op->2<=l.length/\l.length<=33):=by
  unfold yE at h1
  rw[hl]
  constructor
  . intro h;rw[zp4 h]at h1;exact of_decide_eq_true h1
  intro h;rw[zp3 h]at h1;exact(of_decide_eq_true h1).2
 unfold zm at h3
 refine⟨fun h=>?_,fun h=>?_,fun h=>?_,fun h=>?_,hg,fun h=>?_,hv⟩
 . rw[zp4 h]at h3;have:=h3.1 (by omega);omega
 . rw[zp3 (by omega),zp4 h]at h3;have:=h3.1 (by omega);omega
 . rw[zp3 (by omega),zp3 (by omega),zp4 h]at h3;have:=h3.1 (by omega);omega
 .
  rcases h with h | h
  . rw[zp3 (by omega),zp3 (by omega),zp3 (by omega),zp4 h]at h3;have:=h3.1 (by omega);omega
  rw[zp3 (by omega),zp3 (by omega),zp3 (by omega),zp3 (by omega),zp4 h]at h3;exact h3.2 (by omega)
 unfold qm at h2
 rw[zp4 h,zpv]at h2
 exact of_decide_eq_true h2.1
theorem zjy (vs:List Vr) (t:Tm) (ks:List Rg) (vv kv:Value) (cs:List Value) (Dv D Dk:Nat->Prop) (w:World) (hvs:SlR 5 RVr Dv w vv vs) (ht:RTm D w t cs) (hks:SlR 2 zai Dk w kv ks) (hn:NodeOk vs t.op t.n ks):Calls Tryz.prog 129 #[vv,.agg cs.toArray,kv] w (Ret fun r w'=>r=.agg #[.int .i64 (zh vs t.op t.n ks).1,.int .i64 (zh vs t.op t.n ks).2]/\Ext w w'):=by
 obtain⟨v,rfl,hk⟩:=ht.get
 obtain⟨av,nv,rfl⟩:=hvs.form
 obtain⟨ak,nk,rfl⟩:=hks.form
 have hmx:=hks.max
 have hE:=Keep.refl (fun _=>False) w
 refine zn3 Tryz.func129 O Tryz.ntmps129 O (Gs 2 O (zlY O O (M.box O O) ?_))
 rintro _ w_b ⟨b,rfl,hg_b,hs_b,hB_b,hk_b⟩
 have hge_b:_<=b:=zoZ hE.size (zri hg_b.symm)
 obtain⟨hE,hvs,hks⟩:=Tr3 hk_b hE hvs hks
 refine zlY O O (M.alloc (cs:=_) tz159 O) ?_
 rintro _ w_r ⟨r,rfl,hg_r,hs_r,hB_r,hk_r⟩
 have hn_b_r:b ≠ r:=by have:=hB_b.lt;omega
 have hge_r:_<=r:=zoZ hE.size (zri hg_r.symm)
 obtain⟨hE,hvs,hks,hB_b⟩:=Tr4 hk_r hE hvs hks hB_b
 refine Gs 6 O (zmV O tg67 (hB_b.cells 0 _ O) (Gs 9 O (zlc O (fun h0=>?_) (fun h0=>?_))))
 .
  have e:zh vs t.op t.n ks=(t.n,t.n):=by rw[zh,zp4 h0]
  refine Gs 3 O (zmV O tg3 (hB_b.cells 1 _ O) (Gs 1 O (zmV O tg3 (hB_b.cells 1 _ O) (zmR O O (R.build (v:=.agg #[.int .i64 t.n,.int .i64 t.n]) [(0,_),(1,_)] O (fun _=>by kernel_rfl)) (zm3 O (zm4 ts159 O O O O (by simp[Value.oneCell']) hB_r (by simp)) ?_)))))
  rintro wf ⟨_,hBf,hkf⟩
  refine Gs 5 O (zlA tr129 O (zj tg159 ts159 O hBf.cells) ?_)
  exact⟨_,rfl,by rw[e]<;>rfl,hE.trans hkf (fun q hq h=>by have h:q=r:=h;omega)⟩
 refine Gs 6 O (zlc O (fun h24=>?_) (fun h24=>?_))
 .
  have hv:=hn.var h24
  obtain⟨x,he_x,hm_x⟩:=gE_ vs (t.n.toNat) (by omega)
  obtain⟨b_x,o_x,c_x,ha_x,_,hc_x,hR_x⟩:=hvs.at he_x
  have h1_x:=RVr.one hR_x
  obtain rfl:=hR_x
  have hlt_x:b_x<_:=zoV _ _ (hc_x 0 _ rfl)
  have e:zh vs t.op t.n ks=(x.low,x.high):=by rw[zh,zp3 h0,zp4 h24,zgc he_x]
  refine Gs 1 O (Dw (fun q=>Ext w_r q) [13] (fun wd1 hD _=>?_))
  refine Ds [0,1] (by kernel_rfl) O (WD.take 2 O (by kernel_rfl) O O O hD (fun w1 hw1=>R.load tg3 O ((hw1.blk hB_b (fun h=>h)).cells 1 _ O)) (zmf 3 O (by kernel_rfl) O O O (fun w1=>zlO tR22 ts142 O O ha_x (by omega)) (Ds [4] (by kernel_rfl) O (WD.take 5 O (by kernel_rfl) O O O hD (fun w1 hw1=>R.load tg3 O ((hw1.cells hc_x (fun h=>h)) 2 _ O)) (Ds [6,7] (by kernel_rfl) O (WD.take 8 O (by kernel_rfl) O O O hD (fun w1 hw1=>R.load tg3 O ((hw1.blk hB_b (fun h=>h)).cells 1 _ O)) ?_))))))
  refine zmf 9 O (by kernel_rfl) O O O (fun w1=>zlO tR22 ts142 O O ha_x (by omega)) (Ds [10] (by kernel_rfl) O (WD.take 11 O (by kernel_rfl) O O O hD (fun w1 hw1=>R.load tg3 O ((hw1.cells hc_x (fun h=>h)) 3 _ O)) (zmf 12 O (by kernel_rfl) O O O (fun w1=>R.build (v:=.agg #[.int .i64 x.low,.int .i64 x.high]) [(0,_),(1,_)] O (fun _=>by kernel_rfl)) (zm2 13 O (by kernel_rfl) O O (zm4 ts159 O O O O (by simp[Value.oneCell']) (hD.blk hB_r (fun h=>h)) (by simp)) ?_))))
  rintro wf ⟨_,hBf,hkf⟩
  refine⟨fun h=>absurd (by simp) h,?_⟩
  refine G.done (by kernel_rfl) ?_ _
  refine Gs 4 O (zlA tr129 O (zj tg159 ts159 O hBf.cells) ?_)
  exact⟨_,rfl,by rw[e]<;>rfl,(hE.ext hD).trans hkf (fun q hq h=>by have h:q=r:=h;omega)⟩
 refine Gs 6 O (zlc O (fun h6=>?_) (fun h6=>?_))
 .
  have hl:=hn.k1 (.inl h6)
  obtain⟨x,he_x,hm_x⟩:=gE_ ks (0) (by omega)
  obtain⟨b_x,o_x,c_x,ha_x,_,hc_x,hR_x⟩:=hks.at he_x
  obtain rfl:=hR_x
  have hlt_x:b_x<_:=zoV _ _ (hc_x 0 _ rfl)
  have hgx:=hn.good x hm_x
  unfold yz at hgx
  have e:zh vs t.op t.n ks=(-x.2,-x.1):=by rw[zh,zp3 h0,zp3 h24,zp4 h6,zP he_x]
  refine Gs 1 O (Dw (fun q=>Ext w_r q) [11] (fun wd2 hD _=>?_))
  refine Ds [0] (by kernel_rfl) O (zmf 1 O (by kernel_rfl) O O O (fun w1=>zlO tR203 ts159 O O ha_x (by omega)) (Ds [2] (by kernel_rfl) O (WD.take 3 O (by kernel_rfl) O O O hD (fun w1 hw1=>R.load tg3 O ((hw1.cells hc_x (fun h=>h)) 1 _ O)) (Da [4,5] (by kernel_rfl) O (by omega) (zmf 6 O (by kernel_rfl) O O O (fun w1=>zlO tR203 ts159 O O ha_x (by omega)) (Ds [7] (by kernel_rfl) O (WD.take 8 O (by kernel_rfl) O O O hD (fun w1 hw1=>R.load tg3 O ((hw1.cells hc_x (fun h=>h)) 0 _ O)) ?_)))))))
  refine Da [9] (by kernel_rfl) O (by omega) (zmf 10 O (by kernel_rfl) O O O (fun w1=>R.build (v:=.agg #[.int .i64 (-x.2),.int .i64 (-x.1)]) [(0,_),(1,_)] O (fun _=>by kernel_rfl)) (zm2 11 O (by kernel_rfl) O O (zm4 ts159 O O O O (by simp[Value.oneCell']) (hD.blk hB_r (fun h=>h)) (by simp)) ?_))
  rintro wf ⟨_,hBf,hkf⟩
  refine⟨fun h=>absurd (by simp) h,?_⟩
  refine G.done (by kernel_rfl) ?_ _
  refine Gs 4 O (zlA tr129 O (zj tg159 ts159 O hBf.cells) ?_)
  exact⟨_,rfl,by rw[e]<;>rfl,(hE.ext hD).trans hkf (fun q hq h=>by have h:q=r:=h;omega)⟩
 refine Gs 6 O (zlc O (fun h8=>?_) (fun h8=>?_))
 .
  have hl:=hn.k2 (by omega)
  obtain⟨x,he_x,hm_x⟩:=gE_ ks (0) (by omega)
  obtain⟨b_x,o_x,c_x,ha_x,_,hc_x,hR_x⟩:=hks.at he_x
  obtain rfl:=hR_x
  have hlt_x:b_x<_:=zoV _ _ (hc_x 0 _ rfl)
  obtain⟨y,he_y,hm_y⟩:=gE_ ks (1) (by omega)
  obtain⟨b_y,o_y,c_y,ha_y,_,hc_y,hR_y⟩:=hks.at he_y
  obtain rfl:=hR_y
  have hlt_y:b_y<_:=zoV _ _ (hc_y 0 _ rfl)
  have hgx:=hn.good x hm_x
  have hgy:=hn.good y hm_y
  unfold yz at hgx hgy
  have e:zh vs t.op t.n ks=(x.1+y.1,x.2+y.2):=by rw[zh,zp3 h0,zp3 h24,zp3 h6,zp4 h8,zP he_x,zP he_y]
  refine Gs 1 O (Dw (fun q=>Ext w_r q) [19] (fun wd3 hD _=>?_))
  refine Ds [0] (by kernel_rfl) O (zmf 1 O (by kernel_rfl) O O O (fun w1=>zlO tR203 ts159 O O ha_x (by omega)) (Ds [2] (by kernel_rfl) O (WD.take 3 O (by kernel_rfl) O O O hD (fun w1 hw1=>R.load tg3 O ((hw1.cells hc_x (fun h=>h)) 0 _ O)) (Ds [4] (by kernel_rfl) O (zmf 5 O (by kernel_rfl) O O O (fun w1=>zlO tR203 ts159 O O ha_y (by omega)) (Ds [6] (by kernel_rfl) O (WD.take 7 O (by kernel_rfl) O O O hD (fun w1 hw1=>R.load tg3 O ((hw1.cells hc_y (fun h=>h)) 0 _ O)) ?_)))))))
  refine Da [8,9] (by kernel_rfl) O (by omega) (zmf 10 O (by kernel_rfl) O O O (fun w1=>zlO tR203 ts159 O O ha_x (by omega)) (Ds [11] (by kernel_rfl) O (WD.take 12 O (by kernel_rfl) O O O hD (fun w1 hw1=>R.load tg3 O ((hw1.cells hc_x (fun h=>h)) 1 _ O)) (Ds [13] (by kernel_rfl) O (zmf 14 O (by kernel_rfl) O O O (fun w1=>zlO tR203 ts159 O O ha_y (by omega)) (Ds [15] (by kernel_rfl) O (WD.take 16 O (by kernel_rfl) O O O hD (fun w1 hw1=>R.load tg3 O ((hw1.cells hc_y (fun h=>h)) 1 _ O)) ?_)))))))
  refine Da [17] (by kernel_rfl) O (by omega) (zmf 18 O (by kernel_rfl) O O O (fun w1=>R.build (v:=.agg #[.int .i64 (x.1+y.1),.int .i64 (x.2+y.2)]) [(0,_),(1,_)] O (fun _=>by kernel_rfl)) (zm2 19 O (by kernel_rfl) O O (zm4 ts159 O O O O (by simp[Value.oneCell']) (hD.blk hB_r (fun h=>h)) (by simp)) ?_))
  rintro wf ⟨_,hBf,hkf⟩
  refine⟨fun h=>absurd (by simp) h,?_⟩
  refine G.done (by kernel_rfl) ?_ _
  refine Gs 4 O (zlA tr129 O (zj tg159 ts159 O hBf.cells) ?_)
  exact⟨_,rfl,by rw[e]<;>rfl,(hE.ext hD).trans hkf (fun q hq h=>by have h:q=r:=h;omega)⟩
 refine Gs 6 O (zlc O (fun h9=>?_) (fun h9=>?_))
 .
  have hl:=hn.k2 (by omega)
  obtain⟨x,he_x,hm_x⟩:=gE_ ks (0) (by omega)
  obtain⟨b_x,o_x,c_x,ha_x,_,hc_x,hR_x⟩:=hks.at he_x
  obtain rfl:=hR_x
  have hlt_x:b_x<_:=zoV _ _ (hc_x 0 _ rfl)
  obtain⟨y,he_y,hm_y⟩:=gE_ ks (1) (by omega)
  obtain⟨b_y,o_y,c_y,ha_y,_,hc_y,hR_y⟩:=hks.at he_y
  obtain rfl:=hR_y
  have hlt_y:b_y<_:=zoV _ _ (hc_y 0 _ rfl)
  have hgx:=hn.good x hm_x
  have hgy:=hn.good y hm_y
  unfold yz at hgx hgy
  have e:zh vs t.op t.n ks=(x.1 - y.2,x.2 - y.1):=by rw[zh,zp3 h0,zp3 h24,zp3 h6,zp3 h8,zp4 h9,zP he_x,zP he_y]
  refine Gs 1 O (Dw (fun q=>Ext w_r q) [19] (fun wd4 hD _=>?_))
  refine Ds [0] (by kernel_rfl) O (zmf 1 O (by kernel_rfl) O O O (fun w1=>zlO tR203 ts159 O O ha_x (by omega)) (Ds [2] (by kernel_rfl) O (WD.take 3 O (by kernel_rfl) O O O hD (fun w1 hw1=>R.load tg3 O ((hw1.cells hc_x (fun h=>h)) 0 _ O)) (Ds [4] (by kernel_rfl) O (zmf 5 O (by kernel_rfl) O O O (fun w1=>zlO tR203 ts159 O O ha_y (by omega)) (Ds [6] (by kernel_rfl) O (WD.take 7 O (by kernel_rfl) O O O hD (fun w1 hw1=>R.load tg3 O ((hw1.cells hc_y (fun h=>h)) 1 _ O)) ?_)))))))
  refine Da [8,9] (by kernel_rfl) O (by omega) (zmf 10 O (by kernel_rfl) O O O (fun w1=>zlO tR203 ts159 O O ha_x (by omega)) (Ds [11] (by kernel_rfl) O (WD.take 12 O (by kernel_rfl) O O O hD (fun w1 hw1=>R.load tg3 O ((hw1.cells hc_x (fun h=>h)) 1 _ O)) (Ds [13] (by kernel_rfl) O (zmf 14 O (by kernel_rfl) O O O (fun w1=>zlO tR203 ts159 O O ha_y (by omega)) (Ds [15] (by kernel_rfl) O (WD.take 16 O (by kernel_rfl) O O O hD (fun w1 hw1=>R.load tg3 O ((hw1.cells hc_y (fun h=>h)) 0 _ O)) ?_)))))))
  refine Da [17] (by kernel_rfl) O (by omega) (zmf 18 O (by kernel_rfl) O O O (fun w1=>R.build (v:=.agg #[.int .i64 (x.1 - y.2),.int .i64 (x.2 - y.1)]) [(0,_),(1,_)] O (fun _=>by kernel_rfl)) (zm2 19 O (by kernel_rfl) O O (zm4 ts159 O O O O (by simp[Value.oneCell']) (hD.blk hB_r (fun h=>h)) (by simp)) ?_))
  rintro wf ⟨_,hBf,hkf⟩
  refine⟨fun h=>absurd (by simp) h,?_⟩
  refine G.done (by kernel_rfl) ?_ _
  refine Gs 4 O (zlA tr129 O (zj tg159 ts159 O hBf.cells) ?_)
  exact⟨_,rfl,by rw[e]<;>rfl,(hE.ext hD).trans hkf (fun q hq h=>by have h:q=r:=h;omega)⟩
 refine Gs 6 O (zlc O (fun h10=>?_) (fun h10=>?_))
 .
  have hl:=hn.k2 (by omega)
  obtain⟨x,he_x,hm_x⟩:=gE_ ks (0) (by omega)
  obtain⟨b_x,o_x,c_x,ha_x,_,hc_x,hR_x⟩:=hks.at he_x
  obtain rfl:=hR_x
  have hlt_x:b_x<_:=zoV _ _ (hc_x 0 _ rfl)
  obtain⟨y,he_y,hm_y⟩:=gE_ ks (1) (by omega)
  obtain⟨b_y,o_y,c_y,ha_y,_,hc_y,hR_y⟩:=hks.at he_y
  obtain rfl:=hR_y
  have hlt_y:b_y<_:=zoV _ _ (hc_y 0 _ rfl)
  have e:zh vs t.op t.n ks=xF x y:=by rw[zh,zp3 h0,zp3 h24,zp3 h6,zp3 h8,zp3 h9,zp4 h10,zP he_x,zP he_y]
  refine Gs 1 O (Dw (fun q=>Ext w_r q) [7] (fun wd5 hD _=>?_))
  refine Ds [0] (by kernel_rfl) O (zmf 1 O (by kernel_rfl) O O O (fun w1=>zlO tR203 ts159 O O ha_x (by omega)) (WD.take 2 O (by kernel_rfl) O O O hD (fun w1 hw1=>zlQ tg159 ts159 O (by rfl) (hw1.cells hc_x (fun h=>h))) (Ds [3] (by kernel_rfl) O (zmf 4 O (by kernel_rfl) O O O (fun w1=>zlO tR203 ts159 O O ha_y (by omega)) (WD.take 5 O (by kernel_rfl) O O O hD (fun w1 hw1=>zlQ tg159 ts159 O (by rfl) (hw1.cells hc_y (fun h=>h))) ?_)))))
  refine WD.call 6 O (by kernel_rfl) O O O (F.call (vs:=[_,_,_]) Tryz.call167 O) (zfa x y _ (hn.good x hm_x) (hn.good y hm_y)) ?_
  rintro _ wz6 ⟨rfl,hz6⟩
  replace hD:=hD.ext hz6
  refine⟨fun _=>hD,?_⟩
  refine zm2 7 O (by kernel_rfl) O O (zm4 ts159 O O O O (by simp[Value.oneCell']) (hD.blk hB_r (fun h=>h)) (by simp)) ?_
  rintro wf ⟨_,hBf,hkf⟩
  refine⟨fun h=>absurd (by simp) h,?_⟩
  refine G.done (by kernel_rfl) ?_ _
  refine Gs 4 O (zlA tr129 O (zj tg159 ts159 O hBf.cells) ?_)
  exact⟨_,rfl,by rw[e]<;>rfl,(hE.ext hD).trans hkf (fun q hq h=>by have h:q=r:=h;omega)⟩
 refine Gs 6 O (zlc O (fun h11=>?_) (fun h11=>?_))
 .
  have hl:=hn.k2 (by omega)
  obtain⟨x,he_x,hm_x⟩:=gE_ ks (0) (by omega)
  obtain⟨b_x,o_x,c_x,ha_x,_,hc_x,hR_x⟩:=hks.at he_x
  obtain rfl:=hR_x
  have hlt_x:b_x<_:=zoV _ _ (hc_x 0 _ rfl)
  obtain⟨y,he_y,hm_y⟩:=gE_ ks (1) (by omega)
  obtain⟨b_y,o_y,c_y,ha_y,_,hc_y,hR_y⟩:=hks.at he_y
  obtain rfl:=hR_y
  have hlt_y:b_y<_:=zoV _ _ (hc_y 0 _ rfl)
  have hgx:=hn.good x hm_x
  have hgy:=hn.good y hm_y
  unfold yz at hgx hgy
  have e:zh vs t.op t.n ks=(if 0<=x.1/\0<=y.1 then 0 else -(max x.2 (-x.1)),max x.2 (-x.1)):=by rw[zh,zp3 h0,zp3 h24,zp3 h6,zp3 h8,zp3 h9,zp3 h10,zp4 h11,zP he_x,zP he_y]
  have hmx2:0<=max x.2 (-x.1)/\max x.2 (-x.1)<=1048576:=by omega
  refine Gs 1 O (Dw (fun q=>Ext w_r q) [] (fun wd7 hD _=>?_))
  refine Ds [0] (by kernel_rfl) O (zmf 1 O (by kernel_rfl) O O O (fun w1=>zlO tR203 ts159 O O ha_x (by omega)) (Ds [2] (by kernel_rfl) O (WD.take 3 O (by kernel_rfl) O O O hD (fun w1 hw1=>R.load tg3 O ((hw1.cells hc_x (fun h=>h)) 1 _ O)) (Ds [4] (by kernel_rfl) O (zmf 5 O (by kernel_rfl) O O O (fun w1=>zlO tR203 ts159 O O ha_x (by omega)) (Ds [6] (by kernel_rfl) O (WD.take 7 O (by kernel_rfl) O O O hD (fun w1 hw1=>R.load tg3 O ((hw1.cells hc_x (fun h=>h)) 0 _ O)) ?_)))))))
  refine Da [8,9,10] (by kernel_rfl) O (by omega) (G.done (by kernel_rfl) ?_ _)
  obtain⟨hE,hvs,hks,hB_b,hB_r,hc_x,hc_y⟩:=Tr7 hD hE hvs hks hB_b hB_r hc_x hc_y
  refine Gs 5 O (zmR O O (zlO tR203 ts159 O O ha_x (by omega)) (Gs 1 O (zmV O tg3 (hc_x 0 _ O) (Gs 2 O (G.sp 117 O (fun p0=>?_) (fun p0=>?_))))))
  .
   refine Gs 1 O (zmR O O (zlO tR203 ts159 O O ha_y (by omega)) (Gs 1 O (zmV O tg3 (hc_y 0 _ O) (Gs 4 O (zlc O (fun p1=>?_) (fun p1=>?_))))))
   .
    refine Gs 3 O (zmR O O (R.build (v:=.agg #[.int .i64 0,.int .i64 (max x.2 (-x.1))]) [(0,_),(1,_)] O (fun _=>by kernel_rfl)) (zm3 O (zm4 ts159 O O O O (by simp[Value.oneCell']) hB_r (by simp)) ?_))
    rintro wf ⟨_,hBf,hkf⟩
    refine Gs 6 O (zlA tr129 O (zj tg159 ts159 O hBf.cells) ?_)
    exact⟨_,rfl,by rw[e,zp4 ⟨p0,p1⟩]<;>rfl,hE.trans hkf (fun q hq h=>by have h:q=r:=h;omega)⟩
   refine Ga 7 O (by omega) (zmR O O (R.build (v:=.agg #[.int .i64 (-(max x.2 (-x.1))),.int .i64 (max x.2 (-x.1))]) [(0,_),(1,_)] O (fun _=>by kernel_rfl)) (zm3 O (zm4 ts159 O O O O (by simp[Value.oneCell']) hB_r (by simp)) ?_))
   rintro wf ⟨_,hBf,hkf⟩
   refine Gs 5 O (zlA tr129 O (zj tg159 ts159 O hBf.cells) ?_)
   exact⟨_,rfl,by rw[e,zp3 (fun h=>p1 h.2)]<;>rfl,hE.trans hkf (fun q hq h=>by have h:q=r:=h;omega)⟩
  refine Ga 16 O (by omega) (zmR O O (R.build (v:=.agg #[.int .i64 (-(max x.2 (-x.1))),.int .i64 (max x.2 (-x.1))]) [(0,_),(1,_)] O (fun _=>by kernel_rfl)) (zm3 O (zm4 ts159 O O O O (by simp[Value.oneCell']) hB_r (by simp)) ?_))
  rintro wf ⟨_,hBf,hkf⟩
  refine Gs 5 O (zlA tr129 O (zj tg159 ts159 O hBf.cells) ?_)
  exact⟨_,rfl,by rw[e,zp3 (fun h=>p0 h.1)]<;>rfl,hE.trans hkf (fun q hq h=>by have h:q=r:=h;omega)⟩
 refine Gs 6 O (zlc O (fun h12=>?_) (fun h12=>?_))
 .
  have hl:=hn.k2 (by omega)
  obtain⟨y,he_y,hm_y⟩:=gE_ ks (1) (by omega)
  obtain⟨b_y,o_y,c_y,ha_y,_,hc_y,hR_y⟩:=hks.at he_y
  obtain rfl:=hR_y
  have hlt_y:b_y<_:=zoV _ _ (hc_y 0 _ rfl)
  have hgy:=hn.good y hm_y
  unfold yz at hgy
  have e:zh vs t.op t.n ks=(if y.1<0 then min (y.1+1) 0 else 0,if 0<y.2 then max (y.2 - 1) 0 else 0):=by rw[zh,zp3 h0,zp3 h24,zp3 h6,zp3 h8,zp3 h9,zp3 h10,zp3 h11,zp4 h12,zP he_y]
  refine Gs 2 O (zmR O O (R.build (v:=.agg #[.int .i64 0,.int .i64 0]) [] O (fun _=>by kernel_rfl)) (zlY O O (M.alloc (cs:=_) tz159 O) ?_))
  rintro _ wa8 ⟨o,rfl,hg_o,hs_o,hB_o,hk_o⟩
  refine zm3 O (zm4 ts159 O O O O (by simp[Value.oneCell']) hB_o (by simp)) ?_
  rintro w_o ⟨_,hB_o,hkk_o⟩
  replace hk_o:=hk_o.trans hkk_o (fun q hq h=>by have h:q=o:=h;omega)
  have hn_b_o:b ≠ o:=by have:=hB_b.lt;omega
  have hn_r_o:r ≠ o:=by have:=hB_r.lt;omega
  have hge_o:_<=o:=zoZ hE.size (zri hg_o.symm)
  obtain⟨hE,hvs,hks,hB_b,hB_r,hc_y⟩:=Tr6 hk_o hE hvs hks hB_b hB_r hc_y
  refine Gs 6 O (zmR O O (zlO tR203 ts159 O O ha_y (by omega)) (Gs 1 O (zmV O tg3 (hc_y 0 _ O) (Gs 3 O (zlc O (fun p0=>?_) (fun p0=>?_))))))
  .
   refine Gs 2 O (zmR O O (zlO tR203 ts159 O O ha_y (by omega)) (Gs 1 O (zmV O tg3 (hc_y 0 _ O) (Ga 3 O (by omega) (zm3 O (M.store ts3 O O O O hB_o (by simp)) ?_)))))
   rintro ws9 ⟨_,hB_o,hs9⟩
   replace hE:=hE.trans hs9 (fun q hq h=>by have h:q=o:=h;omega)
   replace hB_b:=hs9.blk hB_b hn_b_o
   replace hB_r:=hs9.blk hB_r hn_r_o
   replace hc_y:=hs9.cells hc_y (show b_y ≠ o by omega)
   refine Gs 6 O (zmR O O (zlO tR203 ts159 O O ha_y (by omega)) (Gs 1 O (zmV O tg3 (hc_y 1 _ O) (Gs 3 O (zlc O (fun p1=>?_) (fun p1=>?_))))))
   .
    refine Gs 2 O (zmR O O (zlO tR203 ts159 O O ha_y (by omega)) (Gs 1 O (zmV O tg3 (hc_y 1 _ O) (Ga 3 O (by omega) (zm3 O (M.store ts3 O O O O hB_o (by simp)) ?_)))))
    rintro ws10 ⟨_,hB_o,hs10⟩
    replace hE:=hE.trans hs10 (fun q hq h=>by have h:q=o:=h;omega)
    replace hB_b:=hs10.blk hB_b hn_b_o
    replace hB_r:=hs10.blk hB_r hn_r_o
    replace hc_y:=hs10.cells hc_y (show b_y ≠ o by omega)
    refine Gs 4 O (zmX O tg159 ts159 hB_o.cells O (zm3 O (zm4 ts159 O O O O (by simp[Value.oneCell']) hB_r (by simp)) ?_))
    rintro wf ⟨_,hBf,hkf⟩
    refine Gs 5 O (zlA tr129 O (zj tg159 ts159 O hBf.cells) ?_)
    exact⟨_,rfl,by rw[e,zp4 p0,zp4 p1]<;>rfl,hE.trans hkf (fun q hq h=>by have h:q=r:=h;omega)⟩
   refine Gs 4 O (zmX O tg159 ts159 hB_o.cells O (zm3 O (zm4 ts159 O O O O (by simp[Value.oneCell']) hB_r (by simp)) ?_))
   rintro wf ⟨_,hBf,hkf⟩
   refine Gs 5 O (zlA tr129 O (zj tg159 ts159 O hBf.cells) ?_)
   exact⟨_,rfl,by rw[e,zp4 p0,zp3 p1]<;>rfl,hE.trans hkf (fun q hq h=>by have h:q=r:=h;omega)⟩
  refine Gs 6 O (zmR O O (zlO tR203 ts159 O O ha_y (by omega)) (Gs 1 O (zmV O tg3 (hc_y 1 _ O) (Gs 3 O (zlc O (fun p1=>?_) (fun p1=>?_))))))
  .
   refine Gs 2 O (zmR O O (zlO tR203 ts159 O O ha_y (by omega)) (Gs 1 O (zmV O tg3 (hc_y 1 _ O) (Ga 3 O (by omega) (zm3 O (M.store ts3 O O O O hB_o (by simp)) ?_)))))
   rintro ws11 ⟨_,hB_o,hs11⟩
   replace hE:=hE.trans hs11 (fun q hq h=>by have h:q=o:=h;omega)
   replace hB_b:=hs11.blk hB_b hn_b_o
   replace hB_r:=hs11.blk hB_r hn_r_o
   replace hc_y:=hs11.cells hc_y (show b_y ≠ o by omega)
   refine Gs 4 O (zmX O tg159 ts159 hB_o.cells O (zm3 O (zm4 ts159 O O O O (by simp[Value.oneCell']) hB_r (by simp)) ?_))
   rintro wf ⟨_,hBf,hkf⟩
   refine Gs 5 O (zlA tr129 O (zj tg159 ts159 O hBf.cells) ?_)
   exact⟨_,rfl,by rw[e,zp3 p0,zp4 p1]<;>rfl,hE.trans hkf (fun q hq h=>by have h:q=r:=h;omega)⟩
  refine Gs 4 O (zmX O tg159 ts159 hB_o.cells O (zm3 O (zm4 ts159 O O O O (by simp[Value.oneCell']) hB_r (by simp)) ?_))
  rintro wf ⟨_,hBf,hkf⟩
  refine Gs 5 O (zlA tr129 O (zj tg159 ts159 O hBf.cells) ?_)
  exact⟨_,rfl,by rw[e,zp3 p0,zp3 p1]<;>rfl,hE.trans hkf (fun q hq h=>by have h:q=r:=h;omega)⟩
 refine Gs 6 O (zlc O (fun h21=>?_) (fun h21=>?_))
 .
  have hl:=hn.k2 (by omega)
  obtain⟨x,he_x,hm_x⟩:=gE_ ks (0) (by omega)
  obtain⟨b_x,o_x,c_x,ha_x,_,hc_x,hR_x⟩:=hks.at he_x
  obtain rfl:=hR_x
  have hlt_x:b_x<_:=zoV _ _ (hc_x 0 _ rfl)
  obtain⟨y,he_y,hm_y⟩:=gE_ ks (1) (by omega)
  obtain⟨b_y,o_y,c_y,ha_y,_,hc_y,hR_y⟩:=hks.at he_y
  obtain rfl:=hR_y
  have hlt_y:b_y<_:=zoV _ _ (hc_y 0 _ rfl)
  have e:zh vs t.op t.n ks=(min x.1 y.1,min x.2 y.2):=by rw[zh,zp3 h0,zp3 h24,zp3 h6,zp3 h8,zp3 h9,zp3 h10,zp3 h11,zp3 h12,zp4 h21,zP he_x,zP he_y]
  refine Gs 1 O (Dw (fun q=>Ext w_r q) [19] (fun wd12 hD _=>?_))
  refine Ds [0] (by kernel_rfl) O (zmf 1 O (by kernel_rfl) O O O (fun w1=>zlO tR203 ts159 O O ha_x (by omega)) (Ds [2] (by kernel_rfl) O (WD.take 3 O (by kernel_rfl) O O O hD (fun w1 hw1=>R.load tg3 O ((hw1.cells hc_x (fun h=>h)) 0 _ O)) (Ds [4] (by kernel_rfl) O (zmf 5 O (by kernel_rfl) O O O (fun w1=>zlO tR203 ts159 O O ha_y (by omega)) (Ds [6] (by kernel_rfl) O (WD.take 7 O (by kernel_rfl) O O O hD (fun w1 hw1=>R.load tg3 O ((hw1.cells hc_y (fun h=>h)) 0 _ O)) ?_)))))))
  refine Ds [8,9] (by kernel_rfl) O (zmf 10 O (by kernel_rfl) O O O (fun w1=>zlO tR203 ts159 O O ha_x (by omega)) (Ds [11] (by kernel_rfl) O (WD.take 12 O (by kernel_rfl) O O O hD (fun w1 hw1=>R.load tg3 O ((hw1.cells hc_x (fun h=>h)) 1 _ O)) (Ds [13] (by kernel_rfl) O (zmf 14 O (by kernel_rfl) O O O (fun w1=>zlO tR203 ts159 O O ha_y (by omega)) (Ds [15] (by kernel_rfl) O (WD.take 16 O (by kernel_rfl) O O O hD (fun w1 hw1=>R.load tg3 O ((hw1.cells hc_y (fun h=>h)) 1 _ O)) ?_)))))))
  refine Ds [17] (by kernel_rfl) O (zmf 18 O (by kernel_rfl) O O O (fun w1=>R.build (v:=.agg #[.int .i64 (min x.1 y.1),.int .i64 (min x.2 y.2)]) [(0,_),(1,_)] O (fun _=>by kernel_rfl)) (zm2 19 O (by kernel_rfl) O O (zm4 ts159 O O O O (by simp[Value.oneCell']) (hD.blk hB_r (fun h=>h)) (by simp)) ?_))
  rintro wf ⟨_,hBf,hkf⟩
  refine⟨fun h=>absurd (by simp) h,?_⟩
  refine G.done (by kernel_rfl) ?_ _
  refine Gs 4 O (zlA tr129 O (zj tg159 ts159 O hBf.cells) ?_)
  exact⟨_,rfl,by rw[e]<;>rfl,(hE.ext hD).trans hkf (fun q hq h=>by have h:q=r:=h;omega)⟩
 refine Gs 6 O (zlc O (fun h22=>?_) (fun h22=>?_))
 .
  have hl:=hn.k2 (by omega)
  obtain⟨x,he_x,hm_x⟩:=gE_ ks (0) (by omega)
  obtain⟨b_x,o_x,c_x,ha_x,_,hc_x,hR_x⟩:=hks.at he_x
  obtain rfl:=hR_x
  have hlt_x:b_x<_:=zoV _ _ (hc_x 0 _ rfl)
  obtain⟨y,he_y,hm_y⟩:=gE_ ks (1) (by omega)
  obtain⟨b_y,o_y,c_y,ha_y,_,hc_y,hR_y⟩:=hks.at he_y
  obtain rfl:=hR_y
  have hlt_y:b_y<_:=zoV _ _ (hc_y 0 _ rfl)
  have e:zh vs t.op t.n ks=(max x.1 y.1,max x.2 y.2):=by rw[zh,zp3 h0,zp3 h24,zp3 h6,zp3 h8,zp3 h9,zp3 h10,zp3 h11,zp3 h12,zp3 h21,zp4 h22,zP he_x,zP he_y]
  refine Gs 1 O (Dw (fun q=>Ext w_r q) [19] (fun wd13 hD _=>?_))
  refine Ds [0] (by kernel_rfl) O (zmf 1 O (by kernel_rfl) O O O (fun w1=>zlO tR203 ts159 O O ha_x (by omega)) (Ds [2] (by kernel_rfl) O (WD.take 3 O (by kernel_rfl) O O O hD (fun w1 hw1=>R.load tg3 O ((hw1.cells hc_x (fun h=>h)) 0 _ O)) (Ds [4] (by kernel_rfl) O (zmf 5 O (by kernel_rfl) O O O (fun w1=>zlO tR203 ts159 O O ha_y (by omega)) (Ds [6] (by kernel_rfl) O (WD.take 7 O (by kernel_rfl) O O O hD (fun w1 hw1=>R.load tg3 O ((hw1.cells hc_y (fun h=>h)) 0 _ O)) ?_)))))))
  refine Ds [8,9] (by kernel_rfl) O (zmf 10 O (by kernel_rfl) O O O (fun w1=>zlO tR203 ts159 O O ha_x (by omega)) (Ds [11] (by kernel_rfl) O (WD.take 12 O (by kernel_rfl) O O O hD (fun w1 hw1=>R.load tg3 O ((hw1.cells hc_x (fun h=>h)) 1 _ O)) (Ds [13] (by kernel_rfl) O (zmf 14 O (by kernel_rfl) O O O (fun w1=>zlO tR203 ts159 O O ha_y (by omega)) (Ds [15] (by kernel_rfl) O (WD.take 16 O (by kernel_rfl) O O O hD (fun w1 hw1=>R.load tg3 O ((hw1.cells hc_y (fun h=>h)) 1 _ O)) ?_)))))))
  refine Ds [17] (by kernel_rfl) O (zmf 18 O (by kernel_rfl) O O O (fun w1=>R.build (v:=.agg #[.int .i64 (max x.1 y.1),.int .i64 (max x.2 y.2)]) [(0,_),(1,_)] O (fun _=>by kernel_rfl)) (zm2 19 O (by kernel_rfl) O O (zm4 ts159 O O O O (by simp[Value.oneCell']) (hD.blk hB_r (fun h=>h)) (by simp)) ?_))
  rintro wf ⟨_,hBf,hkf⟩
  refine⟨fun h=>absurd (by simp) h,?_⟩
  refine G.done (by kernel_rfl) ?_ _
  refine Gs 4 O (zlA tr129 O (zj tg159 ts159 O hBf.cells) ?_)
  exact⟨_,rfl,by rw[e]<;>rfl,(hE.ext hD).trans hkf (fun q hq h=>by have h:q=r:=h;omega)⟩
 have hbase:¬ (t.op=23\/t.op=25)->zh vs t.op t.n ks=(0,1):=fun h=>by rw[zh,zp3 h0,zp3 h24,zp3 h6,zp3 h8,zp3 h9,zp3 h10,zp3 h11,zp3 h12,zp3 h21,zp3 h22,zp3 h]
 refine Gs 7 O (zln (σ:=Bool) (fun p=>[(2,.slice ak ks.length nk),(6,.pointer (some ⟨r,0,none⟩)),(200,.bool p)]) (fun p=>fun w'=>(p=true ↔ t.op=23\/t.op=25)/\w'=w_r) ?_ ?_)
 .
  refine zlc O (fun h23=>?_) (fun h23=>?_)
  . refine Gs 1 O (zlp (decide (t.op=23)) (Sub.cons O (Sub.cons O (Sub.cons (by first | rfl | (show some (Value.bool true)=some (Value.bool _);simp[*])) Sub.nil))) (⟨by simp[h23],rfl⟩))
  refine Gs 4 O (zlp (decide (t.op=25)) (Sub.of O) (⟨by simp[h23],rfl⟩))
 rintro p w2 ⟨hp,hw2⟩
 subst hw2
 refine Gs 1 O (G.bool O (fun p1=>?_) (fun p1=>?_))
 .
  have hl:=hn.k3 (hp.1 p1)
  obtain⟨y,he_y,hm_y⟩:=gE_ ks (1) (by omega)
  obtain⟨b_y,o_y,c_y,ha_y,_,hc_y,hR_y⟩:=hks.at he_y
  obtain rfl:=hR_y
  have hlt_y:b_y<_:=zoV _ _ (hc_y 0 _ rfl)
  have e:zh vs t.op t.n ks=yR y (ks.drop 2):=by rw[zh,zp3 h0,zp3 h24,zp3 h6,zp3 h8,zp3 h9,zp3 h10,zp3 h11,zp3 h12,zp3 h21,zp3 h22,zp4 (hp.1 p1),zP he_y]
  have hdr:=hks.drop 2 (by omega)
  have hdl:(ks.drop 2).length=ks.length - 2:=zqr
  refine Gs 3 O (zmR O O (zlO tR203 ts159 O O ha_y (by omega)) (zmX O tg159 ts159 hc_y O (zlY O O (M.alloc (cs:=_) tz159 O) ?_)))
  rintro _ wa14 ⟨o,rfl,hg_o,hs_o,hB_o,hk_o⟩
  refine zm3 O (zm4 ts159 O O O O (by simp[Value.oneCell']) hB_o (by simp)) ?_
  rintro w_o ⟨_,hB_o,hkk_o⟩
  replace hk_o:=hk_o.trans hkk_o (fun q hq h=>by have h:q=o:=h;omega)
  have hn_b_o:b ≠ o:=by have:=hB_b.lt;omega
  have hn_r_o:r ≠ o:=by have:=hB_r.lt;omega
  have hge_o:_<=o:=zoZ hE.size (zri hg_o.symm)
  obtain⟨hE,hvs,hks,hB_b,hB_r,hc_y⟩:=Tr6 hk_o hE hvs hks hB_b hB_r hc_y
  refine Gs 6 O (zmR O O (zlR tR203 ts159 O O (by omega)) (Gs 5 O (G.loop (σ:=Nat) (fun k=>[(6,.pointer (some ⟨r,0,none⟩)),(9,.pointer (some ⟨o,0,none⟩)),(207,.slice (if nk=2 then ak else ak.map (·.add (2*2))) (ks.length - 2) (nk - 2)),(208,.int .i64 (ks.length - 2:Nat)),(209,.int .i64 k)]) (fun k=>fun w'=>k<=ks.length - 2/\Blk w' o [.int .i64 (yR y ((ks.drop 2).take k)).1,.int .i64 (yR y ((ks.drop 2).take k)).2] 159/\Keep (fun q=>q=o) w_o w') (fun k=>ks.length - 2 - k) (0) (Sub.of O) (⟨zp8 _,hB_o,Keep.refl _ _⟩) ?_)))
  rintro k w1 ⟨hk,hB_o,hk1⟩
  refine Gs 6 O (zlc O (fun hlt=>?_) (fun hlt=>?_))
  .
   obtain⟨z,he_z,hm_z⟩:=gE_ (ks.drop 2) (k) (by omega)
   obtain⟨b_z,o_z,c_z,ha_z,_,hc_z,hR_z⟩:=hdr.at he_z
   obtain rfl:=hR_z
   have hlt_z:b_z<_:=zoV _ _ (hc_z 0 _ rfl)
   replace hc_z:=hk1.cells (hk_o.cells hc_z (fun h=>h)) (show b_z ≠ o by omega)
   refine Gs 6 O (zmR O O (zlO tR203 ts159 O O ha_z (by omega)) (zmX O tg159 ts159 hc_z O (zlY O O (M.alloc (cs:=_) tz159 O) ?_)))
   rintro _ wa ⟨c,rfl,hg_c,hs_c,hB_c,hk_c⟩
   refine zm3 O (zm4 ts159 O O O O (by simp[Value.oneCell']) hB_c (by simp)) ?_
   rintro w3 ⟨_,hB_c,hk3⟩
   have hk13:Ext w1 w3:=hk_c.trans hk3 (fun q hq h=>by have h:q=c:=h;omega)
   replace hB_o:=hk13.blk hB_o (fun h=>h)
   refine Gs 3 O (zmX O tg159 ts159 hB_o.cells O (zmX O tg159 ts159 hB_c.cells O (G.call O Tryz.call169 (zgb (yR y ((ks.drop 2).take k)) z w3) ?_)))
   rintro _ w4 ⟨rfl,hk4⟩
   refine zm3 O (zm4 ts159 O O O O (by simp[Value.oneCell']) (hk4.blk hB_o (fun h=>h)) (by simp)) ?_
   rintro w5 ⟨_,hB5,hk5⟩
   refine Ga 7 O (by omega) (G.back (k+1) (Sub.of O) (⟨by omega,?_,(hk1.ext (hk13.ext hk4)).trans hk5 (fun _ _ h=>h)⟩) (by first | omega | (dsimp only;omega)))
   rw[kV he_z]
   exact hB5
  have hkk:k=ks.length - 2:=by omega
  have hr1:=hk1.blk hB_r hn_r_o
  rw[hkk,<- hdl,zoY,<- e]at hB_o
  refine Gs 7 O (zmX O tg159 ts159 hB_o.cells O (zm3 O (zm4 ts159 O O O O (by simp[Value.oneCell']) hr1 (by simp)) ?_))
  rintro wf ⟨_,hBf,hkf⟩
  refine Gs 5 O (zlA tr129 O (zj tg159 ts159 O hBf.cells) ?_)
  exact⟨_,rfl,rfl,(hE.trans hk1 (fun q hq h=>by have h:q=o:=h;omega)).trans hkf (fun q hq h=>by have h:q=r:=h;omega)⟩
 have e:=hbase (fun h=>by rw[hp.2 h]at p1;cases p1)
 refine Gs 5 O (zmR O O (R.build (v:=.agg #[.int .i64 0,.int .i64 1]) [(0,_),(1,_)] O (fun _=>by kernel_rfl)) (zm3 O (zm4 ts159 O O O O (by simp[Value.oneCell']) hB_r (by simp)) ?_))
 rintro wf ⟨_,hBf,hkf⟩
 refine Gs 3 O (zlA tr129 O (zj tg159 ts159 O hBf.cells) ?_)
 exact⟨_,rfl,by rw[e]<;>rfl,hE.trans hkf (fun q hq h=>by have h:q=r:=h;omega)⟩
end Go.Proofs.YtckdhgbepmpgiaaGreat
namespace Go.GL.Gr
section
variable {α:Type} [DecidableEq α]
def cstep (acc:List α) (x:α):List α:=if acc.getLast?=some x then acc else acc++[x]
def compactL (l:List α):List α:=l.foldl cstep []
theorem zcp (acc:List α) (x:α):(cstep acc x).getLast?=some x:=by
 unfold cstep
 split
 . assumption
 simp
theorem zcq (l:List α) (x:α):compactL (l++[x])=cstep (compactL l) x:=by simp[compactL]
theorem compactL_take {l:List α} {k:Nat} {x:α} (hx:l[k]?=some x):compactL (l.take (k+1))=cstep (compactL (l.take k)) x:=by
 obtain⟨hk,rfl⟩:=zp7.1 hx
 rw[zr9 hk,zcq]
theorem compactL_last {l:List α} {k:Nat} {x:α} (hx:l[k]?=some x):(compactL (l.take (k+1))).getLast?=some x:=by
 rw[compactL_take hx,zcp]
theorem compactL_mem (l:List α) (x:α):x ∈ compactL l ↔ x ∈ l:=by
 have:∀ (l acc:List α),x ∈ l.foldl cstep acc ↔ x ∈ acc\/x ∈ l:=by
  intro l
  induction l with
  | nil=>intro acc;simp
  | cons y r ih =>
   intro acc
   rw[zqo,ih]
   have h2:x ∈ cstep acc y ↔ x ∈ acc\/x=y:=by
    unfold cstep
    split
    .
     rename_i h
     constructor
     . exact .inl
     rintro (h' | rfl)
     . exact h'
     exact List.mem_of_getLast? h
    simp
   rw[h2]
   simp[or_assoc]
 simpa[compactL] using this l []
end
end Go.GL.Gr
namespace Go.Proofs.YtckdhgbepmpgiaaGreat
open Go.GL
def zka (e:Int × Int):List Value:=[.int .i64 e.1,.int .i64 e.2]
theorem zhR (e:Int × Int):(zka e).length=2:=rfl
theorem zhS (e:Int × Int):∀ u ∈ zka e,u.oneCell'=true:=by simp[zka,Value.oneCell']
end Go.Proofs.YtckdhgbepmpgiaaGreat
