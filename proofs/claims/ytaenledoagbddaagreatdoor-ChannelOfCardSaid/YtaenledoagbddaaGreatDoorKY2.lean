/-
  Contracts and the mathematics that the proof needs. Nothing here is a claim.
-/
import Derived.Test.YtaenledoagbddaaGreatDoorKY1
namespace Go.GL
def zi4 (env:Env):List Nat->Option Env
 | []=>some []
 | k::r=>match get env k with
  | some v=>(match zi4 env r with
   | some l=>some ((k,v)::l)
   | none=>none)
  | none=>none
def zd3 (H:Hp):List Nat->Option Hp
 | []=>some []
 | k::r=>match zl H k with
  | some v=>(match zd3 H r with
   | some l=>some ((k,v)::l)
   | none=>none)
  | none=>none
def zi5 (A:Tgs):List Nat->Option Tgs
 | []=>some []
 | k::r=>match tgt A k with
  | some v=>(match zi5 A r with
   | some l=>some ((k,some v)::l)
   | none=>none)
  | none=>none
theorem zcj {H:Hp}:∀ {ks:List Nat} {H':Hp},zd3 H ks=some H'->Has H' H
 | [],H',h=>by cases h;exact Has.nil
 | k::r,H',h=>by
  unfold zd3 at h
  split at h
  ·
   rename_i v hv;split at h
   . rename_i l hl;cases h;exact Has.cons hv (zcj hl)
   . cases h
  . cases h
section
variable {P:Program} {T:Tab} {Z:Szs} {n:Nat} {Q:Exit->Act->World->Prop} {ks:List Fr} {pos:Pos} {env:Env} {A:Tgs} {H:Hp} {Bs:zP} {ops:Array Oper} {v:Value}
theorem zmI (k j:Nat) {w:World} {b o:Nat} {c:Value} {cs:List Value} (hn:(zl H k).isNone=true) (hp:Bs[j]?=some (w,fun _=>False)) (hc:Cells w b o (c::cs)) (h:V P n Q ks pos env A ((k,.fro b o (c::cs))::H) Bs):V P n Q ks pos env A H Bs :=
 V.fro k (by simpa using hn) (znU hp) (znV _ _ (hc 0 c rfl)) (fun h=>h) hc h
theorem zmJ (k j:Nat) {w:World} {S:Nat->Prop} {b o:Nat} {c:Value} {cs:List Value} (hn:(zl H k).isNone=true) (hp:Bs[j]?=some (w,S)) (hS:¬ S b) (hc:Cells w b o (c::cs)) (h:V P n Q ks pos env A ((k,.fro b o (c::cs))::H) Bs):V P n Q ks pos env A H Bs :=
 V.fro k (by simpa using hn) (znU hp) (znV _ _ (hc 0 c rfl)) hS hc h
theorem V.dat {α:Type} {kk:Nat} {R:Rel α} [Dt R] {D:Nat->Prop} {l:List α} (k j:Nat) {w0:World} {S:Nat->Prop} (hn:(zl H k).isNone=true) (hp:Bs[j]?=some (w0,S)) (hk:Nat.blt 0 kk=true) (hd:SlR kk R D w0 v l) (hS:∀ b,D b->b<w0.heap.size->¬ S b)
  (h:V P n Q ks pos env A ((k,.dat (fun b=>D b/\b<w0.heap.size) (fun w=>SlR kk R (fun b=>D b/\b<w0.heap.size) w v l))::H) Bs):V P n Q ks pos env A H Bs :=
 fun hA w' hI=>h (hA.new (by simpa using hn)) w' (by
  have h1:=hI.dat k (p:=(w0,S)) (znU hp) (show 0<kk by simpa [Nat.blt_eq] using hk) hd hS
  exact h1)
theorem zmK (k:Nat) {e e':HE} (hg:zl H k=some e) (he:e=e') (h:V P n Q ks pos env A (hset H k e') Bs):V P n Q ks pos env A H Bs:=by
 subst he
 intro hA w hI
 have hh:∀ (H:Hp),zl H k=some e->hset H k e=H:=by
  intro H
  induction H with
  | nil=>intro h;cases h
  | cons x r ih =>
   obtain⟨k',e'⟩:=x
   intro h
   simp only [zl] at h
   simp only [hset]
   cases hb:Nat.beq k' k with
   | true=>rw [hb] at h;cases h;rfl
   | false=>rw [hb] at h;simp only [cond_false];rw [ih h]
 rw [hh H hg] at h
 exact h hA w hI
theorem zmL {σ:Type} (es hs ts:List Nat) {E1:Env} {H1:Hp} {A1:Tgs} (_hp:(zi4 env es,zd3 H hs,zi5 A ts)=(some E1,some H1,some A1)) (env':Env->σ->Env) (H':Hp->σ->Hp) (I:σ->Prop) (μ:σ->Nat) {c:Code} (s₀:σ) (h₀:Sub (env' E1 s₀) env) (hH:Has (H' H1 s₀) H) (hu:∀ s,qo ((H' H1 s).map (·.1))=true)
  (hA':∀ s,A1.map (fun p=>zd2 (env' E1 s) p.1)=A1.map (fun p=>jx (H' H1 s) p.2)) (hA2:∀ s,A1.all (fun p=>(jx (H' H1 s) p.2).isSome)=true) (hI:I s₀)
  (h:∀ s,I s->V P n Q (.k (zhU n (env' E1) (fun s w=>I s/\VI Bs (H' H1 s) w) μ (μ s))::ks) (.c c) (env' E1 s) A1 (H' H1 s) Bs):V P n Q ks (.c (.loop c)) env A H Bs :=
 V.loop (env' E1) A1 (H' H1) I μ s₀ h₀ hH hu (fun s=>⟨hA' s,hA2 s⟩) hI h
theorem zmM {σ:Type} (es hs ts:List Nat) {E1:Env} {H1:Hp} {A1:Tgs} (_hp:(zi4 env es,zd3 H hs,zi5 A ts)=(some E1,some H1,some A1)) (env':Env->σ->Env) (H':Hp->σ->Hp) (I:σ->Prop) {c:Code}
  (hA':∀ s,A1.map (fun p=>zd2 (env' E1 s) p.1)=A1.map (fun p=>jx (H' H1 s) p.2)) (hA2:∀ s,A1.all (fun p=>(jx (H' H1 s) p.2).isSome)=true)
  (h:V P n Q (.k (zhV n (env' E1) (fun s w=>I s/\VI Bs (H' H1 s) w))::ks) (.c c) env A H Bs) (hk:∀ s,I s->V P n Q ks (.e .normal) (env' E1 s) A1 (H' H1 s) Bs):V P n Q ks (.c c) env A H Bs :=
 V.cut (env' E1) A1 (H' H1) I (fun s=>⟨hA' s,hA2 s⟩) h hk
theorem zmN {id:Nat} {l:List Oper} (hs L:List Nat) {Hs:Hp} (hm:P.follows .mixedOrders=true) (hp:zd3 H hs=some Hs) (h:VD P n Q ks l.toArray Hs Bs L l.length (Array.replicate l.length false) env A H Bs):V P n Q ks (.c (.region id l.toArray true)) env A H Bs:=zl8 Hs L hm (zcj hp) h
end
def zjT:List Value->List Value->Option (List Value)
 | [],l=>some l
 | u::us,l=>match zjT us l with
  | some r=>some (u::r)
  | none=>none
def zbv:List Value->Option (List Value)
 | []=>some []
 | v::r=>match zdE v with
  | some us=>(match zbv r with
   | some l=>zjT us l
   | none=>none)
  | none=>none
def ziZ:Value->List Value
 | .agg ⟨l⟩=>l
 | v=>[v]
def zi6 (places:List (Nat × Nat)):List Value->List (Nat × Value)->Option (List Value)
 | cs,[]=>some cs
 | cs,(i,v)::r=>match nth places i with
  | some (off,_)=>(match wrE (ziZ v) off cs with
   | some cs'=>zi6 places cs' r
   | none=>none)
  | none=>none
section
variable {P:Program} {T:Tab} {Z:Szs} {n:Nat} {Q:Exit->Act->World->Prop} {ks:List Fr} {pos:Pos} {env:Env} {A:Tgs} {H Hs:Hp} {Bs B0:zP} {ops:Array Oper} {rest:List Oper} {v:Value} {L:List Nat} {fuel:Nat} {listed:Array Bool}
variable {d:Nat} {op:Op} {ty:TypeId} {ps:String} {aft:Array Edge} {g:Option (Nat × Bool)}
theorem zmO (k:Nat) {t e:TypeId} {len kk:Nat} {parts:Array (Nat × Operand)} {z:Value} {cs:List Value} (vs:List (Nat × Value)) (hu:∀ w,(underlying t).run P w=.ok (.slice e) w) (hs:∀ w,(sizeOf e).run P w=.ok kk w) (hz:∀ w,(zeroValue e).run P w=.ok z w)
  (hlen:len*kk ≠ 0/\len*kk<=16777216) (hn:(Nat.blt d n,gd ops env g,(zl H k).isNone,parts.toList.map (fun p=>(p.1,ev env p.2)))=(true,some true,true,vs.map (fun p=>(p.1,some p.2)))) (_hcs:zbv (vs.map (·.2))=some cs) (hf:Instr.fill (fun i=>some (i*kk,kk)) ((Array.range (len*kk)).map (z.cells[· % z.cells.size]!)) vs=some cs.toArray)
  (h:∀ b,V P n Q ks (.o ops rest) ((d,.slice (some ⟨b,0,none⟩) len len)::env) ((d,none)::A) ((k,.own b cs e)::H) Bs):V P n Q ks (.o ops (⟨some d,.buildSlice t len parts,ty,ps,aft,g⟩::rest)) env A H Bs:=by
 simp only [Prod.mk.injEq] at hn
 exact zmp k (u:=fun b=>.slice (some ⟨b,0,none⟩) len len) (by rw [hn.1,hn.2.1,hn.2.2.1]) (fun _ _=>M.buildSlice vs hu hs hz hlen hn.2.2.2 hf) h
theorem zmQ {α:Type} {R:Rel α} (k:Nat) {t e:TypeId} {kk by':Nat} {z:Value} {x y:Operand} {m:Nat} {xs:List Value} {vy:Value} {l:List α} (enc:α->List Value) (hc:∀ x,(enc x).length=kk) (h1:∀ x,∀ u ∈ enc x,u.oneCell'=true) (hR:∀ D w x cs,R D w x cs->cs=enc x)
  (hu:P.underlying t=some (.slice e)) (he:(P.info? e).map (fun i=>(i.zero,i.size,i.bytes))=some (some z,kk,by')) (hzs:z.cells.size=kk) (hk0:0<kk) (hn:(Nat.blt d n,gd ops env g,zl H k,ev env x,ev env y)=(true,some true,some (.row e kk v m xs),some v,some vy))
  (hsl:∀ w,VI Bs H w->∃ D,SlR kk R D w vy l) (hmax:m+l.length<=9223372036854775807) (hby:(m+l.length)*by'<=140737488355328)
  (h:∀ u,V P n Q ks (.o ops rest) ((d,u)::env) ((d,none)::A) (hset H k (.row e kk u (m+l.length) (xs++l.flatMap enc))) Bs):V P n Q ks (.o ops (⟨some d,.call ⟨.builtin .append,#[x,y],#[t,t]⟩,ty,ps,aft,g⟩::rest)) env A H Bs:=by
 simp only [Prod.mk.injEq] at hn
 obtain⟨h2,h3,h4,h5,h6⟩:=hn
 intro hA w hI
 obtain⟨D,hsl⟩:=hsl w hI
 refine G.mem h2 h3 (zlx enc hc h1 (fun x cs=>hR D w x cs) hu he hzs hk0 h5 h6 hsl (hI.at k h4) hmax hby) ?_
 rintro u w' ⟨ho,hf,hk⟩
 refine h u (TgOk.none (hA.res h4 ?_)) w' (hI.set h4 hk ho trivial (fun _ h=>h) (fun q hq=>⟨?_,xi ho hq⟩))
 . simp [qt,h4]
 ·
  rcases hf with hf | ⟨g',hf,hg'⟩
  . exact .inl (by show v.ownBlock=some q;rw [<- hf];exact hq)
  ·
   have hq:u.ownBlock=some q:=hq
   rw [hf] at hq;cases hq;exact .inr hg'
theorem V.bs0 (k:Nat) {t e:TypeId} {kk:Nat} (hu:∀ w,(underlying t).run P w=.ok (.slice e) w) (hs:∀ w,(sizeOf e).run P w=.ok kk w) (hn:(Nat.blt d n,gd ops env g,(zl H k).isNone)=(true,some true,true))
  (h:∀ b,V P n Q ks (.o ops rest) ((d,.slice (some ⟨b,0,none⟩) 0 0)::env) ((d,none)::A) ((k,.row e kk (.slice (some ⟨b,0,none⟩) 0 0) 0 [])::H) Bs):V P n Q ks (.o ops (⟨some d,.buildSlice t 0 #[],ty,ps,aft,g⟩::rest)) env A H Bs:=by
 simp only [Prod.mk.injEq,Option.isNone_iff_eq_none] at hn
 refine fun hA w hI=>G.mem hn.1 hn.2.1 (zlt hu hs) ?_
 rintro _ w' ⟨b,rfl,hb,hsz,hB,hk⟩
 refine h b (TgOk.none (hA.new hn.2.2)) w' (hI.new hk k ?_ trivial (fun _ h=>h) (fun q hq=>?_))
 ·
  have:=yG (k:=kk) (n:=0) (cap:=0) hB (zoi _) (by omega) (by simp)
  show w'.ownsRow 0 e kk _ 0 []
  simpa using this
 ·
  have hq:some b=some q:=hq
  cases hq
  omega
theorem zmR {t:TypeId} {parts:Array (Nat × Operand)} {l:List Value} (zs:List Value) (places:List (Nat × Nat)) (vs:List (Nat × Value)) (hn:(Nat.blt d n,gd ops env g,parts.toList.map (fun p=>(p.1,ev env p.2)))=(true,some true,vs.map (fun p=>(p.1,some p.2)))) (_hl:zi6 places zs vs=some l) (hb:∀ w,(Instr.build t vs.toArray).run P w=.ok (.agg l.toArray) w)
  (h:V P n Q ks (.o ops rest) ((d,.agg l.toArray)::env) ((d,none)::A) H Bs):V P n Q ks (.o ops (⟨some d,.build t parts,ty,ps,aft,g⟩::rest)) env A H Bs:=by
 simp only [Prod.mk.injEq] at hn
 exact zm2 (by rw [hn.1,hn.2.1]) (fun _ _=>R.build vs hn.2.2 hb) h
theorem VD.pl (i:Nat) (hi:ops[i]?=some ⟨some d,op,ty,ps,aft,g⟩) (hc:zdC ops [i] listed=true) (hn:(Nat.blt d n,gd ops env g)=(true,some true)) (hr:∀ w,yf P ⟨some d,op,ty,ps,aft,g⟩ env w v w)
  (h:VD P n Q ks ops Hs B0 L fuel (listed.setIfInBounds i true) ((d,v)::env) ((d,none)::A) H Bs):VD P n Q ks ops Hs B0 L (fuel+1) listed env A H Bs:=by
 simp only [Prod.mk.injEq] at hn
 unfold zdC at hc
 rw [Bool.and_eq_true] at hc
 exact fun hH hA w hI=>zme i hi hc.1 O hn.1 (.inl ⟨xM hn.2,fun w' nn a haa=>hr w' nn a haa⟩) (h hH hA.none w hI)
theorem zmS (i:Nat) {t:TypeId} {parts:Array (Nat × Operand)} {l:List Value} (zs:List Value) (places:List (Nat × Nat)) (vs:List (Nat × Value)) (hi:ops[i]?=some ⟨some d,.build t parts,ty,ps,aft,g⟩) (hc:zdC ops [i] listed=true) (hn:(Nat.blt d n,gd ops env g,parts.toList.map (fun p=>(p.1,ev env p.2)))=(true,some true,vs.map (fun p=>(p.1,some p.2)))) (_hl:zi6 places zs vs=some l) (hb:∀ w,(Instr.build t vs.toArray).run P w=.ok (.agg l.toArray) w)
  (h:VD P n Q ks ops Hs B0 L fuel (listed.setIfInBounds i true) ((d,.agg l.toArray)::env) ((d,none)::A) H Bs):VD P n Q ks ops Hs B0 L (fuel+1) listed env A H Bs:=by
 simp only [Prod.mk.injEq] at hn
 exact VD.pl i hi hc (by rw [hn.1,hn.2.1]) (fun _=>R.build vs hn.2.2 hb) h
theorem zmP (i k j:Nat) {t e:TypeId} {len kk:Nat} {parts:Array (Nat × Operand)} {z:Value} {cs:List Value} (vs:List (Nat × Value)) (hu:∀ w,(underlying t).run P w=.ok (.slice e) w) (hs:∀ w,(sizeOf e).run P w=.ok kk w) (hz:∀ w,(zeroValue e).run P w=.ok z w)
  (hlen:len*kk ≠ 0/\len*kk<=16777216) (hi:ops[i]?=some ⟨some d,.buildSlice t len parts,ty,ps,aft,g⟩) (hr:Region.ready .any ops listed=[i]) (hn:(Nat.blt d n,gd ops env g,(zl H k).isNone,qo (Hs.map (·.1)),parts.toList.map (fun p=>(p.1,ev env p.2)),Bs.drop j)=(true,some true,true,true,vs.map (fun p=>(p.1,some p.2)),B0)) (_hcs:zbv (vs.map (·.2))=some cs) (hf:Instr.fill (fun i=>some (i*kk,kk)) ((Array.range (len*kk)).map (z.cells[· % z.cells.size]!)) vs=some cs.toArray)
  (h:∀ b,VD P n Q ks ops Hs B0 L fuel (listed.setIfInBounds i true) ((d,.slice (some ⟨b,0,none⟩) len len)::env) ((d,none)::A) ((k,.own b cs e)::H) Bs):VD P n Q ks ops Hs B0 L (fuel+1) listed env A H Bs:=by
 simp only [Prod.mk.injEq] at hn
 exact zmq i k j (u:=fun b=>.slice (some ⟨b,0,none⟩) len len) hi hr (by rw [hn.1,hn.2.1,hn.2.2.1,hn.2.2.2.1]) hn.2.2.2.2.2 (fun _ _=>M.buildSlice vs hu hs hz hlen hn.2.2.2.2.1 hf) h
theorem zmy (k:Nat) {t:TypeId} {kk m:Nat} {xs:List Value} (hn:zl H k=some (.row t kk v m xs)) (hm:0<m) (h:∀ b c,v=.slice (some ⟨b,0,none⟩) m c->m<=c->VD P n Q ks ops Hs B0 L fuel listed env A H Bs):VD P n Q ks ops Hs B0 L fuel listed env A H Bs:=by
 intro hH hA w hI
 have ho:w.ownsRow 0 t kk v m xs:=hI.at k hn
 rcases ho.2 with⟨_,hm0⟩ | ⟨b,cap,cur,hv,_,_,hc,_⟩
 . omega
 . exact h b cap hv hc hH hA w hI
theorem VD.bs0 (i k j:Nat) {t e:TypeId} {kk:Nat} (hu:∀ w,(underlying t).run P w=.ok (.slice e) w) (hs:∀ w,(sizeOf e).run P w=.ok kk w) (hi:ops[i]?=some ⟨some d,.buildSlice t 0 #[],ty,ps,aft,g⟩) (hr:Region.ready .any ops listed=[i]) (hn:(Nat.blt d n,gd ops env g,(zl H k).isNone,qo (Hs.map (·.1)),Bs.drop j)=(true,some true,true,true,B0))
  (h:∀ b,VD P n Q ks ops Hs B0 L fuel (listed.setIfInBounds i true) ((d,.slice (some ⟨b,0,none⟩) 0 0)::env) ((d,none)::A) ((k,.row e kk (.slice (some ⟨b,0,none⟩) 0 0) 0 [])::H) Bs):VD P n Q ks ops Hs B0 L (fuel+1) listed env A H Bs:=by
 simp only [Prod.mk.injEq,Option.isNone_iff_eq_none] at hn
 obtain⟨h1,h2,h3,h4,rfl⟩:=hn
 refine fun hH hA w hI=>zmF i hi hr h1 h2 (.inl (zlt hu hs)) ?_
 rintro _ w' ⟨b,rfl,hb,hsz,hB,hk⟩
 have hI':VI Bs ((k,.row e kk (.slice (some ⟨b,0,none⟩) 0 0) 0 [])::H) w':=hI.new hk k (by
  have:=yG (k:=kk) (n:=0) (cap:=0) hB (zoi _) (by omega) (by simp)
  show w'.ownsRow 0 e kk _ 0 []
  simpa using this) trivial (fun _ h=>h) (fun q hq=>by
  have hq:some b=some q:=hq
  cases hq
  omega)
 have hH':Has Hs ((k,.row e kk (.slice (some ⟨b,0,none⟩) 0 0) 0 [])::H):=hH.new h3
 exact⟨(hI'.drop j).pick hH' h4,h b hH' (TgOk.none (hA.new h3)) w' hI'⟩
theorem VD.apS {α:Type} {R:Rel α} (i k j:Nat) {t e:TypeId} {kk by':Nat} {z:Value} {x y:Operand} {m:Nat} {xs:List Value} {vy:Value} {l:List α} (enc:α->List Value) (hc:∀ x,(enc x).length=kk) (h1:∀ x,∀ u ∈ enc x,u.oneCell'=true) (hR:∀ D w x cs,R D w x cs->cs=enc x)
  (hu:P.underlying t=some (.slice e)) (he:(P.info? e).map (fun i=>(i.zero,i.size,i.bytes))=some (some z,kk,by')) (hzs:z.cells.size=kk) (hk0:0<kk) (hi:ops[i]?=some ⟨some d,.call ⟨.builtin .append,#[x,y],#[t,t]⟩,ty,ps,aft,g⟩) (hr:Region.ready .any ops listed=[i]) (hB:Bs.drop j=B0)
  (hn:(Nat.blt d n,gd ops env g,zl H k,ev env x,ev env y,qo (Hs.map (·.1)),xE k (Hs.map (·.1)))=(true,some true,some (.row e kk v m xs),some v,some vy,true,true))
  (hsl:∀ w,VI Bs H w->∃ D,SlR kk R D w vy l) (hmax:m+l.length<=9223372036854775807) (hby:(m+l.length)*by'<=140737488355328)
  (h:∀ u,VD P n Q ks ops Hs B0 L fuel (listed.setIfInBounds i true) ((d,u)::env) ((d,none)::A) (hset H k (.row e kk u (m+l.length) (xs++l.flatMap enc))) Bs):VD P n Q ks ops Hs B0 L (fuel+1) listed env A H Bs:=by
 simp only [Prod.mk.injEq] at hn
 subst hB
 obtain⟨h2,h3,h4,h5,h6,h8,h9⟩:=hn
 intro hH hA w hI
 obtain⟨D,hsl⟩:=hsl w hI
 refine zmF i hi hr h2 h3 (.inl (zlx enc hc h1 (fun x cs=>hR D w x cs) hu he hzs hk0 h5 h6 hsl (hI.at k h4) hmax hby)) ?_
 rintro u w' ⟨ho,hf,hk⟩
 have hI':VI Bs (hset H k (.row e kk u (m+l.length) (xs++l.flatMap enc))) w':=hI.set h4 hk ho trivial (fun _ h=>h) (fun q hq=>⟨by
  rcases hf with hf | ⟨g',hf,hg'⟩
  . exact .inl (by show v.ownBlock=some q;rw [<- hf];exact hq)
  ·
   have hq:u.ownBlock=some q:=hq
   rw [hf] at hq;cases hq;exact .inr hg',xi ho hq⟩)
 have hH':Has Hs (hset H k (.row e kk u (m+l.length) (xs++l.flatMap enc))):=hH.set h4 h9
 exact⟨(hI'.drop j).pick hH' h8,h u hH' (TgOk.none (hA.res h4 (by simp [qt,h4]))) w' hI'⟩
end
section
variable {P:Program} {T:Tab} {Z:Szs} {n:Nat} {Q:Exit->Act->World->Prop} {ks:List Fr} {env env':Env} {A A':Tgs} {H Hs:Hp} {Bs B0:zP} {ops:Array Oper} {v:Value} {L:List Nat} {fuel:Nat} {listed:Array Bool}
theorem VD.one (hT:zlS P T) (hZ:zlT P Z) (i j:Nat) {d:Nat} {op:Op} {ty:TypeId} {ps:String} {aft:Array Edge} {g:Option (Nat × Bool)} {t:Option (Nat × Nat)} (hi:ops[i]?=some ⟨some d,op,ty,ps,aft,g⟩) (hr:Region.ready .any ops listed=[i]) (hn:(Nat.blt d n,gd ops env g,opV T Z env A H op,qo (Hs.map (·.1)))=(true,some true,some (none,v,t),true)) (hB:Bs.drop j=B0)
  (h:VD P n Q ks ops Hs B0 L fuel (listed.setIfInBounds i true) ((d,v)::env) ((d,t)::A) H Bs):VD P n Q ks ops Hs B0 L (fuel+1) listed env A H Bs:=by
 simp only [Prod.mk.injEq] at hn
 subst hB
 intro hH hA w hI
 obtain⟨h1,h2⟩:=zba (w:=w) (Bs:=Bs) hT hZ hn.2.2.1 hA
 refine zmF i hi hr hn.1 hn.2.1 (R:=fun u w'=>u=v/\w'=w) (.inl ⟨v,w,?_,rfl,rfl⟩) ?_
 . exact fun nn a ha=>h2 hI trivial (some d) ty ps aft nn a ha
 rintro _ _ ⟨rfl,rfl⟩
 exact⟨(hI.drop j).pick hH hn.2.2.2,h hH (h1 d) _ hI⟩
end
end Go.GL
namespace Go.Proofs
open Go.GL
def Tryz.szs:Szs:=[(3,0),(27,0),(55,2),(36,1),(86,3),(34,0),(24,0),(26,3),(226,2),(22,0),(84,0),(53,0),(89,5),(92,10),(61,3),(23,0),(123,3),(90,0),(95,6),(83,0),(234,0),(9,0),(37,0),(4,0),(148,3),(160,0),(29,2),(159,0),(191,4),(5,0),(259,32),(260,64),(257,20)]
theorem Tryz.szsOk:zlT Tryz.prog Tryz.szs :=
 zlX (show Szs.one _ 3 0 from⟨tg3,ts3⟩) <|
 zlX (show Szs.one _ 27 0 from⟨tg27,ts27⟩) <|
 zlX (show Szs.one _ 55 2 from⟨tg55,ts55⟩) <|
 zlX (show Szs.one _ 36 1 from⟨tg36,ts36⟩) <|
 zlX (show Szs.one _ 86 3 from⟨tg86,ts86⟩) <|
 zlX (show Szs.one _ 34 0 from⟨Tryz.isAgg34,Tryz.sizeOf34⟩) <|
 zlX (show Szs.one _ 24 0 from⟨tg24,ts24⟩) <|
 zlX (show Szs.one _ 26 3 from⟨tg26,ts26⟩) <|
 zlX (show Szs.one _ 226 2 from⟨tg226,ts226⟩) <|
 zlX (show Szs.one _ 22 0 from⟨tg22,Tryz.sizeOf22⟩) <|
 zlX (show Szs.one _ 84 0 from⟨tg84,Tryz.sizeOf84⟩) <|
 zlX (show Szs.one _ 53 0 from⟨tg53,ts53⟩) <|
 zlX (show Szs.one _ 89 5 from⟨tg89,ts89⟩) <|
 zlX (show Szs.one _ 92 10 from⟨tg92,ts92⟩) <|
 zlX (show Szs.one _ 61 3 from⟨tg61,ts61⟩) <|
 zlX (show Szs.one _ 23 0 from⟨tg23,Tryz.sizeOf23⟩) <|
 zlX (show Szs.one _ 123 3 from⟨Tryz.isAgg123,Tryz.sizeOf123⟩) <|
 zlX (show Szs.one _ 90 0 from⟨tg90,Tryz.sizeOf90⟩) <|
 zlX (show Szs.one _ 95 6 from⟨tg95,ts95⟩) <|
 zlX (show Szs.one _ 83 0 from⟨tg83,Tryz.sizeOf83⟩) <|
 zlX (show Szs.one _ 234 0 from⟨Tryz.isAgg234,ts234⟩) <|
 zlX (show Szs.one _ 9 0 from⟨tg9,ts9⟩) <|
 zlX (show Szs.one _ 37 0 from⟨Tryz.isAgg37,Tryz.sizeOf37⟩) <|
 zlX (show Szs.one _ 4 0 from⟨tg4,ts4⟩) <|
 zlX (show Szs.one _ 148 3 from⟨Tryz.isAgg148,ts148⟩) <|
 zlX (show Szs.one _ 160 0 from⟨Tryz.isAgg160,Tryz.sizeOf160⟩) <|
 zlX (show Szs.one _ 29 2 from⟨Tryz.isAgg29,Tryz.sizeOf29⟩) <|
 zlX (show Szs.one _ 159 0 from⟨Tryz.isAgg159,Tryz.sizeOf159⟩) <|
 zlX (show Szs.one _ 191 4 from⟨Tryz.isAgg191,Tryz.sizeOf191⟩) <|
 zlX (show Szs.one _ 5 0 from⟨tg5,ts5⟩) <|
 zlX (show Szs.one _ 259 32 from⟨Tryz.isAgg259,Tryz.sizeOf259⟩) <|
 zlX (show Szs.one _ 260 64 from⟨Tryz.isAgg260,Tryz.sizeOf260⟩) <|
 zlX (show Szs.one _ 257 20 from⟨Tryz.isAgg257,Tryz.sizeOf257⟩) <|
 zlV
end Go.Proofs
namespace Go.Proofs.YtaenledoagbddaaGreatDoor
open Go.GL
section
variable {n:Nat} {Q:Exit->Act->World->Prop} {ks ks':List Fr} {pos pos':Pos} {env env':Env} {A A':Tgs} {H H' Hs:Hp} {Bs B0:zP} {ops:Array Oper} {L:List Nat} {fuel:Nat} {listed:Array Bool} {v:Value}
theorem Vs (k:Nat) (h:zcg Tryz.tab Tryz.szs n k none ks pos env A H=some (none,ks',pos',env',A',H')) (hr:V Tryz.prog n Q ks' pos' env' A' H' Bs):V Tryz.prog n Q ks pos env A H Bs:=V.go Tryz.tabOk Tryz.szsOk k h hr
theorem Va (k:Nat) {p:Prop} (h:zcg Tryz.tab Tryz.szs n k none ks pos env A H=some (some p,ks',pos',env',A',H')) (hp:p) (hr:V Tryz.prog n Q ks' pos' env' A' H' Bs):V Tryz.prog n Q ks pos env A H Bs:=V.goA Tryz.tabOk Tryz.szsOk k h hp hr
theorem Vq {id:Nat} {l:List Oper} (hB:Region.lexB .any l.toArray=true) (h:V Tryz.prog n Q ks (.q l.toArray l) env A H Bs):V Tryz.prog n Q ks (.c (.region id l.toArray true)) env A H Bs:=zl4 Tryz.mixed hB h
theorem Vw {id:Nat} {l:List Oper} (hs L:List Nat) (hp:zd3 H hs=some Hs) (h:VD Tryz.prog n Q ks l.toArray Hs Bs L l.length (Array.replicate l.length false) env A H Bs):V Tryz.prog n Q ks (.c (.region id l.toArray true)) env A H Bs:=zmN hs L Tryz.mixed hp h
theorem Vd (is:List Nat) (j:Nat) (hc:zbu ops L is listed=true) (hB:Bs.drop j=B0) (hv:zem Tryz.tab Tryz.szs n ops Hs is none env A=some (none,env',A')) (hH0:qo (Hs.map (·.1))=true) (h:VD Tryz.prog n Q ks ops Hs B0 L fuel (zcb is listed) env' A' H Bs):VD Tryz.prog n Q ks ops Hs B0 L (zc4 is fuel) listed env A H Bs:=VD.ps Tryz.tabOk Tryz.szsOk is j hc hB hv hH0 h
theorem Vb (is:List Nat) (j:Nat) {p:Prop} (hc:zbu ops L is listed=true) (hB:Bs.drop j=B0) (hv:zem Tryz.tab Tryz.szs n ops Hs is none env A=some (some p,env',A')) (hH0:qo (Hs.map (·.1))=true) (hp:p) (h:VD Tryz.prog n Q ks ops Hs B0 L fuel (zcb is listed) env' A' H Bs):VD Tryz.prog n Q ks ops Hs B0 L (zc4 is fuel) listed env A H Bs:=zmj Tryz.tabOk Tryz.szsOk is j hc hB hv hH0 hp h
theorem Ve (i j:Nat) {t:TypeId} {x y:Operand} {ty:TypeId} {ps:String} {aft:Array Edge} {g:Option (Nat × Bool)} (hi:ops[i]?=some ⟨none,.store t x y,ty,ps,aft,g⟩) (hr:Region.ready .any ops listed=[i]) (hn:(gd ops env g,zac Tryz.szs env A H t x y,qo (Hs.map (·.1)))=(some true,some H',true)) (hB:Bs.drop j=B0) (hH':Hs.map (fun x=>zl H' x.1)=Hs.map (fun x=>some x.2))
  (h:VD Tryz.prog n Q ks ops Hs B0 L fuel (listed.setIfInBounds i true) env A H' Bs):VD Tryz.prog n Q ks ops Hs B0 L (fuel+1) listed env A H Bs:=VD.st i j Tryz.szsOk hi hr hn hB hH' h
theorem Vl (i:Nat) {t:TypeId} {x y:Operand} {ty:TypeId} {ps:String} {aft:Array Edge} {g:Option (Nat × Bool)} (hi:ops[i]?=some ⟨none,.store t x y,ty,ps,aft,g⟩) (hr:Region.ready .any ops listed=[i]) (hn:(gd ops env g,zac Tryz.szs env A H t x y,L.contains i)=(some true,some H',true))
  (h:VDx Tryz.prog n Q ks ops (VI B0 Hs) L fuel (listed.setIfInBounds i true) env A H' Bs):VD Tryz.prog n Q ks ops Hs B0 L (fuel+1) listed env A H Bs:=zmH i Tryz.szsOk hi hr hn h
theorem Vx {S:World->Prop} (is:List Nat) (hc:zdC ops is listed=true) (hv:zem Tryz.tab Tryz.szs n ops [] is none env A=some (none,env',A')) (h:VDx Tryz.prog n Q ks ops S L fuel (zcb is listed) env' A' H Bs):VDx Tryz.prog n Q ks ops S L (zc4 is fuel) listed env A H Bs:=zmh Tryz.tabOk Tryz.szsOk is hc hv h
theorem Vo (i j:Nat) {d:Nat} {op:Op} {ty:TypeId} {ps:String} {aft:Array Edge} {g:Option (Nat × Bool)} {t:Option (Nat × Nat)} (hi:ops[i]?=some ⟨some d,op,ty,ps,aft,g⟩) (hr:Region.ready .any ops listed=[i]) (hn:(Nat.blt d n,gd ops env g,opV Tryz.tab Tryz.szs env A H op,qo (Hs.map (·.1)))=(true,some true,some (none,v,t),true)) (hB:Bs.drop j=B0)
  (h:VD Tryz.prog n Q ks ops Hs B0 L fuel (listed.setIfInBounds i true) ((d,v)::env) ((d,t)::A) H Bs):VD Tryz.prog n Q ks ops Hs B0 L (fuel+1) listed env A H Bs:=VD.one Tryz.tabOk Tryz.szsOk i j hi hr hn hB h
end
end Go.Proofs.YtaenledoagbddaaGreatDoor
namespace Go.GL
theorem Mat.put {α:Type} {enc:α->Value} {e eo:TypeId} {B:Nat} {w w1 w2:World} {bo:Nat} {rv:List Value} {rows:List (List α)} (h:Mat enc e eo B w bo rv rows) (hB:B<=w.heap.size) {i:Nat} {v v':Value} {r':List α} (hv:rv[i]?=some v)
  (hown:w1.ownsRow 0 e 1 v' r'.length (r'.map enc)) (hfr:v'.ownBlock=v.ownBlock\/∃ g,v'.ownBlock=some g/\w.heap.size<=g) (hk:Keep (fun q=>v.ownBlock=some q) w w1)
  (hst:zd1 w1 bo (rv.set i v') eo w2):Mat enc e eo B w2 bo (rv.set i v') (rows.set i r'):=by
 obtain⟨hs2,hB2,hk2⟩:=hst
 have hbo:=h.out.lt
 have hnew:∀ g,v'.ownBlock=some g->B<=g/\g ≠ bo/\(v.ownBlock=some g\/w.heap.size<=g):=by
  intro g hg
  rcases hfr with h1 | ⟨g',h1,h2⟩
  ·
   rw [h1] at hg
   have:=h.far i v g hv hg
   exact⟨this.1,this.2,.inl hg⟩
  ·
   rw [h1] at hg
   cases hg
   exact⟨by omega,by omega,.inr h2⟩
 have hi:i<rv.length:=(zo7.1 hv).1
 refine⟨hB2,by simp [h.len],?_,?_,?_⟩
 ·
  intro j u s hu hs
  by_cases hij:i=j
  ·
   subst hij
   rw [List.getElem?_set_self hi] at hu
   rw [List.getElem?_set_self (by rw [<- h.len];exact hi)] at hs
   cases hu;cases hs
   exact zT hown hk2 (fun g hg h=>by have:=(hnew g hg).2.1;exact this h)
  ·
   rw [List.getElem?_set_ne hij] at hu hs
   have h1:=h.row j u s hu hs
   have h2:=zT h1 hk (fun g hg hv'=>h.apart i j v u g hij hv hu hv' hg)
   exact zT h2 hk2 (fun g hg h'=>(h.far j u g hu hg).2 h')
 ·
  intro j u g hu hg
  by_cases hij:i=j
  ·
   subst hij
   rw [List.getElem?_set_self hi] at hu
   cases hu
   exact⟨(hnew g hg).1,(hnew g hg).2.1⟩
  ·
   rw [List.getElem?_set_ne hij] at hu
   exact h.far j u g hu hg
 ·
  intro j k u s g hjk hu hs hg hg'
  by_cases hij:i=j
  ·
   subst hij
   rw [List.getElem?_set_self hi] at hu
   rw [List.getElem?_set_ne hjk] at hs
   cases hu
   rcases (hnew g hg).2.2 with h1 | h1
   . exact h.apart i k v s g hjk hv hs h1 hg'
   . have:=h.blk hs hg';omega
  ·
   rw [List.getElem?_set_ne hij] at hu
   by_cases hik:i=k
   ·
    subst hik
    rw [List.getElem?_set_self hi] at hs
    cases hs
    rcases (hnew g hg').2.2 with h1 | h1
    . exact h.apart i j v u g hij hv hu h1 hg
    . have:=h.blk hu hg;omega
   ·
    rw [List.getElem?_set_ne hik] at hs
    exact h.apart j k u s g hjk hu hs hg hg'
open Go.RowKit
def OwnsQ (w:World) (e:TypeId) (k:Nat) (v:Value) (n:Nat) (xs:List Value):Prop :=
 xs.length=n*k/\∃ g off cap cs,v=.slice (some ⟨g,off,none⟩) n cap/\Blk w g cs e/\n<=cap/\cap<=9223372036854775807/\off+cap*k<=cs.length/\(cs.drop off).take (n*k)=xs
theorem OwnsQ.keep {S:Nat->Prop} {w w':World} {e:TypeId} {k:Nat} {v:Value} {n:Nat} {xs:List Value} (h:OwnsQ w e k v n xs) (hk:Keep S w w') (hn:∀ q,v.ownBlock=some q->¬ S q):OwnsQ w' e k v n xs:=by
 obtain⟨h0,g,off,cap,cs,rfl,h1,h2⟩:=h
 exact⟨h0,g,off,cap,cs,rfl,hk.blk h1 (hn g O),h2⟩
theorem OwnsQ.lt {w:World} {e:TypeId} {k:Nat} {v:Value} {n:Nat} {xs:List Value} (h:OwnsQ w e k v n xs) {q:Nat} (hq:v.ownBlock=some q):q<w.heap.size:=by
 obtain⟨h0,g,off,cap,cs,rfl,h1,h2⟩:=h
 cases hq
 exact h1.lt
theorem OwnsQ.form {w:World} {e:TypeId} {k:Nat} {v:Value} {n:Nat} {xs:List Value} (h:OwnsQ w e k v n xs):∃ g off cap,v=.slice (some ⟨g,off,none⟩) n cap/\n<=cap/\cap<=9223372036854775807/\Cells w g off xs:=by
 obtain⟨h0,g,off,cap,cs,rfl,h1,h2,h3,h4,h5⟩:=h
 refine⟨g,off,cap,rfl,h2,h3,fun j u hu=>?_⟩
 rw [<- h5,zop] at hu
 split at hu
 ·
  rw [List.getElem?_drop] at hu
  have:=Blk.cells h1 (off+j) u hu
  simpa using this
 . cases hu
abbrev Qu (e:TypeId) (kk:Nat) (v:Value) (m:Nat) (xs:List Value):HE:=.res (fun q=>v.ownBlock=some q) (fun w=>OwnsQ w e kk v m xs)
theorem Qu.loc {e:TypeId} {kk:Nat} {v:Value} {m:Nat} {xs:List Value}:(Qu e kk v m xs).loc:=fun _ _ _ h hk hT=>h.keep hk fun q hq=>hT q (h.lt hq) hq
abbrev MatP {α:Type} (enc:α->Value) (e eo:TypeId) (B:Nat) (bo:Nat) (rv:List Value) (rows:List (List α)):HE:=.res (fun q=>q=bo\/∃ (i:Nat) (v:Value),rv[i]?=some v/\v.ownBlock=some q) (fun w=>Mat enc e eo B w bo rv rows)
theorem MatP.loc {α:Type} {enc:α->Value} {e eo:TypeId} {B bo:Nat} {rv:List Value} {rows:List (List α)}:(MatP enc e eo B bo rv rows).loc:=fun _ _ _ h hk hT=>h.keep hk (hT bo h.out.lt (.inl rfl)) fun i v g hv hg=>hT g (h.blk hv hg) (.inr ⟨i,v,hv,hg⟩)
theorem VI.add {Bs:zP} {H:Hp} {w:World} {e:HE} (h:VI Bs H w) (k:Nat) (he:e.holds w) (hl:e.loc) (hz:∀ b,¬ e.fz b) (hS:∀ q,e.S q->q<w.heap.size/\(∀ p ∈ Bs,p.2 q\/p.1.heap.size<=q)/\∀ x ∈ H,¬ x.2.S q/\¬ x.2.fz q):VI Bs ((k,e)::H) w:=by
 refine⟨?_,?_,?_,?_,?_,?_⟩
 ·
  intro x hx
  rcases zo9.1 hx with rfl | hx
  . exact he
  . exact h.holds x hx
 ·
  intro x hx
  rcases zo9.1 hx with rfl | hx
  . exact hl
  . exact h.loc x hx
 . exact List.pairwise_cons.2 ⟨fun x hx q hq hs=>((hS q hq).2.2 x hx).1 hs,h.apart⟩
 ·
  intro x hx y hy b hb
  rcases zo9.1 hx with rfl | hx
  . exact absurd hb (hz b)
  ·
   rcases zo9.1 hy with rfl | hy
   . exact fun hs=>((hS b hs).2.2 x hx).2 hb
   . exact h.froz x hx y hy b hb
 ·
  intro x hx q hq
  rcases zo9.1 hx with rfl | hx
  . exact (hS q hq).1
  . exact h.low x hx q hq
 ·
  intro p hp
  refine⟨(h.base p hp).1,fun x hx q hq=>?_⟩
  rcases zo9.1 hx with rfl | hx
  . exact (hS q hq).2.1 p hp
  . exact (h.base p hp).2 x hx q hq
structure RowsOk {α:Type} (enc:α->Value) (e:TypeId) (w:World) (rv:List Value) (rows:List (List α)):Prop where
 len:rv.length=rows.length
 row:∀ (i:Nat) (v:Value) (r:List α),rv[i]?=some v->rows[i]?=some r->w.ownsRow 0 e 1 v r.length (r.map enc)
 apart:∀ (i j:Nat) (vi vj:Value) (g:Nat),i ≠ j->rv[i]?=some vi->rv[j]?=some vj->vi.ownBlock=some g->vj.ownBlock ≠ some g
theorem Mat.rows {α:Type} {enc:α->Value} {e eo:TypeId} {B:Nat} {w:World} {bo:Nat} {rv:List Value} {rows:List (List α)} (h:Mat enc e eo B w bo rv rows):RowsOk enc e w rv rows:=⟨h.len,h.row,h.apart⟩
section
variable {α:Type} {enc:α->Value} {e:TypeId} {w w1:World} {rv:List Value} {rows:List (List α)}
theorem RowsOk.blk (h:RowsOk enc e w rv rows) {i:Nat} {v:Value} {g:Nat} (hv:rv[i]?=some v) (hg:v.ownBlock=some g):g<w.heap.size:=by
 have hi:i<rows.length:=by rw [<- h.len];exact (zo7.1 hv).1
 exact xi (h.row i v _ hv (znT hi)) hg
theorem RowsOk.keep {S:Nat->Prop} (h:RowsOk enc e w rv rows) (hk:Keep S w w1) (hS:∀ (i:Nat) v g,rv[i]?=some v->v.ownBlock=some g->¬ S g):RowsOk enc e w1 rv rows :=
 ⟨h.len,fun i v r hv hr=>zT (h.row i v r hv hr) hk (fun g hg=>hS i v g hv hg),h.apart⟩
theorem RowsOk.put (h:RowsOk enc e w rv rows) {i:Nat} {v v':Value} {r':List α} (hv:rv[i]?=some v) (hown:w1.ownsRow 0 e 1 v' r'.length (r'.map enc)) (hfr:v'.ownBlock=v.ownBlock\/∃ g,v'.ownBlock=some g/\w.heap.size<=g) (hk:Keep (fun q=>v.ownBlock=some q) w w1):RowsOk enc e w1 (rv.set i v') (rows.set i r'):=by
 have hil:=(zo7.1 hv).1
 have hne:∀ (j:Nat) u g,i ≠ j->rv[j]?=some u->v'.ownBlock=some g->u.ownBlock ≠ some g:=by
  intro j u g hij hu hg hug
  rcases hfr with hf | ⟨g',hf,hg'⟩
  . exact h.apart i j v u g hij hv hu (hf ▸ hg) hug
  ·
   rw [hf] at hg;cases hg
   have:=h.blk hu hug
   omega
 refine⟨by simp [h.len],fun j u r hu hr=>?_,fun a b va vb g hab ha hb hg=>?_⟩
 ·
  by_cases hij:i=j
  ·
   subst hij
   rw [List.getElem?_set_self hil] at hu
   rw [List.getElem?_set_self (by rw [<- h.len];exact hil)] at hr
   cases hu;cases hr
   exact hown
  ·
   rw [List.getElem?_set_ne hij] at hu hr
   exact zT (h.row j u r hu hr) hk fun g hg hq=>h.apart i j v u g hij hv hu hq hg
 ·
  by_cases hia:i=a
  ·
   subst hia
   rw [List.getElem?_set_self hil] at ha
   rw [List.getElem?_set_ne hab] at hb
   cases ha
   exact hne b vb g hab hb hg
  ·
   rw [List.getElem?_set_ne hia] at ha
   by_cases hib:i=b
   ·
    subst hib
    rw [List.getElem?_set_self hil] at hb
    cases hb
    exact fun hg'=>hne a va g hia ha hg' hg
   ·
    rw [List.getElem?_set_ne hib] at hb
    exact h.apart a b va vb g hab ha hb hg
end
abbrev RowsP {α:Type} (enc:α->Value) (e:TypeId) (rv:List Value) (rows:List (List α)):HE:=.res (fun q=>∃ (i:Nat) (v:Value),rv[i]?=some v/\v.ownBlock=some q) (fun w=>RowsOk enc e w rv rows)
theorem RowsP.loc {α:Type} {enc:α->Value} {e:TypeId} {rv:List Value} {rows:List (List α)}:(RowsP enc e rv rows).loc:=fun _ _ _ h hk hT=>h.keep hk fun i v g hv hg=>hT g (h.blk hv hg) ⟨i,v,hv,hg⟩
theorem Blk.ix {w:World} {b:Nat} {cs:List Value} {e:TypeId} {i:Nat} {v:Value} (h:Blk w b cs e) (hv:cs[i]?=some v):w.cell? ⟨b,0+(i:Int).toNat*1,none⟩=some v:=by
 have:=Blk.cells h i v hv
 simpa using this
theorem MatP.cell {α:Type} {enc:α->Value} {e eo:TypeId} {B bo:Nat} {rv:List Value} {rows:List (List α)} {w:World} {i:Nat} {v:Value} (h:(MatP enc e eo B bo rv rows).holds w) (hv:rv[i]?=some v):w.cell? ⟨bo,0+(i:Int).toNat*1,none⟩=some v:=by
 have:=Blk.cells (Mat.out (show Mat enc e eo B w bo rv rows from h)) i v hv
 simpa using this
section
variable {P:Program} {T:Tab} {Z:Szs} {n:Nat} {Q:Exit->Act->World->Prop} {ks:List Fr} {pos:Pos} {env:Env} {A:Tgs} {H Hs:Hp} {Bs B0:zP} {ops:Array Oper} {rest:List Oper} {v:Value} {L:List Nat} {fuel:Nat} {listed:Array Bool}
variable {d:Nat} {op:Op} {ty:TypeId} {ps:String} {aft:Array Edge} {g:Option (Nat × Bool)}
theorem zmT (hn:(Nat.blt d n,gd ops env g)=(true,some true)) (hr:∀ w,VI Bs H w->yf P ⟨some d,op,ty,ps,aft,g⟩ env w v w) (h:V P n Q ks (.q ops rest) ((d,v)::env) ((d,none)::A) H Bs):V P n Q ks (.q ops (⟨some d,op,ty,ps,aft,g⟩::rest)) env A H Bs:=by
 simp only [Prod.mk.injEq] at hn
 exact fun hA w hI=>zm4 hn.1 hn.2 (fun w1 hw1=>hr w1 (hI.ext hw1)) (h hA.none w hI)
theorem zmU (k:Nat) {e e':HE} (hn:(zl H k,qt H k)=(some e,none)) (he:∀ w,VI Bs H w->e'.holds w) (hl:e'.loc) (hz:∀ b,¬ e'.fz b) (hS:∀ q,e'.S q->e.S q) (h:V P n Q ks pos env A (hset H k e') Bs):V P n Q ks pos env A H Bs:=by
 simp only [Prod.mk.injEq] at hn
 exact fun hA w hI=>h (hA.res hn.1 hn.2) w (hI.set hn.1 (Keep.refl _ _) (he w hI) hl hz fun q hq=>⟨.inl (hS q hq),hI.low _ (zi hn.1) q (hS q hq)⟩)
theorem V.as (k:Nat) {b:Nat} {cs:List Value} {t:TypeId} {e':HE} (hn:zl H k=some (.own b cs t)) (hA:A.all (fun p=>match p.2 with | some (j,_)=>!Nat.beq k j | none=>true)=true) (he:∀ w,Blk w b cs t->e'.holds w) (hl:e'.loc) (hz:∀ b,¬ e'.fz b) (hS:∀ q,e'.S q->q=b) (h:V P n Q ks pos env A (hset H k e') Bs):V P n Q ks pos env A H Bs:=by
 refine fun hA0 w hI=>h ?_ w (hI.set hn (Keep.refl _ _) (he w (hI.at k hn)) hl hz fun q hq=>⟨.inl (hS q hq),hI.low _ (zi hn) q (hS q hq)⟩)
 intro s j off hs
 obtain⟨b',o,h1,h2⟩:=hA0 s j off hs
 have hkj:Nat.beq k j=false:=by
  have:∀ (A:Tgs),A.all (fun p=>match p.2 with | some (j,_)=>!Nat.beq k j | none=>true)=true->tgt A s=some (j,off)->Nat.beq k j=false:=by
   intro A
   induction A with
   | nil=>intro _ h;cases h
   | cons p r ih =>
    obtain⟨s0,gg⟩:=p
    intro h3 h4
    rw [List.all_cons,Bool.and_eq_true] at h3
    simp only [tgt] at h4
    cases hb:Nat.beq s0 s with
    | true =>
     rw [hb] at h4
     simp only [cond_true] at h4
     subst h4
     simpa using h3.1
    | false=>rw [hb] at h4;exact ih h3.2 h4
  exact this A hA hs
 refine⟨b',o,?_,h2⟩
 unfold qt at h1 ⊢
 rw [qN hn,hkj]
 exact h1
theorem zmV (i:Nat) (hi:ops[i]?=some ⟨some d,op,ty,ps,aft,g⟩) (hc:(Region.noSelect ops&&Region.free .any ops listed i&&(Region.ready .any ops listed).contains i&&L.all (qK .any ops i)&&!L.contains i)=true) (hn:(Nat.blt d n,gd ops env g)=(true,some true)) (j:Nat) (hB:Bs.drop j=B0) (hu:qo (Hs.map (·.1))=true) (hr:∀ w,VI B0 Hs w->yf P ⟨some d,op,ty,ps,aft,g⟩ env w v w)
  (h:VD P n Q ks ops Hs B0 L fuel (listed.setIfInBounds i true) ((d,v)::env) ((d,none)::A) H Bs):VD P n Q ks ops Hs B0 L (fuel+1) listed env A H Bs:=by
 simp only [Prod.mk.injEq] at hn
 subst hB
 exact fun hH hA w hI=>zlR i hi hc O hn.1 ((hI.drop j).pick hH hu) (.inl ⟨xM hn.2,hr⟩) (h hH hA.none w hI)
theorem zmW (i:Nat) {S:World->Prop} {Q:Exit->Act->World->Prop} {op:Op} {w:World} {R:World->Prop} (hi:ops[i]?=some ⟨none,op,ty,ps,aft,g⟩) (hr:Region.ready .any ops listed=[i]) (hg:gd ops env g=some true) (hL:L.contains i=true) (hm:xD P ⟨none,op,ty,ps,aft,g⟩ env w R)
  (h:∀ w',R w'->WD P n ops Q S L fuel (listed.setIfInBounds i true) env w'):WD P n ops Q S L (fuel+1) listed env w:=by
 intro a ha
 refine⟨fun h0=>(by rw [hr] at h0;cases h0),fun k hk=>?_⟩
 rw [hr] at hk
 have:k=i:=by simpa using hk
 subst this
 unfold wpOp
 simp only [hi]
 rw [zo4 (xM hg a ha)]
 refine .inl ?_
 obtain⟨w',hrun,hR⟩:=hm
 unfold Oper.wp
 rw [hrun n a ha,Oper.upon_skip]
 exact⟨fun hc _=>absurd (by simpa using hL) hc,h w' hR _ ha.put0⟩
theorem V.split (k k2:Nat) {α:Type} {enc:α->Value} {e eo:TypeId} {B bo:Nat} {rv:List Value} {rows:List (List α)} (hn:(zl H k,qt H k,(zl H k2).isNone)=(some (MatP enc e eo B bo rv rows),none,true)) (h:V P n Q ks pos env A ((k2,RowsP enc e rv rows)::hset H k (.own bo rv eo)) Bs):V P n Q ks pos env A H Bs:=by
 simp only [Prod.mk.injEq,Option.isNone_iff_eq_none] at hn
 obtain⟨h1,h2,h3⟩:=hn
 intro hA w hI
 have hM:Mat enc e eo B w bo rv rows:=hI.at k h1
 have hm:=zi h1
 have hI2:=hI.set (e':=.own bo rv eo) h1 (Keep.refl _ _) hM.out trivial (fun _ h=>h) fun q hq=>⟨.inl (.inl hq),by have hq:q=bo:=hq;rw [hq];exact hM.out.lt⟩
 have hkk:Nat.beq k k2=false:=by
  cases hb:Nat.beq k k2 with
  | true=>rw [<- zo0 hb,h1] at h3;cases h3
  | false=>rfl
 refine h ((hA.res h1 h2).new ?_) w (hI2.add k2 hM.rows RowsP.loc (fun _ h=>h) ?_)
 . rw [qN h1,hkk];exact h3
 rintro q ⟨i,v,hv,hq⟩
 have hS:(MatP enc e eo B bo rv rows).S q:=.inr ⟨i,v,hv,hq⟩
 refine⟨hM.blk hv hq,fun p hp=>(hI.base p hp).2 _ hm q hS,?_⟩
 exact (qM (e':=.own bo rv eo) (B:=w.heap.size) h1 hI.apart (fun q hq=>.inl (.inl hq)) hI.low).2 (fun x=>¬ x.2.S q/\¬ x.2.fz q) ⟨fun hh=>(hM.far i v q hv hq).2 hh,fun h=>h⟩ fun x hx hap=>⟨fun hs=>hap q hs hS,fun hf=>hI.froz x hx _ hm q hf hS⟩
theorem zmX (is k j:Nat) {ts:TypeId} {x y:Operand} {b o:Nat} {cs:List Value} {e:TypeId} (hss:∀ w,(sizeOf ts).run P w=.ok 1 w) (hi:ops[is]?=some ⟨none,.store ts x y,ty,ps,aft,g⟩) (hr:Region.ready .any ops listed=[is])
  (hn:(gd ops env g,zl H k,ev env x,ev env y,L.contains is)=(some true,some (.own b cs e),some (.pointer (some ⟨b,o,none⟩)),some v,true)) (h1:Go.GL.one v=true) (hj:o=j) (hl:j<cs.length)
  (h:VDx P n Q ks ops (VI B0 Hs) L fuel (listed.setIfInBounds is true) env A (hset H k (.own b (cs.set j v) e)) Bs):VD P n Q ks ops Hs B0 L (fuel+1) listed env A H Bs:=by
 simp only [Prod.mk.injEq] at hn
 subst hj
 obtain⟨h2,h3,h4,h5,h6⟩:=hn
 intro hH hA w hI
 have hB:Blk w b cs e:=hI.at k h3
 obtain⟨c1,c2⟩:=qO h1
 refine zmW is hi hr h2 h6 (M.store hss h4 h5 c1 c2 hB hl) ?_
 rintro w2 ⟨_,hB2,hk2⟩
 exact h (hA.set h3) w2 (hI.set h3 hk2 hB2 trivial (fun _ h=>h) fun q hq=>⟨.inl hq,by have hq:q=b:=hq;rw [hq];exact hB2.lt⟩)
theorem VI.row {e:TypeId} {kk m b:Nat} {zs:List Value} {w w':World} (k:Nat) (hI:VI Bs H w) (hm:m<=9223372036854775807) (hl:zs.length=m*kk) (hN:New w zs e b w'):VI Bs ((k,.row e kk (.slice (some ⟨b,0,none⟩) m m) m zs)::H) w':=by
 obtain⟨h1,h2,h3,h4⟩:=hN
 refine hI.new h4 k ?_ trivial (fun _ h=>h) (fun q hq=>?_)
 ·
  have:=yG (k:=kk) (n:=m) (cap:=m) h3 (zoi _) hm hl
  rw [<- hl,znY] at this
  exact this
 ·
  have hq:some b=some q:=hq
  cases hq
  omega
theorem VD.make (i k j:Nat) {t e:TypeId} {kk by' m:Nat} {z:Value} {x y:Operand} {kl kc:IntKind} {zs:List Value} (hu:P.underlying t=some (.slice e)) (he:(P.info? e).map (fun i=>(i.zero,i.size,i.bytes))=some (some z,kk,by'))
  (hi:ops[i]?=some ⟨some d,.makeSlice t x y,ty,ps,aft,g⟩) (hr:Region.ready .any ops listed=[i]) (hn:(Nat.blt d n,gd ops env g,(zl H k).isNone,ev env x,ev env y,qo (Hs.map (·.1)))=(true,some true,true,some (.int kl (m:Int)),some (.int kc (m:Int)),true)) (hB:Bs.drop j=B0)
  (hb:by'*m<=281474976710656) (hm:m<=9223372036854775807) (hz:madeCells z.cells (m*kk)=zs.toArray) (hl:zs.length=m*kk)
  (h:∀ b,VD P n Q ks ops Hs B0 L fuel (listed.setIfInBounds i true) ((d,.slice (some ⟨b,0,none⟩) m m)::env) ((d,none)::A) ((k,.row e kk (.slice (some ⟨b,0,none⟩) m m) m zs)::H) Bs):VD P n Q ks ops Hs B0 L (fuel+1) listed env A H Bs:=by
 simp only [Prod.mk.injEq,Option.isNone_iff_eq_none] at hn
 subst hB
 obtain⟨h1,h2,h3,h4,h5,h6⟩:=hn
 intro hH hA w hI
 refine zmF i hi hr h1 h2 (.inl (zl0 hu he h4 h5 hb hm hz)) ?_
 rintro _ w1 ⟨b,rfl,hN⟩
 have hI1:=hI.row k hm hl hN
 have hH1:Has Hs ((k,.row e kk (.slice (some ⟨b,0,none⟩) m m) m zs)::H):=hH.new h3
 exact⟨(hI1.drop j).pick hH1 h6,h b hH1 (TgOk.none (hA.new h3)) w1 hI1⟩
theorem zmY {f:FuncId} {x:Operand} {fs cs:List Value} {xs:Array Operand} {ts:Array TypeId} {vs:List Value} (hf:∀ args w,(callFunc f args).run P w=.ok (.enter f args) w) (hn:(Nat.blt d n,gd ops env g,qu env xs.toList,ev env x)=(true,some true,some vs,some (.func (.func f) fs.toArray cs.toArray)))
  (hc:∀ w,VI Bs H w->Calls P f (fs++vs++cs).toArray w (Ret fun r w'=>r=v/\Ext w w')) (h:V P n Q ks (.o ops rest) ((d,v)::env) ((d,none)::A) H Bs):V P n Q ks (.o ops (⟨some d,.call ⟨.value x,xs,ts⟩,ty,ps,aft,g⟩::rest)) env A H Bs:=by
 refine fun hA w hI=>zkV hn hf (hc w hI) ?_
 rintro _ w' ⟨rfl,hk⟩
 exact h hA.none w' (hI.ext hk)
end
open Go.RowKit
def zbw (k:Nat):List Nat->Bool
 | []=>false
 | j::r=>cond (Nat.beq j k) true (zbw k r)
def yu (ks:List Nat):Hp->Hp
 | []=>[]
 | x::r=>cond (zbw x.1 ks) (yu ks r) (x::yu ks r)
theorem yi {ks:List Nat}:∀ {H:Hp} {x:Nat × HE},x ∈ yu ks H->x ∈ H/\zbw x.1 ks=false
 | y::r,x,h=>by
  simp only [yu] at h
  cases hb:zbw y.1 ks with
  | true =>
   rw [hb] at h
   have h:x ∈ yu ks r:=h
   exact⟨znW _ (yi h).1,(yi h).2⟩
  | false =>
   rw [hb] at h
   rcases zo9.1 h with rfl | h
   . exact⟨znX ..,hb⟩
   . exact⟨znW _ (yi h).1,(yi h).2⟩
theorem hdels_sub {ks:List Nat}:∀ {H:Hp},(yu ks H).Sublist H
 | []=>List.Sublist.refl _
 | y::r=>by
  simp only [yu]
  cases zbw y.1 ks with
  | true=>exact hdels_sub.trans (List.sublist_cons_self ..)
  | false=>exact hdels_sub.cons_cons _
theorem zgE {H:Hp} (h:H.Pairwise (fun x y=>∀ q,x.2.S q->¬ y.2.S q)):∀ x ∈ H,∀ y ∈ H,x ≠ y->∀ q,x.2.S q->¬ y.2.S q:=by
 induction H with
 | nil=>intro x hx;cases hx
 | cons z r ih =>
  rw [List.pairwise_cons] at h
  intro x hx y hy hne q hq hs
  rcases zo9.1 hx with h1 | h1
  ·
   rcases zo9.1 hy with h2 | h2
   . exact hne (h1.trans h2.symm)
   . subst h1;exact h.1 y h2 q hq hs
  ·
   rcases zo9.1 hy with h2 | h2
   . subst h2;exact h.1 x h1 q hs hq
   . exact ih h.2 x h1 y h2 hne q hq hs
def InS (H:Hp) (ks:List Nat) (q:Nat):Prop:=∃ y ∈ H,zbw y.1 ks=true/\y.2.S q
structure Hands (H:Hp) (ks:List Nat) (Hn:Hp) (w w':World):Prop where
 keep:Keep (InS H ks) w w'
 ok:∀ x ∈ Hn,x.2.holds w'/\x.2.loc/\(∀ b,¬ x.2.fz b)/\∀ q,x.2.S q->(InS H ks q\/w.heap.size<=q)/\q<w'.heap.size
 apart:Hn.Pairwise (fun x y=>∀ q,x.2.S q->¬ y.2.S q)
theorem VI.hands {Bs:zP} {H Hn:Hp} {ks:List Nat} {w w':World} (h:VI Bs H w) (hh:Hands H ks Hn w w'):VI Bs (Hn++yu ks H) w':=by
 have hrest:∀ x ∈ yu ks H,∀ q,InS H ks q->¬ x.2.S q:=by
  rintro x hx q ⟨y,hy,hk,hq⟩ hs
  obtain⟨h1,h2⟩:=yi hx
  exact zgE h.apart x h1 y hy (fun e=>by rw [e,hk] at h2;cases h2) q hs hq
 have hfz:∀ x ∈ yu ks H,∀ b,x.2.fz b->¬ InS H ks b:=by
  rintro x hx b hb ⟨y,hy,hk,hq⟩
  exact h.froz x (yi hx).1 y hy b hb hq
 have hlo:∀ x ∈ yu ks H,∀ q,x.2.S q->q<w.heap.size:=fun x hx q hq=>h.low x (yi hx).1 q hq
 have hnew:∀ x ∈ yu ks H,∀ y ∈ Hn,∀ q,y.2.S q->¬ x.2.S q:=fun x hx y hy q hq hs=>by
  rcases ((hh.ok y hy).2.2.2 q hq).1 with h1 | h1
  . exact hrest x hx q h1 hs
  . have:=hlo x hx q hs;omega
 refine⟨?_,?_,?_,?_,?_,?_⟩
 ·
  intro x hx
  rcases zoc.1 hx with hx | hx
  . exact (hh.ok x hx).1
  ·
   have h1:=(yi hx).1
   exact HE.keep (e:=x.2) (h.holds x h1) (h.loc x h1) hh.keep (fun q hq hi=>hrest x hx q hi hq) (hfz x hx)
 ·
  intro x hx
  rcases zoc.1 hx with hx | hx
  . exact (hh.ok x hx).2.1
  . exact h.loc x (yi hx).1
 . exact List.pairwise_append.2 ⟨hh.apart,h.apart.sublist hdels_sub,fun x hx y hy q hq=>hnew y hy x hx q hq⟩
 ·
  intro x hx y hy b hb hs
  rcases zoc.1 hx with hx | hx
  . exact (hh.ok x hx).2.2.1 b hb
  ·
   rcases zoc.1 hy with hy | hy
   ·
    rcases ((hh.ok y hy).2.2.2 b hs).1 with h1 | h1
    . exact hfz x hx b hb h1
    . have:=zml (h.holds x (yi hx).1) hb;omega
   . exact h.froz x (yi hx).1 y (yi hy).1 b hb hs
 ·
  intro x hx q hq
  rcases zoc.1 hx with hx | hx
  . exact ((hh.ok x hx).2.2.2 q hq).2
  . exact Nat.lt_of_lt_of_le (hlo x hx q hq) hh.keep.size
 ·
  intro p hp
  obtain⟨h1,h2⟩:=h.base p hp
  refine⟨h1.trans hh.keep fun q hq hi=>?_,fun x hx q hq=>?_⟩
  ·
   obtain⟨y,hy,_,hs⟩:=hi
   exact (h2 y hy q hs).resolve_right (by omega)
  ·
   rcases zoc.1 hx with hx | hx
   ·
    rcases ((hh.ok x hx).2.2.2 q hq).1 with⟨y,hy,_,hs⟩ | h3
    . exact h2 y hy q hs
    . exact .inr (znZ h1.size h3)
   . exact h2 x (yi hx).1 q hq
theorem VI.lent {H:Hp} {w:World} (hh:∀ x ∈ H,x.2.holds w/\x.2.loc/\(∀ b,¬ x.2.fz b)/\∀ q,x.2.S q->q<w.heap.size) (hap:H.Pairwise (fun x y=>∀ q,x.2.S q->¬ y.2.S q)):VI [(w,HS H)] H w :=
 ⟨fun x hx=>(hh x hx).1,fun x hx=>(hh x hx).2.1,hap,fun x hx _ _ b hb _=>(hh x hx).2.2.1 b hb,fun x hx=>(hh x hx).2.2.2,fun p hp=>by
  rw [zob] at hp
  subst hp
  exact⟨Keep.refl _ _,fun x hx q hq=>.inl ⟨x,hx,hq⟩⟩⟩
section
variable {P:Program} {n:Nat} {Q:Exit->Act->World->Prop} {ks:List Fr} {pos:Pos} {env:Env} {A:Tgs} {H:Hp} {Bs:zP} {ops:Array Oper} {rest:List Oper} {v:Value}
variable {d:Nat} {ty:TypeId} {ps:String} {aft:Array Edge} {g:Option (Nat × Bool)}
theorem zn0 {w:World} (H:Hp) (hh:∀ x ∈ H,x.2.holds w/\x.2.loc/\(∀ b,¬ x.2.fz b)/\∀ q,x.2.S q->q<w.heap.size) (hap:H.Pairwise (fun x y=>∀ q,x.2.S q->¬ y.2.S q)) (h:V P n Q ks pos env [] H [(w,HS H)]):G P n Q ks pos env w:=h TgOk.nil w (VI.lent hh hap)
theorem zn1 (kk:List Nat) {f:FuncId} {xs:Array Operand} {ts:Array TypeId} {vs:List Value} {α:Type} {Hn:α->Hp} {Φ:Value->α->Prop} (A1:Tgs) (hf:∀ args w,(callFunc f args).run P w=.ok (.enter f args) w) (hn:(Nat.blt d n,gd ops env g,qu env xs.toList)=(true,some true,some vs))
  (hA1:∀ r x,A1.map (fun p=>zd2 ((d,r)::env) p.1)=A1.map (fun p=>jx (Hn x++yu kk H) p.2)) (hA2:∀ x,A1.all (fun p=>(jx (Hn x++yu kk H) p.2).isSome)=true)
  (hc:∀ w,VI Bs H w->Calls P f vs.toArray w (Ret fun r w'=>∃ x,Φ r x/\Hands H kk (Hn x) w w'))
  (h:∀ r x,Φ r x->V P n Q ks (.o ops rest) ((d,r)::env) A1 (Hn x++yu kk H) Bs):V P n Q ks (.o ops (⟨some d,.call ⟨.value (.func f),xs,ts⟩,ty,ps,aft,g⟩::rest)) env A H Bs:=by
 refine fun hA w hI=>G.call hn hf (hc w hI) ?_
 rintro r w' ⟨x,hP,hh⟩
 exact h r x hP (zlQ (hA1 r x) (hA2 x)) w' (hI.hands hh)
theorem zn2 {Hs:Hp} {B0:zP} {L:List Nat} {fuel:Nat} {listed:Array Bool} {op:Array Oper} (i j:Nat) (kk:List Nat) {f:FuncId} {xs:Array Operand} {ts:Array TypeId} {vs:List Value} {α:Type} {Hn:α->Hp} {Φ:Value->α->Prop} (A1:Tgs) (hf:∀ args w,(callFunc f args).run P w=.ok (.enter f args) w) (hi:op[i]?=some ⟨some d,.call ⟨.value (.func f),xs,ts⟩,ty,ps,aft,g⟩) (hr:Region.ready .any op listed=[i]) (hn:(Nat.blt d n,gd op env g,qu env xs.toList,qo (Hs.map (·.1)))=(true,some true,some vs,true)) (hB:Bs.drop j=B0)
  (hHs:∀ x,Hs.map (fun y=>zl (Hn x++yu kk H) y.1)=Hs.map (fun y=>some y.2))
  (hA1:∀ r x,A1.map (fun p=>zd2 ((d,r)::env) p.1)=A1.map (fun p=>jx (Hn x++yu kk H) p.2)) (hA2:∀ x,A1.all (fun p=>(jx (Hn x++yu kk H) p.2).isSome)=true)
  (hc:∀ w,VI Bs H w->Calls P f vs.toArray w (Ret fun r w'=>∃ x,Φ r x/\Hands H kk (Hn x) w w'))
  (h:∀ r x,Φ r x->VD P n Q ks op Hs B0 L fuel (listed.setIfInBounds i true) ((d,r)::env) A1 (Hn x++yu kk H) Bs):VD P n Q ks op Hs B0 L (fuel+1) listed env A H Bs:=by
 simp only [Prod.mk.injEq] at hn
 subst hB
 intro hH hA w hI
 refine zmF i hi hr hn.1 hn.2.1 (.inr ⟨f,_,F.call hf (yH hn.2.2.1),hc w hI⟩) ?_
 rintro r w' ⟨x,hP,hh⟩
 have hI':=hI.hands hh
 exact⟨(hI'.drop j).pick (zlP (hHs x)) hn.2.2.2,h r x hP (zlP (hHs x)) (zlQ (hA1 r x) (hA2 x)) w' hI'⟩
end
theorem VI.k4 {Bs:zP} {H:Hp} {w:World} {p0 p1 p2 p3 p4:World × (Nat->Prop)} (h:VI (p0::p1::p2::p3::p4::Bs) H w):Keep p4.2 p4.1 w:=(h.base p4 (by simp)).1
theorem VI.k5 {Bs:zP} {H:Hp} {w:World} {p0 p1 p2 p3 p4 p5:World × (Nat->Prop)} (h:VI (p0::p1::p2::p3::p4::p5::Bs) H w):Keep p5.2 p5.1 w:=(h.base p5 (by simp)).1
theorem VI.k6 {Bs:zP} {H:Hp} {w:World} {p0 p1 p2 p3 p4 p5 p6:World × (Nat->Prop)} (h:VI (p0::p1::p2::p3::p4::p5::p6::Bs) H w):Keep p6.2 p6.1 w:=(h.base p6 (by simp)).1
theorem VI.k7 {Bs:zP} {H:Hp} {w:World} {p0 p1 p2 p3 p4 p5 p6 p7:World × (Nat->Prop)} (h:VI (p0::p1::p2::p3::p4::p5::p6::p7::Bs) H w):Keep p7.2 p7.1 w:=(h.base p7 (by simp)).1
theorem VI.k8 {Bs:zP} {H:Hp} {w:World} {p0 p1 p2 p3 p4 p5 p6 p7 p8:World × (Nat->Prop)} (h:VI (p0::p1::p2::p3::p4::p5::p6::p7::p8::Bs) H w):Keep p8.2 p8.1 w:=(h.base p8 (by simp)).1
theorem VI.k9 {Bs:zP} {H:Hp} {w:World} {p0 p1 p2 p3 p4 p5 p6 p7 p8 p9:World × (Nat->Prop)} (h:VI (p0::p1::p2::p3::p4::p5::p6::p7::p8::p9::Bs) H w):Keep p9.2 p9.1 w:=(h.base p9 (by simp)).1
theorem SlR.atD {α:Type} {k:Nat} {R:Rel α} {D:Nat->Prop} {w:World} {ao:Option Addr} {n cap:Nat} {l:List α} (h:SlR k R D w (.slice ao n cap) l) {i:Nat} {x:α} (hx:l[i]?=some x):∃ b o cs,ao=some ⟨b,o,none⟩/\D b/\Cells w b (o+i*k) cs/\R D w x cs:=by
 obtain⟨ao',cap',h1,h2,h3,h4⟩:=h
 cases h1
 obtain⟨b,o,cs,h5,h6,_,h8,h9⟩:=h4 i x hx
 exact⟨b,o,cs,h5,h6,h8,h9⟩
theorem zn3 {P:Program} {env:Env} {w:World} {dst:Option Tmp} {ty:TypeId} {pos:String} {aft:Array Edge} {g:Option (Nat × Bool)} {t e:TypeId} {x y:Operand} {cs:List Value} {len:Nat} {kd:IntKind} {i:Int} {v:Value} (hu:∀ w,(underlying t).run P w=.ok (.array len e) w) (hs:∀ w,(sizeOf e).run P w=.ok 1 w) (hag:∀ w,(isAgg e).run P w=.ok false w) (hx:ev env x=some (.agg cs.toArray)) (hy:ev env y=some (.int kd i)) (h0:0<=i/\i<len) (hv:cs[i.toNat]?=some v) :
  yf P ⟨dst,.index t x y,ty,pos,aft,g⟩ env w v w:=by
 intro n a ha
 simp [execOp,ha.eval hx,ha.eval hy,Instr.index,asIntOf,hu,hs,h0,part,hag,hv]
open Go.RowKit
def Wr (p:TypeId->Bool) (W0:Nat) (w:World) (k:Nat):Prop:=W0<=k/\∀ cs e,Blk w k cs e->p e=true
abbrev KT (p:TypeId->Bool) (W0:Nat) (w w':World):Prop:=Keep (Wr p W0 w) w w'
section
variable {p:TypeId->Bool} {W0:Nat} {w w' w'':World}
theorem Blk.ty {b:Nat} {cs cs':List Value} {e e':TypeId} (h:Blk w b cs e) (h':Blk w b cs' e'):e=e'/\cs=cs':=by
 unfold Blk at h h'
 rw [h] at h'
 injection h' with h'
 injection h' with h1 h2
 exact⟨h2,List.toArray_inj h1⟩
theorem Blk.ne {a b:Nat} {cs cs':List Value} {e e':TypeId} (h:Blk w a cs e) (h':Blk w b cs' e') (hne:e ≠ e'):a ≠ b:=by
 rintro rfl
 exact hne (h.ty h').1
theorem Wr.mk {k:Nat} {cs:List Value} {e:TypeId} (hW:W0<=k) (hb:Blk w k cs e) (hp:p e=true):Wr p W0 w k:=⟨hW,fun cs' e' h=>by rw [<- (hb.ty h).1];exact hp⟩
theorem KT.refl:KT p W0 w w:=Keep.refl _ _
theorem KT.trans (h:KT p W0 w w') (h':KT p W0 w' w''):KT p W0 w w'':=by
 refine Keep.trans h h' (fun k hk hT=>?_)
 by_cases hS:Wr p W0 w k
 . exact hS
 ·
  exfalso
  apply hS
  refine⟨hT.1,fun cs e h2=>hT.2 cs e ?_⟩
  unfold Blk at h2 ⊢
  rw [h.block k hk hS];exact h2
theorem zag {e:TypeId} {k:Nat} {v:Value} {n:Nat} {xs:List Value} (h:w.ownsRow 0 e k v n xs) {g:Nat} (hg:v.ownBlock=some g):∃ cs,Blk w g cs e:=by
 rcases h.2 with⟨rfl,_⟩ | ⟨g',cap,cur,rfl,_,h2,_⟩
 . simp [Value.ownBlock] at hg
 ·
  simp [Value.ownBlock] at hg
  subst hg
  exact⟨cur.toList,by unfold Blk;simpa using h2⟩
theorem KT.row {e:TypeId} {k:Nat} {v:Value} {n:Nat} {xs:List Value} (ho:w.ownsRow 0 e k v n xs) (hp:p e=true) (hW:∀ g,v.ownBlock=some g->W0<=g) (h:Keep (fun k=>v.ownBlock=some k) w w'):KT p W0 w w' :=
 h.mono (fun g _ hg=>by obtain⟨cs,hb⟩:=zag ho hg;exact Wr.mk (hW g hg) hb hp)
theorem KT.new {S:Nat->Prop} (h:KT p W0 w w') (h':Keep S w' w'') (hS:∀ k,S k->w.heap.size<=k):KT p W0 w w'' :=
 Keep.trans h h' (fun k hk hT=>absurd (hS k hT) (by omega))
theorem KT.mono {q:TypeId->Bool} {W1:Nat} (h:KT p W0 w w') (hq:∀ e,p e=true->q e=true) (hW:W1<=W0):KT q W1 w w' :=
 Keep.mono h (fun k _ ⟨h1,h2⟩=>⟨by omega,fun cs e hb=>hq e (h2 cs e hb)⟩)
theorem KT.fresh (h:KT p W0 w w') (hW:w.heap.size<=W0):Ext w w':=Keep.mono h (fun k hk ⟨h1,_⟩=>by omega)
theorem KT.blk (h:KT p W0 w w') {b:Nat} {cs:List Value} {e:TypeId} (hb:Blk w b cs e) (hp:p e=false):Blk w' b cs e :=
 Keep.blk h hb (fun⟨_,h2⟩=>by have:=h2 _ _ hb;rw [hp] at this;cases this)
theorem KT.own (h:KT p W0 w w') {e:TypeId} {k:Nat} {v:Value} {n:Nat} {xs:List Value} (ho:w.ownsRow 0 e k v n xs) (hp:p e=false):w'.ownsRow 0 e k v n xs :=
 zT ho h (fun g hg ⟨_,h2⟩=>by obtain⟨cs,hb⟩:=zag ho hg;have:=h2 _ _ hb;rw [hp] at this;cases this)
theorem KT.sl (h:KT p W0 w w') {α:Type} {k:Nat} {R:Rel α} (hs:zW R) {D:Nat->Prop} {v:Value} {l:List α} (hl:SlR k R D w v l) (hD:∀ q,D q->q<W0):SlR k R D w' v l :=
 hl.keep hs h (fun q hq _ ⟨h1,_⟩=>by have:=hD q hq;omega)
abbrev Above (B:Nat) (w w':World):Prop:=Keep (fun k=>B<=k) w w'
theorem Above.then {B:Nat} (h:Above B w w') (h':Above B w' w''):Above B w w'':=Keep.trans h h' (fun _ _ h=>h)
theorem Above.sl {B:Nat} (h:Above B w w') {α:Type} {k:Nat} {R:Rel α} (hs:zW R) {D:Nat->Prop} {v:Value} {l:List α} (hl:SlR k R D w v l) (hD:∀ q,D q->q<B):SlR k R D w' v l :=
 hl.keep hs h (fun q hq _ (h1:B<=q)=>by have:=hD q hq;omega)
theorem zn4 {B:Nat} (h:Above B w w') (hB:w.heap.size<=B):Ext w w':=Keep.mono h (fun k hk (h1:B<=k)=>by omega)
end
open Go.RowKit
def OwnR {α:Type} (e:TypeId) (k:Nat) (R:Rel α) (D:Nat->Prop) (w:World) (v:Value) (l:List α):Prop :=
 ∃ xs:List Value,w.ownsRow 0 e k v l.length xs/\∀ (i:Nat) x,l[i]?=some x->R D w x ((xs.drop (i*k)).take k)
section
variable {α:Type} {e:TypeId} {k:Nat} {R:Rel α} {D:Nat->Prop} {w w':World} {v:Value} {l:List α}
theorem OwnR.nil:OwnR e k R D w (.slice none 0 0) ([]:List α):=⟨[],za5 _ _ _,fun i x h=>by simp at h⟩
theorem OwnR.keep {S:Nat->Prop} (h:OwnR e k R D w v l) (hs:zW R) (hk:Keep S w w') (hD:∀ q,D q->q<w.heap.size->¬ S q) (hv:∀ g,v.ownBlock=some g->¬ S g):OwnR e k R D w' v l:=by
 obtain⟨xs,h1,h2⟩:=h
 exact⟨xs,zT h1 hk hv,fun i x hx=>hs D D w w' (fun _ h=>h) (fun b hb hlt=>hk.block b hlt (hD b hb hlt)) x _ (h2 i x hx)⟩
theorem OwnR.ext (h:OwnR e k R D w v l) (hs:zW R) (hk:Ext w w'):OwnR e k R D w' v l:=h.keep hs hk (fun _ _ _ h=>h) (fun _ _ h=>h)
instance [h:StC R]:Tr (OwnR e k R D w v l) w w' (OwnR e k R D w' v l):=⟨fun h' hk=>h'.ext h.s hk⟩
theorem OwnR.lit {g:Nat} {cs:List Value} {x:α} (hb:Blk w g cs e) (hk:cs.length=k) (hx:R D w x cs):OwnR e k R D w (.slice (some ⟨g,0,none⟩) 1 1) [x]:=by
 refine⟨cs,?_,fun i y hy=>?_⟩
 ·
  have:=yG (k:=k) (n:=1) (cap:=1) hb (zoi _) (by decide) (by omega)
  rw [List.take_of_length_le (by omega)] at this
  exact this
 ·
  cases i with
  | zero=>simp at hy;subst hy;rw [Nat.zero_mul,List.drop_zero,List.take_of_length_le (by omega)];exact hx
  | succ i=>simp at hy
theorem zn5 (hR:∀ x cs,R D w x cs->∀ u ∈ cs,u.oneCell'=true) {n:Nat} {xs:List Value} (h1:w.ownsRow 0 e k v n xs) (hn:n=l.length) (h2:∀ (i:Nat) x,l[i]?=some x->R D w x ((xs.drop (i*k)).take k)):∀ u ∈ xs,u.oneCell'=true:=by
 intro u hu
 obtain⟨q,hq⟩:=List.mem_iff_getElem?.1 hu
 have hql:=(zo7.1 hq).1
 have hxl:=h1.1
 have hk:0<k:=by
  rcases Nat.eq_zero_or_pos k with rfl | h
  . rw [Nat.mul_zero] at hxl;omega
  . exact h
 have hi:q / k<l.length:=by rw [Nat.div_lt_iff_lt_mul hk,<- hn];omega
 have hd:q / k*k+q % k=q:=by rw [Nat.mul_comm];exact Nat.div_add_mod q k
 have hm:=Nat.mod_lt q hk
 refine hR _ _ (h2 (q / k) l[q / k] (znT hi)) u ?_
 refine List.mem_iff_getElem?.2 ⟨q % k,?_⟩
 rw [zop,zo4 hm,List.getElem?_drop,hd];exact hq
theorem OwnR.sl {D':Nat->Prop} (h:OwnR e k R D w v l) (hk:0<k) (hs:zW R) (hD:∀ q,D q->D' q) (hv:∀ g,v.ownBlock=some g->D' g):SlR k R D' w v l:=by
 obtain⟨xs,h1,h2⟩:=h
 obtain⟨ao,cap,rfl,hc,hm⟩:=jv h1
 refine⟨ao,cap,rfl,hc,hm,fun i x hx=>?_⟩
 have hi:=(zo7.1 hx).1
 have hxl:=h1.1
 obtain⟨a0,rfl⟩:∃ a0,ao=some a0:=by
  cases ao with
  | some a0=>exact⟨a0,rfl⟩
  | none =>
   rcases h1.2 with⟨_,h⟩ | ⟨g,cap,cur,h,_⟩
   . omega
   . cases h
 obtain⟨e1,e2,hcl⟩:=xN h1
 obtain⟨b0,o0,s0⟩:=a0
 simp only at e1 e2 hcl
 subst e1;subst e2
 have h5:(i+1)*k<=l.length*k:=Nat.mul_le_mul_right _ hi
 rw [Nat.succ_mul] at h5
 refine⟨b0,0,_,rfl,hv b0 rfl,?_,?_,hs D D' w w hD (fun _ _ _=>rfl) x _ (h2 i x hx)⟩
 . rw [zon,List.length_drop];omega
 ·
  intro j u hj
  rw [zop] at hj
  split at hj
  ·
   rw [List.getElem?_drop] at hj
   have:=hcl _ _ hj
   rw [Nat.zero_add] at this ⊢
   exact this
  . cases hj
theorem OwnR.form (h:OwnR e k R D w v l):∃ ao c,v=.slice ao l.length c/\l.length<=c/\c<=9223372036854775807:=by
 obtain⟨xs,h1,_⟩:=h
 exact jv h1
theorem OwnR.ty (h:OwnR e k R D w v l) {g:Nat} (hg:v.ownBlock=some g):∃ cs,Blk w g cs e:=by
 obtain⟨xs,h1,_⟩:=h
 exact zag h1 hg
end
section
variable {α:Type} {R:Rel α} {D:Nat->Prop} {P:Program} {env:Env} {w:World} {dst:Option Tmp} {ty:TypeId} {pos:String} {aft:Array Edge} {g:Option (Nat × Bool)} {l l':List α}
theorem zn6 {t e:TypeId} {k by':Nat} {z:Value} {x y:Operand} {v vy:Value} (hu:P.underlying t=some (.slice e)) (he:(P.info? e).map (fun i=>(i.zero,i.size,i.bytes))=some (some z,k,by')) (hzs:z.cells.size=k) (hk:0<k)
  (hx:ev env x=some v) (hy:ev env y=some vy) (hs:zW R) (h1:∀ x cs,R D w x cs->∀ u ∈ cs,u.oneCell'=true) (hown:OwnR e k R D w v l) (hoy:OwnR e k R D w vy l') (hD:∀ q,D q->q<w.heap.size->v.ownBlock ≠ some q) (hmax:l.length+l'.length<=9223372036854775807) (hby:(l.length+l'.length)*by'<=140737488355328) :
  yh P ⟨dst,.call ⟨.builtin .append,#[x,y],#[t,t]⟩,ty,pos,aft,g⟩ env w (fun u w'=>OwnR e k R D w' u (l++l')/\(u.ownBlock=v.ownBlock\/∃ g,u.ownBlock=some g/\w.heap.size<=g)/\Keep (fun k=>v.ownBlock=some k) w w'):=by
 obtain⟨ys,q1,q2⟩:=hoy
 obtain⟨xs,q3,q4⟩:=hown
 obtain⟨u,w',hr,h5,h6,h7⟩:=zmk (g:=g) (pos:=pos) (aft:=aft) (dst:=dst) (ty:=ty) hu he hzs hk hx hy q3 q1 (zn5 h1 q1 rfl q2) hmax hby
 refine⟨u,w',hr,?_,h6,h7⟩
 refine⟨xs++ys,by rw [zo1];exact h5,?_⟩
 have hst:∀ x cs,R D w x cs->R D w' x cs:=fun x cs h=>hs D D w w' (fun _ h=>h) (fun b hb hlt=>h7.block b hlt (hD b hb hlt)) x cs h
 intro i x hx
 have hxl:=q3.1
 by_cases hi:i<l.length
 ·
  rw [zoj hi] at hx
  have h5:(i+1)*k<=l.length*k:=Nat.mul_le_mul_right _ hi
  rw [Nat.succ_mul] at h5
  rw [List.drop_append_of_le_length (by omega),List.take_append_of_le_length (by rw [List.length_drop];omega)]
  exact hst _ _ (q4 i x hx)
 ·
  rw [zok (by omega)] at hx
  have h5:l.length*k<=i*k:=Nat.mul_le_mul_right _ (by omega)
  rw [List.drop_append,List.drop_eq_nil_of_le (by omega),List.nil_append,hxl,<- Nat.sub_mul]
  exact hst _ _ (q2 _ x hx)
end
open Go.RowKit
instance {α:Type} {k:Nat} {R:Rel α} [h:Dt R] [hk:NeZero k]:Dt (RSl k R):=⟨yV h.s,fun _ _ _ _ ⟨v,h1,h2⟩=>⟨v,h1,h2.narrow (Nat.pos_of_ne_zero hk.out) h.n⟩⟩
section
variable {P:Program} {n:Nat} {Q:Exit->Act->World->Prop} {ks:List Fr} {pos:Pos} {env:Env} {A:Tgs} {H:Hp} {Bs:zP} {ops:Array Oper} {rest:List Oper} {v:Value}
variable {d:Nat} {op:Op} {ty:TypeId} {ps:String} {aft:Array Edge} {g:Option (Nat × Bool)}
theorem zn7 (k:Nat) {β:Type} {E:β->HE} {u:β->Value} (hn:(Nat.blt d n,gd ops env g,(zl H k).isNone)=(true,some true,true)) (hE:∀ x,(E x).loc/\∀ b,¬ (E x).fz b) (hm:∀ w,VI Bs H w->yh P ⟨some d,op,ty,ps,aft,g⟩ env w (fun r w'=>∃ x,r=u x/\(E x).holds w'/\Ext w w'/\∀ q,(E x).S q->w.heap.size<=q/\q<w'.heap.size))
  (h:∀ x,V P n Q ks (.o ops rest) ((d,u x)::env) ((d,none)::A) ((k,E x)::H) Bs):V P n Q ks (.o ops (⟨some d,op,ty,ps,aft,g⟩::rest)) env A H Bs:=by
 simp only [Prod.mk.injEq,Option.isNone_iff_eq_none] at hn
 refine fun hA w hI=>G.mem hn.1 hn.2.1 (hm w hI) ?_
 rintro _ w' ⟨x,rfl,hh,hk,hS⟩
 exact h x (TgOk.none (hA.new hn.2.2)) w' (hI.new hk k hh (hE x).1 (hE x).2 hS)
theorem zn8 (k:Nat) {e e':HE} (hn:(gd ops env g,zl H k,qt H k)=(some true,some e,none)) (hl:e'.loc) (hz:∀ b,¬ e'.fz b) (hm:∀ w,VI Bs H w->xD P ⟨none,op,ty,ps,aft,g⟩ env w (fun w'=>e'.holds w'/\Keep e.S w w'/\∀ q,e'.S q->(e.S q\/w.heap.size<=q)/\q<w'.heap.size))
  (h:V P n Q ks (.o ops rest) env A (hset H k e') Bs):V P n Q ks (.o ops (⟨none,op,ty,ps,aft,g⟩::rest)) env A H Bs:=by
 simp only [Prod.mk.injEq] at hn
 refine fun hA w hI=>zkY hn.1 (hm w hI) ?_
 rintro w' ⟨hh,hk,hS⟩
 exact h (hA.res hn.2.1 hn.2.2) w' (hI.set hn.2.1 hk hh hl hz hS)
abbrev DaP {α:Type} (R:Rel α) (F:Nat->Prop) (x:α) (cs:List Value):HE:=.res F (fun w=>R F w x cs)
theorem DaP.loc {α:Type} {R:Rel α} [h:StC R] {F:Nat->Prop} {x:α} {cs:List Value}:(DaP R F x cs).loc:=fun w w' _ hx hk hT=>h.s F F w w' (fun _ h=>h) (fun b hb hlt=>hk.block b hlt (hT b hlt hb)) x cs hx
def OwH {α:Type} (e:TypeId) (kk:Nat) (R:Rel α) (F:Nat->Prop) (w:World) (v:Value) (l:List α):Prop:=OwnR e kk R F w v l/\∀ q,F q->q<w.heap.size/\v.ownBlock ≠ some q
abbrev OwP {α:Type} (e:TypeId) (kk:Nat) (R:Rel α) (F:Nat->Prop) (v:Value) (l:List α):HE:=.res (fun q=>v.ownBlock=some q\/F q) (fun w=>OwH e kk R F w v l)
section
variable {α:Type} {R:Rel α} [hs:StC R] {e:TypeId} {kk:Nat} {F G:Nat->Prop} {l:List α} {w w':World}
theorem OwP.loc:(OwP e kk R F v l).loc:=fun w w' T h hk hT =>
 ⟨h.1.keep hs.s hk (fun q hq hlt=>hT q hlt (.inr hq)) (fun g hg=>by
  obtain⟨xs,h1,_⟩:=h.1
  exact hT g (xi h1 hg) (.inl hg)),fun q hq=>⟨Nat.lt_of_lt_of_le (h.2 q hq).1 hk.size,(h.2 q hq).2⟩⟩
omit hs in
theorem OwH.nil:OwH e kk R (fun _=>False) w (.slice none 0 0) ([]:List α):=⟨OwnR.nil,fun _ h=>h.elim⟩
omit hs in
theorem OwH.form (h:OwH e kk R F w v l):∃ ao c,v=.slice ao l.length c/\l.length<=c/\c<=9223372036854775807:=h.1.form
theorem OwH.sl {D':Nat->Prop} (h:OwH e kk R F w v l) (hk:0<kk) (hD:∀ q,v.ownBlock=some q\/F q->D' q):SlR kk R D' w v l:=h.1.sl hk hs.s (fun q hq=>hD q (.inr hq)) (fun q hq=>hD q (.inl hq))
theorem OwnR.wide {F':Nat->Prop} (h:OwnR e kk R F w v l) (hF:∀ q,F q->F' q):OwnR e kk R F' w v l:=by
 obtain⟨xs,h1,h2⟩:=h
 exact⟨xs,h1,fun i x hx=>hs.s F F' w w hF (fun _ _ _=>rfl) x _ (h2 i x hx)⟩
theorem znb (kks:List Nat) {β:Type} {Hn:β->Hp} {u:β->Value} (A1:Tgs) {ks:List Fr} (hn:(Nat.blt d n,gd ops env g)=(true,some true))
  (hA1:∀ x,A1.map (fun p=>zd2 ((d,u x)::env) p.1)=A1.map (fun p=>jx (Hn x++yu kks H) p.2)) (hA2:∀ x,A1.all (fun p=>(jx (Hn x++yu kks H) p.2).isSome)=true)
  (hm:∀ w,VI Bs H w->yh P ⟨some d,op,ty,ps,aft,g⟩ env w (fun r w'=>∃ x,r=u x/\Hands H kks (Hn x) w w'))
  (h:∀ x,V P n Q ks (.o ops rest) ((d,u x)::env) A1 (Hn x++yu kks H) Bs):V P n Q ks (.o ops (⟨some d,op,ty,ps,aft,g⟩::rest)) env A H Bs:=by
 simp only [Prod.mk.injEq] at hn
 refine fun hA w hI=>G.mem hn.1 hn.2 (hm w hI) ?_
 rintro _ w' ⟨x,rfl,hh⟩
 exact h x (zlQ (hA1 x) (hA2 x)) w' (hI.hands hh)
theorem znc {α:Type} {R:Rel α} [hs:StC R] {e:TypeId} {kk:Nat} {F G:Nat->Prop} {l:List α} {w:World} (k k2 kb:Nat) {t:TypeId} {by':Nat} {z:Value} {x y:Operand} {a:α} {b:Nat} {cs:List Value} (hI:VI Bs H w) (h1:zl H k=some (OwP e kk R F v l)) (h2:zl H k2=some (DaP R G a cs)) (h3:zl H kb=some (.own b cs e)) (hne:Nat.beq k k2=false)
  (hu:P.underlying t=some (.slice e)) (he:(P.info? e).map (fun i=>(i.zero,i.size,i.bytes))=some (some z,kk,by')) (hzs:z.cells.size=kk) (hk:0<kk) (hx:ev env x=some v) (hy:ev env y=some (.slice (some ⟨b,0,none⟩) 1 1)) (hl:cs.length=kk) (ho:∀ (D:Nat->Prop) x cs,R D w x cs->∀ u ∈ cs,u.oneCell'=true) (hmax:l.length+1<=9223372036854775807) (hby:(l.length+1)*by'<=140737488355328) :
  yh P ⟨some d,.call ⟨.builtin .append,#[x,y],#[t,t]⟩,ty,ps,aft,g⟩ env w (fun r w'=>∃ u,r=u/\Hands H [k,k2] [(k,OwP e kk R (fun q=>F q\/G q) u (l++[a]))] w w'):=by
 have g1:OwH e kk R F w v l:=hI.at k h1
 have g2:R G w a cs:=hI.at k2 h2
 have g3:Blk w b cs e:=hI.at kb h3
 have hap:=zq hI.apart h1 h2 hne
 have hGl:∀ q,G q->q<w.heap.size:=fun q hq=>hI.low _ (zi h2) q hq
 have hlit:OwnR e kk R (fun q=>F q\/G q) w (.slice (some ⟨b,0,none⟩) 1 1) [a]:=OwnR.lit g3 hl (hs.s G _ w w (fun _ h=>.inr h) (fun _ _ _=>rfl) a cs g2)
 have hw:OwnR e kk R (fun q=>F q\/G q) w v l:=g1.1.wide (fun _ h=>.inl h)
 have hD:∀ q,(F q\/G q)->v.ownBlock ≠ some q:=fun q hq h=>hq.elim (fun hF=>(g1.2 q hF).2 h) (fun hG=>hap q (.inl h) hG)
 obtain⟨u,w',hr,h5,h6,h7⟩:=zn6 (dst:=some d) (ty:=ty) (pos:=ps) (aft:=aft) (g:=g) hu he hzs hk hx hy hs.s (ho _) hw hlit (fun q hq _=>hD q hq) hmax hby
 refine⟨u,w',hr,u,rfl,?_⟩
 have i1:∀ q,(v.ownBlock=some q\/F q)->InS H [k,k2] q:=fun q hq=>⟨_,zi h1,by simp [zbw,Nat.beq_refl],hq⟩
 have i2:∀ q,G q->InS H [k,k2] q:=fun q hq=>⟨_,zi h2,by simp only [zbw];rw [hne];simp [Nat.beq_refl],hq⟩
 have hlo:∀ q,(F q\/G q)->q<w.heap.size:=fun q hq=>hq.elim (fun hF=>(g1.2 q hF).1) (hGl q)
 have hou:∀ q,u.ownBlock=some q->(v.ownBlock=some q\/w.heap.size<=q)/\q<w'.heap.size:=fun q hq=>by
  obtain⟨xs,hx,_⟩:=h5
  refine⟨?_,xi hx hq⟩
  rcases h6 with h6 | ⟨g',h6,hg'⟩
  . exact .inl (h6 ▸ hq)
  . rw [h6] at hq;cases hq;exact .inr hg'
 refine⟨h7.mono fun q _ hq=>i1 q (.inl hq),fun x hx=>?_,List.pairwise_singleton _ _⟩
 rw [zob] at hx
 subst hx
 refine⟨⟨h5,fun q hq=>⟨Nat.lt_of_lt_of_le (hlo q hq) h7.size,fun h=>?_⟩⟩,OwP.loc,fun _ h=>h,fun q hq=>?_⟩
 ·
  rcases (hou q h).1 with h8 | h8
  . exact hD q hq h8
  . have:=hlo q hq;omega
 ·
  rcases hq with hq | hq | hq
  . exact⟨(hou q hq).1.imp (fun h=>i1 q (.inl h)) id,(hou q hq).2⟩
  . exact⟨.inl (i1 q (.inr hq)),Nat.lt_of_lt_of_le (hlo q (.inl hq)) h7.size⟩
  . exact⟨.inl (i2 q hq),Nat.lt_of_lt_of_le (hlo q (.inr hq)) h7.size⟩
end
end
section
variable {P:Program} {n:Nat} {Q:Exit->Act->World->Prop} {ks:List Fr} {env:Env} {A:Tgs} {H Hs:Hp} {Bs B0:zP} {ops:Array Oper} {L:List Nat} {fuel:Nat} {listed:Array Bool}
theorem VD.skip (i j:Nat) {d:Nat} {op:Op} {ty:TypeId} {ps:String} {aft:Array Edge} {g:Option (Nat × Bool)} (hi:ops[i]?=some ⟨some d,op,ty,ps,aft,g⟩) (hr:Region.ready .any ops listed=[i]) (hn:(Nat.blt d n,gd ops env g,qo (Hs.map (·.1)))=(true,some false,true)) (hB:Bs.drop j=B0)
  (h:VD P n Q ks ops Hs B0 L fuel (listed.setIfInBounds i true) ((d,undef)::env) ((d,none)::A) H Bs):VD P n Q ks ops Hs B0 L (fuel+1) listed env A H Bs:=by
 simp only [Prod.mk.injEq] at hn
 subst hB
 refine fun hH hA w hI=>WD.skip i hi hr (xM hn.2.1) O hn.1 ((hI.drop j).pick hH hn.2.2) (h hH hA.none w hI)
end
section
variable {P:Program} {n:Nat} {Q:Exit->Act->World->Prop} {ks:List Fr} {pos:Pos} {env:Env} {A:Tgs} {H:Hp} {Bs:zP}
theorem znd (k k2:Nat) {e e2 e':HE} (A1:Tgs) (hn:(zl H k,zl H k2)=(some e,some e2))
  (hA1:A1.map (fun p=>zd2 env p.1)=A1.map (fun p=>jx ((k,e')::yu [k,k2] H) p.2)) (hA2:A1.all (fun p=>(jx ((k,e')::yu [k,k2] H) p.2).isSome)=true)
  (he:∀ w,VI Bs H w->e'.holds w) (hl:e'.loc) (hz:∀ b,¬ e'.fz b) (hS:∀ q,e'.S q->e.S q\/e2.S q) (h:V P n Q ks pos env A1 ((k,e')::yu [k,k2] H) Bs):V P n Q ks pos env A H Bs:=by
 simp only [Prod.mk.injEq] at hn
 refine fun _ w hI=>h (zlQ hA1 hA2) w (hI.hands (Hn:=[(k,e')]) ⟨Keep.refl _ _,fun x hx=>?_,List.pairwise_singleton _ _⟩)
 rw [zob] at hx
 subst hx
 have i1:∀ q,e.S q->InS H [k,k2] q:=fun q hq=>⟨_,zi hn.1,by simp [zbw,Nat.beq_refl],hq⟩
 have i2:∀ q,e2.S q->InS H [k,k2] q:=fun q hq=>⟨_,zi hn.2,by simp [zbw,Nat.beq_refl],hq⟩
 refine⟨he w hI,hl,hz,fun q hq=>?_⟩
 rcases hS q hq with h1 | h1
 . exact⟨.inl (i1 q h1),hI.low _ (zi hn.1) q h1⟩
 . exact⟨.inl (i2 q h1),hI.low _ (zi hn.2) q h1⟩
end
theorem zdF {α:Type} {R:α->α->Prop} (hs:∀ x y,R x y->R y x):∀ {l:List α},l.Pairwise R->∀ {x y},x ∈ l->y ∈ l->x ≠ y->R x y
 | [],_,_,_,h,_,_=>by cases h
 | a::l,hp,x,y,hx,hy,hne=>by
  rw [List.pairwise_cons] at hp
  rcases zo9.1 hx with e1 | h1
  ·
   rcases zo9.1 hy with e2 | h2
   . exact absurd (e1.trans e2.symm) hne
   . rw [e1];exact hp.1 y h2
  ·
   rcases zo9.1 hy with e2 | h2
   . rw [e2];exact hs _ _ (hp.1 x h1)
   . exact zdF hs hp.2 h1 h2 hne
theorem VI.sep {Bs:zP} {H:Hp} {w:World} {k k2:Nat} {e e2:HE} (hI:VI Bs H w) (h1:zl H k=some e) (h2:zl H k2=some e2) (hne:k ≠ k2) {q:Nat} (hq:e.S q):¬ e2.S q :=
 zdF (R:=fun x y:Nat × HE=>∀ q,x.2.S q->¬ y.2.S q) (fun _ _ h q hy hx=>h q hx hy) hI.apart (zi h1) (zi h2) (fun e=>hne (congrArg Prod.fst e)) q hq
open Go.RowKit
section
variable {P:Program} {env:Env} {w:World} {dst:Option Tmp} {ty:TypeId} {pos:String} {aft:Array Edge} {g:Option (Nat × Bool)}
theorem zne {t u e:TypeId} {x y:Operand} {v:Value} {m:Nat} {xs:List Value} {s:ByteArray} (hu:P.underlying t=some (.slice e)) (huu:P.underlying u=some .string) (he:(P.info? e).map (fun i=>(i.zero,i.size,i.bytes))=some (some (.int .u8 0),1,1))
  (hx:ev env x=some v) (hy:ev env y=some (.string s)) (hown:w.ownsRow 0 e 1 v m xs) (h0:0<s.size) (hmax:m+s.size<=9223372036854775807) (hby:m+s.size<=140737488355328) :
  yh P ⟨dst,.call ⟨.builtin .append,#[x,y],#[t,u]⟩,ty,pos,aft,g⟩ env w (fun r w'=>w'.ownsRow 0 e 1 r (m+s.size) (xs++Lib.strCells s)/\(r.ownBlock=v.ownBlock\/∃ g,r.ownBlock=some g/\w.heap.size<=g)/\Keep (fun k=>v.ownBlock=some k) w w'):=by
 obtain⟨i,hi,hz0,hz1,hz2⟩:=info_parts he
 obtain⟨v',w',h1,h2,h3,_⟩:=Lib.run_append_own_string (P:=P) w 0 t u ty e i hu huu hi hz0 hz1 hz2 v m xs hown s (by unfold maxLen;omega) hby (zo8 _)
 have hd:w.drawn<=w'.drawn/\(v'.ownBlock=v.ownBlock\/∃ g,v'.ownBlock=some g/\w.heap.size<=g):=by
  rcases hown.2 with⟨rfl,rfl⟩ | ⟨g0,cap,cur,rfl,hbg,hg0,hnc,hcm,hcs,htake⟩
  ·
   have hr:=run_append_nil_string (P:=P) w t u ty e i (.int .u8 0) hu huu hi hz0 s h0 (by omega) (by rw [hz2];omega)
   rw [h1] at hr
   cases hr
   exact⟨Nat.le_succ _,.inr ⟨_,rfl,zoi _⟩⟩
  ·
   by_cases hroom:m+s.size<=cap
   ·
    have hcs':cur.size=cap:=by simpa using hcs
    have hr:=Lib.run_append_room_string (P:=P) w t u ty e i hu huu hi hz1 g0 m cap cur hg0 s hroom (by omega)
    rw [h1] at hr
    cases hr
    exact⟨zoi _,.inl rfl⟩
   ·
    have holds:∀ j u,xs[j]?=some u->w.cell? ((⟨g0,0,none⟩:Addr).add j)=some u:=hown.cells (g:=g0) rfl
    have hxl:xs.length=m:=by have:=hown.1;omega
    have hr:=Lib.run_append_grow_string (P:=P) w t u ty e i (.int .u8 0) hu huu hi hz0 ⟨g0,0,none⟩ m cap xs (by rw [hz1];omega) holds s (by omega) (by omega) (by rw [hz2];exact growslice_fits (by omega) (by omega))
    rw [h1] at hr
    cases hr
    exact⟨Nat.le_succ _,.inr ⟨_,rfl,zoi _⟩⟩
 refine⟨v',w',?_,h2,hd.2,h3.os,h3.tape,h3.output,hd.1,h3.size,fun k hk hn=>h3.block k hk (fun e=>hn e.symm)⟩
 intro n a ha
 simp [execOp,resolve,invoke,builtin,ha.eval hx,ha.eval hy,h1]
end
section
variable {P:Program} {n:Nat} {Q:Exit->Act->World->Prop} {ks:List Fr} {pos:Pos} {env:Env} {A:Tgs} {H Hs:Hp} {Bs B0:zP} {ops:Array Oper} {rest:List Oper} {v:Value} {L:List Nat} {fuel:Nat} {listed:Array Bool}
variable {d:Nat} {op:Op} {ty:TypeId} {ps:String} {aft:Array Edge} {g:Option (Nat × Bool)}
theorem znf (k:Nat) {t u e:TypeId} {x y:Operand} {m:Nat} {xs:List Value} {s:ByteArray} (hu:P.underlying t=some (.slice e)) (huu:P.underlying u=some .string) (he:(P.info? e).map (fun i=>(i.zero,i.size,i.bytes))=some (some (.int .u8 0),1,1))
  (hn:(Nat.blt d n,gd ops env g,zl H k,ev env x,ev env y)=(true,some true,some (.row e 1 v m xs),some v,some (.string s))) (h0:0<s.size) (hmax:m+s.size<=9223372036854775807) (hby:m+s.size<=140737488355328)
  (h:∀ r,V P n Q ks (.o ops rest) ((d,r)::env) ((d,none)::A) (hset H k (.row e 1 r (m+s.size) (xs++Lib.strCells s))) Bs):V P n Q ks (.o ops (⟨some d,.call ⟨.builtin .append,#[x,y],#[t,u]⟩,ty,ps,aft,g⟩::rest)) env A H Bs:=by
 simp only [Prod.mk.injEq] at hn
 obtain⟨h1,h2,h3,h4,h5⟩:=hn
 refine fun hA w hI=>G.mem h1 h2 (zne hu huu he h4 h5 (hI.at k h3) h0 hmax hby) ?_
 rintro r w' ⟨ho,hf,hk⟩
 refine h r (TgOk.none (hA.res h3 (by simp [qt,h3]))) w' (hI.set h3 hk ho trivial (fun _ h=>h) (fun q hq=>⟨?_,xi ho hq⟩))
 rcases hf with hf | ⟨g',hf,hg'⟩
 . exact .inl (by show v.ownBlock=some q;rw [<- hf];exact hq)
 ·
  have hq:r.ownBlock=some q:=hq
  rw [hf] at hq;cases hq;exact .inr hg'
theorem V.opM (k:Nat) {e e':HE} {r:Value} (hn:(Nat.blt d n,gd ops env g,zl H k,qt H k)=(true,some true,some e,none)) (hl:e'.loc) (hz:∀ b,¬ e'.fz b) (hm:∀ w,VI Bs H w->yh P ⟨some d,op,ty,ps,aft,g⟩ env w (fun u w'=>u=r/\e'.holds w'/\Keep e.S w w'/\∀ q,e'.S q->(e.S q\/w.heap.size<=q)/\q<w'.heap.size))
  (h:V P n Q ks (.o ops rest) ((d,r)::env) ((d,none)::A) (hset H k e') Bs):V P n Q ks (.o ops (⟨some d,op,ty,ps,aft,g⟩::rest)) env A H Bs:=by
 simp only [Prod.mk.injEq] at hn
 refine fun hA w hI=>G.mem hn.1 hn.2.1 (hm w hI) ?_
 rintro _ w' ⟨rfl,hh,hk,hS⟩
 exact h (TgOk.none (hA.res hn.2.2.1 hn.2.2.2)) w' (hI.set hn.2.2.1 hk hh hl hz hS)
theorem zng (i k j:Nat) {e e':HE} {r:Value} (hi:ops[i]?=some ⟨some d,op,ty,ps,aft,g⟩) (hr:Region.ready .any ops listed=[i]) (hn:(Nat.blt d n,gd ops env g,zl H k,qt H k,qo (Hs.map (·.1)),xE k (Hs.map (·.1)))=(true,some true,some e,none,true,true)) (hB:Bs.drop j=B0) (hl:e'.loc) (hz:∀ b,¬ e'.fz b)
  (hm:∀ w,VI Bs H w->yh P ⟨some d,op,ty,ps,aft,g⟩ env w (fun u w'=>u=r/\e'.holds w'/\Keep e.S w w'/\∀ q,e'.S q->(e.S q\/w.heap.size<=q)/\q<w'.heap.size))
  (h:VD P n Q ks ops Hs B0 L fuel (listed.setIfInBounds i true) ((d,r)::env) ((d,none)::A) (hset H k e') Bs):VD P n Q ks ops Hs B0 L (fuel+1) listed env A H Bs:=by
 simp only [Prod.mk.injEq] at hn
 subst hB
 obtain⟨h1,h2,h3,h4,h5,h6⟩:=hn
 refine fun hH hA w hI=>zmF i hi hr h1 h2 (.inl (hm w hI)) ?_
 rintro _ w' ⟨rfl,hh,hk,hS⟩
 have hI':=hI.set h3 hk hh hl hz hS
 have hH':Has Hs (hset H k e'):=hH.set h3 h6
 exact⟨(hI'.drop j).pick hH' h5,h hH' (TgOk.none (hA.res h3 h4)) w' hI'⟩
theorem VD.opMs (i j:Nat) (kks:List Nat) {β:Type} {Hn:β->Hp} {u:β->Value} (A1:Tgs) (hi:ops[i]?=some ⟨some d,op,ty,ps,aft,g⟩) (hr:Region.ready .any ops listed=[i]) (hn:(Nat.blt d n,gd ops env g,qo (Hs.map (·.1)))=(true,some true,true)) (hB:Bs.drop j=B0)
  (hHs:∀ x,Hs.map (fun y=>zl (Hn x++yu kks H) y.1)=Hs.map (fun y=>some y.2))
  (hA1:∀ x,A1.map (fun p=>zd2 ((d,u x)::env) p.1)=A1.map (fun p=>jx (Hn x++yu kks H) p.2)) (hA2:∀ x,A1.all (fun p=>(jx (Hn x++yu kks H) p.2).isSome)=true)
  (hm:∀ w,VI Bs H w->yh P ⟨some d,op,ty,ps,aft,g⟩ env w (fun r w'=>∃ x,r=u x/\Hands H kks (Hn x) w w'))
  (h:∀ x,VD P n Q ks ops Hs B0 L fuel (listed.setIfInBounds i true) ((d,u x)::env) A1 (Hn x++yu kks H) Bs):VD P n Q ks ops Hs B0 L (fuel+1) listed env A H Bs:=by
 simp only [Prod.mk.injEq] at hn
 subst hB
 intro hH hA w hI
 refine zmF i hi hr hn.1 hn.2.1 (.inl (hm w hI)) ?_
 rintro _ w' ⟨x,rfl,hh⟩
 have hI':=hI.hands hh
 exact⟨(hI'.drop j).pick (zlP (hHs x)) hn.2.2,h x (zlP (hHs x)) (zlQ (hA1 x) (hA2 x)) w' hI'⟩
end
theorem zgF {p:Prop} [Decidable p] (h:p):some (Value.bool true)=some (Value.bool (decide p)):=by rw [zo5 h]
theorem zgG {p:Prop} [Decidable p] (h:¬ p):some (Value.bool false)=some (Value.bool (decide p)):=by rw [zo6 h]
theorem zgH {q p:Prop} [Decidable q] [Decidable p] (h:q ↔ p):some (Value.bool (decide q))=some (Value.bool (decide p)):=by rw [zol.2 h]
open Go.RowKit
section
variable {P:Program} {env:Env} {w:World} {dst:Option Tmp} {ty:TypeId} {pos:String} {aft:Array Edge} {g:Option (Nat × Bool)}
theorem znh {tp t' te:TypeId} {x y:Operand} {p:Option Addr} (hp:P.underlying tp=some (.pointer te)) (hx:ev env x=some (.pointer p)) (hy:ev env y=some (.pointer none)):yf P ⟨dst,.binOp .eql tp x y t',ty,pos,aft,g⟩ env w (.bool p.isNone) w:=by
 intro n a ha
 have h:∀ d:Nat,(Op.equalIn (d+1) tp (.pointer p) (.pointer none)).run P w=.ok p.isNone w:=fun d=>by
  cases p <;> simp [Op.equalIn,run_underlying hp]
 have hg:(eqGuard BinOp.eql tp x y (.pointer p) (.pointer none)).run P w=.ok () w:=by simp [eqGuard]
 have hb:(binOp .eql tp (.pointer p) (.pointer none)).run P w=.ok (.bool p.isNone) w:=by
  simp only [binOp]
  simp [Op.equal,Op.maxDepth,h 9999]
 simp [execOp,ha.eval hx,ha.eval hy,hg,hb]
theorem zni {tp t' te:TypeId} {j:TypeInfo} {x y:Operand} {a0:Addr} (hp:P.underlying tp=some (.pointer te)) (hte:P.info? te=some j) (hx:ev env x=some (.pointer (some a0))) (hy:ev env y=some (.pointer (some a0))):yf P ⟨dst,.binOp .neq tp x y t',ty,pos,aft,g⟩ env w (.bool false) w:=by
 intro n a ha
 have hg:(eqGuard BinOp.neq tp x y (.pointer (some a0)) (.pointer (some a0))).run P w=.ok () w:=by simp [eqGuard]
 simp [execOp,ha.eval hx,ha.eval hy,hg,Lib.run_neq_ptr_same w a0 hp hte]
theorem znj {s d:TypeId} {x:Operand} {v u:Value} (hx:ev env x=some v) (h:(convert s d v).run P w=.ok u w):yf P ⟨dst,.convert s d x,ty,pos,aft,g⟩ env w u w:=by
 intro n a ha
 simp [execOp,ha.eval hx,h]
theorem R.same {f:FuncId} {fn:Func} {x:Operand} {ts:Array TypeId} {v:Value} (hf:P.funcs[f]?=some fn) (hname:(fn.name == "runtime.NumGoroutine")=false) (hb:fn.body.isNone=true) (hn:Extern.findNext fn=none) (he:Extern.find fn=some Extern.AbiNoEscape.same) (hx:ev env x=some v) :
  yf P ⟨dst,.call ⟨.value (.func f),#[x],ts⟩,ty,pos,aft,g⟩ env w v w:=by
 intro n a ha
 have hfv:a.eval (.func f)=.func (.func f) #[] #[]:=rfl
 simp [execOp,resolve,invoke,Deferred.ofValue,hfv,ha.eval hx,run_callFunc_extern hf hname hb hn he,Lib.run_noEscape]
theorem znk {t:TypeId} {x:Operand} {a:Addr} {m c:Nat} (hx:ev env x=some (.slice (some a) m c)) (hc:c ≠ 0):yf P ⟨dst,.call ⟨.builtin .unsafeSliceData,#[x],#[t]⟩,ty,pos,aft,g⟩ env w (.pointer (some a)) w:=by
 intro n c' ha
 simp [execOp,resolve,invoke,builtin,ha.eval hx,Lib.run_unsafeSliceData_row w _ _ a m c hc]
theorem znl {t:TypeId} {x:Operand} {m c:Nat} (hx:ev env x=some (.slice none m c)):yf P ⟨dst,.call ⟨.builtin .unsafeSliceData,#[x],#[t]⟩,ty,pos,aft,g⟩ env w (.pointer none) w:=by
 intro n c' ha
 simp [execOp,resolve,invoke,builtin,ha.eval hx,Lib.run_unsafeSliceData_nil w _ _ m c]
theorem znm {t t':TypeId} {x y:Operand} {p:Option Addr} (hx:ev env x=some (.pointer p)) (hy:ev env y=some (.int .i64 0)):yf P ⟨dst,.call ⟨.builtin .unsafeString,#[x,y],#[t,t']⟩,ty,pos,aft,g⟩ env w (.string .empty) w:=by
 intro n c' ha
 simp [execOp,resolve,invoke,builtin,ha.eval hx,ha.eval hy,Lib.run_unsafeString_none w t t' ty p]
theorem M.unsafeString {pt it e:TypeId} {x y:Operand} {b c:Nat} {l:List UInt8} (hp:P.underlying pt=some (.pointer e)) (hc:P.cellsOf e=1) (hx:ev env x=some (.pointer (some ⟨b,0,none⟩))) (hy:ev env y=some (.int .i64 l.length)) (h0:l ≠ []) (hown:w.ownsRow 0 e 1 (.slice (some ⟨b,0,none⟩) l.length c) l.length (Lib.byteCells l)) :
  yh P ⟨dst,.call ⟨.builtin .unsafeString,#[x,y],#[pt,it]⟩,ty,pos,aft,g⟩ env w (fun u w'=>u=.string ⟨l.toArray⟩/\Keep (fun q=>q=b) w w'):=by
 have hcl:=(xN hown).2.2
 obtain⟨sp,hB,hcap,hcm,hlen⟩:=jU hown
 have hsh:w.shape? b=some (e,c*1):=by
  unfold Blk at hB
  simp [World.shape?,hB]
  rw [zo1] at hlen
  omega
 have hr:=Lib.run_unsafeString_row (P:=P) w pt it ty e hp hc b (c*1) hsh l h0 (by omega) (by omega) (fun j x hx=>by
  have:=hcl j (.int .u8 x.toNat) (by simp [Lib.byteCells,hx])
  by_cases hj:j=0
  . subst hj;simpa [Addr.add] using this
  ·
   simpa [Addr.add,hj] using this)
 refine⟨.string ⟨l.toArray⟩,w.freeze ⟨b,0,none⟩ l.length,?_,rfl,?_⟩
 ·
  intro n a ha
  simp [execOp,resolve,invoke,builtin,ha.eval hx,ha.eval hy,hr]
 ·
  have hl:l.length ≠ 0:=by simpa using h0
  unfold World.freeze
  rw [zo3 hl]
  refine⟨rfl,rfl,rfl,zoi _,by simp,fun k hk hn=>?_⟩
  simp only [Array.getElem?_modify]
  rw [zo3 (fun e=>hn e.symm)]
end
end Go.GL
namespace Go.Proofs.YtaenledoagbddaaGreatDoor
open Go.GL
theorem zck (p v:Value) (b:Nat) (hp:p=.pointer none\/p=.pointer (some ⟨b,0,none⟩)) (W:World) (hB:Blk W b [p,v] 162) :
  Calls Tryz.prog 157 #[.pointer (some ⟨b,0,none⟩)] W (Ret fun r w'=>r=.tuple #[]/\Blk w' b [.pointer (some ⟨b,0,none⟩),v] 162/\Keep (fun q=>q=b) W w'):=by
 have hsh:∀ w,Blk w b [p,v] 162->w.shape? b=some (162,2):=fun w h=>by
  unfold Blk at h
  simp [World.shape?,h]
 obtain⟨j,hj,hjs⟩:∃ j,Tryz.prog.info? 162=some j/\j.size=2:=Option.map_eq_some_iff.1 (show (Tryz.prog.info? 162).map (·.size)=some 2 by kernel_rfl)
 have hlies:liesAt Tryz.prog Tryz.prog.depth 162 (2 / Tryz.prog.cellsOf 162) 0 162 1=true:=by kernel_rfl
 refine zma Tryz.func157 O Tryz.ntmps157 O (zn0 [(900,.own b [p,v] 162)] (fun x hx=>by rw [zob] at hx;subst hx;exact⟨hB,trivial,fun _ h=>h,fun q hq=>by have hq:q=b:=hq;rw [hq];exact hB.lt⟩) (List.pairwise_singleton _ _) ?_)
 refine zms 0 900 0 O O ?_
 rcases hp with rfl | rfl
 ·
  refine Vs 6 O ?_
  refine zm2 O (fun w hI=>znh tu159 O O) ?_
  refine Vs 2 O ?_
  refine V.bool O (fun c=>?_) (fun c=>?_)
  ·
   refine Vs 3 O ?_
   refine zm2 O (fun w hI=>znj O (Lib.run_to_unsafe w ⟨b,0,none⟩ tu159 Tryz.underlying231 hj (by rw [hjs];decide) (hsh w (hI.at 900 O)) (Nat.zero_lt_succ 1))) ?_
   refine zm2 O (fun w hI=>R.same Tryz.func207 O O O O O) ?_
   refine zm2 O (fun w hI=>znj O (Lib.run_from_unsafe w ⟨b,0,none⟩ Tryz.underlying231 tu159 hj (hsh w (hI.at 900 O)) hlies)) ?_
   refine Vs 4 O ?_
   refine zkF Tryz.results157 (fun w hI=>⟨_,rfl,rfl,hI.at 900 rfl,hI.k0.mono fun q _ ⟨x,hx,hq⟩=>by rw [zob] at hx;subst hx;exact hq⟩)
  . cases c
 ·
  refine Vs 6 O ?_
  refine zm2 O (fun w hI=>znh tu159 O O) ?_
  refine Vs 2 O ?_
  refine V.bool O (fun c=>?_) (fun c=>?_)
  . cases c
  ·
   refine Vs 7 O ?_
   refine zm2 O (fun w hI=>zni tu159 hj O O) ?_
   refine Vs 2 O ?_
   refine V.bool O (fun d=>?_) (fun d=>?_)
   . cases d
   ·
    refine Vs 1 O ?_
    refine zkF Tryz.results157 (fun w hI=>⟨_,rfl,rfl,hI.at 900 rfl,hI.k0.mono fun q _ ⟨x,hx,hq⟩=>by rw [zob] at hx;subst hx;exact hq⟩)
end Go.Proofs.YtaenledoagbddaaGreatDoor
namespace Go.GL
open Go.Lib
def Dig (c:UInt8):Prop:=48<=c.toNat/\c.toNat<=57
theorem zdG {m:Nat} (h:m<10):(UInt8.ofNat (48+m)).toNat=48+m:=by
 have:(48+m) % 256=48+m:=Nat.mod_eq_of_lt (by omega)
 simp [this]
theorem xm (u:Nat):∀ c ∈ decDigits u,Dig c:=by
 induction u using Nat.strongRecOn with
 | _ u ih =>
  intro c hc
  rw [decDigits] at hc
  split at hc
  ·
   rename_i h
   rw [zob] at hc
   subst hc
   unfold Dig
   rw [zdG h];omega
  ·
   rename_i h
   rcases zoc.1 hc with hc | hc
   . exact ih (u / 10) (by omega) c hc
   ·
    rw [zob] at hc
    subst hc
    unfold Dig
    rw [zdG (Nat.mod_lt _ (by decide))]
    have:=Nat.mod_lt u (show 0<10 by decide)
    omega
theorem zcl (u:Nat):decDigits u ≠ []:=by
 rw [decDigits]
 split <;> simp
def zjH (l:List UInt8):Nat:=l.foldl (fun a c=>a*10+(c.toNat - 48)) 0
theorem zdH (u:Nat):zjH (decDigits u)=u:=by
 induction u using Nat.strongRecOn with
 | _ u ih =>
  rw [decDigits]
  split
  ·
   rename_i h
   simp only [zjH,List.foldl_cons,List.foldl_nil]
   rw [zdG h];omega
  ·
   rename_i h
   have h1:=ih (u / 10) (by omega)
   unfold zjH at h1 ⊢
   rw [List.foldl_append,h1]
   simp only [List.foldl_cons,List.foldl_nil]
   rw [zdG (Nat.mod_lt _ (by decide))]
   omega
theorem jy {u v:Nat} (h:decDigits u=decDigits v):u=v:=by
 rw [<- zdH u,<- zdH v,h]
theorem zgI {a b:Int} (h:itoa a=itoa b):a=b:=by
 unfold itoa at h
 split at h <;> split at h
 ·
  have:=jy (List.cons.inj h).2
  omega
 ·
  have:=xm b.toNat 45 (by rw [<- h];exact znX ..)
  exact absurd this (by unfold Dig;decide)
 ·
  have:=xm a.toNat 45 (by rw [h];exact znX ..)
  exact absurd this (by unfold Dig;decide)
 ·
  have:=jy h
  omega
theorem zf2 {a:Int} {c:UInt8} (h:c.toNat<45):c ∉ itoa a:=by
 intro hc
 unfold itoa at hc
 split at hc
 ·
  rcases zo9.1 hc with rfl | hc
  . exact absurd h (by decide)
  . have:=(xm _ c hc).1;omega
 . have:=(xm _ c hc).1;omega
theorem zdI {α:Type} {c:α}:∀ {a b x y:List α},c ∉ a->c ∉ b->a++c::x=b++c::y->a=b/\x=y
 | [],[],_,_,_,_,h=>⟨rfl,(List.cons.inj h).2⟩
 | [],_::_,_,_,_,hb,h=>absurd (zo9.2 (.inl (List.cons.inj h).1)) hb
 | _::_,[],_,_,ha,_,h=>absurd (zo9.2 (.inl (List.cons.inj h).1.symm)) ha
 | p::a,q::b,x,y,ha,hb,h=>by
  obtain⟨h1,h2⟩:=List.cons.inj h
  obtain⟨h3,h4⟩:=zdI (fun h=>ha (znW _ h)) (fun h=>hb (znW _ h)) h2
  exact⟨by rw [h1,h3],h4⟩
def yN (c:UInt8) (l:List Int):List UInt8:=l.flatMap fun n=>itoa n++[c]
theorem xO (c:UInt8) (n:Int) (l:List Int):yN c (n::l)=itoa n++c::yN c l:=by simp [yN]
theorem zcm (c:UInt8) (l l':List Int):yN c (l++l')=yN c l++yN c l':=by simp [yN]
theorem zcn {c:UInt8} (hc:c.toNat<45):∀ {l l':List Int},yN c l=yN c l'->l=l'
 | [],[],_=>rfl
 | [],n::l,h=>by rw [xO] at h;simp [yN] at h
 | n::l,[],h=>by rw [xO] at h;simp [yN] at h
 | n::l,m::l',h=>by
  rw [xO,xO] at h
  obtain⟨h1,h2⟩:=zdI (zf2 hc) (zf2 hc) h
  rw [zgI h1,zcn hc h2]
end Go.GL
namespace Go.Proofs
theorem Tryz.el3:(Tryz.prog.info? 3).map (fun i=>(i.zero,i.size,i.bytes))=some (some ((Value.int IntKind.i64 0)),1,8):=by kernel_rfl
theorem Tryz.el5:(Tryz.prog.info? 5).map (fun i=>(i.zero,i.size,i.bytes))=some (some ((Value.int IntKind.u8 0)),1,1):=by kernel_rfl
theorem Tryz.el27:(Tryz.prog.info? 27).map (fun i=>(i.zero,i.size,i.bytes))=some (some ((Value.slice none 0 0)),1,24):=by kernel_rfl
theorem Tryz.el55:(Tryz.prog.info? 55).map (fun i=>(i.zero,i.size,i.bytes))=some (some ((Value.agg #[Value.slice none 0 0,Value.int IntKind.i64 0])),2,32):=by kernel_rfl
theorem Tryz.el89:(Tryz.prog.info? 89).map (fun i=>(i.zero,i.size,i.bytes))=some (some ((Value.agg #[Value.string { data:=#[] },Value.int IntKind.i64 0,Value.int IntKind.i64 0,Value.int IntKind.i64 0,Value.int IntKind.i64 0])),5,48):=by kernel_rfl
theorem Tryz.el226:(Tryz.prog.info? 226).map (fun i=>(i.zero,i.size,i.bytes))=some (some ((Value.agg #[Value.int IntKind.i64 0,Value.int IntKind.i64 0])),2,16):=by kernel_rfl
end Go.Proofs
namespace Go.GL
mutual
def Tm.nodes:Tm->Nat
 | .mk _ _ ks=>1+zM ks
def zM:List Tm->Nat
 | []=>0
 | k::r=>k.nodes+zM r
end
mutual
def Tm.depth:Tm->Nat
 | .mk _ _ ks=>yr ks+1
def yr:List Tm->Nat
 | []=>0
 | k::r=>max k.depth (yr r)
end
mutual
def St.nodes:St->Nat
 | .mk _ _ _ _ t f g _=>1+t.nodes+zm f+zm g
def zm:List St->Nat
 | []=>0
 | s::r=>s.nodes+zm r
end
mutual
def St.bulk:St->Nat
 | .mk _ _ _ _ t f g b=>1+t.nodes+b.length+zt f+zt g
def zt:List St->Nat
 | []=>0
 | s::r=>s.bulk+zt r
end
mutual
def St.size:St->Nat
 | .mk _ _ _ _ _ f g _=>1+ssize f+ssize g
def ssize:List St->Nat
 | []=>0
 | s::r=>s.size+ssize r
end
mutual
def St.depth:St->Nat
 | .mk _ _ _ _ _ f g _=>max (zL f+1) (zL g+1)
def zL:List St->Nat
 | []=>0
 | s::r=>max s.depth (zL r)
end
mutual
/-- Some term of a step is nested too deep. -/
def St.tdeep:St->Bool
 | .mk _ _ _ _ t f g _=>decide (12<t.depth) || yg f || yg g
def yg:List St->Bool
 | []=>false
 | s::r=>s.tdeep || yg r
end
theorem Tm.nodes_eq (t:Tm):t.nodes=1+zM t.kids:=by cases t;rfl
theorem Tm.depth_eq (t:Tm):t.depth=yr t.kids+1:=by cases t;rfl
theorem St.nodes_eq (s:St):s.nodes=1+s.term.nodes+zm s.thn+zm s.els:=by cases s;rfl
theorem St.bulk_eq (s:St):s.bulk=1+s.term.nodes+s.bounds.length+zt s.thn+zt s.els:=by cases s;rfl
theorem St.size_eq (s:St):s.size=1+ssize s.thn+ssize s.els:=by cases s;rfl
theorem St.depth_eq (s:St):s.depth=max (zL s.thn+1) (zL s.els+1):=by cases s;rfl
theorem St.tdeep_eq (s:St):s.tdeep=(decide (12<s.term.depth) || yg s.thn || yg s.els):=by cases s;rfl
theorem xW (a b:List Tm):zM (a++b)=zM a+zM b:=by
 induction a with
 | nil=>simp [zM]
 | cons x r ih=>simp [zM,ih,Nat.add_assoc]
theorem zbx (a b:List Tm):yr (a++b)=max (yr a) (yr b):=by
 induction a with
 | nil=>simp [yr]
 | cons x r ih=>simp [yr,ih,Nat.max_assoc]
theorem jz (a b:List St):zm (a++b)=zm a+zm b:=by
 induction a with
 | nil=>simp [zm]
 | cons x r ih=>simp [zm,ih,Nat.add_assoc]
theorem xF (a b:List St):zt (a++b)=zt a+zt b:=by
 induction a with
 | nil=>simp [zt]
 | cons x r ih=>simp [zt,ih,Nat.add_assoc]
theorem xX (a b:List St):zL (a++b)=max (zL a) (zL b):=by
 induction a with
 | nil=>simp [zL]
 | cons x r ih=>simp [zL,ih,Nat.max_assoc]
theorem xY (a b:List St):yg (a++b)=(yg a || yg b):=by
 induction a with
 | nil=>simp [yg]
 | cons x r ih=>simp [yg,ih,Bool.or_assoc]
theorem zg {α:Type} {l:List α} {i:Nat} {x:α} (h:l[i]?=some x):l.take (i+1)=l.take i++[x]:=by
 rw [List.take_add_one,h];rfl
theorem jc {l:List Tm} {i:Nat} {x:Tm} (h:l[i]?=some x):zM (l.take (i+1))=zM (l.take i)+x.nodes:=by rw [zg h,xW];simp [zM]
theorem zah {l:List Tm} {i:Nat} {x:Tm} (h:l[i]?=some x):yr (l.take (i+1))=max (yr (l.take i)) x.depth:=by rw [zg h,zbx];simp [yr]
theorem zai {l:List St} {i:Nat} {x:St} (h:l[i]?=some x):zm (l.take (i+1))=zm (l.take i)+x.nodes:=by rw [zg h,jz];simp [zm]
theorem zen {l:List St} {i:Nat} {x:St} (h:l[i]?=some x):zt (l.take (i+1))=zt (l.take i)+x.bulk:=by rw [zg h,xF];simp [zt]
theorem zaj {l:List St} {i:Nat} {x:St} (h:l[i]?=some x):zL (l.take (i+1))=max (zL (l.take i)) x.depth:=by rw [zg h,xX];simp [zL]
theorem zak {l:List St} {i:Nat} {x:St} (h:l[i]?=some x):yg (l.take (i+1))=(yg (l.take i) || x.tdeep):=by rw [zg h,xY];simp [yg]
theorem yI {α:Type} {l:List α} {i:Nat} {x:α} (h:l[i]?=some x):l=l.take i++x::l.drop (i+1):=by
 obtain⟨h1,h2⟩:=zo7.1 h
 rw [<- h2,List.getElem_cons_drop,List.take_append_drop]
theorem qw {l:List St} {x:St} (h:x ∈ l):x.bulk<=zt l:=by
 obtain⟨i,hi⟩:=List.mem_iff_getElem?.1 h
 rw [yI hi,xF];simp [zt];omega
theorem yY {l:List Tm} {i:Nat} {x:Tm} (h:l[i]?=some x):zM l=zM (l.take i)+x.nodes+zM (l.drop (i+1)):=by
 conv=>lhs;rw [yI h]
 rw [xW];simp [zM,Nat.add_assoc]
theorem xG {l:List St} {i:Nat} {x:St} (h:l[i]?=some x):zm l=zm (l.take i)+x.nodes+zm (l.drop (i+1)):=by
 conv=>lhs;rw [yI h]
 rw [jz];simp [zm,Nat.add_assoc]
theorem zd4 {l:List St} {i:Nat} {x:St} (h:l[i]?=some x):zt l=zt (l.take i)+x.bulk+zt (l.drop (i+1)):=by
 conv=>lhs;rw [yI h]
 rw [xF];simp [zt,Nat.add_assoc]
theorem zal (l:List Tm):l.length<=zM l:=by
 induction l with
 | nil=>simp
 | cons x r ih=>have:=x.nodes_eq;simp [zM];omega
theorem zby (l:List St):l.length<=zm l:=by
 induction l with
 | nil=>simp
 | cons x r ih=>have:=x.nodes_eq;simp [zm];omega
theorem zco:∀ l:List St,zm l<=zt l:=by
 intro l
 induction l using zlH with
 | h l ih =>
  have key:∀ r:List St,(∀ s ∈ r,zm s.thn<=zt s.thn/\zm s.els<=zt s.els)->zm r<=zt r:=by
   intro r
   induction r with
   | nil=>intro _;simp [zm]
   | cons x r ih2 =>
    intro h
    have h1:=h x (znX ..)
    have h2:=ih2 (fun s hs=>h s (znW _ hs))
    have h3:=x.nodes_eq
    have h4:=x.bulk_eq
    simp only [zm,zt];omega
  exact key l ih
theorem zcp:∀ l:List St,ssize l<=zm l:=by
 intro l
 induction l using zlH with
 | h l ih =>
  have key:∀ r:List St,(∀ s ∈ r,ssize s.thn<=zm s.thn/\ssize s.els<=zm s.els)->ssize r<=zm r:=by
   intro r
   induction r with
   | nil=>intro _;simp [ssize]
   | cons x r ih2 =>
    intro h
    have h1:=h x (znX ..)
    have h2:=ih2 (fun s hs=>h s (znW _ hs))
    have h3:=x.nodes_eq
    have h4:=x.size_eq
    simp only [zm,ssize];omega
  exact key l ih
theorem ky:∀ l:List Tm,yr l<=zM l:=by
 have key:∀ l:List Tm,(∀ k ∈ l,k.depth<=k.nodes)->yr l<=zM l:=by
  intro l
  induction l with
  | nil=>intro _;simp [yr]
  | cons x r ih =>
   intro h
   have h1:=h x (znX ..)
   have h2:=ih (fun k hk=>h k (znW _ hk))
   simp only [yr,zM];omega
 have all:∀ t:Tm,t.depth<=t.nodes:=by
  intro t
  induction t using zlF with
  | h t ih =>
   have:=key t.kids ih
   rw [t.depth_eq,t.nodes_eq];omega
 exact fun l=>key l (fun k _=>all k)
theorem qx:∀ l:List St,zL l<=zm l:=by
 intro l
 induction l using zlH with
 | h l ih =>
  have key:∀ r:List St,(∀ s ∈ r,zL s.thn<=zm s.thn/\zL s.els<=zm s.els)->zL r<=zm r:=by
   intro r
   induction r with
   | nil=>intro _;simp [zL]
   | cons x r ih2 =>
    intro h
    have h1:=h x (znX ..)
    have h2:=ih2 (fun s hs=>h s (znW _ hs))
    have h3:=x.nodes_eq
    have h4:=x.depth_eq
    simp only [zm,zL];omega
  exact key l ih
def zC:List Ht->Nat
 | []=>0
 | h::r=>h.term.nodes+zC r
theorem jA (a b:List Ht):zC (a++b)=zC a+zC b:=by
 induction a with
 | nil=>simp [zC]
 | cons x r ih=>simp [zC,ih,Nat.add_assoc]
theorem jd {l:List Ht} {i:Nat} {x:Ht} (h:l[i]?=some x):zC (l.take (i+1))=zC (l.take i)+x.term.nodes:=by rw [zg h,jA];simp [zC]
theorem yZ {l:List Ht} {i:Nat} {x:Ht} (h:l[i]?=some x):zC l=zC (l.take i)+x.term.nodes+zC (l.drop (i+1)):=by
 conv=>lhs;rw [yI h]
 rw [jA];simp [zC,Nat.add_assoc]
def few (f:Fl) (vars nodes:Nat):Bool:=decide (f.vars.length<=vars/\f.hatches.length<=vars/\zt f.body+zC f.hatches<=nodes)
end Go.GL
namespace Go.Proofs.YtaenledoagbddaaGreatDoor
open Go.GL
theorem qy (t:Tm):∀ (cs:List Value) (D:Nat->Prop) (w:World),RTm D w t cs->t.nodes<=1000000->Calls Tryz.prog 102 #[.agg cs.toArray] w (Ret fun r w'=>r=.int .i64 t.nodes/\Ext w w'):=by
 induction t using zlF with
 | h t ih =>
 intro cs D w ht hsz
 have hlen:=zal t.kids
 have hse:=t.nodes_eq
 obtain⟨v,rfl,hk⟩:=ht.get
 obtain⟨ao,cap,rfl⟩:=hk.form
 have hE:=Keep.refl (fun _=>False) w
 refine zma Tryz.func102 O Tryz.ntmps102 O (Gs 2 O (G.mem O O (M.box O O) ?_))
 rintro _ w_b ⟨b,rfl,hg_b,hs_b,hB_b,hk_b⟩
 have hge_b:_<=b:=znZ hE.size (Nat.le_of_eq hg_b.symm)
 obtain⟨hE,hk⟩:=Tr2 hk_b hE hk
 refine Gs 15 O (G.loop (σ:=Nat) (fun i=>[(1,.pointer (some ⟨b,0,none⟩)),(3,.int .i64 (1+zM (t.kids.take i):Nat)),(4,.int .i64 i)]) (fun i=>fun w'=>i<=t.kids.length/\Ext w_b w') (fun i=>t.kids.length - i) (0) (zlO O) (⟨zo8 _,Keep.refl _ _⟩) ?_)
 rintro i w1 ⟨hi,hL1⟩
 obtain⟨hE,hk,hB_b⟩:=Tr3 hL1 hE hk hB_b
 refine Gs 5 O (zm5 O tg84 (hB_b.cells 2 _ O) (Gs 4 O (zk6 O (fun hlt=>?_) (fun hge=>?_))))
 ·
  obtain⟨k,he_k,hm_k⟩:=gE_ t.kids (i) (by omega)
  obtain⟨b_k,o_k,c_k,ha_k,_,hc_k,hR_k⟩:=hk.at he_k
  have h1_k:=RTm.one hR_k
  obtain⟨v1_k,rfl,hk_k⟩:=hR_k.get
  obtain⟨a1_k,n1_k,rfl⟩:=hk_k.form
  have hlt_k:b_k<_:=znV _ _ (hc_k 0 _ rfl)
  have hsp:=yY he_k
  refine Gs 7 O (zm5 O tg84 (hB_b.cells 2 _ O) (Gs 1 O (zm1 O O (zkP tR84 ts86 O O ha_k (by omega)) (zm7 O tg86 ts86 hc_k O (G.call O Tryz.call102 (ih k hm_k _ D _ (RTm.put hk_k) (by omega)) ?_)))))
  rintro _ wz1 ⟨rfl,hz1⟩
  obtain⟨hE,hk,hB_b,hL1,hc_k,hk_k⟩:=Tr6 hz1 hE hk hB_b hL1 hc_k hk_k
  refine Ga 10 O (by omega) (zkh (i+1) (Sub.cons O (Sub.cons (xB O (by rw [jc he_k];omega)) (zlO O))) (⟨by omega,hL1⟩) (by first | omega | (dsimp only;omega)))
 ·
  have:i=t.kids.length:=by omega
  subst this
  refine Gs 12 O (zkq Tryz.results102 O ⟨_,rfl,by rw [znY,t.nodes_eq],hE⟩)
theorem qz (t:Tm):∀ (cs:List Value) (D:Nat->Prop) (w:World),RTm D w t cs->t.nodes<=1000000->Calls Tryz.prog 103 #[.agg cs.toArray] w (Ret fun r w'=>r=.int .i64 t.depth/\Ext w w'):=by
 induction t using zlF with
 | h t ih =>
 intro cs D w ht hsz
 have hlen:=zal t.kids
 have hse:=t.nodes_eq
 obtain⟨v,rfl,hk⟩:=ht.get
 obtain⟨ao,cap,rfl⟩:=hk.form
 have hE:=Keep.refl (fun _=>False) w
 refine zma Tryz.func103 O Tryz.ntmps103 O (Gs 2 O (G.mem O O (M.box O O) ?_))
 rintro _ w_b ⟨b,rfl,hg_b,hs_b,hB_b,hk_b⟩
 have hge_b:_<=b:=znZ hE.size (Nat.le_of_eq hg_b.symm)
 obtain⟨hE,hk⟩:=Tr2 hk_b hE hk
 refine Gs 15 O (G.loop (σ:=Nat) (fun i=>[(1,.pointer (some ⟨b,0,none⟩)),(3,.int .i64 (yr (t.kids.take i):Nat)),(4,.int .i64 i)]) (fun i=>fun w'=>i<=t.kids.length/\Ext w_b w') (fun i=>t.kids.length - i) (0) (zlO O) (⟨zo8 _,Keep.refl _ _⟩) ?_)
 rintro i w1 ⟨hi,hL1⟩
 obtain⟨hE,hk,hB_b⟩:=Tr3 hL1 hE hk hB_b
 refine Gs 5 O (zm5 O tg84 (hB_b.cells 2 _ O) (Gs 4 O (zk6 O (fun hlt=>?_) (fun hge=>?_))))
 ·
  obtain⟨k,he_k,hm_k⟩:=gE_ t.kids (i) (by omega)
  obtain⟨b_k,o_k,c_k,ha_k,_,hc_k,hR_k⟩:=hk.at he_k
  have h1_k:=RTm.one hR_k
  obtain⟨v1_k,rfl,hk_k⟩:=hR_k.get
  obtain⟨a1_k,n1_k,rfl⟩:=hk_k.form
  have hlt_k:b_k<_:=znV _ _ (hc_k 0 _ rfl)
  have hsp:=yY he_k
  have htk:=zah he_k
  refine Gs 7 O (zm5 O tg84 (hB_b.cells 2 _ O) (Gs 1 O (zm1 O O (zkP tR84 ts86 O O ha_k (by omega)) (zm7 O tg86 ts86 hc_k O (G.call O Tryz.call103 (ih k hm_k _ D _ (RTm.put hk_k) (by omega)) ?_)))))
  rintro _ wz1 ⟨rfl,hz1⟩
  obtain⟨hE,hk,hB_b,hL1,hc_k,hk_k⟩:=Tr6 hz1 hE hk hB_b hL1 hc_k hk_k
  refine Gs 10 O (zk6 O (fun hgt=>?_) (fun hle=>?_))
  . refine Ga 11 O (by omega) (zkh (i+1) (Sub.cons O (Sub.cons (xB O (by rw [htk];omega)) (zlO O))) (⟨by omega,hL1⟩) (by first | omega | (dsimp only;omega)))
  . refine Ga 8 O (by omega) (zkh (i+1) (Sub.cons O (Sub.cons (xB O (by rw [htk];omega)) (zlO O))) (⟨by omega,hL1⟩) (by first | omega | (dsimp only;omega)))
 ·
  have:i=t.kids.length:=by omega
  subst this
  have hdp:=ky t.kids
  rw [znY]
  refine Ga 13 O (by omega) (zkq Tryz.results103 O ⟨_,rfl,by rw [t.depth_eq];rfl,hE⟩)
theorem zd5 (l:List St):∀ (v:Value) (D:Nat->Prop) (w:World),SlR 10 RSt D w v l->zm l<=1000000->Calls Tryz.prog 101 #[v] w (Ret fun r w'=>r=.int .i64 (zm l)/\Ext w w'):=by
 induction l using zlH with
 | h l ih =>
 intro v D w hl hsz
 have hlen:=zby l
 obtain⟨ao,cap,rfl⟩:=hl.form
 refine zma Tryz.func101 O Tryz.ntmps101 O (Gs 17 O (G.loop (σ:=Nat) (fun i=>[(0,.slice ao l.length cap),(3,.int .i64 (zm (l.take i))),(4,.int .i64 i)]) (fun i=>fun w'=>i<=l.length/\Ext w w') (fun i=>l.length - i) (0) (zlO O) (⟨zo8 _,Keep.refl _ _⟩) ?_))
 rintro i w1 ⟨hi,hL1⟩
 replace hl:=Tr1 hL1 hl
 refine Gs 9 O (zk6 O (fun hlt=>?_) (fun hge=>?_))
 ·
  obtain⟨s,he_s,hm_s⟩:=gE_ l (i) (by omega)
  obtain⟨b_s,o_s,c_s,ha_s,_,hc_s,hR_s⟩:=hl.at he_s
  have h1_s:=RSt.one hR_s
  obtain⟨v1_s,v2_s,v3_s,v4_s,rfl,hk_s,ht_s,hs_s,hb_s⟩:=hR_s.get
  obtain⟨a1_s,n1_s,rfl⟩:=hk_s.form
  obtain⟨a2_s,n2_s,rfl⟩:=ht_s.form
  obtain⟨a3_s,n3_s,rfl⟩:=hs_s.form
  obtain⟨a4_s,n4_s,rfl⟩:=hb_s.form
  have hlt_s:b_s<_:=znV _ _ (hc_s 0 _ rfl)
  have hsp:=xG he_s
  have hse:=s.nodes_eq
  refine Gs 4 O (Dw (fun q=>Ext w1 q) [] (fun wd1 hD _=>?_))
  refine Da [0,1,2,3] (by kernel_rfl) O (by omega) (zld 4 O (by kernel_rfl) O O O (fun w1=>zkP tR24 ts92 O O ha_s (by omega)) (Ds [5] (by kernel_rfl) O (WD.take 6 O (by kernel_rfl) O O O hD (fun w1 hw1=>zkR tg86 ts86 O (by rfl) ((hw1.cells hc_s (fun h=>h)).sub 4 3)) (Ds [9,10] (by kernel_rfl) O (zld 11 O (by kernel_rfl) O O O (fun w1=>zkP tR24 ts92 O O ha_s (by omega)) (Ds [12] (by kernel_rfl) O (WD.take 13 O (by kernel_rfl) O O O hD (fun w1 hw1=>R.load tg24 O (hw1.cells hc_s (fun h=>h) 7 _ O)) ?_)))))))
  refine Ds [16,17] (by kernel_rfl) O (zld 18 O (by kernel_rfl) O O O (fun w1=>zkP tR24 ts92 O O ha_s (by omega)) (Ds [19] (by kernel_rfl) O (WD.take 20 O (by kernel_rfl) O O O hD (fun w1 hw1=>R.load tg24 O (hw1.cells hc_s (fun h=>h) 8 _ O)) (WD.call 7 O (by kernel_rfl) O O O (F.call (vs:=[_]) Tryz.call102 O) (qy s.term _ D _ (RTm.put (hk_s.ext zp hD)) (by omega)) ?_))))
  rintro _ wz2 ⟨rfl,hz2⟩
  replace hD:=hD.ext hz2
  refine⟨fun _=>hD,?_⟩
  refine Da [8] (by kernel_rfl) O (by omega) (WD.call 14 O (by kernel_rfl) O O O (F.call (vs:=[_]) Tryz.call101 O) ((ih s hm_s).1 _ D _ (ht_s.ext zf hD) (by omega)) ?_)
  rintro _ wz3 ⟨rfl,hz3⟩
  replace hD:=hD.ext hz3
  refine⟨fun _=>hD,?_⟩
  refine Da [15] (by kernel_rfl) O (by omega) (WD.call 21 O (by kernel_rfl) O O O (F.call (vs:=[_]) Tryz.call101 O) ((ih s hm_s).2 _ D _ (hs_s.ext zf hD) (by omega)) ?_)
  rintro _ wz4 ⟨rfl,hz4⟩
  replace hD:=hD.ext hz4
  refine⟨fun _=>hD,?_⟩
  refine Da [22,23] (by kernel_rfl) O (by omega) (zla (by kernel_rfl) ?_ _)
  obtain⟨hl,hL1,hc_s,hk_s,ht_s,hs_s,hb_s⟩:=Tr7 hD hl hL1 hc_s hk_s ht_s hs_s hb_s
  refine Ga 7 O (by omega) (zkh (i+1) (Sub.cons O (Sub.cons (xB O (by rw [zai he_s];omega)) (zlO O))) (⟨by omega,hL1⟩) (by first | omega | (dsimp only;omega)))
 ·
  have:i=l.length:=by omega
  subst this
  refine Gs 12 O (zkq Tryz.results101 O ⟨_,rfl,by rw [znY],hL1⟩)
theorem zam (l:List St):∀ (v:Value) (D:Nat->Prop) (w:World),SlR 10 RSt D w v l->zm l<=1000000->Calls Tryz.prog 104 #[v] w (Ret fun r w'=>r=.int .i64 (zL l)/\Ext w w'):=by
 induction l using zlH with
 | h l ih =>
 intro v D w hl hsz
 have hlen:=zby l
 obtain⟨ao,cap,rfl⟩:=hl.form
 refine zma Tryz.func104 O Tryz.ntmps104 O (Gs 17 O (G.loop (σ:=Nat) (fun i=>[(0,.slice ao l.length cap),(3,.int .i64 (zL (l.take i))),(4,.int .i64 i)]) (fun i=>fun w'=>i<=l.length/\Ext w w') (fun i=>l.length - i) (0) (zlO O) (⟨zo8 _,Keep.refl _ _⟩) ?_))
 rintro i w1 ⟨hi,hL1⟩
 replace hl:=Tr1 hL1 hl
 refine Gs 9 O (zk6 O (fun hlt=>?_) (fun hge=>?_))
 ·
  obtain⟨s,he_s,hm_s⟩:=gE_ l (i) (by omega)
  obtain⟨b_s,o_s,c_s,ha_s,_,hc_s,hR_s⟩:=hl.at he_s
  have h1_s:=RSt.one hR_s
  obtain⟨v1_s,v2_s,v3_s,v4_s,rfl,hk_s,ht_s,hs_s,hb_s⟩:=hR_s.get
  obtain⟨a1_s,n1_s,rfl⟩:=hk_s.form
  obtain⟨a2_s,n2_s,rfl⟩:=ht_s.form
  obtain⟨a3_s,n3_s,rfl⟩:=hs_s.form
  obtain⟨a4_s,n4_s,rfl⟩:=hb_s.form
  have hlt_s:b_s<_:=znV _ _ (hc_s 0 _ rfl)
  have hsp:=xG he_s
  have hse:=s.nodes_eq
  have htk:=zaj he_s
  have hde:=s.depth_eq
  have hd1:=qx s.thn
  have hd2:=qx s.els
  refine Gs 8 O (zm1 O O (zkP tR24 ts92 O O ha_s (by omega)) (Gs 1 O (zm5 O tg24 (hc_s 7 _ O) (G.call O Tryz.call104 ((ih s hm_s).1 _ D _ ht_s (by omega)) ?_))))
  rintro _ wz1 ⟨rfl,hz1⟩
  obtain⟨hl,hL1,hc_s,hk_s,ht_s,hs_s,hb_s⟩:=Tr7 hz1 hl hL1 hc_s hk_s ht_s hs_s hb_s
  refine Ga 8 O (by omega) (zm1 O O (zkP tR24 ts92 O O ha_s (by omega)) (Gs 1 O (zm5 O tg24 (hc_s 8 _ O) (G.call O Tryz.call104 ((ih s hm_s).2 _ D _ hs_s (by omega)) ?_))))
  rintro _ wz2 ⟨rfl,hz2⟩
  obtain⟨hl,hL1,hc_s,hk_s,ht_s,hs_s,hb_s⟩:=Tr7 hz2 hl hL1 hc_s hk_s ht_s hs_s hb_s
  refine Ga 12 O (by omega) (zk6 O (fun h1=>?_) (fun h1=>?_))
  ·
   refine Gs 12 O (zk6 O (fun h2=>?_) (fun h2=>?_))
   . refine Ga 11 O (by omega) (zkh (i+1) (Sub.cons O (Sub.cons (xB O (by rw [htk];omega)) (zlO O))) (⟨by omega,hL1⟩) (by first | omega | (dsimp only;omega)))
   . refine Ga 8 O (by omega) (zkh (i+1) (Sub.cons O (Sub.cons (xB O (by rw [htk];omega)) (zlO O))) (⟨by omega,hL1⟩) (by first | omega | (dsimp only;omega)))
  ·
   refine Gs 9 O (zk6 O (fun h2=>?_) (fun h2=>?_))
   . refine Ga 11 O (by omega) (zkh (i+1) (Sub.cons O (Sub.cons (xB O (by rw [htk];omega)) (zlO O))) (⟨by omega,hL1⟩) (by first | omega | (dsimp only;omega)))
   . refine Ga 8 O (by omega) (zkh (i+1) (Sub.cons O (Sub.cons (xB O (by rw [htk];omega)) (zlO O))) (⟨by omega,hL1⟩) (by first | omega | (dsimp only;omega)))
 ·
  have:i=l.length:=by omega
  subst this
  refine Gs 12 O (zkq Tryz.results104 O ⟨_,rfl,by rw [znY],hL1⟩)
theorem zan (l:List St):∀ (v:Value) (D:Nat->Prop) (w:World),SlR 10 RSt D w v l->zm l<=1000000->Calls Tryz.prog 105 #[v] w (Ret fun r w'=>r=.bool (yg l)/\Ext w w'):=by
 induction l using zlH with
 | h l ih =>
 intro v D w hl hsz
 have hlen:=zby l
 obtain⟨ao,cap,rfl⟩:=hl.form
 refine zma Tryz.func105 O Tryz.ntmps105 O (Gs 12 O (G.loop (σ:=Nat) (fun i=>[(0,.slice ao l.length cap),(3,.int .i64 i)]) (fun i=>fun w'=>i<=l.length/\yg (l.take i)=false/\Ext w w') (fun i=>l.length - i) (0) (zlO O) (⟨zo8 _,rfl,Keep.refl _ _⟩) ?_))
 rintro i w1 ⟨hi,hno,hL1⟩
 replace hl:=Tr1 hL1 hl
 refine Gs 9 O (zk6 O (fun hlt=>?_) (fun hge=>?_))
 ·
  obtain⟨s,he_s,hm_s⟩:=gE_ l (i) (by omega)
  obtain⟨b_s,o_s,c_s,ha_s,_,hc_s,hR_s⟩:=hl.at he_s
  have h1_s:=RSt.one hR_s
  obtain⟨v1_s,v2_s,v3_s,v4_s,rfl,hk_s,ht_s,hs_s,hb_s⟩:=hR_s.get
  obtain⟨a1_s,n1_s,rfl⟩:=hk_s.form
  obtain⟨a2_s,n2_s,rfl⟩:=ht_s.form
  obtain⟨a3_s,n3_s,rfl⟩:=hs_s.form
  obtain⟨a4_s,n4_s,rfl⟩:=hb_s.form
  have hlt_s:b_s<_:=znV _ _ (hc_s 0 _ rfl)
  have hsp:=xG he_s
  have hse:=s.nodes_eq
  have htk:=zak he_s
  rw [hno,Bool.false_or,s.tdeep_eq] at htk
  have hyes:(decide (12<s.term.depth) || yg s.thn || yg s.els)=true->yg l=true:=by
   intro h
   rw [yI he_s,xY]
   simp only [yg,s.tdeep_eq,h,Bool.true_or,Bool.or_true]
  refine Gs 8 O (zm1 O O (zkP tR24 ts92 O O ha_s (by omega)) (Gs 1 O (zm7 O tg86 ts86 (hc_s.sub 4 3) O (G.call O Tryz.call103 (qz s.term _ D _ (RTm.put hk_s) (by omega)) ?_))))
  rintro _ wz1 ⟨rfl,hz1⟩
  obtain⟨hl,hL1,hc_s,hk_s,ht_s,hs_s,hb_s⟩:=Tr7 hz1 hl hL1 hc_s hk_s ht_s hs_s hb_s
  refine Gs 2 O (G.sp 17 O (fun h1=>?_) (fun h1=>?_))
  ·
   have h1':decide (12<s.term.depth)=true:=zo5 (by omega)
   refine Gs 29 O (zkq tr105 O ⟨_,rfl,by rw [hyes (by rw [h1'];rfl)],hL1⟩)
  ·
   have h1':decide (12<s.term.depth)=false:=zo6 (by omega)
   refine Gs 2 O (zm1 O O (zkP tR24 ts92 O O ha_s (by omega)) (Gs 1 O (zm5 O tg24 (hc_s 7 _ O) (G.call O Tryz.call105 ((ih s hm_s).1 _ D _ ht_s (by omega)) ?_))))
   rintro _ wz2 ⟨rfl,hz2⟩
   obtain⟨hl,hL1,hc_s,hk_s,ht_s,hs_s,hb_s⟩:=Tr7 hz2 hl hL1 hc_s hk_s ht_s hs_s hb_s
   refine Gs 2 O (zlZ 25 O (fun h2=>?_) (fun h2=>?_))
   . refine Gs 21 O (zkq tr105 O ⟨_,rfl,by rw [hyes (by rw [h2];simp)],hL1⟩)
   ·
    refine Gs 2 O (zm1 O O (zkP tR24 ts92 O O ha_s (by omega)) (Gs 1 O (zm5 O tg24 (hc_s 8 _ O) (G.call O Tryz.call105 ((ih s hm_s).2 _ D _ hs_s (by omega)) ?_))))
    rintro _ wz3 ⟨rfl,hz3⟩
    obtain⟨hl,hL1,hc_s,hk_s,ht_s,hs_s,hb_s⟩:=Tr7 hz3 hl hL1 hc_s hk_s ht_s hs_s hb_s
    refine Gs 3 O (G.bool O (fun h3=>?_) (fun h3=>?_))
    . refine Gs 11 O (zkq tr105 O ⟨_,rfl,by rw [hyes (by rw [h3];simp)],hL1⟩)
    . refine Ga 8 O (by omega) (zkh (i+1) (zlO O) (⟨by omega,by rw [htk,h1',h2,h3];rfl,hL1⟩) (by first | omega | (dsimp only;omega)))
 ·
  have:i=l.length:=by omega
  subst this
  rw [znY] at hno
  refine Gs 11 O (zkq tr105 O ⟨_,rfl,by rw [hno],hL1⟩)
theorem ya (a b:Int) (w:World):Calls Tryz.prog 110 #[.int .i64 a,.int .i64 b] w (Ret fun r w'=>r=.int .i64 (max a b)/\Ext w w'):=by
 refine zmb Tryz.func110 O Tryz.ntmps110 O (Gs 13 O (zk6 O (fun h=>?_) (fun h=>?_)))
 . refine Gs 8 O (zkq Tryz.results110 O ⟨_,rfl,by rw [Int.max_eq_left (by omega)],Keep.refl _ _⟩)
 . refine Gs 9 O (zkq Tryz.results110 O ⟨_,rfl,by rw [Int.max_eq_right (by omega)],Keep.refl _ _⟩)
theorem zu (a b:Int) (w:World):Calls Tryz.prog 111 #[.int .i64 a,.int .i64 b] w (Ret fun r w'=>r=.int .i64 (min a b)/\Ext w w'):=by
 refine zmb Tryz.func111 O Tryz.ntmps111 O (Gs 13 O (zk6 O (fun h=>?_) (fun h=>?_)))
 . refine Gs 8 O (zkq Tryz.results111 O ⟨_,rfl,by rw [Int.min_eq_left (by omega)],Keep.refl _ _⟩)
 . refine Gs 9 O (zkq Tryz.results111 O ⟨_,rfl,by rw [Int.min_eq_right (by omega)],Keep.refl _ _⟩)
def qp (n low high:Int):Int:=if n<low then low else if high<n then high else n
theorem zQ (p:Bool) (w:World):Calls Tryz.prog 205 #[.bool p] w (Ret fun r w'=>r=.int .i64 (if p then 1 else 0)/\Ext w w'):=by
 refine zma Tryz.func205 O Tryz.ntmps205 O (Gs 11 O (G.bool O (fun h=>?_) (fun h=>?_)))
 . refine Gs 7 O (zkq Tryz.results205 O ⟨_,rfl,by rw [h];rfl,Keep.refl _ _⟩)
 . refine Gs 8 O (zkq Tryz.results205 O ⟨_,rfl,by rw [h];rfl,Keep.refl _ _⟩)
theorem zao (a:Int) (w:World) (ha:-4611686018427387904<=a):Calls Tryz.prog 193 #[.int .i64 a] w (Ret fun r w'=>r=.int .i64 (if a<0 then -a else a)/\Ext w w'):=by
 refine zma Tryz.func193 O Tryz.ntmps193 O (Gs 12 O (zk6 O (fun h=>?_) (fun h=>?_)))
 . refine Ga 9 O (by omega) (zkq Tryz.results193 O ⟨_,rfl,by rw [zo4 h],Keep.refl _ _⟩)
 . refine Gs 9 O (zkq Tryz.results193 O ⟨_,rfl,by rw [zo3 h],Keep.refl _ _⟩)
theorem qA (a b c:Int) (w:World) (hbc:b<=c):Calls Tryz.prog 152 #[.int .i64 a,.int .i64 b,.int .i64 c] w (Ret fun r w'=>r=.int .i64 (qp a b c)/\Ext w w'):=by
 refine zmc Tryz.func152 O Tryz.ntmps152 O (Gs 16 O (zkq Tryz.results152 O ⟨_,rfl,?_,Keep.refl _ _⟩))
 congr 1
 unfold qp
 split
 . omega
 . split <;> omega
theorem zap (t:Tm):∀ (cs:List Value) (D:Nat->Prop) (w:World) (left:Int),RTm D w t cs -> -100000<=left->left<=1000000->Calls Tryz.prog 52 #[.agg cs.toArray,.int .i64 left] w (Ret fun r w'=>(∃ m:Int,r=.int .i64 m/\((t.nodes:Int)<=left->m=left - t.nodes)/\(¬ (t.nodes:Int)<=left->m<0/\min left 0 - 1<=m))/\Ext w w'):=by
 induction t using zlF with
 | h t ih =>
 intro cs D w left ht h1 h2
 have hse:=t.nodes_eq
 obtain⟨v,rfl,hk⟩:=ht.get
 have hmx:=hk.max
 obtain⟨ao,cap,rfl⟩:=hk.form
 have hE:=Keep.refl (fun _=>False) w
 refine zmb Tryz.func52 O Tryz.ntmps52 O (Gs 2 O (G.mem O O (M.box O O) ?_))
 rintro _ w_b ⟨b,rfl,hg_b,hs_b,hB_b,hk_b⟩
 have hge_b:_<=b:=znZ hE.size (Nat.le_of_eq hg_b.symm)
 obtain⟨hE,hk⟩:=Tr2 hk_b hE hk
 refine Ga 17 O (by omega) (G.loop (σ:=Nat × Int) (fun⟨i,x⟩=>[(1,.int .i64 x),(2,.pointer (some ⟨b,0,none⟩)),(5,.int .i64 i)]) (fun⟨i,x⟩=>fun w'=>i<=t.kids.length/\((1+zM (t.kids.take i):Nat)<=left->x=left - (1+zM (t.kids.take i):Nat))/\(¬ ((1+zM (t.kids.take i):Nat):Int)<=left->x<0/\min left 0 - 1<=x)/\Ext w_b w') (fun⟨i,x⟩=>t.kids.length - i) ((0,left - 1)) (zlO O) (⟨zo8 _,fun _=>rfl,fun h=>by simp [zM] at h;omega,Keep.refl _ _⟩) ?_)
 rintro⟨i,x⟩ w1 ⟨hi,hy,hn,hL1⟩
 show G _ _ _ _ _ [(1,.int .i64 x),(2,.pointer (some ⟨b,0,none⟩)),(5,.int .i64 i)] _
 obtain⟨hE,hk,hB_b⟩:=Tr3 hL1 hE hk hB_b
 refine Gs 5 O (zm5 O tg84 (hB_b.cells 2 _ O) (Gs 3 O ?_))
 have hend:(i=t.kids.length\/x<0)->((t.nodes:Int)<=left->x=left - t.nodes)/\(¬ (t.nodes:Int)<=left->x<0/\min left 0 - 1<=x):=by
  intro h
  have hle:zM (t.kids.take i)<=zM t.kids:=by
   have:=xW (t.kids.take i) (t.kids.drop i)
   rw [List.take_append_drop] at this
   omega
  rcases h with h | h
  ·
   rw [h,znY] at hy hn
   constructor
   . intro h3;rw [hy (by omega)];omega
   . intro h3;exact hn (by omega)
  ·
   constructor
   . intro h3;have:=hy (by omega);omega
   ·
    intro h3
    by_cases h4:((1+zM (t.kids.take i):Nat):Int)<=left
    . have:=hy h4;omega
    . exact hn h4
 refine G.sp 13 O (fun hlt=>?_) (fun hlt=>?_)
 ·
  refine Gs 5 O (zk6 O (fun hx0=>?_) (fun hx0=>?_))
  ·
   obtain⟨k,he_k,hm_k⟩:=gE_ t.kids (i) (by omega)
   obtain⟨b_k,o_k,c_k,ha_k,_,hc_k,hR_k⟩:=hk.at he_k
   have h1_k:=RTm.one hR_k
   obtain⟨v1_k,rfl,hk_k⟩:=hR_k.get
   obtain⟨a1_k,n1_k,rfl⟩:=hk_k.form
   have hlt_k:b_k<_:=znV _ _ (hc_k 0 _ rfl)
   have hsp:=jc he_k
   refine Gs 6 O (zm5 O tg84 (hB_b.cells 2 _ O) (Gs 1 O (zm1 O O (zkP tR84 ts86 O O ha_k (by omega)) (zm7 O tg86 ts86 hc_k O (Gs 1 O (G.call O Tryz.call52 (ih k hm_k _ D _ x (RTm.put hk_k) (by omega) (by by_cases h4:((1+zM (t.kids.take i):Nat):Int)<=left <;> first | (have:=hy h4;omega) | (have:=hn h4;omega))) ?_))))))
   rintro _ wz1 ⟨⟨m,rfl,hm1,hm2⟩,hz1⟩
   obtain⟨hE,hk,hB_b,hL1,hc_k,hk_k⟩:=Tr6 hz1 hE hk hB_b hL1 hc_k hk_k
   refine Ga 9 O (by omega) (zkh ((i+1,m)) (zlO O) (⟨by omega,?_,?_,hL1⟩) (by first | omega | (dsimp only;omega)))
   ·
    intro h3
    rw [hsp] at h3 ⊢
    have:=hy (by omega)
    rw [hm1 (by omega)];omega
   ·
    intro h3
    rw [hsp] at h3
    by_cases h4:((1+zM (t.kids.take i):Nat):Int)<=left
    ·
     have:=hy h4
     have:=hm2 (by omega)
     omega
    . have:=hn h4;omega
  . refine Gs 12 O (zkq Tryz.results52 O ⟨_,rfl,⟨x,rfl,hend (.inr (by omega))⟩,hE⟩)
 . refine Gs 18 O (zkq Tryz.results52 O ⟨_,rfl,⟨x,rfl,hend (.inl (by omega))⟩,hE⟩)
end Go.Proofs.YtaenledoagbddaaGreatDoor
namespace Go.GL
theorem znn {a b:Nd} (h1:a.kind=b.kind) (h2:a.at_=b.at_) (h3:a.next=b.next) (h4:a.other=b.other):a=b:=by
 cases a;cases b;simp_all
mutual
/-- The number of nodes of a step. -/
def St.wid:St->Nat
 | .mk a _ _ _ _ f g _=>1+zc5 f+zc5 g+(if a=4 then 1 else 0)
def zc5:List St->Nat
 | []=>0
 | s::r=>s.wid+zc5 r
end
theorem St.wid_eq (s:St):s.wid=1+zc5 s.thn+zc5 s.els+(if s.act=4 then 1 else 0):=by cases s;rfl
mutual
def St.lay:St->Nat->Nat->Nat->List Nd
 | .mk a _ _ _ _ f g _,at_,node,e =>
  if a=3 then ⟨3,at_,if f.isEmpty then e else (node+1:Nat),if g.isEmpty then e else (node+1+zc5 f:Nat)⟩::(zbz f (at_+1) (node+1) e++zbz g (at_+1+ssize f) (node+1+zc5 f) e)
  else if a=4 then ⟨4,at_,(node+1:Nat),-1⟩::⟨5,at_,if f.isEmpty then (node+1:Nat) else (node+2:Nat),e⟩::zbz f (at_+1) (node+2) (node+1)
  else [⟨2,at_,e,-1⟩]
def zbz:List St->Nat->Nat->Nat->List Nd
 | [],_,_,_=>[]
 | s::r,at_,node,after=>s.lay at_ node (if r.isEmpty then after else node+s.wid)++zbz r (at_+s.size) (node+s.wid) after
end
theorem St.lay_eq (s:St) (at_ node e:Nat):s.lay at_ node e =
  if s.act=3 then ⟨3,at_,if s.thn.isEmpty then e else (node+1:Nat),if s.els.isEmpty then e else (node+1+zc5 s.thn:Nat)⟩::(zbz s.thn (at_+1) (node+1) e++zbz s.els (at_+1+ssize s.thn) (node+1+zc5 s.thn) e)
  else if s.act=4 then ⟨4,at_,(node+1:Nat),-1⟩::⟨5,at_,if s.thn.isEmpty then (node+1:Nat) else (node+2:Nat),e⟩::zbz s.thn (at_+1) (node+2) (node+1)
  else [⟨2,at_,e,-1⟩]:=by cases s;rw [St.lay];rfl
def zdJ (f:Fl):List Nd:=⟨0,-1,1,-1⟩::(zbz f.body 0 1 (1+zc5 f.body)++[⟨1,-1,-1,-1⟩])
abbrev kU:=Nat × Bool
def kz (ns:List Nd) (to:Int) (e:kU):List Nd:=ns.modify e.1 fun x=>if e.2 then { x with other:=to } else { x with next:=to }
def zO (ns:List Nd) (to:Int) (es:List kU):List Nd:=es.foldl (fun ns e=>kz ns to e) ns
structure Bd where
 nodes:List Nd
 step:Nat
mutual
def St.one:St->Nat->Bd->Bd × List kU
 | .mk a _ _ _ _ f g _,at_,b =>
  if a=3 then
   let x:=yO f { nodes:=b.nodes++[⟨3,b.step,-1,-1⟩],step:=b.step+1 } [(at_,false)]
   let y:=yO g x.1 [(at_,true)]
   (y.1,x.2++y.2)
  else if a=4 then
   let x:=yO f { nodes:=kz (b.nodes++[⟨4,b.step,-1,-1⟩,⟨5,b.step,-1,-1⟩]) (at_+1:Nat) (at_,false),step:=b.step+1 } [(at_+1,false)]
   ({ x.1 with nodes:=zO x.1.nodes (at_+1:Nat) x.2 },[(at_+1,true)])
  else ({ nodes:=b.nodes++[⟨2,b.step,-1,-1⟩],step:=b.step+1 },[(at_,false)])
def yO:List St->Bd->List kU->Bd × List kU
 | [],b,ins=>(b,ins)
 | s::r,b,ins =>
  let x:=s.one b.nodes.length { b with nodes:=zO b.nodes b.nodes.length ins }
  yO r x.1 x.2
end
theorem St.one_eq (s:St) (at_:Nat) (b:Bd):s.one at_ b =
  if s.act=3 then
   ((yO s.els (yO s.thn { nodes:=b.nodes++[⟨3,b.step,-1,-1⟩],step:=b.step+1 } [(at_,false)]).1 [(at_,true)]).1,
    (yO s.thn { nodes:=b.nodes++[⟨3,b.step,-1,-1⟩],step:=b.step+1 } [(at_,false)]).2++(yO s.els (yO s.thn { nodes:=b.nodes++[⟨3,b.step,-1,-1⟩],step:=b.step+1 } [(at_,false)]).1 [(at_,true)]).2)
  else if s.act=4 then
   ({ (yO s.thn { nodes:=kz (b.nodes++[⟨4,b.step,-1,-1⟩,⟨5,b.step,-1,-1⟩]) (at_+1:Nat) (at_,false),step:=b.step+1 } [(at_+1,false)]).1 with
    nodes:=zO (yO s.thn { nodes:=kz (b.nodes++[⟨4,b.step,-1,-1⟩,⟨5,b.step,-1,-1⟩]) (at_+1:Nat) (at_,false),step:=b.step+1 } [(at_+1,false)]).1.nodes (at_+1:Nat)
     (yO s.thn { nodes:=kz (b.nodes++[⟨4,b.step,-1,-1⟩,⟨5,b.step,-1,-1⟩]) (at_+1:Nat) (at_,false),step:=b.step+1 } [(at_+1,false)]).2 },[(at_+1,true)])
  else ({ nodes:=b.nodes++[⟨2,b.step,-1,-1⟩],step:=b.step+1 },[(at_,false)]):=by cases s;rw [St.one];rfl
theorem zeo (s:St) (r:List St) (b:Bd) (ins:List kU):yO (s::r) b ins=yO r (s.one b.nodes.length { b with nodes:=zO b.nodes b.nodes.length ins }).1 (s.one b.nodes.length { b with nodes:=zO b.nodes b.nodes.length ins }).2:=by rw [yO]
theorem zdK (ns:List Nd) (to:Int) (e:kU):(kz ns to e).length=ns.length:=by simp [kz]
theorem xq (es:List kU):∀ (ns:List Nd) (to:Int),(zO ns to es).length=ns.length:=by
 induction es with
 | nil=>intro ns to;rfl
 | cons e r ih=>intro ns to;rw [zO,List.foldl_cons,<- zO,ih,zdK]
theorem yP (e:kU) (r:List kU) (ns:List Nd) (to:Int):zO ns to (e::r)=zO (kz ns to e) to r:=rfl
theorem zbA (a b:List kU) (ns:List Nd) (to:Int):zO ns to (a++b)=zO (zO ns to a) to b:=by simp [zO,List.foldl_append]
theorem zf3 (ns:List Nd) (to to':Int) (e e':kU) (h:to=to'\/e ≠ e'):kz (kz ns to e) to' e'=kz (kz ns to' e') to e:=by
 apply List.ext_getElem?
 intro i
 simp only [kz,List.getElem?_modify]
 obtain⟨a,p⟩:=e
 obtain⟨a',p'⟩:=e'
 dsimp only
 by_cases h1:a=i <;> by_cases h2:a'=i <;> simp only [h1,h2,if_true,if_false] <;> cases ns[i]? <;> simp
 rename_i x
 cases p <;> cases p' <;> simp
 ·
  rcases h with h | h
  . exact h.symm
  . exact absurd (by rw [h1,h2]) h
 ·
  rcases h with h | h
  . exact h.symm
  . exact absurd (by rw [h1,h2]) h
theorem zaq (es:List kU):∀ (ns:List Nd) (to to':Int) (e:kU),(to=to'\/e ∉ es)->zO (kz ns to' e) to es=kz (zO ns to es) to' e:=by
 induction es with
 | nil=>intro ns to to' e _;rfl
 | cons x r ih =>
  intro ns to to' e h
  rw [yP,yP,<- ih _ _ _ _ (h.imp id (fun h hm=>h (znW _ hm)))]
  congr 1
  exact zf3 _ _ _ _ _ (h.imp (fun h=>h.symm) (fun h he=>h (by rw [he];exact znX ..)))
theorem zd6 (es es':List kU) (ns:List Nd) (to:Int):zO (zO ns to es) to es'=zO (zO ns to es') to es:=by
 induction es generalizing ns with
 | nil=>rfl
 | cons e r ih =>
  rw [yP,ih,yP,zaq _ _ _ _ _ (.inl rfl)]
theorem zcq {ns ms:List Nd} {to:Int} {e:kU} (h:e.1<ns.length):kz (ns++ms) to e=kz ns to e++ms:=by
 apply List.ext_getElem?
 intro i
 simp only [kz,List.getElem?_modify]
 by_cases h1:i<ns.length
 . rw [zoj h1,zoj (by simpa using h1),List.getElem?_modify]
 ·
  rw [zok (by omega),zok (by simp;omega)]
  simp [show ¬ e.1=i by omega]
theorem zd7 {es:List kU}:∀ {ns ms:List Nd} {to:Int},(∀ e ∈ es,e.1<ns.length)->zO (ns++ms) to es=zO ns to es++ms:=by
 induction es with
 | nil=>intro ns ms to _;rfl
 | cons e r ih =>
  intro ns ms to h
  rw [yP,yP,zcq (h e (znX ..)),ih (fun x hx=>by rw [zdK];exact h x (znW _ hx))]
theorem jB {ns:List Nd} {x:Nd} {to:Int} {p:Bool} {k:Nat} (hk:k=ns.length):kz (ns++[x]) to (k,p)=ns++[if p then { x with other:=to } else { x with next:=to }]:=by
 subst hk
 apply List.ext_getElem?
 intro i
 simp only [kz,List.getElem?_modify]
 by_cases h1:i<ns.length
 . rw [zoj h1,zoj h1];simp [show ¬ ns.length=i by omega]
 ·
  rw [zok (by omega),zok (by omega)]
  by_cases h2:i=ns.length
  . subst h2;simp
  . rw [zoh (by simp;omega),zoh (by simp;omega)];simp
theorem zbB {ns ms:List Nd} {x:Nd} {to:Int} {p:Bool} {k:Nat} (hk:k=ns.length):kz (ns++x::ms) to (k,p)=ns++(if p then { x with other:=to } else { x with next:=to })::ms:=by
 have:=zcq (ns:=ns++[x]) (ms:=ms) (to:=to) (e:=(k,p)) (by simp;omega)
 rw [List.append_assoc,List.singleton_append,jB hk] at this
 simpa using this
mutual
def St.plainB:St->Bool
 | .mk a _ _ _ _ f g _=>(if a=3 then true else if a=4 then g.isEmpty else f.isEmpty&&g.isEmpty)&&xj f&&xj g
def xj:List St->Bool
 | []=>true
 | s::r=>s.plainB&&xj r
end
theorem St.plainB_eq (s:St):s.plainB=((if s.act=3 then true else if s.act=4 then s.els.isEmpty else s.thn.isEmpty&&s.els.isEmpty)&&xj s.thn&&xj s.els):=by cases s;rw [St.plainB];rfl
theorem zbc {l:List St} (h:xj l=true):∀ s ∈ l,s.plainB=true:=by
 induction l with
 | nil=>intro s hs;simp at hs
 | cons x r ih =>
  intro s hs
  rw [xj,Bool.and_eq_true] at h
  rcases zo9.1 hs with rfl | hs
  . exact h.1
  . exact ih h.2 s hs
theorem zf4 {l:List St} (h:∀ s ∈ l,s.plainB=true):xj l=true:=by
 induction l with
 | nil=>rfl
 | cons x r ih=>rw [xj,h x (znX ..),ih (fun s hs=>h s (znW _ hs))];rfl
structure BOk (l:List St) (b:Bd) (ins:List kU) (c:Bd) (outs:List kU):Prop where
 len:c.nodes.length=b.nodes.length+zc5 l
 step:c.step=b.step+ssize l
 out:∀ e ∈ outs,e ∈ ins\/b.nodes.length<=e.1
 lt:∀ e ∈ outs,e.1<c.nodes.length
 lay:∀ after:Nat,zO c.nodes after outs=zO b.nodes (if l.isEmpty then after else b.nodes.length:Nat) ins++zbz l b.step b.nodes.length after
structure OOk (s:St) (b:Bd) (c:Bd) (outs:List kU):Prop where
 len:c.nodes.length=b.nodes.length+s.wid
 step:c.step=b.step+s.size
 out:∀ e ∈ outs,b.nodes.length<=e.1
 lt:∀ e ∈ outs,e.1<c.nodes.length
 lay:∀ after:Nat,zO c.nodes after outs=b.nodes++s.lay b.step b.nodes.length after
theorem zf5 (s:St) (hp:s.plainB=true) (h1:∀ (b:Bd) (ins:List kU),(∀ e ∈ ins,e.1<b.nodes.length)->BOk s.thn b ins (yO s.thn b ins).1 (yO s.thn b ins).2)
  (h2:∀ (b:Bd) (ins:List kU),(∀ e ∈ ins,e.1<b.nodes.length)->BOk s.els b ins (yO s.els b ins).1 (yO s.els b ins).2) (b:Bd):OOk s b (s.one b.nodes.length b).1 (s.one b.nodes.length b).2:=by
 rw [s.plainB_eq,Bool.and_eq_true,Bool.and_eq_true] at hp
 have hw:=s.wid_eq
 have hz:=s.size_eq
 rw [s.one_eq]
 by_cases a3:s.act=3
 ·
  rw [zo3 (show ¬ s.act=4 by omega)] at hw
  simp only [zo4 a3]
  have H1:=h1 { nodes:=b.nodes++[⟨3,b.step,-1,-1⟩],step:=b.step+1 } [(b.nodes.length,false)] (by simp)
  generalize hx:yO s.thn { nodes:=b.nodes++[⟨3,b.step,-1,-1⟩],step:=b.step+1 } [(b.nodes.length,false)]=x at H1
  obtain⟨len1,qv,out1,lt1,lay1⟩:=H1
  simp only [zo1,zoe] at len1 qv out1 lay1
  have H2:=h2 x.1 [(b.nodes.length,true)] (by simp;omega)
  generalize hy:yO s.els x.1 [(b.nodes.length,true)]=y at H2
  obtain⟨len2,step2,out2,lt2,lay2⟩:=H2
  refine⟨by omega,by omega,?_,?_,?_⟩
  ·
   intro e he
   rcases zoc.1 he with he | he
   ·
    rcases out1 e he with h | h
    . rw [zob.1 h];exact zoi _
    . omega
   ·
    rcases out2 e he with h | h
    . rw [zob.1 h];exact zoi _
    . omega
  ·
   intro e he
   rcases zoc.1 he with he | he
   . have:=lt1 e he;omega
   . exact lt2 e he
  ·
   intro after
   have hnot:(b.nodes.length,true) ∉ x.2:=by
    intro h
    rcases out1 _ h with h | h
    . simp at h
    . dsimp only at h;omega
   rw [zbA,zd6,lay2,zd7 (by intro e he;rw [xq];exact lt1 e he)]
   rw [show ∀ (t:Int),zO x.1.nodes t [(b.nodes.length,true)]=kz x.1.nodes t (b.nodes.length,true) from fun _=>rfl]
   rw [zaq _ _ _ _ _ (.inr hnot),lay1]
   rw [show ∀ (t:Int) (ns:List Nd),zO ns t [(b.nodes.length,false)]=kz ns t (b.nodes.length,false) from fun _ _=>rfl]
   rw [jB rfl,List.append_assoc,List.singleton_append,zbB rfl,s.lay_eq,zo4 a3]
   rw [List.append_assoc,List.cons_append,qv,len1]
   simp only [if_true,Bool.false_eq_true,if_false]
   congr 2
   apply znn <;> dsimp only
   . split <;> rfl
   . rw [apply_ite Nat.cast]
 ·
  by_cases a4:s.act=4
  ·
   rw [zo4 a4] at hw
   rw [zo3 a3,zo4 a4] at hp
   have he0:s.els=[]:=by simpa using hp.1.1
   rw [he0] at hw hz
   simp only [zc5,ssize] at hw hz
   simp only [zo3 a3,zo4 a4]
   have hst:kz (b.nodes++[⟨4,b.step,-1,-1⟩,⟨5,b.step,-1,-1⟩]) (b.nodes.length+1:Nat) (b.nodes.length,false)=b.nodes++[⟨4,b.step,(b.nodes.length+1:Nat),-1⟩,⟨5,b.step,-1,-1⟩]:=by rw [zbB rfl];rfl
   rw [hst]
   have H1:=h1 { nodes:=b.nodes++[⟨4,b.step,(b.nodes.length+1:Nat),-1⟩,⟨5,b.step,-1,-1⟩],step:=b.step+1 } [(b.nodes.length+1,false)] (by simp)
   generalize hx:yO s.thn { nodes:=b.nodes++[⟨4,b.step,(b.nodes.length+1:Nat),-1⟩,⟨5,b.step,-1,-1⟩],step:=b.step+1 } [(b.nodes.length+1,false)]=x at H1
   obtain⟨len1,qv,out1,lt1,lay1⟩:=H1
   simp only [zo1,zom,List.length_nil] at len1 qv out1 lay1
   refine⟨by rw [xq];omega,by dsimp only;omega,?_,?_,?_⟩
   ·
    intro e he
    rw [zob.1 he];dsimp only;omega
   ·
    intro e he
    rw [zob.1 he,xq];dsimp only;omega
   ·
    intro after
    dsimp only
    rw [lay1]
    simp only [show ∀ (t:Int) (ns:List Nd) (q:Bool),zO ns t [(b.nodes.length+1,q)]=kz ns t (b.nodes.length+1,q) from fun _ _ _=>rfl]
    rw [show ∀ (x y:Nd),b.nodes++[x,y]=(b.nodes++[x])++[y] from fun x y=>by simp]
    rw [jB (by simp)]
    rw [List.append_assoc (b.nodes++[_]),List.singleton_append,zbB (by simp),s.lay_eq,zo3 a3,zo4 a4,List.append_assoc,List.singleton_append]
    simp only [if_true,Bool.false_eq_true,if_false]
    congr 3
    apply znn <;> dsimp only
    rw [apply_ite Nat.cast]
  ·
   rw [zo3 a4] at hw
   rw [zo3 a3,zo3 a4,Bool.and_eq_true,List.isEmpty_iff,List.isEmpty_iff] at hp
   rw [hp.1.1.1,hp.1.1.2] at hw hz
   simp only [zc5,ssize] at hw hz
   simp only [zo3 a3,zo3 a4]
   refine⟨by simp;omega,by dsimp only;omega,?_,?_,?_⟩
   . intro e he;rw [zob.1 he];exact zoi _
   . intro e he;rw [zob.1 he];simp
   ·
    intro after
    dsimp only
    rw [show ∀ (t:Int) (ns:List Nd),zO ns t [(b.nodes.length,false)]=kz ns t (b.nodes.length,false) from fun _ _=>rfl]
    rw [jB rfl,s.lay_eq,zo3 a3,zo3 a4]
    rfl
theorem zep (l:List St):xj l=true->∀ (b:Bd) (ins:List kU),(∀ e ∈ ins,e.1<b.nodes.length)->BOk l b ins (yO l b ins).1 (yO l b ins).2:=by
 induction l using zlH with
 | h l ih =>
 intro hp
 have key:∀ r:List St,(∀ x ∈ r,x ∈ l)->∀ (b:Bd) (ins:List kU),(∀ e ∈ ins,e.1<b.nodes.length)->BOk r b ins (yO r b ins).1 (yO r b ins).2:=by
  intro r
  induction r with
  | nil =>
   intro _ b ins hi
   rw [yO]
   exact⟨by simp [zc5],by simp [ssize],fun e he=>.inl he,hi,fun after=>by simp [zbz]⟩
  | cons s r ihr =>
   intro hm b ins hi
   have hs:=zbc hp s (hm s (znX ..))
   have hs2:=hs
   rw [s.plainB_eq,Bool.and_eq_true,Bool.and_eq_true] at hs2
   have H:=zf5 s hs (fun b ins h=>(ih s (hm s (znX ..))).1 hs2.1.2 b ins h) (fun b ins h=>(ih s (hm s (znX ..))).2 hs2.2 b ins h) { b with nodes:=zO b.nodes b.nodes.length ins }
   rw [zeo]
   dsimp only at H
   rw [xq] at H
   generalize s.one b.nodes.length { b with nodes:=zO b.nodes b.nodes.length ins }=x at H
   obtain⟨len1,qv,out1,lt1,lay1⟩:=H
   simp only [xq] at len1 qv out1 lt1 lay1
   have H2:=ihr (fun y hy=>hm y (znW _ hy)) x.1 x.2 lt1
   generalize yO r x.1 x.2=y at H2
   obtain⟨len2,step2,out2,lt2,lay2⟩:=H2
   refine⟨by simp only [zc5];omega,by simp only [ssize];omega,?_,lt2,?_⟩
   ·
    intro e he
    rcases out2 e he with h | h
    . exact .inr (out1 e h)
    . exact .inr (by omega)
   ·
    intro after
    rw [lay2,lay1,zbz,List.append_assoc,len1,qv]
    simp only [List.isEmpty_cons,Bool.false_eq_true,if_false]
 exact key l (fun x h=>h)
theorem zdL (l:List St):xj l=true->∀ at_ node after,(zbz l at_ node after).length=zc5 l:=by
 intro hp at_ node after
 have H:=zep l hp { nodes:=List.replicate node ⟨0,0,0,0⟩,step:=at_ } [] (by simp)
 have h1:=H.lay after
 have h2:=congrArg List.length h1
 rw [xq,H.len] at h2
 simp [zO] at h2
 exact h2.symm
theorem zgJ (f:Fl) (hp:xj f.body=true):(zdJ f).length=zc5 f.body+2:=by
 simp [zdJ,zdL _ hp]
structure Nums (ns:List Nd) (a n:Nat):Prop where
 range:∀ x ∈ ns,(a:Int)<=x.at_/\x.at_<(a+n:Nat)
 ord:ns.Pairwise fun x y=>x.at_<=y.at_
 all:∀ k,k<n->∃ x ∈ ns,x.at_=(a+k:Nat)
theorem Nums.nil (a:Nat):Nums [] a 0:=⟨fun x h=>by simp at h,List.Pairwise.nil,fun k h=>by omega⟩
theorem Nums.append {ns ms:List Nd} {a n b m:Nat} (h:Nums ns a n) (h':Nums ms b m) (hb:b=a+n):Nums (ns++ms) a (n+m):=by
 subst hb
 refine⟨fun x hx=>?_,?_,fun k hk=>?_⟩
 ·
  rcases zoc.1 hx with hx | hx
  . have:=h.range x hx;omega
  . have:=h'.range x hx;omega
 ·
  rw [List.pairwise_append]
  refine⟨h.ord,h'.ord,fun x hx y hy=>?_⟩
  have:=h.range x hx
  have:=h'.range y hy
  omega
 ·
  by_cases hk2:k<n
  ·
   obtain⟨x,hx,e⟩:=h.all k hk2
   exact⟨x,List.mem_append_left _ hx,e⟩
  ·
   obtain⟨x,hx,e⟩:=h'.all (k - n) (by omega)
   exact⟨x,List.mem_append_right _ hx,by rw [e];omega⟩
theorem Nums.cons {ns:List Nd} {a n:Nat} {x:Nd} (h:Nums ns (a+1) n) (hx:x.at_=a):Nums (x::ns) a (n+1):=by
 refine⟨fun y hy=>?_,?_,fun k hk=>?_⟩
 ·
  rcases zo9.1 hy with rfl | hy
  . omega
  . have:=h.range y hy;omega
 ·
  rw [List.pairwise_cons]
  exact⟨fun y hy=>by have:=h.range y hy;omega,h.ord⟩
 ·
  by_cases hk2:k=0
  . subst hk2;exact⟨x,znX ..,hx⟩
  ·
   obtain⟨y,hy,e⟩:=h.all (k - 1) (by omega)
   exact⟨y,znW _ hy,by rw [e];omega⟩
theorem zno {ns:List Nd} {a n:Nat} {x:Nd} (h:Nums ns a n) (hn:0<n) (hx:x.at_=a):Nums (x::ns) a n:=by
 refine⟨fun y hy=>?_,?_,fun k hk=>?_⟩
 ·
  rcases zo9.1 hy with rfl | hy
  . omega
  . exact h.range y hy
 ·
  rw [List.pairwise_cons]
  exact⟨fun y hy=>by have:=h.range y hy;omega,h.ord⟩
 ·
  obtain⟨y,hy,e⟩:=h.all k hk
  exact⟨y,znW _ hy,e⟩
theorem zgK (l:List St):xj l=true->∀ a node after,Nums (zbz l a node after) a (ssize l):=by
 induction l using zlH with
 | h l ih =>
 intro hp
 have key:∀ r:List St,(∀ x ∈ r,x ∈ l)->∀ a node after,Nums (zbz r a node after) a (ssize r):=by
  intro r
  induction r with
  | nil=>intro _ a node after;exact Nums.nil a
  | cons s r ihr =>
   intro hm a node after
   have hs:=zbc hp s (hm s (znX ..))
   rw [s.plainB_eq,Bool.and_eq_true,Bool.and_eq_true] at hs
   have h1:=(ih s (hm s (znX ..))).1 hs.1.2
   have h2:=(ih s (hm s (znX ..))).2 hs.2
   rw [zbz,ssize]
   refine Nums.append ?_ (ihr (fun y hy=>hm y (znW _ hy)) _ _ _) O
   generalize (if r.isEmpty=true then after else node+s.wid)=e
   have hz:=s.size_eq
   rw [s.lay_eq]
   by_cases a3:s.act=3
   ·
    rw [zo4 a3,show s.size=(ssize s.thn+ssize s.els)+1 by omega]
    exact Nums.cons (Nums.append (h1 _ _ _) (h2 _ _ _) O) O
   ·
    by_cases a4:s.act=4
    ·
     rw [zo3 a3,zo4 a4] at hs
     rw [zo3 a3,zo4 a4]
     have he0:s.els=[]:=by simpa using hs.1.1
     rw [he0] at hz
     simp only [ssize] at hz
     rw [show s.size=ssize s.thn+1 by omega]
     exact zno (Nums.cons (h1 _ _ _) O) (by omega) O
    ·
     rw [zo3 a3,zo3 a4,Bool.and_eq_true,List.isEmpty_iff,List.isEmpty_iff] at hs
     rw [zo3 a3,zo3 a4]
     rw [hs.1.1.1,hs.1.1.2] at hz
     simp only [ssize] at hz
     rw [show s.size=0+1 by omega]
     exact Nums.cons (Nums.nil _) O
 exact key l (fun x h=>h)
structure Item where
 i:Nat
 o:Oper
 d:Nat
 R:World->Value->World->Prop
def jC (ops:Array Oper) (L3:Array Bool):Nat->List Nat->Array Bool->Bool
 | 0,is,listed=>is.isEmpty&&(listed == L3)
 | k+1,is,listed=>!(Region.ready .any ops listed).isEmpty&&(Region.ready .any ops listed).all (fun j=>is.contains j&&jC ops L3 k (is.filter (fun x=>x != j)) (listed.setIfInBounds j true))
def zi7 (R:World->Value->World->Prop) (v:Value) (R':World->Value->World->Prop) (u:Value):Prop :=
 (∃ a a' c c',R a v a'/\R' c u c'/\Ext a' c)\/(∃ a a' c c',R a v a'/\R' c u c'/\Ext c' a)
theorem qB {α:Type} {f:α->Nat}:∀ {l:List α},(l.map f).Nodup->∀ {x y:α},x ∈ l->y ∈ l->f x=f y->x=y
 | [],_,_,_,hx,_,_=>by simp at hx
 | z::r,h,x,y,hx,hy,e=>by
  rw [List.map_cons,List.nodup_cons] at h
  rcases zo9.1 hx with h1 | h1
  ·
   rcases zo9.1 hy with h2 | h2
   . rw [h1,h2]
   . exact absurd (List.mem_map.2 ⟨y,h2,by rw [<- e,h1]⟩) h.1
  ·
   rcases zo9.1 hy with h2 | h2
   . exact absurd (List.mem_map.2 ⟨x,h1,by rw [e,h2]⟩) h.1
   . exact qB h.2 h1 h2 e
theorem zcr {env:Env} {val:Nat->Value}:∀ (I:List Item) (m:Nat) (v:Value),get (I.map (fun x=>(x.d,val x.d))++env) m=some v->(∃ x ∈ I,x.d=m/\v=val m)\/get env m=some v
 | [],m,v,h=>.inr h
 | x::r,m,v,h=>by
  rw [List.map_cons,List.cons_append] at h
  simp only [GL.get] at h
  cases hb:Nat.beq x.d m with
  | true =>
   rw [hb] at h
   have e:=zo0 hb
   exact .inl ⟨x,znX ..,e,by rw [<- e];exact (Option.some.inj h).symm⟩
  | false =>
   rw [hb] at h
   rcases zcr r m v h with⟨y,hy,h1,h2⟩ | h1
   . exact .inl ⟨y,znW _ hy,h1,h2⟩
   . exact .inr h1
section
variable {P:Program} {n:Nat} {ops:Array Oper} {Q:Exit->Act->World->Prop} {S:World->Prop} {L:List Nat} {env:Env} {w:World} {fuel:Nat} {listed:Array Bool}
theorem zf6 {i d:Nat} {o:Oper} {R:Value->World->Prop} {K:Act->World->Prop} {Q':Exit->Act->World->Prop} {a:Act} (hi:ops[i]?=some o) (hg:o.guard=none) (hd:o.dst=some d) (ha:Ok n env a) (hm:Does P o env w R)
  (h:∀ v w',R v w'->K (a.put (some d) v) w'):wpOp P ops Q' i K a w:=by
 refine za2 hi hg ?_
 unfold Oper.wp
 rcases hm with⟨v,w',h1,h2⟩ | ⟨f,args,h1,h2⟩
 ·
  rw [h1 n a ha,Oper.upon_value,hd]
  exact h v w' h2
 ·
  rw [h1 n a ha,Oper.upon_enter]
  refine h2.mono ?_
  rintro e w' ⟨v,rfl,hR⟩
  simp only [hd]
  exact h v w' hR
theorem znp (I:List Item) {L3:Array Bool} (hI:∀ x ∈ I,ops[x.i]?=some x.o/\x.o.guard=none/\x.o.dst=some x.d/\Nat.blt x.d n=true/\get env x.d=none)
  (hnd:(I.map (·.d)).Nodup) (hni:(I.map (·.i)).Nodup) (hr:jC ops L3 I.length (I.map (·.i)) listed=true)
  (hS:∀ w',Ext w w'->S w') (hR:∀ x ∈ I,∀ a v a',x.R a v a'->Ext a a') (hm:∀ x ∈ I,∀ w',Ext w w'->Does P x.o env w' (x.R w'))
  (h:∀ (val:Nat->Value) w',Ext w w'->(∀ x ∈ I,zjS w x.R (val x.d) w')->(∀ x ∈ I,∀ y ∈ I,x.d ≠ y.d->zi7 x.R (val x.d) y.R (val y.d))->WD P n ops Q S L fuel L3 (I.map (fun x=>(x.d,val x.d))++env) w') :
  WD P n ops Q S L (fuel+I.length) listed env w:=by
 have key:∀ (k:Nat) (J:List Item) (listed:Array Bool) (env':Env) (w':World) (val:Nat->Value),(∀ x ∈ J,x ∈ I)->jC ops L3 k (J.map (·.i)) listed=true->Ext w w'->Sub env env' ->
   (∀ x ∈ I,x ∉ J->get env' x.d=some (val x.d)/\zjS w x.R (val x.d) w')->(∀ x ∈ I,x ∉ J->∀ y ∈ I,y ∉ J->x.d ≠ y.d->zi7 x.R (val x.d) y.R (val y.d)) ->
   WD P n ops Q S L (fuel+k) listed env' w':=by
  intro k
  induction k with
  | zero =>
   intro J listed env' w' val hJ ho hE hsub hdone hap
   rw [jC,Bool.and_eq_true,List.isEmpty_iff,List.map_eq_nil_iff] at ho
   obtain⟨rfl,ho⟩:=ho
   have e:listed=L3:=by simpa using ho
   rw [e]
   refine (h val w' hE (fun x hx=>(hdone x hx (by simp)).2) (fun x hx y hy hne=>hap x hx (by simp) y hy (by simp) hne)).sub ?_
   intro m v hv
   rcases zcr I m v hv with⟨x,hx,e1,e2⟩ | h1
   . rw [<- e1,(hdone x hx (by simp)).1,e2,e1]
   . exact hsub m v h1
  | succ k ih =>
   intro J listed env' w' val hJ ho hE hsub hdone hap a ha
   rw [jC,Bool.and_eq_true,List.all_eq_true] at ho
   refine⟨fun h0=>(by rw [h0] at ho;simp at ho),fun j hj=>?_⟩
   have h1:=ho.2 j hj
   rw [Bool.and_eq_true] at h1
   obtain⟨x,hx,rfl⟩:∃ x ∈ J,x.i=j:=by simpa using h1.1
   have hxI:=hJ x hx
   obtain⟨q1,q2,q3,q4,q5⟩:=hI x hxI
   refine zf6 q1 q2 q3 ha ((hm x hxI w' hE).sub hsub) (fun v w2 hv=>?_)
   have k2:=hR x hxI _ _ _ hv
   refine⟨fun _ _=>hS _ (hE.ext k2),?_⟩
   have hne:∀ y ∈ I,y ∉ J->y.d ≠ x.d:=fun y hy hyJ e=>hyJ (by rw [qB hnd hy hxI e];exact hx)
   have hmem:∀ z ∈ I,z ∉ J.filter (fun y=>y.i != x.i)->z=x\/z ∉ J:=by
    intro z hz hz2
    by_cases hzJ:z ∈ J
    ·
     left
     by_cases e:z.i=x.i
     . exact qB hni hz hxI e
     . exact absurd (List.mem_filter.2 ⟨hzJ,by simpa using e⟩) hz2
    . exact .inr hzJ
   refine ih (J.filter (fun y=>y.i != x.i)) (listed.setIfInBounds x.i true) ((x.d,v)::env') w2 (fun m=>if m=x.d then v else val m) (fun z hz=>hJ z (List.mem_filter.1 hz).1) ?_ (hE.ext k2) ?_ ?_ ?_ _ (ha.put q4)
   ·
    have:=h1.2
    rw [List.filter_map] at this
    exact this
   ·
    intro m u hu
    simp only [GL.get]
    cases hb:Nat.beq x.d m with
    | true =>
     have e:=zo0 hb
     rw [<- e,q5] at hu
     cases hu
    | false=>exact hsub m u hu
   ·
    intro z hz hz2
    rcases hmem z hz hz2 with rfl | hzJ
    ·
     refine⟨by simp [GL.get,Nat.beq_refl],?_⟩
     simp only [if_true]
     exact⟨w',w2,hE,hv,Keep.refl _ _⟩
    ·
     have hzd:=hne z hz hzJ
     simp only [hzd,if_false]
     obtain⟨g1,a1,a2,g2,g3,g4⟩:=hdone z hz hzJ
     refine⟨?_,a1,a2,g2,g3,g4.ext k2⟩
     simp only [GL.get]
     cases hb:Nat.beq x.d z.d with
     | true=>exact absurd (zo0 hb).symm hzd
     | false=>exact g1
   ·
    intro z hz hz2 y hy hy2 hzy
    rcases hmem z hz hz2 with rfl | hzJ <;> rcases hmem y hy hy2 with rfl | hyJ
    . exact absurd O hzy
    ·
     have hyd:=hne y hy hyJ
     simp only [hyd,if_false,if_true]
     obtain⟨_,a1,a2,g2,g3,g4⟩:=hdone y hy hyJ
     exact .inr ⟨_,_,_,_,hv,g3,g4⟩
    ·
     have hzd:=hne z hz hzJ
     simp only [hzd,if_false,if_true]
     obtain⟨_,a1,a2,g2,g3,g4⟩:=hdone z hz hzJ
     exact .inl ⟨_,_,_,_,g3,hv,g4⟩
    ·
     simp only [hne z hz hzJ,hne y hy hyJ,if_false]
     exact hap z hz hzJ y hy hyJ hzy
 refine key I.length I listed env w (fun _=>undef) (fun x hx=>hx) hr (Keep.refl _ _) (Sub.refl _) (fun x hx h=>absurd hx h) (fun x hx h=>absurd hx h)
end
end Go.GL
namespace Go.Proofs.YtaenledoagbddaaGreatDoor
open Go.GL
theorem zcs (l:List St):∀ (v:Value) (D:Nat->Prop) (w:World) (left:Int),SlR 10 RSt D w v l -> -10<=left->left<=1000000->Calls Tryz.prog 51 #[v,.int .i64 left] w (Ret fun r w'=>(∃ m:Int,r=.int .i64 m/\((zt l:Int)<=left->m=left - zt l)/\(¬ (zt l:Int)<=left->m<0/\min left (-1)<=m))/\Ext w w'):=by
 induction l using zlH with
 | h l ih =>
 intro v D w left hl h1 h2
 have hmx:=hl.max
 obtain⟨ao,cap,rfl⟩:=hl.form
 refine zmb Tryz.func51 O Tryz.ntmps51 O (Gs 12 O (G.loop (σ:=Nat × Int) (fun⟨i,x⟩=>[(0,.slice ao l.length cap),(1,.int .i64 x),(5,.int .i64 i)]) (fun⟨i,x⟩=>fun w'=>i<=l.length/\((zt (l.take i):Int)<=left->x=left - zt (l.take i))/\(¬ (zt (l.take i):Int)<=left->x<0/\min left (-1)<=x)/\Ext w w') (fun⟨i,x⟩=>l.length - i) ((0,left)) (zlO O) (⟨zo8 _,fun _=>by simp [zt],fun h=>by simp [zt] at h;omega,Keep.refl _ _⟩) ?_))
 rintro⟨i,x⟩ w1 ⟨hi,hy,hn,hL1⟩
 show G _ _ _ _ _ [(0,.slice ao l.length cap),(1,.int .i64 x),(5,.int .i64 i)] _
 replace hl:=Tr1 hL1 hl
 have hend:(i=l.length\/x<0)->((zt l:Int)<=left->x=left - zt l)/\(¬ (zt l:Int)<=left->x<0/\min left (-1)<=x):=by
  intro h
  have hle:zt (l.take i)<=zt l:=by
   have:=xF (l.take i) (l.drop i)
   rw [List.take_append_drop] at this
   omega
  rcases h with h | h
  ·
   rw [h,znY] at hy hn
   exact⟨hy,hn⟩
  ·
   constructor
   . intro h3;have:=hy (by omega);omega
   ·
    intro h3
    by_cases h4:(zt (l.take i):Int)<=left
    . have:=hy h4;omega
    . exact hn h4
 refine Gs 8 O (G.sp 10 O (fun hlt=>?_) (fun hlt=>?_))
 ·
  refine Gs 5 O (zk6 O (fun hx0=>?_) (fun hx0=>?_))
  ·
   obtain⟨s,he_s,hm_s⟩:=gE_ l (i) (by omega)
   obtain⟨b_s,o_s,c_s,ha_s,_,hc_s,hR_s⟩:=hl.at he_s
   have h1_s:=RSt.one hR_s
   obtain⟨v1_s,v2_s,v3_s,v4_s,rfl,hk_s,ht_s,hs_s,hb_s⟩:=hR_s.get
   obtain⟨a1_s,n1_s,rfl⟩:=hk_s.form
   obtain⟨a2_s,n2_s,rfl⟩:=ht_s.form
   obtain⟨a3_s,n3_s,rfl⟩:=hs_s.form
   obtain⟨a4_s,n4_s,rfl⟩:=hb_s.form
   have hlt_s:b_s<_:=znV _ _ (hc_s 0 _ rfl)
   have hsp:=zen he_s
   have hss:=zd4 he_s
   have hbe:=s.bulk_eq
   have hyes:(zt (l.take i):Int)<=left/\x=left - zt (l.take i):=by
    by_cases h4:(zt (l.take i):Int)<=left
    . exact⟨h4,hy h4⟩
    . have:=hn h4;omega
   have hbm:=hb_s.max
   refine Gs 8 O (zm1 O O (zkP tR24 ts92 O O ha_s (by omega)) (Gs 1 O (zm7 O tg86 ts86 (hc_s.sub 4 3) O (Ga 2 O (by omega) (G.call O Tryz.call52 (zap s.term _ D _ (x - 1) (RTm.put hk_s) (by omega) (by omega)) ?_)))))
   rintro _ wz1 ⟨⟨m1,rfl,hm1,hm2⟩,hz1⟩
   obtain⟨hl,hL1,hc_s,hk_s,ht_s,hs_s,hb_s⟩:=Tr7 hz1 hl hL1 hc_s hk_s ht_s hs_s hb_s
   refine Gs 9 O (zm1 O O (zkP tR24 ts92 O O ha_s (by omega)) (Gs 1 O (zm5 O tg27 (hc_s 9 _ O) (Gs 4 O (zk6 O (fun hb=>?_) (fun hb=>?_))))))
   ·
    refine Gs 12 O (zkq Tryz.results51 O ⟨_,rfl,⟨-1,rfl,fun h3=>?_,fun h3=>by omega⟩,hL1⟩)
    by_cases h5:(s.term.nodes:Int)<=x - 1
    . have:=hm1 h5;omega
    . omega
   ·
    have h5:(s.term.nodes:Int)<=x - 1:=by
     by_cases h5:(s.term.nodes:Int)<=x - 1
     . exact h5
     . have:=hm2 h5;omega
    have hm:=hm1 h5
    refine Gs 2 O (Dw (fun q=>Ext wz1 q) [] (fun wd2 hD _=>?_))
    refine Ds [0,1] (by kernel_rfl) O (zld 2 O (by kernel_rfl) O O O (fun w1=>zkP tR24 ts92 O O ha_s (by omega)) (Ds [3] (by kernel_rfl) O (WD.take 4 O (by kernel_rfl) O O O hD (fun w1 hw1=>R.load tg24 O (hw1.cells hc_s (fun h=>h) 8 _ O)) (Ds [5,6] (by kernel_rfl) O (zld 7 O (by kernel_rfl) O O O (fun w1=>zkP tR24 ts92 O O ha_s (by omega)) (Ds [8] (by kernel_rfl) O (WD.take 9 O (by kernel_rfl) O O O hD (fun w1 hw1=>R.load tg24 O (hw1.cells hc_s (fun h=>h) 7 _ O)) ?_)))))))
    refine Ds [10,11,12] (by kernel_rfl) O (zld 13 O (by kernel_rfl) O O O (fun w1=>zkP tR24 ts92 O O ha_s (by omega)) (Ds [14] (by kernel_rfl) O (WD.take 15 O (by kernel_rfl) O O O hD (fun w1 hw1=>R.load tg27 O (hw1.cells hc_s (fun h=>h) 9 _ O)) (Da [16,17] (by kernel_rfl) O (by omega) (WD.call 18 O (by kernel_rfl) O O O (F.call (vs:=[_,_]) Tryz.call51 O) ((ih s hm_s).1 _ D _ (m1 - s.bounds.length) (ht_s.ext zf hD) (by omega) (by omega)) ?_)))))
    rintro _ wz3 ⟨⟨m2,rfl,h6,h7⟩,hz3⟩
    replace hD:=hD.ext hz3
    refine⟨fun _=>hD,?_⟩
    refine WD.call 19 O (by kernel_rfl) O O O (F.call (vs:=[_,_]) Tryz.call51 O) ((ih s hm_s).2 _ D _ m2 (hs_s.ext zf hD) (by by_cases h:(zt s.thn:Int)<=m1 - s.bounds.length <;> first | (have:=h6 h;omega) | (have:=h7 h;omega)) (by by_cases h:(zt s.thn:Int)<=m1 - s.bounds.length <;> first | (have:=h6 h;omega) | (have:=h7 h;omega))) ?_
    rintro _ wz4 ⟨⟨m3,rfl,h8,h9⟩,hz4⟩
    replace hD:=hD.ext hz4
    refine⟨fun _=>hD,?_⟩
    refine Ds [20] (by kernel_rfl) O (zla (by kernel_rfl) ?_ _)
    obtain⟨hl,hL1,hc_s,hk_s,ht_s,hs_s,hb_s⟩:=Tr7 hD hl hL1 hc_s hk_s ht_s hs_s hb_s
    refine Ga 7 O (by omega) (zkh ((i+1,m3)) (zlO O) (⟨by omega,?_,?_,hL1⟩) (by first | omega | (dsimp only;omega)))
    ·
     intro h3
     rw [hsp] at h3 ⊢
     have:=h6 (by omega)
     rw [h8 (by omega)];omega
    ·
     intro h3
     rw [hsp] at h3
     by_cases h:(zt s.thn:Int)<=m1 - s.bounds.length
     ·
      have:=h6 h
      by_cases h':(zt s.els:Int)<=m2
      . have:=h8 h';omega
      . have:=h9 h';omega
     ·
      have:=h7 h
      by_cases h':(zt s.els:Int)<=m2
      . omega
      . have:=h9 h';omega
  . refine Gs 12 O (zkq Tryz.results51 O ⟨_,rfl,⟨x,rfl,hend (.inr (by omega))⟩,hL1⟩)
 . refine Gs 18 O (zkq Tryz.results51 O ⟨_,rfl,⟨x,rfl,hend (.inl (by omega))⟩,hL1⟩)
theorem zdM (f:Fl) (a b:Int) (v1 v2 v3:Value) (D:Nat->Prop) (w:World) (h:RFl D w f v1 v2 v3) (hb:0<=b/\b<=1000000) (ha:a<=1000):Calls Tryz.prog 13 #[.agg #[v1,v2,v3],.int .i64 a,.int .i64 b] w (Ret fun r w'=>r=.bool (decide ((f.vars.length:Int)<=a/\(f.hatches.length:Int)<=a/\((zt f.body+zC f.hatches:Nat):Int)<=b))/\Ext w w'):=by
 obtain⟨hv,hh,hbd⟩:=h
 obtain⟨a1,n1,rfl⟩:=hv.form
 obtain⟨a2,n2,rfl⟩:=hh.form
 obtain⟨a3,n3,rfl⟩:=hbd.form
 have hmx:=hh.max
 have hE:=Keep.refl (fun _=>False) w
 refine zmc Tryz.func13 O Tryz.ntmps13 O (Gs 2 O (G.mem O O (M.box O O) ?_))
 rintro _ w_g ⟨g,rfl,hg_g,hs_g,hB_g,hk_g⟩
 have hge_g:_<=g:=znZ hE.size (Nat.le_of_eq hg_g.symm)
 obtain⟨hE,hh,hbd⟩:=Tr3 hk_g hE hh hbd
 refine Gs 7 O (zm5 O tg22 (hB_g.cells 0 _ O) (Gs 4 O (G.sp 15 O (fun h1=>?_) (fun h1=>?_))))
 . refine Gs 16 O (zkq Tryz.results13 O ⟨_,rfl,by rw [zo6 (by omega)],hE⟩)
 ·
  refine Gs 1 O (zm5 O tg23 (hB_g.cells 1 _ O) (Gs 6 O (zk6 O (fun h2=>?_) (fun h2=>?_))))
  . refine Gs 7 O (zkq Tryz.results13 O ⟨_,rfl,by rw [zo6 (by omega)],hE⟩)
  ·
   refine Gs 5 O (zm5 O tg24 (hB_g.cells 2 _ O) (Gs 1 O (G.call O Tryz.call51 (zcs f.body _ D _ b hbd (by omega) (by omega)) ?_)))
   rintro _ wz1 ⟨⟨m,rfl,hm1,hm2⟩,hz1⟩
   obtain⟨hE,hh,hbd,hB_g⟩:=Tr4 hz1 hE hh hbd hB_g
   refine Gs 7 O (zm5 O tg23 (hB_g.cells 1 _ O) (Gs 5 O (G.loop (σ:=Nat × Int) (fun⟨i,x⟩=>[(7,.int .i64 x),(27,.slice a2 f.hatches.length n2),(28,.int .i64 f.hatches.length),(29,.int .i64 i)]) (fun⟨i,x⟩=>fun w'=>i<=f.hatches.length/\(((zt f.body+zC (f.hatches.take i):Nat):Int)<=b->x=b - (zt f.body+zC (f.hatches.take i):Nat))/\(¬ ((zt f.body+zC (f.hatches.take i):Nat):Int)<=b->x<0 /\ -1 - (i:Int)<=x)/\Ext wz1 w') (fun⟨i,x⟩=>f.hatches.length - i) ((0,m)) (zlO O) (⟨zo8 _,fun h=>by simp [zC] at h ⊢;omega,fun h=>by simp [zC] at h ⊢;omega,Keep.refl _ _⟩) ?_)))
   rintro⟨i,x⟩ w1 ⟨hi,hy,hn,hL1⟩
   show G _ _ _ _ _ [(7,.int .i64 x),(27,.slice a2 f.hatches.length n2),(28,.int .i64 f.hatches.length),(29,.int .i64 i)] _
   obtain⟨hE,hh,hbd,hB_g⟩:=Tr4 hL1 hE hh hbd hB_g
   refine Gs 6 O (zk6 O (fun hlt=>?_) (fun hlt=>?_))
   ·
    obtain⟨e,he_e,hm_e⟩:=gE_ f.hatches (i) (by omega)
    obtain⟨b_e,o_e,c_e,ha_e,_,hc_e,hR_e⟩:=hh.at he_e
    have h1_e:=RHt.one hR_e
    obtain⟨v1_e,rfl,hk_e⟩:=hR_e
    obtain⟨a1_e,n1_e,rfl⟩:=hk_e.form
    have hlt_e:b_e<_:=znV _ _ (hc_e 0 _ rfl)
    have hsp:=jd he_e
    refine Gs 6 O (zm1 O O (zkP tR23 ts95 O O ha_e (by omega)) (zm7 O tg95 ts95 hc_e O (G.mem O O (M.alloc (cs:=_) tz95 O) ?_)))
    rintro _ wa2 ⟨c,rfl,hg_c,hs_c,hB_c,hk_c⟩
    refine zkY O (zkZ ts95 O O O O h1_e hB_c (by simp)) ?_
    rintro w_c ⟨_,hB_c,hkk_c⟩
    replace hk_c:=hk_c.trans hkk_c (fun q hq h=>by have h:q=c:=h;omega)
    have hn_g_c:g ≠ c:=by have:=hB_g.lt;omega
    have hge_c:_<=c:=znZ hE.size (Nat.le_of_eq hg_c.symm)
    obtain⟨hE,hh,hbd,hB_g,hL1,hc_e,hk_e⟩:=Tr7 hk_c hE hh hbd hB_g hL1 hc_e hk_e
    refine Gs 4 O (zm7 O tg86 ts86 (hB_c.cells.sub 3 3) O (Gs 1 O (G.call O Tryz.call52 (zap e.term _ D _ x (RTm.put hk_e) (by by_cases h4:((zt f.body+zC (f.hatches.take i):Nat):Int)<=b <;> first | (have:=hy h4;omega) | (have:=hn h4;omega)) (by by_cases h4:((zt f.body+zC (f.hatches.take i):Nat):Int)<=b <;> first | (have:=hy h4;omega) | (have:=hn h4;omega))) ?_)))
    rintro _ wz3 ⟨⟨m2,rfl,h6,h7⟩,hz3⟩
    obtain⟨hE,hh,hbd,hB_g,hL1,hc_e,hk_e⟩:=Tr7 hz3 hE hh hbd hB_g hL1 hc_e hk_e
    replace hB_c:=Tr1 hz3 hB_c
    refine Ga 8 O (by omega) (zkh ((i+1,m2)) (zlO O) (⟨by omega,?_,?_,hL1⟩) (by first | omega | (dsimp only;omega)))
    ·
     intro h3
     rw [hsp] at h3 ⊢
     have:=hy (by omega)
     rw [h6 (by omega)];omega
    ·
     intro h3
     rw [hsp] at h3
     by_cases h4:((zt f.body+zC (f.hatches.take i):Nat):Int)<=b
     ·
      have:=hy h4
      have:=h7 (by omega)
      omega
     ·
      have:=hn h4
      have:=h7 (by omega)
      omega
   ·
    have:i=f.hatches.length:=by omega
    subst this
    rw [znY] at hy hn
    refine Gs 13 O (zkq Tryz.results13 O ⟨_,rfl,?_,hE⟩)
    congr 1
    by_cases h4:((zt f.body+zC f.hatches:Nat):Int)<=b
    . rw [zo5 (by have:=hy h4;omega),zo5 (by omega)]
    . rw [zo6 (by have:=hn h4;omega),zo6 (by omega)]
def zn (op:Int):Int:=if op=0\/op=24 then 0 else if op=6\/op=7 then 1 else if 8<=op/\op<=22 then 2 else if op=23 then 3 else if op=25 then -2 else -1
theorem zeq (op:Int) (w:World):Calls Tryz.prog 139 #[.int .i64 op] w (Ret fun r w'=>r=.int .i64 (zn op)/\Ext w w'):=by
 refine zma Tryz.func139 O Tryz.ntmps139 O (Gs 19 O (zk6 O (fun k0=>?_) (fun k0=>?_)))
 . refine Gs 11 O (zkq tr139 O ⟨_,rfl,by unfold zn;repeat (first | rw [zo4 (by omega)] | rw [zo3 (by omega)]),Keep.refl _ _⟩)
 ·
  refine Gs 5 O (zk6 O (fun k24=>?_) (fun k24=>?_))
  . refine Gs 8 O (zkq tr139 O ⟨_,rfl,by unfold zn;repeat (first | rw [zo4 (by omega)] | rw [zo3 (by omega)]),Keep.refl _ _⟩)
  ·
   refine Gs 7 O (zk6 O (fun k6=>?_) (fun k6=>?_))
   . refine Gs 11 O (zkq tr139 O ⟨_,rfl,by unfold zn;repeat (first | rw [zo4 (by omega)] | rw [zo3 (by omega)]),Keep.refl _ _⟩)
   ·
    refine Gs 5 O (zk6 O (fun k7=>?_) (fun k7=>?_))
    . refine Gs 8 O (zkq tr139 O ⟨_,rfl,by unfold zn;repeat (first | rw [zo4 (by omega)] | rw [zo3 (by omega)]),Keep.refl _ _⟩)
    ·
     refine Gs 7 O (zk6 O (fun k8=>?_) (fun k8=>?_))
     . refine Gs 11 O (zkq tr139 O ⟨_,rfl,by unfold zn;repeat (first | rw [zo4 (by omega)] | rw [zo3 (by omega)]),Keep.refl _ _⟩)
     ·
      refine Gs 6 O (zk6 O (fun k9=>?_) (fun k9=>?_))
      . refine Gs 11 O (zkq tr139 O ⟨_,rfl,by unfold zn;repeat (first | rw [zo4 (by omega)] | rw [zo3 (by omega)]),Keep.refl _ _⟩)
      ·
       refine Gs 6 O (zk6 O (fun k10=>?_) (fun k10=>?_))
       . refine Gs 11 O (zkq tr139 O ⟨_,rfl,by unfold zn;repeat (first | rw [zo4 (by omega)] | rw [zo3 (by omega)]),Keep.refl _ _⟩)
       ·
        refine Gs 6 O (zk6 O (fun k11=>?_) (fun k11=>?_))
        . refine Gs 11 O (zkq tr139 O ⟨_,rfl,by unfold zn;repeat (first | rw [zo4 (by omega)] | rw [zo3 (by omega)]),Keep.refl _ _⟩)
        ·
         refine Gs 6 O (zk6 O (fun k12=>?_) (fun k12=>?_))
         . refine Gs 11 O (zkq tr139 O ⟨_,rfl,by unfold zn;repeat (first | rw [zo4 (by omega)] | rw [zo3 (by omega)]),Keep.refl _ _⟩)
         ·
          refine Gs 6 O (zk6 O (fun k13=>?_) (fun k13=>?_))
          . refine Gs 11 O (zkq tr139 O ⟨_,rfl,by unfold zn;repeat (first | rw [zo4 (by omega)] | rw [zo3 (by omega)]),Keep.refl _ _⟩)
          ·
           refine Gs 6 O (zk6 O (fun k14=>?_) (fun k14=>?_))
           . refine Gs 11 O (zkq tr139 O ⟨_,rfl,by unfold zn;repeat (first | rw [zo4 (by omega)] | rw [zo3 (by omega)]),Keep.refl _ _⟩)
           ·
            refine Gs 6 O (zk6 O (fun k15=>?_) (fun k15=>?_))
            . refine Gs 11 O (zkq tr139 O ⟨_,rfl,by unfold zn;repeat (first | rw [zo4 (by omega)] | rw [zo3 (by omega)]),Keep.refl _ _⟩)
            ·
             refine Gs 6 O (zk6 O (fun k16=>?_) (fun k16=>?_))
             . refine Gs 11 O (zkq tr139 O ⟨_,rfl,by unfold zn;repeat (first | rw [zo4 (by omega)] | rw [zo3 (by omega)]),Keep.refl _ _⟩)
             ·
              refine Gs 6 O (zk6 O (fun k17=>?_) (fun k17=>?_))
              . refine Gs 11 O (zkq tr139 O ⟨_,rfl,by unfold zn;repeat (first | rw [zo4 (by omega)] | rw [zo3 (by omega)]),Keep.refl _ _⟩)
              ·
               refine Gs 6 O (zk6 O (fun k18=>?_) (fun k18=>?_))
               . refine Gs 11 O (zkq tr139 O ⟨_,rfl,by unfold zn;repeat (first | rw [zo4 (by omega)] | rw [zo3 (by omega)]),Keep.refl _ _⟩)
               ·
                refine Gs 6 O (zk6 O (fun k19=>?_) (fun k19=>?_))
                . refine Gs 11 O (zkq tr139 O ⟨_,rfl,by unfold zn;repeat (first | rw [zo4 (by omega)] | rw [zo3 (by omega)]),Keep.refl _ _⟩)
                ·
                 refine Gs 6 O (zk6 O (fun k20=>?_) (fun k20=>?_))
                 . refine Gs 11 O (zkq tr139 O ⟨_,rfl,by unfold zn;repeat (first | rw [zo4 (by omega)] | rw [zo3 (by omega)]),Keep.refl _ _⟩)
                 ·
                  refine Gs 6 O (zk6 O (fun k21=>?_) (fun k21=>?_))
                  . refine Gs 11 O (zkq tr139 O ⟨_,rfl,by unfold zn;repeat (first | rw [zo4 (by omega)] | rw [zo3 (by omega)]),Keep.refl _ _⟩)
                  ·
                   refine Gs 5 O (zk6 O (fun k22=>?_) (fun k22=>?_))
                   . refine Gs 8 O (zkq tr139 O ⟨_,rfl,by unfold zn;repeat (first | rw [zo4 (by omega)] | rw [zo3 (by omega)]),Keep.refl _ _⟩)
                   ·
                    refine Gs 6 O (zk6 O (fun k23=>?_) (fun k23=>?_))
                    . refine Gs 8 O (zkq tr139 O ⟨_,rfl,by unfold zn;repeat (first | rw [zo4 (by omega)] | rw [zo3 (by omega)]),Keep.refl _ _⟩)
                    ·
                     refine Gs 6 O (zk6 O (fun k25=>?_) (fun k25=>?_))
                     . refine Gs 8 O (zkq tr139 O ⟨_,rfl,by unfold zn;repeat (first | rw [zo4 (by omega)] | rw [zo3 (by omega)]),Keep.refl _ _⟩)
                     . refine Gs 9 O (zkq tr139 O ⟨_,rfl,by unfold zn;repeat (first | rw [zo4 (by omega)] | rw [zo3 (by omega)]),Keep.refl _ _⟩)
theorem zd8 (op:Int) (w:World):Calls Tryz.prog 221 #[.int .i64 op] w (Ret fun r w'=>(∃ a b:Int,r=.tuple #[.int .i64 a,.int .i64 b]/\(a<0 ↔ zn op=-1)/\(0<=zn op->a=zn op/\b=zn op)/\(zn op=-2->a=2/\b=33))/\Ext w w'):=by
 refine zma Tryz.func221 O Tryz.ntmps221 O (Gs 13 O (G.sp 7 O (fun h1=>?_) (fun h1=>?_)))
 ·
  refine Gs 16 O ?_
  have e:zn op=0:=by unfold zn;rw [zo4 (by omega)]
  refine zkt tr221 O O ⟨_,rfl,⟨0,0,rfl,by rw [e];omega,fun _=>by rw [e];exact⟨rfl,rfl⟩,fun h=>by rw [e] at h;omega⟩,Keep.refl _ _⟩
 ·
  refine Gs 6 O (zk6 O (fun h2=>?_) (fun h2=>?_))
  ·
   refine Gs 9 O ?_
   have e:zn op=0:=by unfold zn;rw [zo4 (by omega)]
   refine zkt tr221 O O ⟨_,rfl,⟨0,0,rfl,by rw [e];omega,fun _=>by rw [e];exact⟨rfl,rfl⟩,fun h=>by rw [e] at h;omega⟩,Keep.refl _ _⟩
  ·
   refine Gs 5 O (G.sp 14 O (fun h3=>?_) (fun h3=>?_))
   ·
    refine Gs 16 O ?_
    have e:zn op=1:=by unfold zn;rw [zo3 (by omega),zo4 (by omega)]
    refine zkt tr221 O O ⟨_,rfl,⟨1,1,rfl,by rw [e];omega,fun _=>by rw [e];exact⟨rfl,rfl⟩,fun h=>by rw [e] at h;omega⟩,Keep.refl _ _⟩
   ·
    refine Gs 6 O (zk6 O (fun h4=>?_) (fun h4=>?_))
    ·
     refine Gs 9 O ?_
     have e:zn op=1:=by unfold zn;rw [zo3 (by omega),zo4 (by omega)]
     refine zkt tr221 O O ⟨_,rfl,⟨1,1,rfl,by rw [e];omega,fun _=>by rw [e];exact⟨rfl,rfl⟩,fun h=>by rw [e] at h;omega⟩,Keep.refl _ _⟩
    ·
     refine Gs 1 O (zkk (σ:=Bool) (fun q=>[(0,.int .i64 op),(18,.bool q)]) (fun q=>fun w'=>(q=true ↔ 8<=op/\op<=22)/\w'=w) ?_ ?_)
     ·
      refine Gs 4 O (G.sp 21 O (fun h5=>?_) (fun h5=>?_))
      . refine Gs 5 O (zkm (decide (op<=22)) (zlO O) (⟨by simp;omega,rfl⟩))
      . refine Gs 5 O (zkm (false) (Sub.cons O (Sub.cons (by first | rfl | (show some (Value.bool false)=some (Value.bool _);simp [*])) Sub.nil)) (⟨by simp;omega,rfl⟩))
     ·
      rintro q w1 ⟨hq,hw1⟩
      subst hw1
      refine Gs 1 O (G.bool O (fun h6=>?_) (fun h6=>?_))
      ·
       have h7:=hq.1 h6
       refine Gs 9 O ?_
       have e:zn op=2:=by unfold zn;rw [zo3 (by omega),zo3 (by omega),zo4 (by omega)]
       refine zkt tr221 O O ⟨_,rfl,⟨2,2,rfl,by rw [e];omega,fun _=>by rw [e];exact⟨rfl,rfl⟩,fun h=>by rw [e] at h;omega⟩,Keep.refl _ _⟩
      ·
       have h7:¬ (8<=op/\op<=22):=fun h=>by rw [hq.2 h] at h6;cases h6
       refine Gs 7 O (zk6 O (fun h8=>?_) (fun h8=>?_))
       ·
        refine Gs 9 O ?_
        have e:zn op=3:=by unfold zn;rw [zo3 (by omega),zo3 (by omega),zo3 (by omega),zo4 (by omega)]
        refine zkt tr221 O O ⟨_,rfl,⟨3,3,rfl,by rw [e];omega,fun _=>by rw [e];exact⟨rfl,rfl⟩,fun h=>by rw [e] at h;omega⟩,Keep.refl _ _⟩
       ·
        refine Gs 7 O (zk6 O (fun h9=>?_) (fun h9=>?_))
        ·
         refine Gs 9 O ?_
         have e:zn op=-2:=by unfold zn;rw [zo3 (by omega),zo3 (by omega),zo3 (by omega),zo3 (by omega),zo4 (by omega)]
         refine zkt tr221 O O ⟨_,rfl,⟨2,33,rfl,by rw [e];omega,fun h=>by rw [e] at h;omega,fun _=>⟨rfl,rfl⟩⟩,Keep.refl _ _⟩
        ·
         refine Gs 10 O ?_
         have e:zn op=-1:=by unfold zn;rw [zo3 (by omega),zo3 (by omega),zo3 (by omega),zo3 (by omega),zo3 (by omega)]
         refine zkt tr221 O O ⟨_,rfl,⟨-1,-1,rfl,by rw [e];omega,fun h=>by rw [e] at h;omega,fun h=>by rw [e] at h;omega⟩,Keep.refl _ _⟩
@[irreducible] def xg (n:Int):Bool:=decide (97<=n/\n<=122)
@[irreducible] def yz (n:Int):Bool:=decide (48<=n/\n<=57\/n=46\/n=95)
def okB (i:Nat) (n:Int):Bool:=xg n || (decide (i ≠ 0)&&yz n)
@[irreducible] def zar (s:ByteArray):Bool:=decide (1<=s.size/\s.size<=40/\∀ (i:Nat) (h:i<s.size),okB i (s[i].toNat:Int)=true)
theorem kA (s:ByteArray) (w:World):Calls Tryz.prog 55 #[.string s] w (Ret fun r w'=>r=.bool (zar s)/\Ext w w'):=by
 refine zma Tryz.func55 O Tryz.ntmps55 O (Gs 12 O (G.sp 10 O (fun h1=>?_) (fun h1=>?_)))
 . refine Gs 14 O (zkq tr55 O ⟨_,rfl,by rw [zar,zo6 (fun h=>by omega)],Keep.refl _ _⟩)
 ·
  refine Gs 6 O (zk6 O (fun h2=>?_) (fun h2=>?_))
  . refine Gs 7 O (zkq tr55 O ⟨_,rfl,by rw [zar,zo6 (fun h=>by omega)],Keep.refl _ _⟩)
  ·
   refine Gs 9 O (G.loop (σ:=Nat) (fun i=>[(0,.string s),(3,.int .i64 i)]) (fun i=>fun w'=>i<=s.size/\(∀ (j:Nat) (h:j<s.size),j<i->okB j (s[j].toNat:Int)=true)/\w'=w) (fun i=>s.size - i) (0) (zlO O) (⟨zo8 _,fun j _ h=>absurd h (Nat.not_lt_zero _),rfl⟩) ?_)
   rintro i w1 ⟨hi,hall,hw1⟩
   subst hw1
   refine Gs 9 O (zk6 O (fun hlt=>?_) (fun hlt=>?_))
   ·
    have hlt':i<s.size:=by omega
    refine Gs 8 O (zm1 O O (zlC tu9 O O i O hlt') ?_)
    obtain⟨n,hn⟩:∃ n:Int,n=(s[i].toNat:Int):=⟨_,rfl⟩
    rw [<- hn]
    refine Gs 4 O (zkk (σ:=Bool) (fun q=>[(0,.string s),(3,.int .i64 i),(4,.int .u8 n),(5,.bool q)]) (fun q=>fun w'=>q=xg n/\w'=w1) ?_ ?_)
    ·
     refine Gs 4 O (G.sp 26 O (fun a=>?_) (fun a=>?_))
     . refine Gs 5 O (zkm (decide (n<=122)) (zlO O) (⟨by unfold xg;congr 1;simp;omega,rfl⟩))
     . refine Gs 5 O (zkm (false) (Sub.cons O (Sub.cons O (Sub.cons O (Sub.cons (by first | rfl | (show some (Value.bool false)=some (Value.bool _);simp [*])) Sub.nil)))) (⟨by unfold xg;rw [zo6 (by omega)],rfl⟩))
    rintro q w2 ⟨hq,hw2⟩
    subst hq
    refine Gs 2 O (zkk (σ:=Bool) (fun q=>[(0,.string s),(3,.int .i64 i),(5,.bool (xg n)),(6,.bool q)]) (fun q=>fun w'=>q=yz n/\w'=w2) ?_ ?_)
    ·
     refine Gs 4 O (G.sp 32 O (fun a=>?_) (fun a=>?_))
     ·
      refine Gs 4 O (G.sp 36 O (fun b=>?_) (fun b=>?_))
      . refine Gs 9 O (zkm (true) (Sub.cons O (Sub.cons O (Sub.cons O (Sub.cons (by first | rfl | (show some (Value.bool true)=some (Value.bool _);simp [*])) Sub.nil)))) (⟨by unfold yz;rw [zo5 (by omega)],rfl⟩))
      ·
       refine Gs 4 O (G.sp 40 O (fun c=>?_) (fun c=>?_))
       . refine Gs 5 O (zkm (true) (Sub.cons O (Sub.cons O (Sub.cons O (Sub.cons (by first | rfl | (show some (Value.bool true)=some (Value.bool _);simp [*])) Sub.nil)))) (⟨by unfold yz;rw [zo5 (by omega)],rfl⟩))
       . refine Gs 5 O (zkm (decide (n=95)) (zlO O) (⟨by unfold yz;congr 1;simp;omega,rfl⟩))
     ·
      refine Gs 8 O (G.sp 40 O (fun c=>?_) (fun c=>?_))
      . refine Gs 5 O (zkm (true) (Sub.cons O (Sub.cons O (Sub.cons O (Sub.cons (by first | rfl | (show some (Value.bool true)=some (Value.bool _);simp [*])) Sub.nil)))) (⟨by unfold yz;rw [zo5 (by omega)],rfl⟩))
      . refine Gs 5 O (zkm (decide (n=95)) (zlO O) (⟨by unfold yz;congr 1;simp;omega,rfl⟩))
    rintro q w3 ⟨hq,hw3⟩
    subst hq
    have hstep:okB i n=true->∀ (j:Nat) (h:j<s.size),j<i+1->okB j (s[j].toNat:Int)=true:=by
     intro h0 j h h1
     by_cases e:j=i
     . subst e;rw [<- hn];exact h0
     . exact hall j h (by omega)
    have hbad:okB i n=false->zar s=false:=by
     intro h0
     rw [zar,zo6]
     rintro⟨_,_,h3⟩
     have:=h3 i hlt'
     rw [<- hn,h0] at this
     cases this
    have hw:w3=w1:=by rw [hw3,hw2]
    refine Gs 4 O (zm1 O O (zly O (by first | exact za | rfl)) (Gs 1 O (zlZ 46 O (fun l=>?_) (fun l=>?_))))
    ·
     have l':xg n=false:=by simpa using l
     refine Gs 3 O (G.sp 49 O (fun z=>?_) (fun z=>?_))
     . refine Gs 18 O (zkq tr55 O ⟨_,rfl,by rw [hbad (by unfold okB;rw [l',zo6 (by omega)];rfl)],by rw [hw];exact Keep.refl _ _⟩)
     ·
      have z':decide (i ≠ 0)=true:=zo5 (by omega)
      refine Gs 1 O (zm1 O O (zly O (by first | exact za | rfl)) (Gs 4 O (G.bool O (fun o=>?_) (fun o=>?_))))
      ·
       have o':yz n=false:=by simpa using o
       refine Gs 11 O (zkq tr55 O ⟨_,rfl,by rw [hbad (by unfold okB;rw [l',o'];simp)],by rw [hw];exact Keep.refl _ _⟩)
      ·
       have o':yz n=true:=by simpa using o
       refine Ga 8 O (by omega) (zkh (i+1) (zlO O) (⟨by omega,hstep (by unfold okB;rw [o',z'];simp),hw⟩) (by first | omega | (dsimp only;omega)))
    ·
     have l':xg n=true:=by simpa using l
     refine Ga 18 O (by omega) (zkh (i+1) (zlO O) (⟨by omega,hstep (by unfold okB;rw [l'];rfl),hw⟩) (by first | omega | (dsimp only;omega)))
   . refine Gs 11 O (zkq tr55 O ⟨_,rfl,by rw [zar,zo5 ⟨by omega,by omega,fun j h=>hall j h (by omega)⟩],Keep.refl _ _⟩)
theorem jD (s:ByteArray) (w:World):Calls Tryz.prog 144 #[.string s] w (Ret fun r w'=>r=.bool (zar s)/\Ext w w'):=by
 refine zma Tryz.func144 O Tryz.ntmps144 O (Gs 11 O (G.sp 8 O (fun h1=>?_) (fun h1=>?_)))
 ·
  have h1':s.size=0:=by
   have:=congrArg List.length h1
   rw [ByteArray.toList_eq] at this
   simpa using this
  refine Gs 14 O (zkq tr144 O ⟨_,rfl,by rw [zar,zo6 (fun h=>by omega)],Keep.refl _ _⟩)
 ·
  have h1':s.size ≠ 0:=by
   intro h
   apply h1
   have:s.toList.length=0:=by rw [ByteArray.toList_eq];simpa using h
   rw [List.eq_nil_of_length_eq_zero this,ByteArray.toList_eq]
  refine Gs 6 O (zk6 O (fun h2=>?_) (fun h2=>?_))
  . refine Gs 7 O (zkq tr144 O ⟨_,rfl,by rw [zar,zo6 (fun h=>by omega)],Keep.refl _ _⟩)
  ·
   refine Gs 11 O (G.loop (σ:=Nat) (fun i=>[(0,.string s),(14,.int .i64 s.size),(15,.int .i64 i)]) (fun i=>fun w'=>i<=s.size/\(∀ (j:Nat) (h:j<s.size),j<i->okB j (s[j].toNat:Int)=true)/\w'=w) (fun i=>s.size - i) (0) (zlO O) (⟨zo8 _,fun j _ h=>absurd h (Nat.not_lt_zero _),rfl⟩) ?_)
   rintro i w1 ⟨hi,hall,hw1⟩
   subst hw1
   refine Gs 6 O (zk6 O (fun hlt=>?_) (fun hlt=>?_))
   ·
    have hlt':i<s.size:=by omega
    refine Gs 14 O (zm1 O O (zlC tu9 O O i O hlt') ?_)
    obtain⟨n,hn⟩:∃ n:Int,n=(s[i].toNat:Int):=⟨_,rfl⟩
    rw [<- hn]
    refine Gs 4 O (zkk (σ:=Bool) (fun q=>[(0,.string s),(14,.int .i64 s.size),(15,.int .i64 i),(3,.int .i64 i),(4,.int .u8 n),(5,.bool q)]) (fun q=>fun w'=>q=xg n/\w'=w1) ?_ ?_)
    ·
     refine Gs 4 O (G.sp 23 O (fun a=>?_) (fun a=>?_))
     . refine Gs 5 O (zkm (decide (n<=122)) (zlO O) (⟨by unfold xg;congr 1;simp;omega,rfl⟩))
     . refine Gs 5 O (zkm (false) (Sub.cons O (Sub.cons O (Sub.cons O (Sub.cons O (Sub.cons O (Sub.cons (by first | rfl | (show some (Value.bool false)=some (Value.bool _);simp [*])) Sub.nil)))))) (⟨by unfold xg;rw [zo6 (by omega)],rfl⟩))
    rintro q w3 ⟨hq,hw⟩
    subst hq
    have hstep:okB i n=true->∀ (j:Nat) (h:j<s.size),j<i+1->okB j (s[j].toNat:Int)=true:=by
     intro h0 j h h1
     by_cases e:j=i
     . subst e;rw [<- hn];exact h0
     . exact hall j h (by omega)
    have hbad:okB i n=false->zar s=false:=by
     intro h0
     rw [zar,zo6]
     rintro⟨_,_,h3⟩
     have:=h3 i hlt'
     rw [<- hn,h0] at this
     cases this
    refine Gs 4 O (zm1 O O (zly O (by first | exact za | rfl)) (Gs 1 O (zlZ 29 O (fun l=>?_) (fun l=>?_))))
    ·
     have l':xg n=false:=by simpa using l
     refine Gs 3 O (G.sp 32 O (fun z=>?_) (fun z=>?_))
     . refine Gs 30 O (zkq tr144 O ⟨_,rfl,by rw [hbad (by unfold okB;rw [l',zo6 (by omega)];rfl)],by rw [hw];exact Keep.refl _ _⟩)
     ·
      have z':decide (i ≠ 0)=true:=zo5 (by omega)
      have fin:(yz n=false->False)->okB i n=true:=fun h=>by
       unfold okB;rw [z']
       cases ho:yz n
       . exact (h ho).elim
       . simp
      have bad:yz n=false->zar s=false:=fun h=>hbad (by unfold okB;rw [l',h];simp)
      refine Gs 3 O (G.sp 35 O (fun a=>?_) (fun a=>?_))
      ·
       refine Gs 8 O (G.sp 43 O (fun b=>?_) (fun b=>?_))
       ·
        refine Gs 7 O (zk6 O (fun c=>?_) (fun c=>?_))
        ·
         have ho:yz n=false:=by unfold yz;exact zo6 (by omega)
         refine Gs 11 O (zkq tr144 O ⟨_,rfl,by rw [bad ho],by rw [hw];exact Keep.refl _ _⟩)
        . refine Ga 7 O (by omega) (zkh (i+1) (zlO O) (⟨by omega,hstep (fin (fun h=>by unfold yz at h;have:=of_decide_eq_false h;omega)),hw⟩) (by first | omega | (dsimp only;omega)))
       . refine Ga 15 O (by omega) (zkh (i+1) (zlO O) (⟨by omega,hstep (fin (fun h=>by unfold yz at h;have:=of_decide_eq_false h;omega)),hw⟩) (by first | omega | (dsimp only;omega)))
      ·
       refine Gs 4 O (G.sp 39 O (fun b0=>?_) (fun b0=>?_))
       ·
        refine Gs 4 O (G.sp 43 O (fun b=>?_) (fun b=>?_))
        ·
         refine Gs 7 O (zk6 O (fun c=>?_) (fun c=>?_))
         ·
          have ho:yz n=false:=by unfold yz;exact zo6 (by omega)
          refine Gs 11 O (zkq tr144 O ⟨_,rfl,by rw [bad ho],by rw [hw];exact Keep.refl _ _⟩)
         . refine Ga 7 O (by omega) (zkh (i+1) (zlO O) (⟨by omega,hstep (fin (fun h=>by unfold yz at h;have:=of_decide_eq_false h;omega)),hw⟩) (by first | omega | (dsimp only;omega)))
        . refine Ga 15 O (by omega) (zkh (i+1) (zlO O) (⟨by omega,hstep (fin (fun h=>by unfold yz at h;have:=of_decide_eq_false h;omega)),hw⟩) (by first | omega | (dsimp only;omega)))
       . refine Ga 19 O (by omega) (zkh (i+1) (zlO O) (⟨by omega,hstep (fin (fun h=>by unfold yz at h;have:=of_decide_eq_false h;omega)),hw⟩) (by first | omega | (dsimp only;omega)))
    ·
     have l':xg n=true:=by simpa using l
     refine Ga 29 O (by omega) (zkh (i+1) (zlO O) (⟨by omega,hstep (by unfold okB;rw [l'];rfl),hw⟩) (by first | omega | (dsimp only;omega)))
   . refine Gs 11 O (zkq tr144 O ⟨_,rfl,by rw [zar,zo5 ⟨by omega,by omega,fun j h=>hall j h (by omega)⟩],Keep.refl _ _⟩)
@[irreducible] def zb3 (low high:Int):Bool:=decide (low<=high /\ -1048576<=low/\high<=1048576)
theorem jE (a b:Int) (w:World):Calls Tryz.prog 56 #[.int .i64 a,.int .i64 b] w (Ret fun r w'=>r=.bool (zb3 a b)/\Ext w w'):=by
 refine zmb Tryz.func56 O Tryz.ntmps56 O (Gs 11 O (G.sp 8 O (fun h1=>?_) (fun h1=>?_)))
 ·
  refine Gs 4 O (G.sp 12 O (fun h2=>?_) (fun h2=>?_))
  . refine Gs 7 O (zkq Tryz.results56 O ⟨_,rfl,by unfold zb3;congr 2;simp;omega,Keep.refl _ _⟩)
  . refine Gs 7 O (zkq Tryz.results56 O ⟨_,rfl,by rw [zb3,zo6 (by omega)],Keep.refl _ _⟩)
 . refine Gs 11 O (zkq Tryz.results56 O ⟨_,rfl,by rw [zb3,zo6 (by omega)],Keep.refl _ _⟩)
theorem qY (a b:Int) (w:World):Calls Tryz.prog 146 #[.int .i64 a,.int .i64 b] w (Ret fun r w'=>r=.bool (zb3 a b)/\Ext w w'):=by
 refine zmb Tryz.func146 O Tryz.ntmps146 O (Gs 11 O (G.sp 8 O (fun h1=>?_) (fun h1=>?_)))
 ·
  refine Gs 4 O (G.sp 12 O (fun h2=>?_) (fun h2=>?_))
  . refine Gs 7 O (zkq Tryz.results146 O ⟨_,rfl,by unfold zb3;congr 2;simp;omega,Keep.refl _ _⟩)
  . refine Gs 7 O (zkq Tryz.results146 O ⟨_,rfl,by rw [zb3,zo6 (by omega)],Keep.refl _ _⟩)
 . refine Gs 11 O (zkq Tryz.results146 O ⟨_,rfl,by rw [zb3,zo6 (by omega)],Keep.refl _ _⟩)
def yy (op:Int) (n:Nat):Bool:=if 0<=zn op then decide ((n:Int)=zn op) else decide (zn op=-2/\2<=n/\n<=33)
def jV (vs:List Vr) (n:Int):Bool:=match vs[n.toNat]? with
 | some v=>decide (v.kind=0)
 | none=>false
def xP (vs:List Vr) (inputs:Bool) (op n:Int):Bool:=if op=24 then decide (0<=n/\n<vs.length)&&!(inputs&&jV vs n) else decide (op=0\/n=0)
mutual
def zw (vs:List Vr) (inputs:Bool):Tm->Bool
 | .mk op n ks=>yy op ks.length&&xP vs inputs op n&&zZ vs inputs ks
def zZ (vs:List Vr) (inputs:Bool):List Tm->Bool
 | []=>true
 | k::r=>zw vs inputs k&&zZ vs inputs r
end
section
variable {vs:List Vr} {inp:Bool}
theorem yC (t:Tm):zw vs inp t=(yy t.op t.kids.length&&xP vs inp t.op t.n&&zZ vs inp t.kids):=by cases t;rw [zw];rfl
theorem qZ (a b:List Tm):zZ vs inp (a++b)=(zZ vs inp a&&zZ vs inp b):=by
 induction a with
 | nil=>simp [zZ]
 | cons x r ih=>simp [zZ,ih,Bool.and_assoc]
theorem kB {l:List Tm} {i:Nat} {x:Tm} (h:l[i]?=some x):zZ vs inp (l.take (i+1))=(zZ vs inp (l.take i)&&zw vs inp x):=by rw [zg h,qZ];simp [zZ]
theorem yc {l:List Tm} {x:Tm} (h:zZ vs inp l=true) (hx:x ∈ l):zw vs inp x=true:=by
 obtain⟨i,hi⟩:=List.mem_iff_getElem?.1 hx
 rw [yI hi,qZ] at h
 simp [zZ] at h
 exact h.2.1
theorem zas {l:List Tm} {x:Tm} (hx:x ∈ l) (h:zw vs inp x=false):zZ vs inp l=false:=by
 cases h1:zZ vs inp l with
 | false=>rfl
 | true=>rw [yc h1 hx] at h;cases h
theorem yj {op:Int} {n:Nat} (h:zn op=-1\/(0<=zn op/\(n:Int) ≠ zn op)\/(zn op=-2/\(n<2\/33<n))):yy op n=false:=by
 unfold yy
 split
 . exact zo6 (by omega)
 . exact zo6 (by omega)
theorem xZ {op:Int} {n:Nat} (h:(0<=zn op/\(n:Int)=zn op)\/(zn op=-2/\2<=n/\n<=33)):yy op n=true:=by
 unfold yy
 split
 . exact zo5 (by omega)
 . exact zo5 (by omega)
theorem qP (op:Int):zn op=0\/zn op=1\/zn op=2\/zn op=3\/zn op=-2\/zn op=-1:=by
 unfold zn;(repeat' split);all_goals omega
theorem zbd {n:Int} (h:0<=n/\n<vs.length) {v:Vr} (hv:vs[n.toNat]?=some v):xP vs inp 24 n=!(inp&&decide (v.kind=0)):=by
 unfold xP jV
 rw [zo4 rfl,zo5 h,hv,Bool.true_and]
theorem zbe {n:Int} (h:¬ (0<=n/\n<vs.length)):xP vs inp 24 n=false:=by
 unfold xP
 rw [zo4 rfl,zo6 h];rfl
theorem je {op n:Int} (h:op ≠ 24):xP vs inp op n=decide (op=0\/n=0):=by
 unfold xP
 rw [zo3 h]
end
theorem zct (vs:List Vr) (inp:Bool) (vv:Value) (Dv:Nat->Prop) (t:Tm):∀ (cs:List Value) (D:Nat->Prop) (w:World),SlR 5 RVr Dv w vv vs->RTm D w t cs->Calls Tryz.prog 107 #[vv,.agg cs.toArray,.bool inp] w (Ret fun r w'=>r=.bool (zw vs inp t)/\Ext w w'):=by
 induction t using zlF with
 | h t ih =>
 intro cs D w hvs ht
 obtain⟨v,rfl,hk⟩:=ht.get
 have hmx:=hk.max
 obtain⟨ao,cap,rfl⟩:=hk.form
 obtain⟨av,nv,rfl⟩:=hvs.form
 have hfe:=yC (vs:=vs) (inp:=inp) t
 have hkv:=qP t.op
 have hE:=Keep.refl (fun _=>False) w
 refine zmc Tryz.func107 O Tryz.ntmps107 O (Gs 2 O (G.mem O O (M.box O O) ?_))
 rintro _ w_b ⟨b,rfl,hg_b,hs_b,hB_b,hk_b⟩
 have hge_b:_<=b:=znZ hE.size (Nat.le_of_eq hg_b.symm)
 obtain⟨hE,hvs,hk⟩:=Tr3 hk_b hE hvs hk
 refine Gs 6 O (zm5 O tg83 (hB_b.cells 0 _ O) (G.call O Tryz.call139 (zeq t.op _) ?_))
 rintro _ wz1 ⟨rfl,hz1⟩
 obtain⟨hE,hvs,hk,hB_b⟩:=Tr4 hz1 hE hvs hk hB_b
 refine Gs 5 O (zkk (σ:=Bool) (fun q=>[(0,.slice av vs.length nv),(2,.bool inp),(4,.pointer (some ⟨b,0,none⟩)),(40,.bool q)]) (fun q=>fun w'=>q=(!yy t.op t.kids.length)/\w'=wz1) ?_ ?_)
 ·
  refine Gs 4 O (G.sp 14 O (fun h1=>?_) (fun h1=>?_))
  . refine Gs 27 O (zkm (true) (Sub.cons O (Sub.cons O (Sub.cons O (Sub.cons (by first | rfl | (show some (Value.bool true)=some (Value.bool _);simp [*])) Sub.nil)))) (⟨by rw [yj (.inl h1)];rfl,rfl⟩))
  ·
   refine Gs 3 O (G.sp 17 O (fun h2=>?_) (fun h2=>?_))
   ·
    refine Gs 1 O (zm5 O tg84 (hB_b.cells 2 _ O) (Gs 6 O (G.sp 25 O (fun h3=>?_) (fun h3=>?_))))
    . refine Gs 16 O (zkm (true) (Sub.cons O (Sub.cons O (Sub.cons O (Sub.cons (by first | rfl | (show some (Value.bool true)=some (Value.bool _);simp [*])) Sub.nil)))) (⟨by rw [yj (.inr (.inl ⟨by omega,h3⟩))];rfl,rfl⟩))
    ·
     refine Gs 3 O (G.sp 28 O (fun h4=>?_) (fun h4=>?_))
     . exact absurd h4 (by omega)
     . refine Gs 13 O (zkm (false) (Sub.cons O (Sub.cons O (Sub.cons O (Sub.cons (by first | rfl | (show some (Value.bool false)=some (Value.bool _);simp [*])) Sub.nil)))) (⟨by rw [xZ (.inl ⟨by omega,by omega⟩)];rfl,rfl⟩))
   ·
    refine Gs 11 O (G.sp 28 O (fun h4=>?_) (fun h4=>?_))
    ·
     refine Gs 1 O (zm5 O tg84 (hB_b.cells 2 _ O) (Gs 3 O (G.sp 33 O (fun h5=>?_) (fun h5=>?_))))
     . refine Gs 8 O (zkm (true) (Sub.cons O (Sub.cons O (Sub.cons O (Sub.cons (by first | rfl | (show some (Value.bool true)=some (Value.bool _);simp [*])) Sub.nil)))) (⟨by rw [yj (.inr (.inr ⟨h4,by omega⟩))];rfl,rfl⟩))
     ·
      refine Gs 1 O (zm5 O tg84 (hB_b.cells 2 _ O) (Gs 6 O (zkm (decide ((33:Int)<(t.kids.length:Int))) (zlO O) (⟨?_,rfl⟩))))
      by_cases h6:(33:Int)<(t.kids.length:Int)
      . rw [yj (.inr (.inr ⟨h4,by omega⟩)),zo5 h6];rfl
      . rw [xZ (.inr ⟨h4,by omega,by omega⟩),zo6 h6];rfl
    . exact absurd h4 (by omega)
 rintro q w2 ⟨hq,hw2⟩
 subst hw2
 refine Gs 1 O (G.bool O (fun hq1=>?_) (fun hq1=>?_))
 ·
  have hf:yy t.op t.kids.length=false:=by rw [hq1] at hq;simpa using hq.symm
  refine Gs 7 O (zkq tr107 O ⟨_,rfl,by rw [hfe,hf];rfl,hE⟩)
 ·
  have hf:yy t.op t.kids.length=true:=by rw [hq1] at hq;simpa using hq.symm
  rw [hf,Bool.true_and] at hfe
  refine Gs 6 O (zm5 O tg83 (hB_b.cells 0 _ O) (Gs 3 O (zkk (σ:=Unit) (fun u=>[(0,.slice av vs.length nv),(2,.bool inp),(4,.pointer (some ⟨b,0,none⟩))]) (fun u=>fun w'=>xP vs inp t.op t.n=true/\w'=w2) ?_ ?_)))
  ·
   refine zk6 O (fun h24=>?_) (fun h24=>?_)
   ·
    have hrn:¬ (0<=t.n/\t.n<vs.length)->zw vs inp t=false:=fun h=>by rw [hfe,h24,zbe h];rfl
    refine Gs 3 O (zm5 O tg3 (hB_b.cells 1 _ O) (Gs 2 O (G.sp 47 O (fun n0=>?_) (fun n0=>?_))))
    . refine Gs 29 O (zkq tr107 O ⟨_,rfl,by rw [hrn (by omega)],hE⟩)
    ·
     refine Gs 1 O (zm5 O tg3 (hB_b.cells 1 _ O) (Gs 5 O (G.sp 54 O (fun n1=>?_) (fun n1=>?_))))
     . refine Gs 22 O (zkq tr107 O ⟨_,rfl,by rw [hrn (by omega)],hE⟩)
     ·
      obtain⟨x,he_x,hm_x⟩:=gE_ vs (t.n.toNat) (by omega)
      obtain⟨b_x,o_x,c_x,ha_x,_,hc_x,hR_x⟩:=hvs.at he_x
      have h1_x:=RVr.one hR_x
      obtain rfl:=hR_x
      have hlt_x:b_x<_:=znV _ _ (hc_x 0 _ rfl)
      have hrf:=zbd (vs:=vs) (inp:=inp) (n:=t.n) ⟨by omega,by omega⟩ he_x
      refine Gs 2 O (zlZ 56 O (fun hi=>?_) (fun hi=>?_))
      ·
       refine Gs 2 O (zm5 O tg3 (hB_b.cells 1 _ O) (zm1 O O (zkP tR22 ts89 O O ha_x (by omega)) (Gs 1 O (zm5 O tg53 (hc_x 1 _ O) (Gs 5 O (zk6 O (fun hk0=>?_) (fun hk0=>?_)))))))
       . refine Gs 8 O (zkq tr107 O ⟨_,rfl,by rw [hfe,h24,hrf,hi,zo5 hk0];rfl,hE⟩)
       . refine Gs 1 O (zkm (()) (zlO O) (⟨by rw [h24,hrf,hi,zo6 hk0];rfl,rfl⟩))
      . refine Gs 13 O (zkm (()) (zlO O) (⟨by rw [h24,hrf,hi];rfl,rfl⟩))
   ·
    have hrf:=je (vs:=vs) (inp:=inp) (n:=t.n) h24
    refine Gs 3 O (zm5 O tg83 (hB_b.cells 0 _ O) (Gs 2 O (G.sp 69 O (fun o0=>?_) (fun o0=>?_))))
    ·
     refine Gs 1 O (zm5 O tg3 (hB_b.cells 1 _ O) (Gs 4 O (zk6 O (fun n0=>?_) (fun n0=>?_))))
     . refine Gs 8 O (zkq tr107 O ⟨_,rfl,by rw [hfe,hrf,zo6 (by omega)];rfl,hE⟩)
     . refine Gs 1 O (zkm (()) (zlO O) (⟨by rw [hrf,zo5 (by omega)],rfl⟩))
    . refine Gs 8 O (zkm (()) (zlO O) (⟨by rw [hrf,zo5 (by omega)],rfl⟩))
  rintro u w3 ⟨hrf,hw3⟩
  subst hw3
  rw [hrf,Bool.true_and] at hfe
  refine Gs 8 O (G.loop (σ:=Nat) (fun i=>[(0,.slice av vs.length nv),(2,.bool inp),(4,.pointer (some ⟨b,0,none⟩)),(8,.int .i64 i)]) (fun i=>fun w'=>i<=t.kids.length/\zZ vs inp (t.kids.take i)=true/\Ext w3 w') (fun i=>t.kids.length - i) (0) (zlO O) (⟨zo8 _,by simp [zZ],Keep.refl _ _⟩) ?_)
  rintro i w4 ⟨hi,hall,hL1⟩
  obtain⟨hE,hvs,hk,hB_b⟩:=Tr4 hL1 hE hvs hk hB_b
  refine Gs 5 O (zm5 O tg84 (hB_b.cells 2 _ O) (Gs 4 O (zk6 O (fun hlt=>?_) (fun hlt=>?_))))
  ·
   obtain⟨k,he_k,hm_k⟩:=gE_ t.kids (i) (by omega)
   obtain⟨b_k,o_k,c_k,ha_k,_,hc_k,hR_k⟩:=hk.at he_k
   have h1_k:=RTm.one hR_k
   obtain⟨v1_k,rfl,hk_k⟩:=hR_k.get
   obtain⟨a1_k,n1_k,rfl⟩:=hk_k.form
   have hlt_k:b_k<_:=znV _ _ (hc_k 0 _ rfl)
   refine Gs 8 O (zm5 O tg84 (hB_b.cells 2 _ O) (Gs 1 O (zm1 O O (zkP tR84 ts86 O O ha_k (by omega)) (zm7 O tg86 ts86 hc_k O (Gs 1 O (G.call O Tryz.call107 (ih k hm_k _ D _ hvs (RTm.put hk_k)) ?_))))))
   rintro _ wz2 ⟨rfl,hz2⟩
   obtain⟨hE,hvs,hk,hB_b,hL1,hc_k,hk_k⟩:=Tr7 hz2 hE hvs hk hB_b hL1 hc_k hk_k
   refine zm1 O O (zly O (by first | exact za | rfl)) (Gs 2 O (G.bool O (fun hb=>?_) (fun hb=>?_)))
   ·
    have hb':zw vs inp k=false:=by simpa using hb
    refine Gs 11 O (zkq tr107 O ⟨_,rfl,by rw [hfe,zas hm_k hb'],hE⟩)
   ·
    have hb':zw vs inp k=true:=by simpa using hb
    refine Ga 8 O (by omega) (zkh (i+1) (zlO O) (⟨by omega,by rw [kB he_k,hall,hb'];rfl,hL1⟩) (by first | omega | (dsimp only;omega)))
  ·
   have:i=t.kids.length:=by omega
   subst this
   rw [znY] at hall
   refine Gs 11 O (zkq tr107 O ⟨_,rfl,by rw [hfe,hall],hE⟩)
theorem zbC (vs:List Vr) (inp:Bool) (vv:Value) (Dv:Nat->Prop) (t:Tm):∀ (cs:List Value) (D:Nat->Prop) (w:World),SlR 5 RVr Dv w vv vs->RTm D w t cs->Calls Tryz.prog 197 #[vv,.agg cs.toArray,.bool inp] w (Ret fun r w'=>r=.bool (zw vs inp t)/\Ext w w'):=by
 induction t using zlF with
 | h t ih =>
 intro cs D w hvs ht
 have hcs1:=ht.one
 obtain⟨v,rfl,hk⟩:=ht.get
 have hmx:=hk.max
 obtain⟨ao,cap,rfl⟩:=hk.form
 obtain⟨av,nv,rfl⟩:=hvs.form
 have hfe:=yC (vs:=vs) (inp:=inp) t
 have hkv:=qP t.op
 have hE:=Keep.refl (fun _=>False) w
 refine zmc Tryz.func197 O Tryz.ntmps197 O (Gs 2 O (G.mem O O (M.box O O) ?_))
 rintro _ w_b ⟨b,rfl,hg_b,hs_b,hB_b,hk_b⟩
 have hge_b:_<=b:=znZ hE.size (Nat.le_of_eq hg_b.symm)
 obtain⟨hE,hvs,hk⟩:=Tr3 hk_b hE hvs hk
 refine Gs 6 O (zm5 O tg83 (hB_b.cells 0 _ O) (G.call O Tryz.call221 (zd8 t.op _) ?_))
 rintro _ wz1 ⟨⟨la,mo,rfl,hk1,hk2,hk3⟩,hz1⟩
 obtain⟨hE,hvs,hk,hB_b⟩:=Tr4 hz1 hE hvs hk hB_b
 refine Gs 9 O (zkk (σ:=Bool) (fun q=>[(0,.slice av vs.length nv),(2,.bool inp),(4,.pointer (some ⟨b,0,none⟩)),(32,.bool q)]) (fun q=>fun w'=>q=(!yy t.op t.kids.length)/\w'=wz1) ?_ ?_)
 ·
  refine Gs 4 O (G.sp 19 O (fun h1=>?_) (fun h1=>?_))
  . refine Gs 14 O (zkm (true) (Sub.cons O (Sub.cons O (Sub.cons O (Sub.cons (by first | rfl | (show some (Value.bool true)=some (Value.bool _);simp [*])) Sub.nil)))) (⟨by rw [yj (.inl (hk1.1 h1))];rfl,rfl⟩))
  ·
   have h1':zn t.op ≠ -1:=fun h=>h1 (hk1.2 h)
   refine Gs 1 O (zm5 O tg84 (hB_b.cells 2 _ O) (Gs 5 O (G.sp 26 O (fun h2=>?_) (fun h2=>?_))))
   ·
    refine Gs 7 O (zkm (true) (Sub.cons O (Sub.cons O (Sub.cons O (Sub.cons (by first | rfl | (show some (Value.bool true)=some (Value.bool _);simp [*])) Sub.nil)))) (⟨?_,rfl⟩))
    rcases (show 0<=zn t.op\/zn t.op=-2 by omega) with h | h
    ·
     have:=hk2 h
     rw [yj (.inr (.inl ⟨h,by omega⟩))];rfl
    ·
     have:=hk3 h
     rw [yj (.inr (.inr ⟨h,by omega⟩))];rfl
   ·
    refine Gs 1 O (zm5 O tg84 (hB_b.cells 2 _ O) (Gs 5 O (zkm (decide (mo<(t.kids.length:Int))) (zlO O) (⟨?_,rfl⟩))))
    rcases (show 0<=zn t.op\/zn t.op=-2 by omega) with h | h
    ·
     have:=hk2 h
     by_cases h3:mo<(t.kids.length:Int)
     . rw [yj (.inr (.inl ⟨h,by omega⟩)),zo5 h3];rfl
     . rw [xZ (.inl ⟨h,by omega⟩),zo6 h3];rfl
    ·
     have:=hk3 h
     by_cases h3:mo<(t.kids.length:Int)
     . rw [yj (.inr (.inr ⟨h,by omega⟩)),zo5 h3];rfl
     . rw [xZ (.inr ⟨h,by omega,by omega⟩),zo6 h3];rfl
 rintro q w2 ⟨hq,hw2⟩
 subst hw2
 refine Gs 1 O (G.bool O (fun hq1=>?_) (fun hq1=>?_))
 ·
  have hf:yy t.op t.kids.length=false:=by rw [hq1] at hq;simpa using hq.symm
  refine Gs 7 O (zkq tr197 O ⟨_,rfl,by rw [hfe,hf];rfl,hE⟩)
 ·
  have hf:yy t.op t.kids.length=true:=by rw [hq1] at hq;simpa using hq.symm
  rw [hf,Bool.true_and] at hfe
  refine Gs 6 O (zm5 O tg83 (hB_b.cells 0 _ O) (Gs 2 O (zkk (σ:=Unit) (fun u=>[(0,.slice av vs.length nv),(2,.bool inp),(4,.pointer (some ⟨b,0,none⟩))]) (fun u=>fun w'=>xP vs inp t.op t.n=true/\w'=w2) ?_ ?_)))
  ·
   refine Gs 7 O (zk6 O (fun h0=>?_) (fun h0=>?_))
   ·
    have hrf:=je (vs:=vs) (inp:=inp) (n:=t.n) (show t.op ≠ 24 by omega)
    refine Gs 2 O (zkm (()) (zlO O) (⟨by rw [hrf,zo5 (by omega)],rfl⟩))
   ·
    refine Gs 6 O (zk6 O (fun h24=>?_) (fun h24=>?_))
    ·
     have hrn:¬ (0<=t.n/\t.n<vs.length)->zw vs inp t=false:=fun h=>by rw [hfe,h24,zbe h];rfl
     refine Gs 3 O (zm5 O tg3 (hB_b.cells 1 _ O) (Gs 2 O (G.sp 45 O (fun n0=>?_) (fun n0=>?_))))
     . refine Gs 30 O (zkq tr197 O ⟨_,rfl,by rw [hrn (by omega)],hE⟩)
     ·
      refine Gs 1 O (zm5 O tg3 (hB_b.cells 1 _ O) (Gs 5 O (G.sp 52 O (fun n1=>?_) (fun n1=>?_))))
      . refine Gs 23 O (zkq tr197 O ⟨_,rfl,by rw [hrn (by omega)],hE⟩)
      ·
       obtain⟨x,he_x,hm_x⟩:=gE_ vs (t.n.toNat) (by omega)
       obtain⟨b_x,o_x,c_x,ha_x,_,hc_x,hR_x⟩:=hvs.at he_x
       have h1_x:=RVr.one hR_x
       obtain rfl:=hR_x
       have hlt_x:b_x<_:=znV _ _ (hc_x 0 _ rfl)
       have hrf:=zbd (vs:=vs) (inp:=inp) (n:=t.n) ⟨by omega,by omega⟩ he_x
       refine Gs 2 O (zlZ 54 O (fun hi=>?_) (fun hi=>?_))
       ·
        refine Gs 2 O (zm5 O tg3 (hB_b.cells 1 _ O) (zm1 O O (zkP tR22 ts89 O O ha_x (by omega)) (Gs 1 O (zm5 O tg53 (hc_x 1 _ O) (Gs 5 O (zk6 O (fun hk0=>?_) (fun hk0=>?_)))))))
        . refine Gs 9 O (zkq tr197 O ⟨_,rfl,by rw [hfe,h24,hrf,hi,zo5 hk0];rfl,hE⟩)
        . refine Gs 2 O (zkm (()) (zlO O) (⟨by rw [h24,hrf,hi,zo6 hk0];rfl,rfl⟩))
       . refine Gs 14 O (zkm (()) (zlO O) (⟨by rw [h24,hrf,hi];rfl,rfl⟩))
    ·
     have hrf:=je (vs:=vs) (inp:=inp) (n:=t.n) h24
     refine Gs 3 O (zm5 O tg3 (hB_b.cells 1 _ O) (Gs 3 O (zk6 O (fun n0=>?_) (fun n0=>?_))))
     . refine Gs 9 O (zkq tr197 O ⟨_,rfl,by rw [hfe,hrf,zo6 (by omega)];rfl,hE⟩)
     . refine Gs 2 O (zkm (()) (zlO O) (⟨by rw [hrf,zo5 (by omega)],rfl⟩))
  rintro u w3 ⟨hrf,hw3⟩
  subst hw3
  rw [hrf,Bool.true_and] at hfe
  refine Gs 5 O (zm5 O tg84 (hB_b.cells 2 _ O) (Gs 5 O (G.loop (σ:=Nat) (fun i=>[(0,.slice av vs.length nv),(2,.bool inp),(65,.slice ao t.kids.length cap),(66,.int .i64 t.kids.length),(67,.int .i64 i)]) (fun i=>fun w'=>i<=t.kids.length/\zZ vs inp (t.kids.take i)=true/\Ext w3 w') (fun i=>t.kids.length - i) (0) (zlO O) (⟨zo8 _,by simp [zZ],Keep.refl _ _⟩) ?_)))
  rintro i w4 ⟨hi,hall,hL1⟩
  obtain⟨hE,hvs,hk,hB_b⟩:=Tr4 hL1 hE hvs hk hB_b
  refine Gs 6 O (zk6 O (fun hlt=>?_) (fun hlt=>?_))
  ·
   obtain⟨k,he_k,hm_k⟩:=gE_ t.kids (i) (by omega)
   obtain⟨b_k,o_k,c_k,ha_k,_,hc_k,hR_k⟩:=hk.at he_k
   have h1_k:=RTm.one hR_k
   obtain⟨v1_k,rfl,hk_k⟩:=hR_k.get
   obtain⟨a1_k,n1_k,rfl⟩:=hk_k.form
   have hlt_k:b_k<_:=znV _ _ (hc_k 0 _ rfl)
   refine Gs 6 O (zm1 O O (zkP tR84 ts86 O O ha_k (by omega)) (zm7 O tg86 ts86 hc_k O (G.mem O O (M.alloc (cs:=_) tz86 O) ?_)))
   rintro _ wa2 ⟨c,rfl,hg_c,hs_c,hB_c,hk_c⟩
   refine zkY O (zkZ ts86 O O O O h1_k hB_c (by simp)) ?_
   rintro w_c ⟨_,hB_c,hkk_c⟩
   replace hk_c:=hk_c.trans hkk_c (fun q hq h=>by have h:q=c:=h;omega)
   have hn_b_c:b ≠ c:=by have:=hB_b.lt;omega
   have hge_c:_<=c:=znZ hE.size (Nat.le_of_eq hg_c.symm)
   obtain⟨hE,hvs,hk,hB_b,hL1,hc_k,hk_k⟩:=Tr7 hk_c hE hvs hk hB_b hL1 hc_k hk_k
   refine Gs 5 O (zm7 O tg86 ts86 hB_c.cells O (Gs 1 O (G.call O Tryz.call197 (ih k hm_k _ D _ hvs (RTm.put hk_k)) ?_)))
   rintro _ wz3 ⟨rfl,hz3⟩
   obtain⟨hE,hvs,hk,hB_b,hL1,hc_k,hk_k⟩:=Tr7 hz3 hE hvs hk hB_b hL1 hc_k hk_k
   replace hB_c:=Tr1 hz3 hB_c
   refine zm1 O O (zly O (by first | exact za | rfl)) (Gs 2 O (G.bool O (fun hb=>?_) (fun hb=>?_)))
   ·
    have hb':zw vs inp k=false:=by simpa using hb
    refine Gs 11 O (zkq tr197 O ⟨_,rfl,by rw [hfe,zas hm_k hb'],hE⟩)
   ·
    have hb':zw vs inp k=true:=by simpa using hb
    refine Ga 7 O (by omega) (zkh (i+1) (zlO O) (⟨by omega,by rw [kB he_k,hall,hb'];rfl,hL1⟩) (by first | omega | (dsimp only;omega)))
  ·
   have:i=t.kids.length:=by omega
   subst this
   rw [znY] at hall
   refine Gs 11 O (zkq tr197 O ⟨_,rfl,by rw [hfe,hall],hE⟩)
open Go.GL
abbrev Rg:=Int × Int
def okR (r:Rg):Bool:=decide (-1048576<=r.1/\r.2<=1048576)
def yp (r:Rg):Prop := -1048576<=r.1/\r.1<=r.2/\r.2<=1048576
def yE (x:Rg) (l:List Rg):Rg:=l.foldl (fun o r=>(min o.1 r.1,max o.2 r.2)) x
def xn (a b:Rg):Rg:=yE (a.1*b.1,a.1*b.1) [(a.1*b.2,a.1*b.2),(a.2*b.1,a.2*b.1),(a.2*b.2,a.2*b.2)]
theorem jW {x:Rg} {l:List Rg} {i:Nat} {r:Rg} (h:l[i]?=some r):yE x (l.take (i+1))=(min (yE x (l.take i)).1 r.1,max (yE x (l.take i)).2 r.2):=by
 rw [zg h];simp [yE]
theorem zat {x y:Int} (hx:-1048576<=x/\x<=1048576) (hy:-1048576<=y/\y<=1048576):-1099511627776<=x*y/\x*y<=1099511627776:=by
 have h1:=Int.natAbs_mul x y
 have h2:x.natAbs*y.natAbs<=1048576*1048576:=Nat.mul_le_mul (by omega) (by omega)
 omega
theorem zf7 (a b:Rg) (w:World):Calls Tryz.prog 236 #[.agg #[.int .i64 a.1,.int .i64 a.2],.agg #[.int .i64 b.1,.int .i64 b.2]] w (Ret fun r w'=>r=.agg #[.int .i64 (min a.1 b.1),.int .i64 (max a.2 b.2)]/\Ext w w'):=by
 have hE:=Keep.refl (fun _=>False) w
 refine zmb Tryz.func236 O Tryz.ntmps236 O (Gs 2 O (G.mem O O (M.box O O) ?_))
 rintro _ w_x ⟨x,rfl,hg_x,hs_x,hB_x,hk_x⟩
 have hge_x:_<=x:=znZ hE.size (Nat.le_of_eq hg_x.symm)
 replace hE:=Tr1 hk_x hE
 refine G.mem O O (M.box O O) ?_
 rintro _ w_y ⟨y,rfl,hg_y,hs_y,hB_y,hk_y⟩
 have hn_x_y:x ≠ y:=by have:=hB_x.lt;omega
 have hge_y:_<=y:=znZ hE.size (Nat.le_of_eq hg_y.symm)
 obtain⟨hE,hB_x⟩:=Tr2 hk_y hE hB_x
 refine G.mem O O (M.alloc (cs:=_) tz226 O) ?_
 rintro _ w_r ⟨r,rfl,hg_r,hs_r,hB_r,hk_r⟩
 have hn_x_r:x ≠ r:=by have:=hB_x.lt;omega
 have hn_y_r:y ≠ r:=by have:=hB_y.lt;omega
 have hge_r:_<=r:=znZ hE.size (Nat.le_of_eq hg_r.symm)
 obtain⟨hE,hB_x,hB_y⟩:=Tr3 hk_r hE hB_x hB_y
 refine Gs 5 O (zm5 O tg3 (hB_x.cells 0 _ O) (Gs 1 O (zm5 O tg3 (hB_y.cells 0 _ O) (Gs 2 O (zm5 O tg3 (hB_x.cells 1 _ O) (Gs 1 O (zm5 O tg3 (hB_y.cells 1 _ O) (Gs 1 O (zm1 O O (R.build (v:=.agg #[.int .i64 (min a.1 b.1),.int .i64 (max a.2 b.2)]) [(0,_),(1,_)] O (fun _=>by kernel_rfl)) (zkY O (zkZ ts226 O O O O (by simp [Value.oneCell']) hB_r (by simp)) ?_))))))))))
 rintro wf ⟨_,hBf,hkf⟩
 refine Gs 3 O (zky Tryz.results236 O (zo tg226 ts226 O hBf.cells) ?_)
 exact⟨_,rfl,rfl,hE.trans hkf (fun q hq h=>by have h:q=r:=h;omega)⟩
theorem zbD (a b:Int) (w:World) (ha:-1048576<=a/\a<=1048576) (hb:-1048576<=b/\b<=1048576):Calls Tryz.prog 235 #[.int .i64 a,.int .i64 b] w (Ret fun r w'=>r=.int .i64 (a*b)/\Ext w w'):=by
 have:=zat ha hb
 refine zmb Tryz.func235 O Tryz.ntmps235 O (Ga 14 O (by omega) (zkq Tryz.results235 O ⟨_,rfl,rfl,Keep.refl _ _⟩))
theorem zer (a b:Rg) (w:World) (ha:yp a) (hb:yp b):Calls Tryz.prog 234 #[.agg #[.int .i64 a.1,.int .i64 a.2],.agg #[.int .i64 b.1,.int .i64 b.2],.func (.func 235) #[] #[]] w (Ret fun r w'=>r=.agg #[.int .i64 (xn a b).1,.int .i64 (xn a b).2]/\Ext w w'):=by
 unfold yp at ha hb
 have hE:=Keep.refl (fun _=>False) w
 refine zmc Tryz.func234 O Tryz.ntmps234 O (Gs 2 O (G.mem O O (M.box O O) ?_))
 rintro _ w_x ⟨x,rfl,hg_x,hs_x,hB_x,hk_x⟩
 have hge_x:_<=x:=znZ hE.size (Nat.le_of_eq hg_x.symm)
 replace hE:=Tr1 hk_x hE
 refine G.mem O O (M.box O O) ?_
 rintro _ w_y ⟨y,rfl,hg_y,hs_y,hB_y,hk_y⟩
 have hn_x_y:x ≠ y:=by have:=hB_x.lt;omega
 have hge_y:_<=y:=znZ hE.size (Nat.le_of_eq hg_y.symm)
 obtain⟨hE,hB_x⟩:=Tr2 hk_y hE hB_x
 refine G.mem O O (M.alloc (cs:=_) tz226 O) ?_
 rintro _ w_r ⟨r,rfl,hg_r,hs_r,hB_r,hk_r⟩
 have hn_x_r:x ≠ r:=by have:=hB_x.lt;omega
 have hn_y_r:y ≠ r:=by have:=hB_y.lt;omega
 have hge_r:_<=r:=znZ hE.size (Nat.le_of_eq hg_r.symm)
 obtain⟨hE,hB_x,hB_y⟩:=Tr3 hk_r hE hB_x hB_y
 refine Gs 6 O (zm5 O tg3 (hB_x.cells 0 _ O) (Gs 1 O (zm5 O tg3 (hB_y.cells 0 _ O) (zkV O Tryz.call235 (zbD a.1 b.1 _ (by omega) (by omega)) ?_))))
 rintro _ wz1 ⟨rfl,hz1⟩
 obtain⟨hE,hB_x,hB_y,hB_r⟩:=Tr4 hz1 hE hB_x hB_y hB_r
 refine Gs 7 O (zm1 O O (R.build (v:=.agg #[.int .i64 (a.1*b.1),.int .i64 (a.1*b.1)]) [(0,_),(1,_)] O (fun _=>by kernel_rfl)) (G.mem O O (M.alloc (cs:=_) tz226 O) ?_))
 rintro _ wa2 ⟨o,rfl,hg_o,hs_o,hB_o,hk_o⟩
 refine zkY O (zkZ ts226 O O O O (by simp [Value.oneCell']) hB_o (by simp)) ?_
 rintro w_o ⟨_,hB_o,hkk_o⟩
 replace hk_o:=hk_o.trans hkk_o (fun q hq h=>by have h:q=o:=h;omega)
 have hn_x_o:x ≠ o:=by have:=hB_x.lt;omega
 have hn_y_o:y ≠ o:=by have:=hB_y.lt;omega
 have hn_r_o:r ≠ o:=by have:=hB_r.lt;omega
 have hge_o:_<=o:=znZ hE.size (Nat.le_of_eq hg_o.symm)
 obtain⟨hE,hB_x,hB_y,hB_r⟩:=Tr4 hk_o hE hB_x hB_y hB_r
 refine Gs 4 O (Dw (fun q=>Ext w_o q) [] (fun wd3 hD _=>?_))
 refine Ds [0,1] (by kernel_rfl) O (WD.take 2 O (by kernel_rfl) O O O hD (fun w1 hw1=>R.load tg3 O ((hw1.blk hB_x (fun h=>h)).cells 0 _ O)) (Ds [3] (by kernel_rfl) O (WD.take 4 O (by kernel_rfl) O O O hD (fun w1 hw1=>R.load tg3 O ((hw1.blk hB_y (fun h=>h)).cells 1 _ O)) (Ds [6,7] (by kernel_rfl) O (WD.take 8 O (by kernel_rfl) O O O hD (fun w1 hw1=>R.load tg3 O ((hw1.blk hB_x (fun h=>h)).cells 1 _ O)) (Ds [9] (by kernel_rfl) O (WD.take 10 O (by kernel_rfl) O O O hD (fun w1 hw1=>R.load tg3 O ((hw1.blk hB_y (fun h=>h)).cells 0 _ O)) ?_)))))))
 refine Ds [12,13] (by kernel_rfl) O (WD.take 14 O (by kernel_rfl) O O O hD (fun w1 hw1=>R.load tg3 O ((hw1.blk hB_x (fun h=>h)).cells 1 _ O)) (Ds [15] (by kernel_rfl) O (WD.take 16 O (by kernel_rfl) O O O hD (fun w1 hw1=>R.load tg3 O ((hw1.blk hB_y (fun h=>h)).cells 1 _ O)) (Ds [20] (by kernel_rfl) O (WD.call 5 O (by kernel_rfl) O O O (zkU (vs:=[_,_]) Tryz.call235 O O) (zbD a.1 b.2 _ (by omega) (by omega)) ?_)))))
 rintro _ wz4 ⟨rfl,hz4⟩
 replace hD:=hD.ext hz4
 refine⟨fun _=>hD,?_⟩
 refine WD.call 11 O (by kernel_rfl) O O O (zkU (vs:=[_,_]) Tryz.call235 O O) (zbD a.2 b.1 _ (by omega) (by omega)) ?_
 rintro _ wz5 ⟨rfl,hz5⟩
 replace hD:=hD.ext hz5
 refine⟨fun _=>hD,?_⟩
 refine WD.call 17 O (by kernel_rfl) O O O (zkU (vs:=[_,_]) Tryz.call235 O O) (zbD a.2 b.2 _ (by omega) (by omega)) ?_
 rintro _ wz6 ⟨rfl,hz6⟩
 replace hD:=hD.ext hz6
 refine⟨fun _=>hD,?_⟩
 refine WD.mem 18 O (by kernel_rfl) O O O (M.buildSlice (cs:=[.int .i64 (a.1*b.2),.int .i64 (a.2*b.1),.int .i64 (a.2*b.2)]) [(0,_),(1,_),(2,_)] tR27 ts3 tz3 (by decide) O (by kernel_rfl)) ?_
 rintro _ ws ⟨s,rfl,hg_s,hs_s,hB_s,hk_s⟩
 have hEs:=hD.ext hk_s
 have hso:s ≠ o:=by have:=hB_o.lt;have:=hD.size;omega
 refine⟨fun _=>hEs,?_⟩
 refine Ds [19] (by kernel_rfl) O (zla (by kernel_rfl) ?_ _)
 obtain⟨hE,hB_x,hB_y,hB_r,hB_o⟩:=Tr5 hEs hE hB_x hB_y hB_r hB_o
 obtain⟨es,hes⟩:∃ es:List Int,es=[a.1*b.2,a.2*b.1,a.2*b.2]:=⟨_,rfl⟩
 have hel:es.length=3:=by rw [hes];rfl
 have hBs:Blk ws s (es.map (.int .i64)) 3:=by rw [hes];exact hB_s
 have hp:=zat (x:=a.1) (y:=b.1) (by omega) (by omega)
 refine Gs 2 O (G.loop (σ:=Nat) (fun k=>[(6,.pointer (some ⟨r,0,none⟩)),(8,.pointer (some ⟨o,0,none⟩)),(38,.slice (some ⟨s,0,none⟩) 3 3),(39,.int .i64 3),(40,.int .i64 k)]) (fun k=>fun w'=>k<=3/\Blk w' o [.int .i64 (yE (a.1*b.1,a.1*b.1) ((es.map (fun x=>(x,x))).take k)).1,.int .i64 (yE (a.1*b.1,a.1*b.1) ((es.map (fun x=>(x,x))).take k)).2] 226/\Keep (fun q=>q=o) ws w') (fun k=>3 - k) (0) (zlO O) (⟨zo8 _,hB_o,Keep.refl _ _⟩) ?_)
 rintro k w1 ⟨hk,hB_o,hk1⟩
 refine Gs 6 O (zk6 O (fun hlt=>?_) (fun hlt=>?_))
 ·
  obtain⟨x,hx⟩:∃ x,es[k]?=some x:=⟨_,znT (by omega)⟩
  refine Ga 7 O (by omega) (zm5 O tg3 ((hk1.blk hBs hso).cells.el1 k O (by rw [zoa,hx];rfl)) ?_)
  refine Gs 4 O (zm7 O tg226 ts226 hB_o.cells O (Gs 2 O (zm1 O O (R.build (v:=.agg #[.int .i64 x,.int .i64 x]) [(0,_),(1,_)] O (fun _=>by kernel_rfl)) (G.call O Tryz.call236 (zf7 (yE (a.1*b.1,a.1*b.1) ((es.map (fun x=>(x,x))).take k)) (x,x) w1) ?_))))
  rintro _ w2 ⟨rfl,hk2⟩
  refine zkY O (zkZ ts226 O O O O (by simp [Value.oneCell']) (hk2.blk hB_o (fun h=>h)) (by simp)) ?_
  rintro w3 ⟨_,hB3,hk3⟩
  refine Ga 7 O (by omega) (zkh (k+1) (zlO O) (⟨by omega,?_,(hk1.ext hk2).trans hk3 (fun _ _ h=>h)⟩) (by first | omega | (dsimp only;omega)))
  rw [jW (show (es.map (fun x=>(x,x)))[k]?=some (x,x) by rw [zoa,hx];rfl)]
  exact hB3
 ·
  have hk3:k=3:=by omega
  subst hk3
  have hr1:=hk1.blk hB_r hn_r_o
  have e:yE (a.1*b.1,a.1*b.1) ((es.map (fun x=>(x,x))).take 3)=xn a b:=by rw [hes];rfl
  rw [e] at hB_o
  refine Gs 7 O (zm7 O tg226 ts226 hB_o.cells O (zkY O (zkZ ts226 O O O O (by simp [Value.oneCell']) hr1 (by simp)) ?_))
  rintro wf ⟨_,hBf,hkf⟩
  refine Gs 3 O (zky Tryz.results234 O (zo tg226 ts226 O hBf.cells) ?_)
  exact⟨_,rfl,rfl,(hE.trans hk1 (fun q hq h=>by have h:q=o:=h;omega)).trans hkf (fun q hq h=>by have h:q=r:=h;omega)⟩
def at2 (l:List Rg) (i:Nat):Rg:=l[i]?.getD (0,0)
theorem zX {l:List Rg} {i:Nat} {x:Rg} (h:l[i]?=some x):at2 l i=x:=by simp [at2,h]
def vat (vs:List Vr) (n:Int):Rg:=match vs[n.toNat]? with
 | some v=>(v.low,v.high)
 | none=>(0,0)
theorem zf8 {vs:List Vr} {n:Int} {v:Vr} (h:vs[n.toNat]?=some v):vat vs n=(v.low,v.high):=by simp [vat,h]
def zj (vs:List Vr) (op n:Int) (l:List Rg):Rg :=
 if op=0 then (n,n)
 else if op=24 then vat vs n
 else if op=6 then (-(at2 l 0).2,-(at2 l 0).1)
 else if op=8 then ((at2 l 0).1+(at2 l 1).1,(at2 l 0).2+(at2 l 1).2)
 else if op=9 then ((at2 l 0).1 - (at2 l 1).2,(at2 l 0).2 - (at2 l 1).1)
 else if op=10 then xn (at2 l 0) (at2 l 1)
 else if op=11 then (if 0<=(at2 l 0).1/\0<=(at2 l 1).1 then 0 else -(max (at2 l 0).2 (-(at2 l 0).1)),max (at2 l 0).2 (-(at2 l 0).1))
 else if op=12 then (if (at2 l 1).1<0 then min ((at2 l 1).1+1) 0 else 0,if 0<(at2 l 1).2 then max ((at2 l 1).2 - 1) 0 else 0)
 else if op=21 then (min (at2 l 0).1 (at2 l 1).1,min (at2 l 0).2 (at2 l 1).2)
 else if op=22 then (max (at2 l 0).1 (at2 l 1).1,max (at2 l 0).2 (at2 l 1).2)
 else if op=23\/op=25 then yE (at2 l 1) (l.drop 2)
 else (0,1)
structure NodeOk (vs:List Vr) (op n:Int) (l:List Rg):Prop where
 k0:op=0\/op=24->l.length=0
 k1:op=6\/op=7->l.length=1
 k2:8<=op/\op<=22->l.length=2
 k3:op=23\/op=25->2<=l.length/\l.length<=33
 good:∀ r ∈ l,yp r
 var:op=24->0<=n/\n<vs.length
 vars:∀ v ∈ vs,yp (v.low,v.high)
theorem qC {vs:List Vr} {inp:Bool} {op n:Int} {l:List Rg} {k:Nat} (hl:l.length=k) (h1:yy op k=true) (h2:xP vs inp op n=true) (hg:∀ r ∈ l,yp r) (hv:∀ v ∈ vs,yp (v.low,v.high)):NodeOk vs op n l:=by
 have h3:(0<=zn op->(l.length:Int)=zn op)/\(¬ 0<=zn op->2<=l.length/\l.length<=33):=by
  unfold yy at h1
  rw [hl]
  constructor
  . intro h;rw [zo4 h] at h1;exact of_decide_eq_true h1
  . intro h;rw [zo3 h] at h1;exact (of_decide_eq_true h1).2
 unfold zn at h3
 refine⟨fun h=>?_,fun h=>?_,fun h=>?_,fun h=>?_,hg,fun h=>?_,hv⟩
 . rw [zo4 h] at h3;have:=h3.1 (by omega);omega
 . rw [zo3 (by omega),zo4 h] at h3;have:=h3.1 (by omega);omega
 . rw [zo3 (by omega),zo3 (by omega),zo4 h] at h3;have:=h3.1 (by omega);omega
 ·
  rcases h with h | h
  . rw [zo3 (by omega),zo3 (by omega),zo3 (by omega),zo4 h] at h3;have:=h3.1 (by omega);omega
  . rw [zo3 (by omega),zo3 (by omega),zo3 (by omega),zo3 (by omega),zo4 h] at h3;exact h3.2 (by omega)
 ·
  unfold xP at h2
  rw [zo4 h,Bool.and_eq_true] at h2
  exact of_decide_eq_true h2.1
theorem zi8 (vs:List Vr) (t:Tm) (ks:List Rg) (vv kv:Value) (cs:List Value) (Dv D Dk:Nat->Prop) (w:World) (hvs:SlR 5 RVr Dv w vv vs) (ht:RTm D w t cs) (hks:SlR 2 zeU Dk w kv ks) (hn:NodeOk vs t.op t.n ks):Calls Tryz.prog 222 #[vv,.agg cs.toArray,kv] w (Ret fun r w'=>r=.agg #[.int .i64 (zj vs t.op t.n ks).1,.int .i64 (zj vs t.op t.n ks).2]/\Ext w w'):=by
 obtain⟨v,rfl,hk⟩:=ht.get
 obtain⟨av,nv,rfl⟩:=hvs.form
 obtain⟨ak,nk,rfl⟩:=hks.form
 have hmx:=hks.max
 have hE:=Keep.refl (fun _=>False) w
 refine zmc Tryz.func222 O Tryz.ntmps222 O (Gs 2 O (G.mem O O (M.box O O) ?_))
 rintro _ w_b ⟨b,rfl,hg_b,hs_b,hB_b,hk_b⟩
 have hge_b:_<=b:=znZ hE.size (Nat.le_of_eq hg_b.symm)
 obtain⟨hE,hvs,hks⟩:=Tr3 hk_b hE hvs hks
 refine G.mem O O (M.alloc (cs:=_) tz226 O) ?_
 rintro _ w_r ⟨r,rfl,hg_r,hs_r,hB_r,hk_r⟩
 have hn_b_r:b ≠ r:=by have:=hB_b.lt;omega
 have hge_r:_<=r:=znZ hE.size (Nat.le_of_eq hg_r.symm)
 obtain⟨hE,hvs,hks,hB_b⟩:=Tr4 hk_r hE hvs hks hB_b
 refine Gs 6 O (zm5 O tg83 (hB_b.cells 0 _ O) (Gs 9 O (zk6 O (fun h0=>?_) (fun h0=>?_))))
 ·
  have e:zj vs t.op t.n ks=(t.n,t.n):=by rw [zj,zo4 h0]
  refine Gs 3 O (zm5 O tg3 (hB_b.cells 1 _ O) (Gs 1 O (zm5 O tg3 (hB_b.cells 1 _ O) (zm1 O O (R.build (v:=.agg #[.int .i64 t.n,.int .i64 t.n]) [(0,_),(1,_)] O (fun _=>by kernel_rfl)) (zkY O (zkZ ts226 O O O O (by simp [Value.oneCell']) hB_r (by simp)) ?_)))))
  rintro wf ⟨_,hBf,hkf⟩
  refine Gs 5 O (zky tr222 O (zo tg226 ts226 O hBf.cells) ?_)
  exact⟨_,rfl,by rw [e] <;> rfl,hE.trans hkf (fun q hq h=>by have h:q=r:=h;omega)⟩
 ·
  refine Gs 6 O (zk6 O (fun h24=>?_) (fun h24=>?_))
  ·
   have hv:=hn.var h24
   obtain⟨x,he_x,hm_x⟩:=gE_ vs (t.n.toNat) (by omega)
   obtain⟨b_x,o_x,c_x,ha_x,_,hc_x,hR_x⟩:=hvs.at he_x
   have h1_x:=RVr.one hR_x
   obtain rfl:=hR_x
   have hlt_x:b_x<_:=znV _ _ (hc_x 0 _ rfl)
   have e:zj vs t.op t.n ks=(x.low,x.high):=by rw [zj,zo3 h0,zo4 h24,zf8 he_x]
   refine Gs 1 O (Dw (fun q=>Ext w_r q) [13] (fun wd1 hD _=>?_))
   refine Ds [0,1] (by kernel_rfl) O (WD.take 2 O (by kernel_rfl) O O O hD (fun w1 hw1=>R.load tg3 O ((hw1.blk hB_b (fun h=>h)).cells 1 _ O)) (zld 3 O (by kernel_rfl) O O O (fun w1=>zkP tR22 ts89 O O ha_x (by omega)) (Ds [4] (by kernel_rfl) O (WD.take 5 O (by kernel_rfl) O O O hD (fun w1 hw1=>R.load tg3 O ((hw1.cells hc_x (fun h=>h)) 2 _ O)) (Ds [6,7] (by kernel_rfl) O (WD.take 8 O (by kernel_rfl) O O O hD (fun w1 hw1=>R.load tg3 O ((hw1.blk hB_b (fun h=>h)).cells 1 _ O)) ?_))))))
   refine zld 9 O (by kernel_rfl) O O O (fun w1=>zkP tR22 ts89 O O ha_x (by omega)) (Ds [10] (by kernel_rfl) O (WD.take 11 O (by kernel_rfl) O O O hD (fun w1 hw1=>R.load tg3 O ((hw1.cells hc_x (fun h=>h)) 3 _ O)) (zld 12 O (by kernel_rfl) O O O (fun w1=>R.build (v:=.agg #[.int .i64 x.low,.int .i64 x.high]) [(0,_),(1,_)] O (fun _=>by kernel_rfl)) (zkX 13 O (by kernel_rfl) O O (zkZ ts226 O O O O (by simp [Value.oneCell']) (hD.blk hB_r (fun h=>h)) (by simp)) ?_))))
   rintro wf ⟨_,hBf,hkf⟩
   refine⟨fun h=>absurd (by simp) h,?_⟩
   refine zla (by kernel_rfl) ?_ _
   refine Gs 4 O (zky tr222 O (zo tg226 ts226 O hBf.cells) ?_)
   exact⟨_,rfl,by rw [e] <;> rfl,(hE.ext hD).trans hkf (fun q hq h=>by have h:q=r:=h;omega)⟩
  ·
   refine Gs 6 O (zk6 O (fun h6=>?_) (fun h6=>?_))
   ·
    have hl:=hn.k1 (.inl h6)
    obtain⟨x,he_x,hm_x⟩:=gE_ ks (0) (by omega)
    obtain⟨b_x,o_x,c_x,ha_x,_,hc_x,hR_x⟩:=hks.at he_x
    obtain rfl:=hR_x
    have hlt_x:b_x<_:=znV _ _ (hc_x 0 _ rfl)
    have hgx:=hn.good x hm_x
    unfold yp at hgx
    have e:zj vs t.op t.n ks=(-x.2,-x.1):=by rw [zj,zo3 h0,zo3 h24,zo4 h6,zX he_x]
    refine Gs 1 O (Dw (fun q=>Ext w_r q) [11] (fun wd2 hD _=>?_))
    refine Ds [0] (by kernel_rfl) O (zld 1 O (by kernel_rfl) O O O (fun w1=>zkP tR245 ts226 O O ha_x (by omega)) (Ds [2] (by kernel_rfl) O (WD.take 3 O (by kernel_rfl) O O O hD (fun w1 hw1=>R.load tg3 O ((hw1.cells hc_x (fun h=>h)) 1 _ O)) (Da [4,5] (by kernel_rfl) O (by omega) (zld 6 O (by kernel_rfl) O O O (fun w1=>zkP tR245 ts226 O O ha_x (by omega)) (Ds [7] (by kernel_rfl) O (WD.take 8 O (by kernel_rfl) O O O hD (fun w1 hw1=>R.load tg3 O ((hw1.cells hc_x (fun h=>h)) 0 _ O)) ?_)))))))
    refine Da [9] (by kernel_rfl) O (by omega) (zld 10 O (by kernel_rfl) O O O (fun w1=>R.build (v:=.agg #[.int .i64 (-x.2),.int .i64 (-x.1)]) [(0,_),(1,_)] O (fun _=>by kernel_rfl)) (zkX 11 O (by kernel_rfl) O O (zkZ ts226 O O O O (by simp [Value.oneCell']) (hD.blk hB_r (fun h=>h)) (by simp)) ?_))
    rintro wf ⟨_,hBf,hkf⟩
    refine⟨fun h=>absurd (by simp) h,?_⟩
    refine zla (by kernel_rfl) ?_ _
    refine Gs 4 O (zky tr222 O (zo tg226 ts226 O hBf.cells) ?_)
    exact⟨_,rfl,by rw [e] <;> rfl,(hE.ext hD).trans hkf (fun q hq h=>by have h:q=r:=h;omega)⟩
   ·
    refine Gs 6 O (zk6 O (fun h8=>?_) (fun h8=>?_))
    ·
     have hl:=hn.k2 (by omega)
     obtain⟨x,he_x,hm_x⟩:=gE_ ks (0) (by omega)
     obtain⟨b_x,o_x,c_x,ha_x,_,hc_x,hR_x⟩:=hks.at he_x
     obtain rfl:=hR_x
     have hlt_x:b_x<_:=znV _ _ (hc_x 0 _ rfl)
     obtain⟨y,he_y,hm_y⟩:=gE_ ks (1) (by omega)
     obtain⟨b_y,o_y,c_y,ha_y,_,hc_y,hR_y⟩:=hks.at he_y
     obtain rfl:=hR_y
     have hlt_y:b_y<_:=znV _ _ (hc_y 0 _ rfl)
     have hgx:=hn.good x hm_x
     have hgy:=hn.good y hm_y
     unfold yp at hgx hgy
     have e:zj vs t.op t.n ks=(x.1+y.1,x.2+y.2):=by rw [zj,zo3 h0,zo3 h24,zo3 h6,zo4 h8,zX he_x,zX he_y]
     refine Gs 1 O (Dw (fun q=>Ext w_r q) [19] (fun wd3 hD _=>?_))
     refine Ds [0] (by kernel_rfl) O (zld 1 O (by kernel_rfl) O O O (fun w1=>zkP tR245 ts226 O O ha_x (by omega)) (Ds [2] (by kernel_rfl) O (WD.take 3 O (by kernel_rfl) O O O hD (fun w1 hw1=>R.load tg3 O ((hw1.cells hc_x (fun h=>h)) 0 _ O)) (Ds [4] (by kernel_rfl) O (zld 5 O (by kernel_rfl) O O O (fun w1=>zkP tR245 ts226 O O ha_y (by omega)) (Ds [6] (by kernel_rfl) O (WD.take 7 O (by kernel_rfl) O O O hD (fun w1 hw1=>R.load tg3 O ((hw1.cells hc_y (fun h=>h)) 0 _ O)) ?_)))))))
     refine Da [8,9] (by kernel_rfl) O (by omega) (zld 10 O (by kernel_rfl) O O O (fun w1=>zkP tR245 ts226 O O ha_x (by omega)) (Ds [11] (by kernel_rfl) O (WD.take 12 O (by kernel_rfl) O O O hD (fun w1 hw1=>R.load tg3 O ((hw1.cells hc_x (fun h=>h)) 1 _ O)) (Ds [13] (by kernel_rfl) O (zld 14 O (by kernel_rfl) O O O (fun w1=>zkP tR245 ts226 O O ha_y (by omega)) (Ds [15] (by kernel_rfl) O (WD.take 16 O (by kernel_rfl) O O O hD (fun w1 hw1=>R.load tg3 O ((hw1.cells hc_y (fun h=>h)) 1 _ O)) ?_)))))))
     refine Da [17] (by kernel_rfl) O (by omega) (zld 18 O (by kernel_rfl) O O O (fun w1=>R.build (v:=.agg #[.int .i64 (x.1+y.1),.int .i64 (x.2+y.2)]) [(0,_),(1,_)] O (fun _=>by kernel_rfl)) (zkX 19 O (by kernel_rfl) O O (zkZ ts226 O O O O (by simp [Value.oneCell']) (hD.blk hB_r (fun h=>h)) (by simp)) ?_))
     rintro wf ⟨_,hBf,hkf⟩
     refine⟨fun h=>absurd (by simp) h,?_⟩
     refine zla (by kernel_rfl) ?_ _
     refine Gs 4 O (zky tr222 O (zo tg226 ts226 O hBf.cells) ?_)
     exact⟨_,rfl,by rw [e] <;> rfl,(hE.ext hD).trans hkf (fun q hq h=>by have h:q=r:=h;omega)⟩
    ·
     refine Gs 6 O (zk6 O (fun h9=>?_) (fun h9=>?_))
     ·
      have hl:=hn.k2 (by omega)
      obtain⟨x,he_x,hm_x⟩:=gE_ ks (0) (by omega)
      obtain⟨b_x,o_x,c_x,ha_x,_,hc_x,hR_x⟩:=hks.at he_x
      obtain rfl:=hR_x
      have hlt_x:b_x<_:=znV _ _ (hc_x 0 _ rfl)
      obtain⟨y,he_y,hm_y⟩:=gE_ ks (1) (by omega)
      obtain⟨b_y,o_y,c_y,ha_y,_,hc_y,hR_y⟩:=hks.at he_y
      obtain rfl:=hR_y
      have hlt_y:b_y<_:=znV _ _ (hc_y 0 _ rfl)
      have hgx:=hn.good x hm_x
      have hgy:=hn.good y hm_y
      unfold yp at hgx hgy
      have e:zj vs t.op t.n ks=(x.1 - y.2,x.2 - y.1):=by rw [zj,zo3 h0,zo3 h24,zo3 h6,zo3 h8,zo4 h9,zX he_x,zX he_y]
      refine Gs 1 O (Dw (fun q=>Ext w_r q) [19] (fun wd4 hD _=>?_))
      refine Ds [0] (by kernel_rfl) O (zld 1 O (by kernel_rfl) O O O (fun w1=>zkP tR245 ts226 O O ha_x (by omega)) (Ds [2] (by kernel_rfl) O (WD.take 3 O (by kernel_rfl) O O O hD (fun w1 hw1=>R.load tg3 O ((hw1.cells hc_x (fun h=>h)) 0 _ O)) (Ds [4] (by kernel_rfl) O (zld 5 O (by kernel_rfl) O O O (fun w1=>zkP tR245 ts226 O O ha_y (by omega)) (Ds [6] (by kernel_rfl) O (WD.take 7 O (by kernel_rfl) O O O hD (fun w1 hw1=>R.load tg3 O ((hw1.cells hc_y (fun h=>h)) 1 _ O)) ?_)))))))
      refine Da [8,9] (by kernel_rfl) O (by omega) (zld 10 O (by kernel_rfl) O O O (fun w1=>zkP tR245 ts226 O O ha_x (by omega)) (Ds [11] (by kernel_rfl) O (WD.take 12 O (by kernel_rfl) O O O hD (fun w1 hw1=>R.load tg3 O ((hw1.cells hc_x (fun h=>h)) 1 _ O)) (Ds [13] (by kernel_rfl) O (zld 14 O (by kernel_rfl) O O O (fun w1=>zkP tR245 ts226 O O ha_y (by omega)) (Ds [15] (by kernel_rfl) O (WD.take 16 O (by kernel_rfl) O O O hD (fun w1 hw1=>R.load tg3 O ((hw1.cells hc_y (fun h=>h)) 0 _ O)) ?_)))))))
      refine Da [17] (by kernel_rfl) O (by omega) (zld 18 O (by kernel_rfl) O O O (fun w1=>R.build (v:=.agg #[.int .i64 (x.1 - y.2),.int .i64 (x.2 - y.1)]) [(0,_),(1,_)] O (fun _=>by kernel_rfl)) (zkX 19 O (by kernel_rfl) O O (zkZ ts226 O O O O (by simp [Value.oneCell']) (hD.blk hB_r (fun h=>h)) (by simp)) ?_))
      rintro wf ⟨_,hBf,hkf⟩
      refine⟨fun h=>absurd (by simp) h,?_⟩
      refine zla (by kernel_rfl) ?_ _
      refine Gs 4 O (zky tr222 O (zo tg226 ts226 O hBf.cells) ?_)
      exact⟨_,rfl,by rw [e] <;> rfl,(hE.ext hD).trans hkf (fun q hq h=>by have h:q=r:=h;omega)⟩
     ·
      refine Gs 6 O (zk6 O (fun h10=>?_) (fun h10=>?_))
      ·
       have hl:=hn.k2 (by omega)
       obtain⟨x,he_x,hm_x⟩:=gE_ ks (0) (by omega)
       obtain⟨b_x,o_x,c_x,ha_x,_,hc_x,hR_x⟩:=hks.at he_x
       obtain rfl:=hR_x
       have hlt_x:b_x<_:=znV _ _ (hc_x 0 _ rfl)
       obtain⟨y,he_y,hm_y⟩:=gE_ ks (1) (by omega)
       obtain⟨b_y,o_y,c_y,ha_y,_,hc_y,hR_y⟩:=hks.at he_y
       obtain rfl:=hR_y
       have hlt_y:b_y<_:=znV _ _ (hc_y 0 _ rfl)
       have e:zj vs t.op t.n ks=xn x y:=by rw [zj,zo3 h0,zo3 h24,zo3 h6,zo3 h8,zo3 h9,zo4 h10,zX he_x,zX he_y]
       refine Gs 1 O (Dw (fun q=>Ext w_r q) [7] (fun wd5 hD _=>?_))
       refine Ds [0] (by kernel_rfl) O (zld 1 O (by kernel_rfl) O O O (fun w1=>zkP tR245 ts226 O O ha_x (by omega)) (WD.take 2 O (by kernel_rfl) O O O hD (fun w1 hw1=>zkR tg226 ts226 O (by rfl) (hw1.cells hc_x (fun h=>h))) (Ds [3] (by kernel_rfl) O (zld 4 O (by kernel_rfl) O O O (fun w1=>zkP tR245 ts226 O O ha_y (by omega)) (WD.take 5 O (by kernel_rfl) O O O hD (fun w1 hw1=>zkR tg226 ts226 O (by rfl) (hw1.cells hc_y (fun h=>h))) ?_)))))
       refine WD.call 6 O (by kernel_rfl) O O O (F.call (vs:=[_,_,_]) Tryz.call234 O) (zer x y _ (hn.good x hm_x) (hn.good y hm_y)) ?_
       rintro _ wz6 ⟨rfl,hz6⟩
       replace hD:=hD.ext hz6
       refine⟨fun _=>hD,?_⟩
       refine zkX 7 O (by kernel_rfl) O O (zkZ ts226 O O O O (by simp [Value.oneCell']) (hD.blk hB_r (fun h=>h)) (by simp)) ?_
       rintro wf ⟨_,hBf,hkf⟩
       refine⟨fun h=>absurd (by simp) h,?_⟩
       refine zla (by kernel_rfl) ?_ _
       refine Gs 4 O (zky tr222 O (zo tg226 ts226 O hBf.cells) ?_)
       exact⟨_,rfl,by rw [e] <;> rfl,(hE.ext hD).trans hkf (fun q hq h=>by have h:q=r:=h;omega)⟩
      ·
       refine Gs 6 O (zk6 O (fun h11=>?_) (fun h11=>?_))
       ·
        have hl:=hn.k2 (by omega)
        obtain⟨x,he_x,hm_x⟩:=gE_ ks (0) (by omega)
        obtain⟨b_x,o_x,c_x,ha_x,_,hc_x,hR_x⟩:=hks.at he_x
        obtain rfl:=hR_x
        have hlt_x:b_x<_:=znV _ _ (hc_x 0 _ rfl)
        obtain⟨y,he_y,hm_y⟩:=gE_ ks (1) (by omega)
        obtain⟨b_y,o_y,c_y,ha_y,_,hc_y,hR_y⟩:=hks.at he_y
        obtain rfl:=hR_y
        have hlt_y:b_y<_:=znV _ _ (hc_y 0 _ rfl)
        have hgx:=hn.good x hm_x
        have hgy:=hn.good y hm_y
        unfold yp at hgx hgy
        have e:zj vs t.op t.n ks=(if 0<=x.1/\0<=y.1 then 0 else -(max x.2 (-x.1)),max x.2 (-x.1)):=by rw [zj,zo3 h0,zo3 h24,zo3 h6,zo3 h8,zo3 h9,zo3 h10,zo4 h11,zX he_x,zX he_y]
        have hmx2:0<=max x.2 (-x.1)/\max x.2 (-x.1)<=1048576:=by omega
        refine Gs 1 O (Dw (fun q=>Ext w_r q) [] (fun wd7 hD _=>?_))
        refine Ds [0] (by kernel_rfl) O (zld 1 O (by kernel_rfl) O O O (fun w1=>zkP tR245 ts226 O O ha_x (by omega)) (Ds [2] (by kernel_rfl) O (WD.take 3 O (by kernel_rfl) O O O hD (fun w1 hw1=>R.load tg3 O ((hw1.cells hc_x (fun h=>h)) 1 _ O)) (Ds [4] (by kernel_rfl) O (zld 5 O (by kernel_rfl) O O O (fun w1=>zkP tR245 ts226 O O ha_x (by omega)) (Ds [6] (by kernel_rfl) O (WD.take 7 O (by kernel_rfl) O O O hD (fun w1 hw1=>R.load tg3 O ((hw1.cells hc_x (fun h=>h)) 0 _ O)) ?_)))))))
        refine Da [8,9,10] (by kernel_rfl) O (by omega) (zla (by kernel_rfl) ?_ _)
        obtain⟨hE,hvs,hks,hB_b,hB_r,hc_x,hc_y⟩:=Tr7 hD hE hvs hks hB_b hB_r hc_x hc_y
        refine Gs 5 O (zm1 O O (zkP tR245 ts226 O O ha_x (by omega)) (Gs 1 O (zm5 O tg3 (hc_x 0 _ O) (Gs 2 O (G.sp 117 O (fun p0=>?_) (fun p0=>?_))))))
        ·
         refine Gs 1 O (zm1 O O (zkP tR245 ts226 O O ha_y (by omega)) (Gs 1 O (zm5 O tg3 (hc_y 0 _ O) (Gs 4 O (zk6 O (fun p1=>?_) (fun p1=>?_))))))
         ·
          refine Gs 3 O (zm1 O O (R.build (v:=.agg #[.int .i64 0,.int .i64 (max x.2 (-x.1))]) [(0,_),(1,_)] O (fun _=>by kernel_rfl)) (zkY O (zkZ ts226 O O O O (by simp [Value.oneCell']) hB_r (by simp)) ?_))
          rintro wf ⟨_,hBf,hkf⟩
          refine Gs 6 O (zky tr222 O (zo tg226 ts226 O hBf.cells) ?_)
          exact⟨_,rfl,by rw [e,zo4 ⟨p0,p1⟩] <;> rfl,hE.trans hkf (fun q hq h=>by have h:q=r:=h;omega)⟩
         ·
          refine Ga 7 O (by omega) (zm1 O O (R.build (v:=.agg #[.int .i64 (-(max x.2 (-x.1))),.int .i64 (max x.2 (-x.1))]) [(0,_),(1,_)] O (fun _=>by kernel_rfl)) (zkY O (zkZ ts226 O O O O (by simp [Value.oneCell']) hB_r (by simp)) ?_))
          rintro wf ⟨_,hBf,hkf⟩
          refine Gs 5 O (zky tr222 O (zo tg226 ts226 O hBf.cells) ?_)
          exact⟨_,rfl,by rw [e,zo3 (fun h=>p1 h.2)] <;> rfl,hE.trans hkf (fun q hq h=>by have h:q=r:=h;omega)⟩
        ·
         refine Ga 16 O (by omega) (zm1 O O (R.build (v:=.agg #[.int .i64 (-(max x.2 (-x.1))),.int .i64 (max x.2 (-x.1))]) [(0,_),(1,_)] O (fun _=>by kernel_rfl)) (zkY O (zkZ ts226 O O O O (by simp [Value.oneCell']) hB_r (by simp)) ?_))
         rintro wf ⟨_,hBf,hkf⟩
         refine Gs 5 O (zky tr222 O (zo tg226 ts226 O hBf.cells) ?_)
         exact⟨_,rfl,by rw [e,zo3 (fun h=>p0 h.1)] <;> rfl,hE.trans hkf (fun q hq h=>by have h:q=r:=h;omega)⟩
       ·
        refine Gs 6 O (zk6 O (fun h12=>?_) (fun h12=>?_))
        ·
         have hl:=hn.k2 (by omega)
         obtain⟨y,he_y,hm_y⟩:=gE_ ks (1) (by omega)
         obtain⟨b_y,o_y,c_y,ha_y,_,hc_y,hR_y⟩:=hks.at he_y
         obtain rfl:=hR_y
         have hlt_y:b_y<_:=znV _ _ (hc_y 0 _ rfl)
         have hgy:=hn.good y hm_y
         unfold yp at hgy
         have e:zj vs t.op t.n ks=(if y.1<0 then min (y.1+1) 0 else 0,if 0<y.2 then max (y.2 - 1) 0 else 0):=by rw [zj,zo3 h0,zo3 h24,zo3 h6,zo3 h8,zo3 h9,zo3 h10,zo3 h11,zo4 h12,zX he_y]
         refine Gs 2 O (zm1 O O (R.build (v:=.agg #[.int .i64 0,.int .i64 0]) [] O (fun _=>by kernel_rfl)) (G.mem O O (M.alloc (cs:=_) tz226 O) ?_))
         rintro _ wa8 ⟨o,rfl,hg_o,hs_o,hB_o,hk_o⟩
         refine zkY O (zkZ ts226 O O O O (by simp [Value.oneCell']) hB_o (by simp)) ?_
         rintro w_o ⟨_,hB_o,hkk_o⟩
         replace hk_o:=hk_o.trans hkk_o (fun q hq h=>by have h:q=o:=h;omega)
         have hn_b_o:b ≠ o:=by have:=hB_b.lt;omega
         have hn_r_o:r ≠ o:=by have:=hB_r.lt;omega
         have hge_o:_<=o:=znZ hE.size (Nat.le_of_eq hg_o.symm)
         obtain⟨hE,hvs,hks,hB_b,hB_r,hc_y⟩:=Tr6 hk_o hE hvs hks hB_b hB_r hc_y
         refine Gs 6 O (zm1 O O (zkP tR245 ts226 O O ha_y (by omega)) (Gs 1 O (zm5 O tg3 (hc_y 0 _ O) (Gs 3 O (zk6 O (fun p0=>?_) (fun p0=>?_))))))
         ·
          refine Gs 2 O (zm1 O O (zkP tR245 ts226 O O ha_y (by omega)) (Gs 1 O (zm5 O tg3 (hc_y 0 _ O) (Ga 3 O (by omega) (zkY O (M.store ts3 O O O O hB_o (by simp)) ?_)))))
          rintro ws9 ⟨_,hB_o,hs9⟩
          replace hE:=hE.trans hs9 (fun q hq h=>by have h:q=o:=h;omega)
          replace hB_b:=hs9.blk hB_b hn_b_o
          replace hB_r:=hs9.blk hB_r hn_r_o
          replace hc_y:=hs9.cells hc_y (show b_y ≠ o by omega)
          refine Gs 6 O (zm1 O O (zkP tR245 ts226 O O ha_y (by omega)) (Gs 1 O (zm5 O tg3 (hc_y 1 _ O) (Gs 3 O (zk6 O (fun p1=>?_) (fun p1=>?_))))))
          ·
           refine Gs 2 O (zm1 O O (zkP tR245 ts226 O O ha_y (by omega)) (Gs 1 O (zm5 O tg3 (hc_y 1 _ O) (Ga 3 O (by omega) (zkY O (M.store ts3 O O O O hB_o (by simp)) ?_)))))
           rintro ws10 ⟨_,hB_o,hs10⟩
           replace hE:=hE.trans hs10 (fun q hq h=>by have h:q=o:=h;omega)
           replace hB_b:=hs10.blk hB_b hn_b_o
           replace hB_r:=hs10.blk hB_r hn_r_o
           replace hc_y:=hs10.cells hc_y (show b_y ≠ o by omega)
           refine Gs 4 O (zm7 O tg226 ts226 hB_o.cells O (zkY O (zkZ ts226 O O O O (by simp [Value.oneCell']) hB_r (by simp)) ?_))
           rintro wf ⟨_,hBf,hkf⟩
           refine Gs 5 O (zky tr222 O (zo tg226 ts226 O hBf.cells) ?_)
           exact⟨_,rfl,by rw [e,zo4 p0,zo4 p1] <;> rfl,hE.trans hkf (fun q hq h=>by have h:q=r:=h;omega)⟩
          ·
           refine Gs 4 O (zm7 O tg226 ts226 hB_o.cells O (zkY O (zkZ ts226 O O O O (by simp [Value.oneCell']) hB_r (by simp)) ?_))
           rintro wf ⟨_,hBf,hkf⟩
           refine Gs 5 O (zky tr222 O (zo tg226 ts226 O hBf.cells) ?_)
           exact⟨_,rfl,by rw [e,zo4 p0,zo3 p1] <;> rfl,hE.trans hkf (fun q hq h=>by have h:q=r:=h;omega)⟩
         ·
          refine Gs 6 O (zm1 O O (zkP tR245 ts226 O O ha_y (by omega)) (Gs 1 O (zm5 O tg3 (hc_y 1 _ O) (Gs 3 O (zk6 O (fun p1=>?_) (fun p1=>?_))))))
          ·
           refine Gs 2 O (zm1 O O (zkP tR245 ts226 O O ha_y (by omega)) (Gs 1 O (zm5 O tg3 (hc_y 1 _ O) (Ga 3 O (by omega) (zkY O (M.store ts3 O O O O hB_o (by simp)) ?_)))))
           rintro ws11 ⟨_,hB_o,hs11⟩
           replace hE:=hE.trans hs11 (fun q hq h=>by have h:q=o:=h;omega)
           replace hB_b:=hs11.blk hB_b hn_b_o
           replace hB_r:=hs11.blk hB_r hn_r_o
           replace hc_y:=hs11.cells hc_y (show b_y ≠ o by omega)
           refine Gs 4 O (zm7 O tg226 ts226 hB_o.cells O (zkY O (zkZ ts226 O O O O (by simp [Value.oneCell']) hB_r (by simp)) ?_))
           rintro wf ⟨_,hBf,hkf⟩
           refine Gs 5 O (zky tr222 O (zo tg226 ts226 O hBf.cells) ?_)
           exact⟨_,rfl,by rw [e,zo3 p0,zo4 p1] <;> rfl,hE.trans hkf (fun q hq h=>by have h:q=r:=h;omega)⟩
          ·
           refine Gs 4 O (zm7 O tg226 ts226 hB_o.cells O (zkY O (zkZ ts226 O O O O (by simp [Value.oneCell']) hB_r (by simp)) ?_))
           rintro wf ⟨_,hBf,hkf⟩
           refine Gs 5 O (zky tr222 O (zo tg226 ts226 O hBf.cells) ?_)
           exact⟨_,rfl,by rw [e,zo3 p0,zo3 p1] <;> rfl,hE.trans hkf (fun q hq h=>by have h:q=r:=h;omega)⟩
        ·
         refine Gs 6 O (zk6 O (fun h21=>?_) (fun h21=>?_))
         ·
          have hl:=hn.k2 (by omega)
          obtain⟨x,he_x,hm_x⟩:=gE_ ks (0) (by omega)
          obtain⟨b_x,o_x,c_x,ha_x,_,hc_x,hR_x⟩:=hks.at he_x
          obtain rfl:=hR_x
          have hlt_x:b_x<_:=znV _ _ (hc_x 0 _ rfl)
          obtain⟨y,he_y,hm_y⟩:=gE_ ks (1) (by omega)
          obtain⟨b_y,o_y,c_y,ha_y,_,hc_y,hR_y⟩:=hks.at he_y
          obtain rfl:=hR_y
          have hlt_y:b_y<_:=znV _ _ (hc_y 0 _ rfl)
          have e:zj vs t.op t.n ks=(min x.1 y.1,min x.2 y.2):=by rw [zj,zo3 h0,zo3 h24,zo3 h6,zo3 h8,zo3 h9,zo3 h10,zo3 h11,zo3 h12,zo4 h21,zX he_x,zX he_y]
          refine Gs 1 O (Dw (fun q=>Ext w_r q) [19] (fun wd12 hD _=>?_))
          refine Ds [0] (by kernel_rfl) O (zld 1 O (by kernel_rfl) O O O (fun w1=>zkP tR245 ts226 O O ha_x (by omega)) (Ds [2] (by kernel_rfl) O (WD.take 3 O (by kernel_rfl) O O O hD (fun w1 hw1=>R.load tg3 O ((hw1.cells hc_x (fun h=>h)) 0 _ O)) (Ds [4] (by kernel_rfl) O (zld 5 O (by kernel_rfl) O O O (fun w1=>zkP tR245 ts226 O O ha_y (by omega)) (Ds [6] (by kernel_rfl) O (WD.take 7 O (by kernel_rfl) O O O hD (fun w1 hw1=>R.load tg3 O ((hw1.cells hc_y (fun h=>h)) 0 _ O)) ?_)))))))
          refine Ds [8,9] (by kernel_rfl) O (zld 10 O (by kernel_rfl) O O O (fun w1=>zkP tR245 ts226 O O ha_x (by omega)) (Ds [11] (by kernel_rfl) O (WD.take 12 O (by kernel_rfl) O O O hD (fun w1 hw1=>R.load tg3 O ((hw1.cells hc_x (fun h=>h)) 1 _ O)) (Ds [13] (by kernel_rfl) O (zld 14 O (by kernel_rfl) O O O (fun w1=>zkP tR245 ts226 O O ha_y (by omega)) (Ds [15] (by kernel_rfl) O (WD.take 16 O (by kernel_rfl) O O O hD (fun w1 hw1=>R.load tg3 O ((hw1.cells hc_y (fun h=>h)) 1 _ O)) ?_)))))))
          refine Ds [17] (by kernel_rfl) O (zld 18 O (by kernel_rfl) O O O (fun w1=>R.build (v:=.agg #[.int .i64 (min x.1 y.1),.int .i64 (min x.2 y.2)]) [(0,_),(1,_)] O (fun _=>by kernel_rfl)) (zkX 19 O (by kernel_rfl) O O (zkZ ts226 O O O O (by simp [Value.oneCell']) (hD.blk hB_r (fun h=>h)) (by simp)) ?_))
          rintro wf ⟨_,hBf,hkf⟩
          refine⟨fun h=>absurd (by simp) h,?_⟩
          refine zla (by kernel_rfl) ?_ _
          refine Gs 4 O (zky tr222 O (zo tg226 ts226 O hBf.cells) ?_)
          exact⟨_,rfl,by rw [e] <;> rfl,(hE.ext hD).trans hkf (fun q hq h=>by have h:q=r:=h;omega)⟩
         ·
          refine Gs 6 O (zk6 O (fun h22=>?_) (fun h22=>?_))
          ·
           have hl:=hn.k2 (by omega)
           obtain⟨x,he_x,hm_x⟩:=gE_ ks (0) (by omega)
           obtain⟨b_x,o_x,c_x,ha_x,_,hc_x,hR_x⟩:=hks.at he_x
           obtain rfl:=hR_x
           have hlt_x:b_x<_:=znV _ _ (hc_x 0 _ rfl)
           obtain⟨y,he_y,hm_y⟩:=gE_ ks (1) (by omega)
           obtain⟨b_y,o_y,c_y,ha_y,_,hc_y,hR_y⟩:=hks.at he_y
           obtain rfl:=hR_y
           have hlt_y:b_y<_:=znV _ _ (hc_y 0 _ rfl)
           have e:zj vs t.op t.n ks=(max x.1 y.1,max x.2 y.2):=by rw [zj,zo3 h0,zo3 h24,zo3 h6,zo3 h8,zo3 h9,zo3 h10,zo3 h11,zo3 h12,zo3 h21,zo4 h22,zX he_x,zX he_y]
           refine Gs 1 O (Dw (fun q=>Ext w_r q) [19] (fun wd13 hD _=>?_))
           refine Ds [0] (by kernel_rfl) O (zld 1 O (by kernel_rfl) O O O (fun w1=>zkP tR245 ts226 O O ha_x (by omega)) (Ds [2] (by kernel_rfl) O (WD.take 3 O (by kernel_rfl) O O O hD (fun w1 hw1=>R.load tg3 O ((hw1.cells hc_x (fun h=>h)) 0 _ O)) (Ds [4] (by kernel_rfl) O (zld 5 O (by kernel_rfl) O O O (fun w1=>zkP tR245 ts226 O O ha_y (by omega)) (Ds [6] (by kernel_rfl) O (WD.take 7 O (by kernel_rfl) O O O hD (fun w1 hw1=>R.load tg3 O ((hw1.cells hc_y (fun h=>h)) 0 _ O)) ?_)))))))
           refine Ds [8,9] (by kernel_rfl) O (zld 10 O (by kernel_rfl) O O O (fun w1=>zkP tR245 ts226 O O ha_x (by omega)) (Ds [11] (by kernel_rfl) O (WD.take 12 O (by kernel_rfl) O O O hD (fun w1 hw1=>R.load tg3 O ((hw1.cells hc_x (fun h=>h)) 1 _ O)) (Ds [13] (by kernel_rfl) O (zld 14 O (by kernel_rfl) O O O (fun w1=>zkP tR245 ts226 O O ha_y (by omega)) (Ds [15] (by kernel_rfl) O (WD.take 16 O (by kernel_rfl) O O O hD (fun w1 hw1=>R.load tg3 O ((hw1.cells hc_y (fun h=>h)) 1 _ O)) ?_)))))))
           refine Ds [17] (by kernel_rfl) O (zld 18 O (by kernel_rfl) O O O (fun w1=>R.build (v:=.agg #[.int .i64 (max x.1 y.1),.int .i64 (max x.2 y.2)]) [(0,_),(1,_)] O (fun _=>by kernel_rfl)) (zkX 19 O (by kernel_rfl) O O (zkZ ts226 O O O O (by simp [Value.oneCell']) (hD.blk hB_r (fun h=>h)) (by simp)) ?_))
           rintro wf ⟨_,hBf,hkf⟩
           refine⟨fun h=>absurd (by simp) h,?_⟩
           refine zla (by kernel_rfl) ?_ _
           refine Gs 4 O (zky tr222 O (zo tg226 ts226 O hBf.cells) ?_)
           exact⟨_,rfl,by rw [e] <;> rfl,(hE.ext hD).trans hkf (fun q hq h=>by have h:q=r:=h;omega)⟩
          ·
           have hbase:¬ (t.op=23\/t.op=25)->zj vs t.op t.n ks=(0,1):=fun h=>by rw [zj,zo3 h0,zo3 h24,zo3 h6,zo3 h8,zo3 h9,zo3 h10,zo3 h11,zo3 h12,zo3 h21,zo3 h22,zo3 h]
           refine Gs 7 O (zkk (σ:=Bool) (fun p=>[(2,.slice ak ks.length nk),(6,.pointer (some ⟨r,0,none⟩)),(200,.bool p)]) (fun p=>fun w'=>(p=true ↔ t.op=23\/t.op=25)/\w'=w_r) ?_ ?_)
           ·
            refine zk6 O (fun h23=>?_) (fun h23=>?_)
            . refine Gs 1 O (zkm (decide (t.op=23)) (Sub.cons O (Sub.cons O (Sub.cons (by first | rfl | (show some (Value.bool true)=some (Value.bool _);simp [*])) Sub.nil))) (⟨by simp [h23],rfl⟩))
            . refine Gs 4 O (zkm (decide (t.op=25)) (zlO O) (⟨by simp [h23],rfl⟩))
           rintro p w2 ⟨hp,hw2⟩
           subst hw2
           refine Gs 1 O (G.bool O (fun p1=>?_) (fun p1=>?_))
           ·
            have hl:=hn.k3 (hp.1 p1)
            obtain⟨y,he_y,hm_y⟩:=gE_ ks (1) (by omega)
            obtain⟨b_y,o_y,c_y,ha_y,_,hc_y,hR_y⟩:=hks.at he_y
            obtain rfl:=hR_y
            have hlt_y:b_y<_:=znV _ _ (hc_y 0 _ rfl)
            have e:zj vs t.op t.n ks=yE y (ks.drop 2):=by rw [zj,zo3 h0,zo3 h24,zo3 h6,zo3 h8,zo3 h9,zo3 h10,zo3 h11,zo3 h12,zo3 h21,zo3 h22,zo4 (hp.1 p1),zX he_y]
            have hdr:=hks.drop 2 (by omega)
            have hdl:(ks.drop 2).length=ks.length - 2:=List.length_drop
            refine Gs 3 O (zm1 O O (zkP tR245 ts226 O O ha_y (by omega)) (zm7 O tg226 ts226 hc_y O (G.mem O O (M.alloc (cs:=_) tz226 O) ?_)))
            rintro _ wa14 ⟨o,rfl,hg_o,hs_o,hB_o,hk_o⟩
            refine zkY O (zkZ ts226 O O O O (by simp [Value.oneCell']) hB_o (by simp)) ?_
            rintro w_o ⟨_,hB_o,hkk_o⟩
            replace hk_o:=hk_o.trans hkk_o (fun q hq h=>by have h:q=o:=h;omega)
            have hn_b_o:b ≠ o:=by have:=hB_b.lt;omega
            have hn_r_o:r ≠ o:=by have:=hB_r.lt;omega
            have hge_o:_<=o:=znZ hE.size (Nat.le_of_eq hg_o.symm)
            obtain⟨hE,hvs,hks,hB_b,hB_r,hc_y⟩:=Tr6 hk_o hE hvs hks hB_b hB_r hc_y
            refine Gs 6 O (zm1 O O (zkS tR245 ts226 O O (by omega)) (Gs 5 O (G.loop (σ:=Nat) (fun k=>[(6,.pointer (some ⟨r,0,none⟩)),(9,.pointer (some ⟨o,0,none⟩)),(207,.slice (if nk=2 then ak else ak.map (·.add (2*2))) (ks.length - 2) (nk - 2)),(208,.int .i64 (ks.length - 2:Nat)),(209,.int .i64 k)]) (fun k=>fun w'=>k<=ks.length - 2/\Blk w' o [.int .i64 (yE y ((ks.drop 2).take k)).1,.int .i64 (yE y ((ks.drop 2).take k)).2] 226/\Keep (fun q=>q=o) w_o w') (fun k=>ks.length - 2 - k) (0) (zlO O) (⟨zo8 _,hB_o,Keep.refl _ _⟩) ?_)))
            rintro k w1 ⟨hk,hB_o,hk1⟩
            refine Gs 6 O (zk6 O (fun hlt=>?_) (fun hlt=>?_))
            ·
             obtain⟨z,he_z,hm_z⟩:=gE_ (ks.drop 2) (k) (by omega)
             obtain⟨b_z,o_z,c_z,ha_z,_,hc_z,hR_z⟩:=hdr.at he_z
             obtain rfl:=hR_z
             have hlt_z:b_z<_:=znV _ _ (hc_z 0 _ rfl)
             replace hc_z:=hk1.cells (hk_o.cells hc_z (fun h=>h)) (show b_z ≠ o by omega)
             refine Gs 6 O (zm1 O O (zkP tR245 ts226 O O ha_z (by omega)) (zm7 O tg226 ts226 hc_z O (G.mem O O (M.alloc (cs:=_) tz226 O) ?_)))
             rintro _ wa ⟨c,rfl,hg_c,hs_c,hB_c,hk_c⟩
             refine zkY O (zkZ ts226 O O O O (by simp [Value.oneCell']) hB_c (by simp)) ?_
             rintro w3 ⟨_,hB_c,hk3⟩
             have hk13:Ext w1 w3:=hk_c.trans hk3 (fun q hq h=>by have h:q=c:=h;omega)
             replace hB_o:=hk13.blk hB_o (fun h=>h)
             refine Gs 3 O (zm7 O tg226 ts226 hB_o.cells O (zm7 O tg226 ts226 hB_c.cells O (G.call O Tryz.call236 (zf7 (yE y ((ks.drop 2).take k)) z w3) ?_)))
             rintro _ w4 ⟨rfl,hk4⟩
             refine zkY O (zkZ ts226 O O O O (by simp [Value.oneCell']) (hk4.blk hB_o (fun h=>h)) (by simp)) ?_
             rintro w5 ⟨_,hB5,hk5⟩
             refine Ga 7 O (by omega) (zkh (k+1) (zlO O) (⟨by omega,?_,(hk1.ext (hk13.ext hk4)).trans hk5 (fun _ _ h=>h)⟩) (by first | omega | (dsimp only;omega)))
             rw [jW he_z]
             exact hB5
            ·
             have hkk:k=ks.length - 2:=by omega
             have hr1:=hk1.blk hB_r hn_r_o
             rw [hkk,<- hdl,znY,<- e] at hB_o
             refine Gs 7 O (zm7 O tg226 ts226 hB_o.cells O (zkY O (zkZ ts226 O O O O (by simp [Value.oneCell']) hr1 (by simp)) ?_))
             rintro wf ⟨_,hBf,hkf⟩
             refine Gs 5 O (zky tr222 O (zo tg226 ts226 O hBf.cells) ?_)
             exact⟨_,rfl,rfl,(hE.trans hk1 (fun q hq h=>by have h:q=o:=h;omega)).trans hkf (fun q hq h=>by have h:q=r:=h;omega)⟩
           ·
            have e:=hbase (fun h=>by rw [hp.2 h] at p1;cases p1)
            refine Gs 5 O (zm1 O O (R.build (v:=.agg #[.int .i64 0,.int .i64 1]) [(0,_),(1,_)] O (fun _=>by kernel_rfl)) (zkY O (zkZ ts226 O O O O (by simp [Value.oneCell']) hB_r (by simp)) ?_))
            rintro wf ⟨_,hBf,hkf⟩
            refine Gs 3 O (zky tr222 O (zo tg226 ts226 O hBf.cells) ?_)
            exact⟨_,rfl,by rw [e] <;> rfl,hE.trans hkf (fun q hq h=>by have h:q=r:=h;omega)⟩
end Go.Proofs.YtaenledoagbddaaGreatDoor
namespace Go.GL.Gr
def okE (n:Int) (e:Int × Int):Bool:=decide (0<=e.1/\e.1<n)&&decide (0<=e.2/\e.2<n)
def check (n:Int) (es:List (Int × Int)):Int:=if n<0 then 1 else if 4096<n\/1048576<es.length then 4 else if es.all (okE n) then 0 else 3
end Go.GL.Gr
namespace Go.Proofs.YtaenledoagbddaaGreatDoor
open Go.GL
def ziP (e:Int × Int):List Value:=[.int .i64 e.1,.int .i64 e.2]
theorem zgL (e:Int × Int):(ziP e).length=2:=rfl
theorem zgM (e:Int × Int):∀ u ∈ ziP e,u.oneCell'=true:=by simp [ziP,Value.oneCell']
end Go.Proofs.YtaenledoagbddaaGreatDoor
