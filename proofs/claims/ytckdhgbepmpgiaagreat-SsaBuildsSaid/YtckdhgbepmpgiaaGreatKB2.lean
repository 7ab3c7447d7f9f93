/-
  Contracts and the mathematics that the proof needs. Nothing here is a claim.
-/
import Derived.Test.YtckdhgbepmpgiaaGreatKB1
theorem j2 {p:Prop}(h:p:=by exact Sub.of O):p:=h
theorem j3 {p:Prop}(h:p:=by exact Has.of O):p:=h
theorem j4 {p:Prop}(h:p:=by first | exact zu tO | exact zv tO | exact zi tO):p:=h
theorem j6 {p:Prop}(h:p:=by first | exact za | rfl):p:=h
theorem iA {p:Prop}(h:p:=by exact fun _ _=>rfl):p:=h
theorem iE {p:Prop}(h:p:=by exact zoY tr128 O O (fun w hI=>⟨_,rfl,⟨_,_,rfl,by grind [zR]⟩,hI.k0⟩)):p:=h
theorem iL {p:Prop}(h:p:=by rw[hC,show zS vs inp t.op t.n=false by grind [zS]];rfl):p:=h
theorem iR {p:Prop}(h:p:=by exact Tr1 hI.k0 da):p:=h
theorem iS {p:Prop}(h:p:=by exact fun w hI=>⟨_,rfl,tD,hI.k0⟩):p:=h
theorem iV {p:Prop}(h:p:=by exact Tr1 hI.k0 hY):p:=h
theorem iW {p:Prop}(h:p:=by exact xo (by grind [zW])):p:=h
theorem iY {p:Prop}(h:p:=by exact zp4 tr129 tg159 ts159 O O O (fun w hI=>⟨_,rfl,by simp[zk,at2,dz,da,p0,p1],hI.k0⟩)):p:=h
theorem io {p:Prop}(h:p:=by exact xo (by unfold okB qy;grind)):p:=h
theorem ip {p:Prop}(h:p:=by exact Tr1 hI.k0 dc):p:=h
theorem i5 {p:Prop}(h:p:=by exact show ¬ s.act=4 by omega):p:=h
theorem i6 {p:Prop}(h:p:=by exact Tr1 hI.k0 dg):p:=h
theorem i7 {p:Prop}(h:p:=by exact fun w hI=>yg _ _ w):p:=h
theorem i9 {p:Prop}(h:p:=by exact zr9 0 tr150 O O (by grind [zR])):p:=h
theorem y7 {p:Prop}(h:p:=by exact Tr1 hI.k0 db):p:=h
theorem y8 {p:Prop}(h:p:=by unfold zb3;congr 1;grind):p:=h
theorem JA {p:Prop}(h:p:=by exact fun w hI=>yl _ _ w):p:=h
theorem JC {p:Prop}(h:p:=by exact xo (by unfold qy;grind)):p:=h
theorem JF {p:Prop}(h:p:=by exact ⟨zt6 _,rfl⟩):p:=h
theorem JP {p:Prop}(h:p:=by rw[yz];exact ztg _):p:=h
theorem JT {p:Prop}(h:p:=by exact RTm.put (Tr1 hI.k0 hk)):p:=h
theorem JV {p:Prop}(h:p:=by exact VD.done tK (Vs 2 O (zp7 results89 tg159 ts159 O O O O (fun w hI=>⟨_,rfl,⟨p.1,p.2,tD,hC⟩,hI.k0⟩)))):p:=h
theorem JY {p:Prop}(h:p:=by exact xo (by unfold kB;grind)):p:=h
theorem Ja {p:Prop}(h:p:=by exact zoY tr151 O O (fun w hI=>⟨_,rfl,⟨_,_,rfl,by simp[zk,okR,h0];omega,fun h=>by cases h⟩,hI.k0⟩)):p:=h
theorem Jg {p:Prop}(h:p:=by grind [zS]):p:=h
theorem Js {p:Prop}(h:p:=by exact zp4 tr129 tg159 ts159 O O O (fun w hI=>⟨_,rfl,by simp[zk,at2,dA,db,da,p0,p1],hI.k0⟩)):p:=h
theorem Jt {p:Prop}(h:p:=by rw[zcl,zt4 (fun h=>tO)]):p:=h
theorem J4 {p:Prop}(h:p:=by exact fun x _=>rfl):p:=h
theorem J9 {p:Prop}(h:p:=by exact xo (by unfold okB;grind)):p:=h
theorem UL {p:Prop}(h:p:=by exact fun q hq h=>by have h:q=g:=h;subst h;exact Wr.mk (hb.far _ rfl) hY zo1):p:=h
theorem UR {p:Prop}(h:p:=by exact ⟨(db.drop j).pick dg h9,h _ O dg (TgOk.none (hA.res h3 h4)) w1 db⟩):p:=h
theorem UV {p:Prop}(h:p:=by exact zp1 results111 O O O (fun w hI=>⟨_,rfl,⟨a,c,tD,dw⟩,hI.k1⟩)):p:=h
theorem UX {p:Prop}(h:p:=by exact zoY tr151 O O (fun w hI=>(same hI.k0 (by simp[zk,dG,x,y,p0,p1])))):p:=h
theorem Ua {p:Prop}(h:p:=by exact ⟨tO,tD⟩):p:=h
theorem Uf {p:Prop}(h:p:=by exact Sub.cons j4 j2):p:=h
theorem Ui {p:Prop}(h:p:=by exact Sub.cons (xQ O tO) (Sub.cons rfl j2)):p:=h
theorem Ut {p:Prop}(h:p:=by exact Sub.cons iW j2):p:=h
theorem U4 {p:Prop}(h:p:=by exact Sub.cons io j2):p:=h
theorem YD {p:Prop}(h:p:=by exact zr2 tc113 O (fun w hI=>yg 0 (b - 1) w) (Vs 12 O (zoY tr183 O O iS))):p:=h
theorem YF {p:Prop}(h:p:=by exact RTm.put iR):p:=h
theorem YO {p:Prop}(h:p:=by exact Sub.cons rfl j2):p:=h
open Go.Proofs.Tryz
variable {α σ:Type} {P:Go.Program} {T:Go.GL.Tab} {Z:Go.GL.Szs} {Q:Go.Exit->Go.Act->Go.World->Prop} {ks:List Go.GL.Fr} {env E1 env':Go.GL.Env} {A A1:Go.GL.Tgs} {H H1 Hs:Go.GL.Hp} {Bs B0:Go.GL.zn} {ops:Array Go.Oper} {v z vy v':Go.Value} {w w0 w1 w2 w':Go.World} {b o kk m id fuel d by' B i c k q a W0:Nat} {cs xs rv zs fs vs cs':List Go.Value} {R:Go.GL.Rel α} {D:Nat->Prop} {ao:Option Go.Addr} {l r':List α} {e':Go.GL.HE} {rest:List Go.Oper} {L:List Nat} {listed:Array Bool} {aft:Array Go.Edge} {g:Option (Nat × Bool)} {t e:Go.TypeId} {parts:Array (Nat × Go.Operand)} {x y:Go.Operand} {p:Prop} {enc:α->Go.Value} {rows:List (List α)} {kl kc:Go.IntKind} {f:Go.FuncId} {ts:Array Go.TypeId} {Hn:α->Go.GL.Hp} {Φ:Go.Value->α->Prop} {args:Array Go.Value} {ns ms:List Go.GL.Nd} {inp:Bool} {s:List (Int × Int)} {r:List Int}
namespace Go.GL
def zi5 (env:Env):List Nat->Option Env
 | []=>some []
 | k::r=>match get env k with
  | some v=>(match zi5 env r with
   | some l=>some ((k,v)::l)
   | none=>none)
  | none=>none
def zdb (H:Hp):List Nat->Option Hp
 | []=>some []
 | k::r=>match hget H k with
  | some v=>(match zdb H r with
   | some l=>some ((k,v)::l)
   | none=>none)
  | none=>none
def zi6 (A:Tgs):List Nat->Option Tgs
 | []=>some []
 | k::r=>match tgt A k with
  | some v=>(match zi6 A r with
   | some l=>some ((k,some v)::l)
   | none=>none)
  | none=>none
theorem zee {H:Hp}:∀ {ks:List Nat} {H':Hp},zdb H ks=some H'->Has H' H
 | [],H',h=>by cases h;exact Has.nil
 | k::r,H',h=>by
  unfold zdb at h;split at h
  .
   rename_i v hv;split at h
   . rename_i l hl;cases h;exact Has.cons hv (zee hl)
   cases h
  cases h
section
variable {n:Fm} {pos:Pos}
theorem V.fr (k j:Nat) {c:Value} (hn:(hget H k).isNone=true) (hp:Bs[j]?=some (w,fun _=>False)) (hc:Cells w b o (c::cs)) (h:V P n Q ks pos env A ((k,.fro b o (c::cs))::H) Bs):V P n Q ks pos env A H Bs :=
 V.fro k (by simpa using hn) (zsS hp) (zsT _ _ (hc 0 c rfl)) (fun h=>h) hc h
theorem zrg (k j:Nat) {S:Nat->Prop} {c:Value} (hn:(hget H k).isNone=true) (hp:Bs[j]?=some (w,S)) (hS:¬ S b) (hc:Cells w b o (c::cs)) (h:V P n Q ks pos env A ((k,.fro b o (c::cs))::H) Bs):V P n Q ks pos env A H Bs :=
 V.fro k (by simpa using hn) (zsS hp) (zsT _ _ (hc 0 c rfl)) hS hc h
theorem zrh {S:Nat->Prop} {cap:Nat} (k j i:Nat) (hi:i<l.length) (hl:SlR kk R D w (.slice ao m cap) l) (hn:(hget H k).isNone=true) (hp:Bs[j]?=some (w,S)) (hk:Nat.blt 0 kk=true) (hS:∀ b,D b->S b->False)
  (h:∀ x b o cs,l[i]?=some x->x ∈ l->ao=some ⟨b,o,none⟩->D b->R D w x cs->V P n Q ks pos env A ((k,.fro b (o+i*kk) cs)::H) Bs):V P n Q ks pos env A H Bs:=by
 obtain⟨x,hx⟩:∃ x,l[i]?=some x:=⟨_,zsR hi⟩;obtain⟨ao',cap',h1,h2,h3,h4⟩:=hl;cases h1;obtain⟨b,o,cs,h5,h6,h7,h8,h9⟩:=h4 i x hx;have h0:=h x b o cs hx (zsS hx) h5 h6 h9
 match cs,h7 with
 | [],h7=>rw[<- h7]at hk;cases hk
 | c::cs,_=>exact zrg k j hn hp (hS b h6) h8 h0
theorem zri {cap:Nat} (k j i:Nat) (hi:i<l.length) (hl:SlR kk R D w (.slice ao m cap) l) (hn:(hget H k).isNone=true) (hp:Bs[j]?=some (w,fun _=>False)) (hk:Nat.blt 0 kk=true)
  (h:∀ x b o cs,l[i]?=some x->x ∈ l->ao=some ⟨b,o,none⟩->R D w x cs->V P n Q ks pos env A ((k,.fro b (o+i*kk) cs)::H) Bs):V P n Q ks pos env A H Bs :=
 zrh k j i hi hl hn hp hk (fun _ _ h=>h) fun x b o cs h1 h2 h3 _ h5=>h x b o cs h1 h2 h3 h5
theorem zrj {cap:Nat} {l:List Int} (k j i:Nat) (hi:i<l.length) (hl:SlR 1 zG D w (.slice ao m cap) l) (hn:(hget H k).isNone=true) (hp:Bs[j]?=some (w,fun _=>False))
  (h:∀ x b o,l[i]?=some x->x ∈ l->ao=some ⟨b,o,none⟩->V P n Q ks pos env A ((k,.fro b (o+i*1) [.int .i64 x])::H) Bs):V P n Q ks pos env A H Bs :=
 zri k j i hi hl hn hp rfl fun x b o cs h1 h2 h3 h5=>by
  obtain rfl:cs=[.int .i64 x]:=h5;exact h x b o h1 h2 h3
theorem V.dat [Dt R] (k j:Nat) {S:Nat->Prop} (hn:(hget H k).isNone=true) (hp:Bs[j]?=some (w0,S)) (hk:Nat.blt 0 kk=true) (hd:SlR kk R D w0 v l) (hS:∀ b,D b->b<w0.heap.size->¬ S b)
  (h:V P n Q ks pos env A ((k,.dat (fun b=>D b/\b<w0.heap.size) (fun w=>SlR kk R (fun b=>D b/\b<w0.heap.size) w v l))::H) Bs):V P n Q ks pos env A H Bs :=
 fun hA w' hI=>h (hA.new (by simpa using hn)) w' (by
  have h1:=hI.dat k (p:=(w0,S)) (zsS hp) (show 0<kk by simpa[Nat.blt_eq] using hk) hd hS
  exact h1)
theorem zrk (k:Nat) {e:HE} (hg:hget H k=some e) (he:e=e') (h:V P n Q ks pos env A (hset H k e') Bs):V P n Q ks pos env A H Bs:=by
 subst he;intro hA w hI
 have hh:∀ (H:Hp),hget H k=some e->hset H k e=H:=by
  intro H;induction H with
  | nil=>intro h;cases h
  | cons x r ih =>
   obtain⟨k',e'⟩:=x;intro h;simp only[hget]at h;simp only[hset];cases hb:Nat.beq k' k with
   | true=>rw[hb]at h;cases h;rfl
   | false=>rw[hb]at h;simp only[cond_false];rw[ih h]
 rw[hh H hg]at h;exact h hA w hI
theorem zrl (es hs ts:List Nat) (_hp:(zi5 env es,zdb H hs,zi6 A ts)=(some E1,some H1,some A1)) (env':Env->σ->Env) (H':Hp->σ->Hp) (I:σ->Prop) (μ:σ->Nat) {c:Code} (s₀:σ) (h₀:Sub (env' E1 s₀) env) (hH:Has (H' H1 s₀) H) (hu:∀ s,xX ((H' H1 s).map (·.1))=true)
  (hC:∀ s,A1.map (fun p=>zd7 (env' E1 s) p.1)=A1.map (fun p=>jw (H' H1 s) p.2)) (hY:∀ s,A1.all (fun p=>(jw (H' H1 s) p.2).isSome)=true) (hI:I s₀)
  (h:∀ s,I s->V P n Q (.k (zmf n (env' E1) (fun s w=>I s/\VI Bs (H' H1 s) w) μ (μ s))::ks) (.c c) (env' E1 s) A1 (H' H1 s) Bs):V P n Q ks (.c (.loop c)) env A H Bs :=
 V.loop (env' E1) A1 (H' H1) I μ s₀ h₀ hH hu (fun s=>⟨hC s,hY s⟩) hI h
theorem zrm (es hs ts:List Nat) (_hp:(zi5 env es,zdb H hs,zi6 A ts)=(some E1,some H1,some A1)) (env':Env->σ->Env) (H':Hp->σ->Hp) (I:σ->Prop) {c:Code}
  (hC:∀ s,A1.map (fun p=>zd7 (env' E1 s) p.1)=A1.map (fun p=>jw (H' H1 s) p.2)) (hY:∀ s,A1.all (fun p=>(jw (H' H1 s) p.2).isSome)=true)
  (h:V P n Q (.k (zhY n (env' E1) (fun s w=>I s/\VI Bs (H' H1 s) w))::ks) (.c c) env A H Bs) (hk:∀ s,I s->V P n Q ks (.e .normal) (env' E1 s) A1 (H' H1 s) Bs):V P n Q ks (.c c) env A H Bs :=
 V.cut (env' E1) A1 (H' H1) I (fun s=>⟨hC s,hY s⟩) h hk
theorem zrn {l:List Oper} (hs L:List Nat) (hm:P.follows .mixedOrders=true) (hp:zdb H hs=some Hs) (h:VD P n Q ks l.toArray Hs Bs L l.length (Array.replicate l.length false) env A H Bs):V P n Q ks (.c (.region id l.toArray true)) env A H Bs:=zpF Hs L hm (zee hp) h
end
def zor:List Value->List Value->Option (List Value)
 | [],l=>some l
 | u::us,l=>match zor us l with
  | some r=>some (u::r)
  | none=>none
def zb2:List Value->Option (List Value)
 | []=>some []
 | v::r=>match zg6 v with
  | some us=>(match zb2 r with
   | some l=>zor us l
   | none=>none)
  | none=>none
def zns:Value->List Value
 | .agg ⟨l⟩=>l
 | v=>[v]
def zkg (places:List (Nat × Nat)):List Value->List (Nat × Value)->Option (List Value)
 | cs,[]=>some cs
 | cs,(i,v)::r=>match nth places i with
  | some (off,_)=>(match wrE (zns v) off cs with
   | some cs'=>zkg places cs' r
   | none=>none)
  | none=>none
section
variable {n:Fm} {pos:Pos}
variable {op:Op} {ty:TypeId} {ps:String}
theorem zro (k:Nat) {len:Nat} (vs:List (Nat × Value)) (hu:∀ w,(underlying t).run P w=.ok (.slice e) w) (hs:∀ w,(sizeOf e).run P w=.ok kk w) (hz:∀ w,(zeroValue e).run P w=.ok z w)
  (hC:len*kk ≠ 0/\len*kk<=16777216) (hn:(Nat.blt d n,gd ops env g,(hget H k).isNone,parts.toList.map (fun p=>(p.1,ev env p.2)))=(true,some true,true,vs.map (fun p=>(p.1,some p.2)))) (_hcs:zb2 (vs.map (·.2))=some cs) (hf:Instr.fill (fun i=>some (i*kk,kk)) ((Array.range (len*kk)).map (z.cells[· % z.cells.size]!)) vs=some cs.toArray)
  (h:∀ b,V P n Q ks (.o ops rest) ((d,.slice (some ⟨b,0,none⟩) len len)::env) ((d,none)::A) ((k,.own b cs e)::H) Bs):V P n Q ks (.o ops (⟨some d,.buildSlice t len parts,ty,ps,aft,g⟩::rest)) env A H Bs:=by
 simp only[Prod.mk.injEq]at hn;exact zqJ k (u:=fun b=>.slice (some ⟨b,0,none⟩) len len) tD (fun _ _=>M.buildSlice vs hu hs hz hC hn.2.2.2 hf) h
theorem zrr (k:Nat) (enc:α->List Value) (hc:∀ x,(enc x).length=kk) (h1:∀ x,∀ u ∈ enc x,u.oneCell'=true) (hR:∀ D w x cs,R D w x cs->cs=enc x)
  (hu:P.underlying t=some (.slice e)) (he:(P.info? e).map (fun i=>(i.zero,i.size,i.bytes))=some (some z,kk,by')) (da:z.cells.size=kk) (db:0<kk) (hn:(Nat.blt d n,gd ops env g,hget H k,ev env x,ev env y)=(true,some true,some (.row e kk v m xs),some v,some vy))
  (hC:∀ w,VI Bs H w->∃ D,SlR kk R D w vy l) (hY:m+l.length<=9223372036854775807) (dc:(m+l.length)*by'<=140737488355328)
  (h:∀ u,V P n Q ks (.o ops rest) ((d,u)::env) ((d,none)::A) (hset H k (.row e kk u (m+l.length) (xs++l.flatMap enc))) Bs):V P n Q ks (.o ops (⟨some d,.call ⟨.builtin .append,#[x,y],#[t,t]⟩,ty,ps,aft,g⟩::rest)) env A H Bs:=by
 simp only[Prod.mk.injEq]at hn;obtain⟨h2,h3,h4,h5,h6⟩:=hn;intro hA w hI;obtain⟨D,hC⟩:=hC w hI;refine G.mem h2 h3 (zpR enc hc h1 (fun x cs=>hR D w x cs) hu he da db h5 h6 hC (hI.at k h4) hY dc) ?_;rintro u w' ⟨ho,hf,hk⟩;refine h u (TgOk.none (hA.res h4 ?_)) w' (hI.set h4 hk ho trivial (fun _ h=>h) (fun q hq=>⟨?_,xB ho hq⟩))
 . simp[qK,h4]
 rcases hf with hf | ⟨g',hf,dg⟩
 . exact .inl x9
 have hq:u.ownBlock=some q:=hq
 grind
theorem zrt (k:Nat) (hu:∀ w,(underlying t).run P w=.ok (.slice e) w) (hs:∀ w,(sizeOf e).run P w=.ok kk w) (hn:(Nat.blt d n,gd ops env g,(hget H k).isNone)=(true,some true,true))
  (h:∀ b,V P n Q ks (.o ops rest) ((d,.slice (some ⟨b,0,none⟩) 0 0)::env) ((d,none)::A) ((k,.row e kk (.slice (some ⟨b,0,none⟩) 0 0) 0 [])::H) Bs):V P n Q ks (.o ops (⟨some d,.buildSlice t 0 #[],ty,ps,aft,g⟩::rest)) env A H Bs:=by
 simp only[Prod.mk.injEq,zw1]at hn;refine fun hA w hI=>G.mem hn.1 hn.2.1 (zpP hu hs) ?_;rintro _ w' ⟨b,rfl,hb,hC,hB,hk⟩;refine h b (TgOk.none (hA.new hn.2.2)) w' (hI.new hk k ?_ trivial (fun _ h=>h) (fun q hq=>?_))
 .
  have:=zN (k:=kk) (n:=0) (cap:=0) hB (ztg _) tO tR;show w'.ownsRow 0 e kk _ 0 []
  grind
 have hq:some b=some q:=hq
 grind
theorem zru {l:List Value} (zs:List Value) (places:List (Nat × Nat)) (vs:List (Nat × Value)) (hn:(Nat.blt d n,gd ops env g,parts.toList.map (fun p=>(p.1,ev env p.2)))=(true,some true,vs.map (fun p=>(p.1,some p.2)))) (_hl:zkg places zs vs=some l) (hb:∀ w,(Instr.build t vs.toArray).run P w=.ok (.agg l.toArray) w)
  (h:V P n Q ks (.o ops rest) ((d,.agg l.toArray)::env) ((d,none)::A) H Bs):V P n Q ks (.o ops (⟨some d,.build t parts,ty,ps,aft,g⟩::rest)) env A H Bs:=by
 simp only[Prod.mk.injEq]at hn;exact zqh tD (fun _ _=>R.build vs hn.2.2 hb) h
theorem zrx (i:Nat) (hi:ops[i]?=some ⟨some d,op,ty,ps,aft,g⟩) (hc:ze6 ops [i] listed=true) (hn:(Nat.blt d n,gd ops env g)=(true,some true)) (hr:∀ w,yu P ⟨some d,op,ty,ps,aft,g⟩ env w v w)
  (h:VD P n Q ks ops Hs B0 L fuel (listed.setIfInBounds i true) ((d,v)::env) ((d,none)::A) H Bs):VD P n Q ks ops Hs B0 L (fuel+1) listed env A H Bs:=by
 simp only[Prod.mk.injEq]at hn;unfold ze6 at hc;rw[ztA]at hc;exact fun hH hA w hI=>zqu i hi hc.1 O hn.1 (.inl ⟨xW hn.2,fun w' nn a hC=>hr w' nn a hC⟩) (h hH hA.none w hI)
theorem zrv (i:Nat) {l:List Value} (zs:List Value) (places:List (Nat × Nat)) (vs:List (Nat × Value)) (hi:ops[i]?=some ⟨some d,.build t parts,ty,ps,aft,g⟩) (hc:ze6 ops [i] listed=true) (hn:(Nat.blt d n,gd ops env g,parts.toList.map (fun p=>(p.1,ev env p.2)))=(true,some true,vs.map (fun p=>(p.1,some p.2)))) (_hl:zkg places zs vs=some l) (hb:∀ w,(Instr.build t vs.toArray).run P w=.ok (.agg l.toArray) w)
  (h:VD P n Q ks ops Hs B0 L fuel (listed.setIfInBounds i true) ((d,.agg l.toArray)::env) ((d,none)::A) H Bs):VD P n Q ks ops Hs B0 L (fuel+1) listed env A H Bs:=by
 simp only[Prod.mk.injEq]at hn;exact zrx i hi hc tD (fun _=>R.build vs hn.2.2 hb) h
theorem zrp (i k j:Nat) {len:Nat} (vs:List (Nat × Value)) (hu:∀ w,(underlying t).run P w=.ok (.slice e) w) (hs:∀ w,(sizeOf e).run P w=.ok kk w) (hz:∀ w,(zeroValue e).run P w=.ok z w)
  (hC:len*kk ≠ 0/\len*kk<=16777216) (hi:ops[i]?=some ⟨some d,.buildSlice t len parts,ty,ps,aft,g⟩) (hr:Region.ready .any ops listed=[i]) (hn:(Nat.blt d n,gd ops env g,(hget H k).isNone,xX (Hs.map (·.1)),parts.toList.map (fun p=>(p.1,ev env p.2)),Bs.drop j)=(true,some true,true,true,vs.map (fun p=>(p.1,some p.2)),B0)) (_hcs:zb2 (vs.map (·.2))=some cs) (hf:Instr.fill (fun i=>some (i*kk,kk)) ((Array.range (len*kk)).map (z.cells[· % z.cells.size]!)) vs=some cs.toArray)
  (h:∀ b,VD P n Q ks ops Hs B0 L fuel (listed.setIfInBounds i true) ((d,.slice (some ⟨b,0,none⟩) len len)::env) ((d,none)::A) ((k,.own b cs e)::H) Bs):VD P n Q ks ops Hs B0 L (fuel+1) listed env A H Bs:=by
 simp only[Prod.mk.injEq]at hn;exact zqK i k j (u:=fun b=>.slice (some ⟨b,0,none⟩) len len) hi hr tD hn.2.2.2.2.2 (fun _ _=>M.buildSlice vs hu hs hz hC hn.2.2.2.2.1 hf) h
theorem zqY (k:Nat) (hn:hget H k=some (.row t kk v m xs)) (hm:0<m) (h:∀ b c,v=.slice (some ⟨b,0,none⟩) m c->m<=c->VD P n Q ks ops Hs B0 L fuel listed env A H Bs):VD P n Q ks ops Hs B0 L fuel listed env A H Bs:=by
 intro hH hA w hI;have ho:w.ownsRow 0 t kk v m xs:=hI.at k hn;rcases ho.2 with⟨_,hC⟩ | ⟨b,cap,cur,hv,_,_,hc,_⟩
 . omega
 exact h b cap hv hc hH hA w hI
theorem zrs (i k j:Nat) (enc:α->List Value) (hc:∀ x,(enc x).length=kk) (h1:∀ x,∀ u ∈ enc x,u.oneCell'=true) (hR:∀ D w x cs,R D w x cs->cs=enc x)
  (hu:P.underlying t=some (.slice e)) (he:(P.info? e).map (fun i=>(i.zero,i.size,i.bytes))=some (some z,kk,by')) (dc:z.cells.size=kk) (dg:0<kk) (hi:ops[i]?=some ⟨some d,.call ⟨.builtin .append,#[x,y],#[t,t]⟩,ty,ps,aft,g⟩) (hr:Region.ready .any ops listed=[i]) (hB:Bs.drop j=B0)
  (hn:(Nat.blt d n,gd ops env g,hget H k,ev env x,ev env y,xX (Hs.map (·.1)),qm k (Hs.map (·.1)))=(true,some true,some (.row e kk v m xs),some v,some vy,true,true))
  (hC:∀ w,VI Bs H w->∃ D,SlR kk R D w vy l) (hY:m+l.length<=9223372036854775807) (dh:(m+l.length)*by'<=140737488355328)
  (h:∀ u,VD P n Q ks ops Hs B0 L fuel (listed.setIfInBounds i true) ((d,u)::env) ((d,none)::A) (hset H k (.row e kk u (m+l.length) (xs++l.flatMap enc))) Bs):VD P n Q ks ops Hs B0 L (fuel+1) listed env A H Bs:=by
 simp only[Prod.mk.injEq]at hn;subst hB;obtain⟨h2,h3,h4,h5,h6,h8,h9⟩:=hn;intro hH hA w hI;obtain⟨D,hC⟩:=hC w hI;refine zra i hi hr h2 h3 (.inl (zpR enc hc h1 (fun x cs=>hR D w x cs) hu he dc dg h5 h6 hC (hI.at k h4) hY dh)) ?_;rintro u w' ⟨ho,hf,hk⟩
 have da:VI Bs (hset H k (.row e kk u (m+l.length) (xs++l.flatMap enc))) w':=hI.set h4 hk ho trivial (fun _ h=>h) (fun q hq=>⟨by
  rcases hf with hf | ⟨g',hf,dl⟩
  . exact .inl x9
  .
   have hq:u.ownBlock=some q:=hq
   rw[hf]at hq;cases hq;exact .inr dl,xB ho hq⟩)
 have db:Has Hs (hset H k (.row e kk u (m+l.length) (xs++l.flatMap enc))):=hH.set h4 h9;exact⟨(da.drop j).pick db h8,h u db (TgOk.none (hA.res h4 (by simp[qK,h4]))) w' da⟩
end
section
variable {n:Fm} {A':Tgs}
theorem VD.one (hT:zq4 P T) (hZ:zq5 P Z) (i j:Nat) {op:Op} {ty:TypeId} {ps:String} {t:Option (Nat × Nat)} (hi:ops[i]?=some ⟨some d,op,ty,ps,aft,g⟩) (hr:Region.ready .any ops listed=[i]) (hn:(Nat.blt d n,gd ops env g,opV T Z env A H op,xX (Hs.map (·.1)))=(true,some true,some (none,v,t),true)) (hB:Bs.drop j=B0)
  (h:VD P n Q ks ops Hs B0 L fuel (listed.setIfInBounds i true) ((d,v)::env) ((d,t)::A) H Bs):VD P n Q ks ops Hs B0 L (fuel+1) listed env A H Bs:=by
 simp only[Prod.mk.injEq]at hn;subst hB;intro hH hA w hI;obtain⟨h1,h2⟩:=zcz (w:=w) (Bs:=Bs) hT hZ hn.2.2.1 hA;refine zra i hi hr hn.1 hn.2.1 (R:=fun u w'=>u=v/\w'=w) (.inl ⟨v,w,?_,rfl,rfl⟩) ?_
 . exact fun nn a ha=>h2 hI trivial (some d) ty ps aft nn a ha
 rintro _ _ ⟨rfl,rfl⟩;exact⟨(hI.drop j).pick hH hn.2.2.2,h hH (h1 d) _ hI⟩
end
end Go.GL
namespace Go.Proofs
open Go.GL
def Tryz.szs:Szs:=[(3,0),(27,0),(26,3),(169,2),(24,0),(70,3),(36,1),(30,2),(22,0),(72,10),(34,0),(159,2),(68,0),(89,0),(28,0),(66,0),(88,4),(94,0),(4,0),(100,0),(45,3),(142,5),(56,0),(63,0),(47,2),(65,4),(23,0),(59,3),(117,3),(126,2),(67,0),(85,2),(57,0),(109,6),(9,0),(262,0),(52,0),(124,0),(193,3),(121,0),(120,0),(195,0)]
theorem Tryz.szsOk:zq5 prog Tryz.szs :=
 zq9 (show Szs.one _ 3 0 from⟨tg3,ts3⟩) <|
 zq9 (show Szs.one _ 27 0 from⟨tg27,ts27⟩) <|
 zq9 (show Szs.one _ 26 3 from⟨tg26,ts26⟩) <|
 zq9 (show Szs.one _ 169 2 from⟨tg169,ts169⟩) <|
 zq9 (show Szs.one _ 24 0 from⟨tg24,ts24⟩) <|
 zq9 (show Szs.one _ 70 3 from⟨tg70,ts70⟩) <|
 zq9 (show Szs.one _ 36 1 from⟨tg36,ts36⟩) <|
 zq9 (show Szs.one _ 30 2 from⟨tg30,ts30⟩) <|
 zq9 (show Szs.one _ 22 0 from⟨isAgg22,sizeOf22⟩) <|
 zq9 (show Szs.one _ 72 10 from⟨tg72,ts72⟩) <|
 zq9 (show Szs.one _ 34 0 from⟨tg34,ts34⟩) <|
 zq9 (show Szs.one _ 159 2 from⟨tg159,ts159⟩) <|
 zq9 (show Szs.one _ 68 0 from⟨isAgg68,sizeOf68⟩) <|
 zq9 (show Szs.one _ 89 0 from⟨tg89,ts89⟩) <|
 zq9 (show Szs.one _ 28 0 from⟨isAgg28,sizeOf28⟩) <|
 zq9 (show Szs.one _ 66 0 from⟨isAgg66,sizeOf66⟩) <|
 zq9 (show Szs.one _ 88 4 from⟨isAgg88,ts88⟩) <|
 zq9 (show Szs.one _ 94 0 from⟨isAgg94,ts94⟩) <|
 zq9 (show Szs.one _ 4 0 from⟨tg4,ts4⟩) <|
 zq9 (show Szs.one _ 100 0 from⟨tg100,ts100⟩) <|
 zq9 (show Szs.one _ 45 3 from⟨isAgg45,sizeOf45⟩) <|
 zq9 (show Szs.one _ 142 5 from⟨tg142,ts142⟩) <|
 zq9 (show Szs.one _ 56 0 from⟨tg56,ts56⟩) <|
 zq9 (show Szs.one _ 63 0 from⟨isAgg63,sizeOf63⟩) <|
 zq9 (show Szs.one _ 47 2 from⟨tg47,ts47⟩) <|
 zq9 (show Szs.one _ 65 4 from⟨isAgg65,ts65⟩) <|
 zq9 (show Szs.one _ 23 0 from⟨isAgg23,sizeOf23⟩) <|
 zq9 (show Szs.one _ 59 3 from⟨isAgg59,ts59⟩) <|
 zq9 (show Szs.one _ 117 3 from⟨isAgg117,sizeOf117⟩) <|
 zq9 (show Szs.one _ 126 2 from⟨tg126,ts126⟩) <|
 zq9 (show Szs.one _ 67 0 from⟨isAgg67,sizeOf67⟩) <|
 zq9 (show Szs.one _ 85 2 from⟨isAgg85,ts85⟩) <|
 zq9 (show Szs.one _ 57 0 from⟨isAgg57,sizeOf57⟩) <|
 zq9 (show Szs.one _ 109 6 from⟨isAgg109,ts109⟩) <|
 zq9 (show Szs.one _ 9 0 from⟨tg9,ts9⟩) <|
 zq9 (show Szs.one _ 262 0 from⟨isAgg262,sizeOf262⟩) <|
 zq9 (show Szs.one _ 52 0 from⟨isAgg52,sizeOf52⟩) <|
 zq9 (show Szs.one _ 124 0 from⟨isAgg124,sizeOf124⟩) <|
 zq9 (show Szs.one _ 193 3 from⟨isAgg193,sizeOf193⟩) <|
 zq9 (show Szs.one _ 121 0 from⟨isAgg121,sizeOf121⟩) <|
 zq9 (show Szs.one _ 120 0 from⟨isAgg120,ts120⟩) <|
 zq9 (show Szs.one _ 195 0 from⟨isAgg195,sizeOf195⟩) <|
 zq7
end Go.Proofs
namespace Go.Proofs.YtckdhgbepmpgiaaGreat
open Go.GL
section
variable {n:Fm} {ks':List Fr} {pos pos':Pos} {A':Tgs} {H':Hp}
theorem Vs (k:Nat) (h:zeb Tryz.tab Tryz.szs n k none ks pos env A H=some (none,ks',pos',env',A',H')) (hr:V prog n Q ks' pos' env' A' H' Bs):V prog n Q ks pos env A H Bs:=V.go Tryz.tabOk Tryz.szsOk k h hr
theorem Va (k:Nat) (h:zeb Tryz.tab Tryz.szs n k none ks pos env A H=some (some p,ks',pos',env',A',H')) (hp:p) (hr:V prog n Q ks' pos' env' A' H' Bs):V prog n Q ks pos env A H Bs:=V.goA Tryz.tabOk Tryz.szsOk k h hp hr
theorem Vq {l:List Oper} (hB:Region.lexB .any l.toArray=true) (h:V prog n Q ks (.q l.toArray l) env A H Bs):V prog n Q ks (.c (.region id l.toArray true)) env A H Bs:=zpC Tryz.mixed hB h
theorem Vw {l:List Oper} (hs L:List Nat) (hp:zdb H hs=some Hs) (h:VD prog n Q ks l.toArray Hs Bs L l.length (Array.replicate l.length false) env A H Bs):V prog n Q ks (.c (.region id l.toArray true)) env A H Bs:=zrn hs L Tryz.mixed hp h
theorem Vd (is:List Nat) (j:Nat) (hc:zda ops L is listed=true) (hB:Bs.drop j=B0) (hv:zgY Tryz.tab Tryz.szs n ops Hs is none env A=some (none,env',A')) (hC:xX (Hs.map (·.1))=true) (h:VD prog n Q ks ops Hs B0 L fuel (ze5 is listed) env' A' H Bs):VD prog n Q ks ops Hs B0 L (addN is fuel) listed env A H Bs:=VD.ps Tryz.tabOk Tryz.szsOk is j hc hB hv hC h
theorem Vb (is:List Nat) (j:Nat) (hc:zda ops L is listed=true) (hB:Bs.drop j=B0) (hv:zgY Tryz.tab Tryz.szs n ops Hs is none env A=some (some p,env',A')) (hC:xX (Hs.map (·.1))=true) (hp:p) (h:VD prog n Q ks ops Hs B0 L fuel (ze5 is listed) env' A' H Bs):VD prog n Q ks ops Hs B0 L (addN is fuel) listed env A H Bs:=zqz Tryz.tabOk Tryz.szsOk is j hc hB hv hC hp h
theorem Ve (i j:Nat) {ty:TypeId} {ps:String} (hi:ops[i]?=some ⟨none,.store t x y,ty,ps,aft,g⟩) (hr:Region.ready .any ops listed=[i]) (hn:(gd ops env g,zaC Tryz.szs env A H t x y,xX (Hs.map (·.1)))=(some true,some H',true)) (hB:Bs.drop j=B0) (hC:Hs.map (fun x=>hget H' x.1)=Hs.map (fun x=>some x.2))
  (h:VD prog n Q ks ops Hs B0 L fuel (listed.setIfInBounds i true) env A H' Bs):VD prog n Q ks ops Hs B0 L (fuel+1) listed env A H Bs:=VD.st i j Tryz.szsOk hi hr hn hB hC h
theorem Vl (i:Nat) {ty:TypeId} {ps:String} (hi:ops[i]?=some ⟨none,.store t x y,ty,ps,aft,g⟩) (hr:Region.ready .any ops listed=[i]) (hn:(gd ops env g,zaC Tryz.szs env A H t x y,L.contains i)=(some true,some H',true))
  (h:VDx prog n Q ks ops (VI B0 Hs) L fuel (listed.setIfInBounds i true) env A H' Bs):VD prog n Q ks ops Hs B0 L (fuel+1) listed env A H Bs:=zre i Tryz.szsOk hi hr hn h
theorem Vx {S:World->Prop} (is:List Nat) (hc:ze6 ops is listed=true) (hv:zgY Tryz.tab Tryz.szs n ops [] is none env A=some (none,env',A')) (h:VDx prog n Q ks ops S L fuel (ze5 is listed) env' A' H Bs):VDx prog n Q ks ops S L (addN is fuel) listed env A H Bs:=zqx Tryz.tabOk Tryz.szsOk is hc hv h
theorem Vo (i j:Nat) {op:Op} {ty:TypeId} {ps:String} {t:Option (Nat × Nat)} (hi:ops[i]?=some ⟨some d,op,ty,ps,aft,g⟩) (hr:Region.ready .any ops listed=[i]) (hn:(Nat.blt d n,gd ops env g,opV Tryz.tab Tryz.szs env A H op,xX (Hs.map (·.1)))=(true,some true,some (none,v,t),true)) (hB:Bs.drop j=B0)
  (h:VD prog n Q ks ops Hs B0 L fuel (listed.setIfInBounds i true) ((d,v)::env) ((d,t)::A) H Bs):VD prog n Q ks ops Hs B0 L (fuel+1) listed env A H Bs:=VD.one Tryz.tabOk Tryz.szsOk i j hi hr hn hB h
end
end Go.Proofs.YtckdhgbepmpgiaaGreat
namespace Go.GL
theorem Mat.put {eo:TypeId} {bo:Nat} (h:Mat enc e eo B w bo rv rows) (hB:B<=w.heap.size) (hv:rv[i]?=some v)
  (db:w1.ownsRow 0 e 1 v' r'.length (r'.map enc)) (dl:v'.ownBlock=v.ownBlock\/∃ g,v'.ownBlock=some g/\w.heap.size<=g) (hk:Keep (fun q=>v.ownBlock=some q) w w1)
  (dm:zd4 w1 bo (rv.set i v') eo w2):Mat enc e eo B w2 bo (rv.set i v') (rows.set i r'):=by
 obtain⟨du,dr,dg⟩:=dm;have dw:=h.out.lt
 have hY:∀ g,v'.ownBlock=some g->B<=g/\g ≠ bo/\(v.ownBlock=some g\/w.heap.size<=g):=by
  intro g hg;rcases dl with h1 | ⟨g',h1,h2⟩
  .
   rw[h1]at hg;have:=h.far i v g hv hg
   grind
  grind
 have hi:i<rv.length:=(zt5.1 hv).1;refine⟨dr,by simp[h.len],?_,?_,?_⟩
 .
  intro j u s hu hs;by_cases hC:i=j
  .
   subst hC;rw[zuH hi]at hu;rw[zuH tD]at hs;cases hu;cases hs;exact zj db dg (fun g hg h=>tD)
  rw[zuG hC]at hu hs;have h1:=h.row j u s hu hs;have h2:=zj h1 hk (fun g hg dt=>h.apart i j v u g hC hv hu dt hg);exact zj h2 dg (fun g hg h'=>(h.far j u g hu hg).2 h')
 .
  intro j u g hu hg;by_cases hC:i=j
  .
   subst hC;rw[zuH hi]at hu;cases hu;exact⟨(hY g hg).1,(hY g hg).2.1⟩
  rw[zuG hC]at hu;exact h.far j u g hu hg
 intro j k u s g dc hu hs hg da;by_cases hC:i=j
 .
  subst hC;rw[zuH hi]at hu;rw[zuG dc]at hs;cases hu;rcases (hY g hg).2.2 with h1 | h1
  . exact h.apart i k v s g dc hv hs h1 da
  have:=h.blk hs da;omega
 rw[zuG hC]at hu;by_cases dh:i=k
 .
  subst dh;rw[zuH hi]at hs;cases hs;rcases (hY g da).2.2 with h1 | h1
  . exact h.apart i j v u g hC hv hu h1 hg
  have:=h.blk hu hg;omega
 rw[zuG dh]at hs;exact h.apart j k u s g dc hu hs hg da
open Go.RowKit
theorem zrz (w:World) (S:Nat->Prop):VI [(w,S)] [] w where
 holds:=fun _ h=>tD
 loc:=fun _ h=>tD
 apart:=List.Pairwise.nil
 froz:=fun _ h=>tD
 low:=fun _ h=>tD
 base:=fun p hp=>by
  rw[zt9]at hp;subst hp;exact⟨Keep.refl _ _,fun _ h=>tD⟩
theorem VI.add {e:HE} (h:VI Bs H w) (k:Nat) (he:e.holds w) (hl:e.loc) (hz:∀ b,¬ e.fz b) (hS:∀ q,e.S q->q<w.heap.size/\(∀ p ∈ Bs,p.2 q\/p.1.heap.size<=q)/\∀ x ∈ H,¬ x.2.S q/\¬ x.2.fz q):VI Bs ((k,e)::H) w:=by
 refine⟨?_,?_,?_,?_,?_,?_⟩
 .
  intro x hx;rcases zt7.1 hx with rfl | hx
  . exact he
  exact h.holds x hx
 .
  intro x hx;rcases zt7.1 hx with rfl | hx
  . exact hl
  exact h.loc x hx
 . exact zvh.2 ⟨fun x hx q hq hs=>((hS q hq).2.2 x hx).1 hs,h.apart⟩
 .
  intro x hx y hy b hb;rcases zt7.1 hx with rfl | hx
  . grind
  rcases zt7.1 hy with rfl | hy
  . grind
  exact h.froz x hx y hy b hb
 .
  intro x hx q hq;rcases zt7.1 hx with rfl | hx
  . grind
  exact h.low x hx q hq
 intro p hp;refine⟨(h.base p hp).1,fun x hx q hq=>?_⟩;rcases zt7.1 hx with rfl | hx
 . grind
 exact(h.base p hp).2 x hx q hq
structure RowsOk {α:Type} (enc:α->Value) (e:TypeId) (w:World) (rv:List Value) (rows:List (List α)):Prop where
 len:rv.length=rows.length
 row:∀ (i:Nat) (v:Value) (r:List α),rv[i]?=some v->rows[i]?=some r->w.ownsRow 0 e 1 v r.length (r.map enc)
 apart:∀ (i j:Nat) (vi vj:Value) (g:Nat),i ≠ j->rv[i]?=some vi->rv[j]?=some vj->vi.ownBlock=some g->vj.ownBlock ≠ some g
section
theorem RowsOk.blk (h:RowsOk enc e w rv rows) {g:Nat} (hv:rv[i]?=some v) (hg:v.ownBlock=some g):g<w.heap.size:=by
 have hi:i<rows.length:=by rw[<- h.len];exact(zt5.1 hv).1
 exact xB (h.row i v _ hv (zsR hi)) hg
theorem RowsOk.keep {S:Nat->Prop} (h:RowsOk enc e w rv rows) (hk:Keep S w w1) (hS:∀ (i:Nat) v g,rv[i]?=some v->v.ownBlock=some g->¬ S g):RowsOk enc e w1 rv rows :=
 ⟨h.len,fun i v r hv hr=>zj (h.row i v r hv hr) hk (fun g hg=>hS i v g hv hg),h.apart⟩
theorem RowsOk.put (h:RowsOk enc e w rv rows) (hv:rv[i]?=some v) (hY:w1.ownsRow 0 e 1 v' r'.length (r'.map enc)) (dr:v'.ownBlock=v.ownBlock\/∃ g,v'.ownBlock=some g/\w.heap.size<=g) (hk:Keep (fun q=>v.ownBlock=some q) w w1):RowsOk enc e w1 (rv.set i v') (rows.set i r'):=by
 have da:=(zt5.1 hv).1
 have dg:∀ (j:Nat) u g,i ≠ j->rv[j]?=some u->v'.ownBlock=some g->u.ownBlock ≠ some g:=by
  intro j u g hC hu hg dh;rcases dr with hf | ⟨g',hf,dl⟩
  . exact h.apart i j v u g hC hv hu (hf ▸ hg) dh
  rw[hf]at hg;cases hg;have:=h.blk hu dh;omega
 refine⟨by simp[h.len],fun j u r hu hr=>?_,fun a b va vb g db ha hb hg=>?_⟩
 .
  by_cases hC:i=j
  .
   subst hC;rw[zuH da]at hu;rw[zuH tD]at hr;cases hu;cases hr;exact hY
  rw[zuG hC]at hu hr;exact zj (h.row j u r hu hr) hk fun g hg hq=>h.apart i j v u g hC hv hu hq hg
 by_cases dc:i=a
 .
  subst dc;rw[zuH da]at ha;rw[zuG db]at hb;cases ha;exact dg b vb g db hb hg
 rw[zuG dc]at ha;by_cases dm:i=b
 .
  subst dm;rw[zuH da]at hb;cases hb;exact fun dl=>dg a va g dc ha dl hg
 rw[zuG dm]at hb;exact h.apart a b va vb g db ha hb hg
end
abbrev RowsP {α:Type} (enc:α->Value) (e:TypeId) (rv:List Value) (rows:List (List α)):HE:=.res (fun q=>∃ (i:Nat) (v:Value),rv[i]?=some v/\v.ownBlock=some q) (fun w=>RowsOk enc e w rv rows)
theorem RowsP.loc:(RowsP enc e rv rows).loc:=fun _ _ _ h hk hT=>h.keep hk fun i v g hv hg=>hT g (h.blk hv hg) ⟨i,v,hv,hg⟩
theorem zqS (h:Blk w b cs e) (hv:cs[i]?=some v):w.cell? ⟨b,0+(i:Int).toNat*1,none⟩=some v:=by
 have:=Blk.cells h i v hv
 grind
section
variable {n:Fm} {pos:Pos}
variable {op:Op} {ty:TypeId} {ps:String}
theorem zrA (k:Nat) (e:HE) (he:e.holds w) (hl:e.loc) (hz:∀ b,¬ e.fz b) (hS:∀ q,e.S q->q<w.heap.size) (h:V P n Q ks pos env [] [(k,e)] [(w,e.S)]):G P n Q ks pos env w :=
 h TgOk.nil w ((zrz w e.S).add k he hl hz fun q hq=>⟨hS q hq,fun p hp=>by rw[zt9]at hp;subst hp;exact .inl hq,fun x hx=>tD⟩)
theorem zrB (k:Nat) {e:HE} (hn:(hget H k,qK H k)=(some e,none)) (he:∀ w,VI Bs H w->e'.holds w) (hl:e'.loc) (hz:∀ b,¬ e'.fz b) (hS:∀ q,e'.S q->e.S q) (h:V P n Q ks pos env A (hset H k e') Bs):V P n Q ks pos env A H Bs:=by
 simp only[Prod.mk.injEq]at hn;exact fun hA w hI=>h (hA.res hn.1 hn.2) w (hI.set hn.1 i3 (he w hI) hl hz fun q hq=>⟨.inl (hS q hq),hI.low _ (zl hn.1) q (hS q hq)⟩)
theorem V.as (k:Nat) (hn:hget H k=some (.own b cs t)) (hA:A.all (fun p=>match p.2 with | some (j,_)=>!Nat.beq k j | none=>true)=true) (he:∀ w,Blk w b cs t->e'.holds w) (hl:e'.loc) (hz:∀ b,¬ e'.fz b) (hS:∀ q,e'.S q->q=b) (h:V P n Q ks pos env A (hset H k e') Bs):V P n Q ks pos env A H Bs:=by
 refine fun hC w hI=>h ?_ w (hI.set hn i3 (he w (hI.at k hn)) hl hz fun q hq=>⟨.inl (hS q hq),hI.low _ (zl hn) q (hS q hq)⟩);intro s j off hs;obtain⟨b',o,h1,h2⟩:=hC s j off hs
 have hY:Nat.beq k j=false:=by
  have:∀ (A:Tgs),A.all (fun p=>match p.2 with | some (j,_)=>!Nat.beq k j | none=>true)=true->tgt A s=some (j,off)->Nat.beq k j=false:=by
   intro A;induction A with
   | nil=>intro _ h;cases h
   | cons p r ih =>
    obtain⟨s0,gg⟩:=p;intro h3 h4;rw[List.all_cons,ztA]at h3;simp only[tgt]at h4;cases hb:Nat.beq s0 s with
    | true =>
     rw[hb]at h4;simp only[cond_true]at h4;subst h4;simpa using h3.1
    | false=>rw[hb]at h4;exact ih h3.2 h4
  exact this A hA hs
 refine⟨b',o,?_,h2⟩;unfold qK at h1 ⊢;rw[jM hn,hY];exact h1
theorem zrC (i:Nat) (hi:ops[i]?=some ⟨some d,op,ty,ps,aft,g⟩) (hc:(Region.noSelect ops&&Region.free .any ops listed i&&(Region.ready .any ops listed).contains i&&L.all (qX .any ops i)&&!L.contains i)=true) (hn:(Nat.blt d n,gd ops env g)=(true,some true)) (j:Nat) (hB:Bs.drop j=B0) (hu:xX (Hs.map (·.1))=true) (hr:∀ w,VI B0 Hs w->yu P ⟨some d,op,ty,ps,aft,g⟩ env w v w)
  (h:VD P n Q ks ops Hs B0 L fuel (listed.setIfInBounds i true) ((d,v)::env) ((d,none)::A) H Bs):VD P n Q ks ops Hs B0 L (fuel+1) listed env A H Bs:=by
 simp only[Prod.mk.injEq]at hn;subst hB;exact fun hH hA w hI=>zq3 i hi hc O hn.1 ((hI.drop j).pick hH hu) (.inl ⟨xW hn.2,hr⟩) (h hH hA.none w hI)
theorem zrD (i:Nat) {S:World->Prop} {op:Op} {R:World->Prop} (hi:ops[i]?=some ⟨none,op,ty,ps,aft,g⟩) (hr:Region.ready .any ops listed=[i]) (hg:gd ops env g=some true) (hL:L.contains i=true) (hm:xO P ⟨none,op,ty,ps,aft,g⟩ env w R)
  (h:∀ w',R w'->WD P n ops Q S L fuel (listed.setIfInBounds i true) env w'):WD P n ops Q S L (fuel+1) listed env w:=by
 intro a ha;refine⟨fun h0=>tD,fun k hk=>?_⟩;rw[hr]at hk;have:k=i:=tD;subst this;unfold wpOp;simp only[hi];rw[zt2 (xW hg a ha)];refine .inl ?_;obtain⟨w',hC,hR⟩:=hm;unfold Oper.wp;rw[hC n a ha,Oper.upon_skip];exact⟨fun hc _=>absurd tD hc,h w' hR _ ha.put0⟩
theorem zrE (ia k kb j i:Nat) {r:List α} {xx:α} {tb:TypeId}
  (hu:P.underlying t=some (.slice e)) (he:(P.info? e).map (fun i=>(i.zero,i.size,i.bytes))=some (some z,1,by')) (dh:z.cells.size=1)
  (hi:ops[ia]?=some ⟨some d,.call ⟨.builtin .append,#[x,y],#[t,t]⟩,ty,ps,aft,g⟩) (hr:Region.ready .any ops listed=[ia]) (hB:Bs.drop j=B0)
  (hn:(Nat.blt d n,gd ops env g,hget H k,qK H k,hget H kb,ev env x,ev env y,Go.GL.one (enc xx),xX (Hs.map (·.1)),qm k (Hs.map (·.1)))=(true,some true,some (RowsP enc e rv rows),none,some (.own b [enc xx] tb),some v,some (.slice (some ⟨b,0,none⟩) 1 c),true,true,true))
  (hv:rv[i]?=some v) (hC:rows[i]?=some r) (hb:r.length+1<=9223372036854775807/\(r.length+1)*by'<=140737488355328)
  (h:∀ u,Go.GL.one u=true->VD P n Q ks ops Hs B0 L fuel (listed.setIfInBounds ia true) ((d,u)::env) ((d,none)::A) (hset H k (RowsP enc e (rv.set i u) (rows.set i (r++[xx])))) Bs):VD P n Q ks ops Hs B0 L (fuel+1) listed env A H Bs:=by
 simp only[Prod.mk.injEq]at hn;subst hB;obtain⟨h1,h2,h3,h4,h5,h6,h7,h8,h9,dl⟩:=hn;intro hH hA w hI;have hM:RowsOk enc e w rv rows:=hI.at k h3;have dm:=(zt5.1 hv).1;refine zra ia hi hr h1 h2 (.inl (M.append (news:=[enc xx]) hu he dh Nat.one_pos h6 h7 (hM.row i v r hv hC) O (Cells.add (Blk.cells (hI.at kb h5))) (fun u hu=>by rw[zt9]at hu;rw[hu];exact(xL h8).1) hb.1 hb.2)) ?_;rintro u w1 ⟨ho,hf,hY,_⟩;have da:=hM.put hv (r':=r++[xx]) tD hf hY
 have db:VI Bs (hset H k (RowsP enc e (rv.set i u) (rows.set i (r++[xx])))) w1:=hI.set h3 (hY.mono fun q _ hq=>⟨i,v,hv,hq⟩) da RowsP.loc (fun _ h=>h) fun q hq=>by
  refine⟨?_,?_⟩
  .
   obtain⟨j,vj,hj,hq⟩:=hq;by_cases dc:i=j
   .
    subst dc;rw[zuH dm]at hj;cases hj;rcases hf with hf | ⟨g',hf,dr⟩
    . exact .inl ⟨i,v,hv,hf ▸ hq⟩
    grind
   rw[zuG dc]at hj;exact .inl ⟨j,vj,hj,hq⟩
  obtain⟨j,vj,hj,hq⟩:=hq;exact da.blk hj hq
 have dg:Has Hs (hset H k (RowsP enc e (rv.set i u) (rows.set i (r++[xx])))):=hH.set h3 dl;obtain⟨au,cu,rfl,_,_⟩:=xP ho;exact UR
theorem zrF (is k j:Nat) {ts:TypeId} (hY:∀ w,(sizeOf ts).run P w=.ok 1 w) (hi:ops[is]?=some ⟨none,.store ts x y,ty,ps,aft,g⟩) (hr:Region.ready .any ops listed=[is])
  (hn:(gd ops env g,hget H k,ev env x,ev env y,L.contains is)=(some true,some (.own b cs e),some (.pointer (some ⟨b,o,none⟩)),some v,true)) (h1:Go.GL.one v=true) (hj:o=j) (hl:j<cs.length)
  (h:VDx P n Q ks ops (VI B0 Hs) L fuel (listed.setIfInBounds is true) env A (hset H k (.own b (cs.set j v) e)) Bs):VD P n Q ks ops Hs B0 L (fuel+1) listed env A H Bs:=by
 simp only[Prod.mk.injEq]at hn;subst hj;obtain⟨h2,h3,h4,h5,h6⟩:=hn;intro hH hA w hI;have hB:Blk w b cs e:=hI.at k h3;obtain⟨c1,c2⟩:=xL h1;refine zrD is hi hr h2 h6 (M.store hY h4 h5 c1 c2 hB hl) ?_;rintro w2 ⟨_,hC,da⟩;exact h (hA.set h3) w2 (hI.set h3 da hC trivial (fun _ h=>h) fun q hq=>⟨.inl hq,by have hq:q=b:=hq;rw[hq];exact hC.lt⟩)
theorem VI.row (k:Nat) (hI:VI Bs H w) (hm:m<=9223372036854775807) (hl:zs.length=m*kk) (hN:New w zs e b w'):VI Bs ((k,.row e kk (.slice (some ⟨b,0,none⟩) m m) m zs)::H) w':=by
 obtain⟨h1,h2,h3,h4⟩:=hN;refine hI.new h4 k ?_ trivial (fun _ h=>h) (fun q hq=>?_)
 .
  have:=zN (k:=kk) (n:=m) (cap:=m) h3 (ztg _) hm hl;rw[<- hl,zsW]at this;exact this
 have hq:some b=some q:=hq
 grind
theorem zpx (i k j:Nat) (hu:P.underlying t=some (.slice e)) (he:(P.info? e).map (fun i=>(i.zero,i.size,i.bytes))=some (some z,kk,by'))
  (hi:ops[i]?=some ⟨some d,.makeSlice t x y,ty,ps,aft,g⟩) (hr:Region.ready .any ops listed=[i]) (hn:(Nat.blt d n,gd ops env g,(hget H k).isNone,ev env x,ev env y,xX (Hs.map (·.1)))=(true,some true,true,some (.int kl (m:Int)),some (.int kc (m:Int)),true)) (hB:Bs.drop j=B0)
  (hb:by'*m<=281474976710656) (hm:m<=9223372036854775807) (hz:madeCells z.cells (m*kk)=zs.toArray) (hl:zs.length=m*kk)
  (h:∀ b,VD P n Q ks ops Hs B0 L fuel (listed.setIfInBounds i true) ((d,.slice (some ⟨b,0,none⟩) m m)::env) ((d,none)::A) ((k,.row e kk (.slice (some ⟨b,0,none⟩) m m) m zs)::H) Bs):VD P n Q ks ops Hs B0 L (fuel+1) listed env A H Bs:=by
 simp only[Prod.mk.injEq,zw1]at hn;subst hB;obtain⟨h1,h2,h3,h4,h5,h6⟩:=hn;intro hH hA w hI;refine zra i hi hr h1 h2 (.inl (zpv hu he h4 h5 hb hm hz)) ?_;rintro _ w1 ⟨b,rfl,hN⟩;have hC:=hI.row k hm hl hN;have hY:Has Hs ((k,.row e kk (.slice (some ⟨b,0,none⟩) m m) m zs)::H):=hH.new h3;exact⟨(hC.drop j).pick hY h6,h b hY (TgOk.none (hA.new h3)) w1 hC⟩
theorem zrG (i i2 k k2 j:Nat) {t2 e2:TypeId} {kk2 by2 m2 d2:Nat} {z2:Value} {x2 y2:Operand} {kl2 kc2:IntKind} {zs2:List Value} {ty2:TypeId} {ps2:String} {aft2:Array Edge}
  (hu:P.underlying t=some (.slice e)) (he:(P.info? e).map (fun i=>(i.zero,i.size,i.bytes))=some (some z,kk,by')) (dc:P.underlying t2=some (.slice e2)) (dg:(P.info? e2).map (fun i=>(i.zero,i.size,i.bytes))=some (some z2,kk2,by2))
  (hi:(ops[i]?,ops[i2]?)=(some ⟨some d,.makeSlice t x y,ty,ps,aft,none⟩,some ⟨some d2,.makeSlice t2 x2 y2,ty2,ps2,aft2,none⟩)) (hr:Region.ready .any ops listed=[i,i2])
  (hn:(Nat.blt d n,Nat.blt d2 n,(hget H k).isNone,(hget H k2).isNone)=(true,true,true,true)) (da:xX (Hs.map (·.1))=true) (hB:Bs.drop j=B0)
  (hv:(ev env x,ev env y,ev env x2,ev env y2)=(some (.int kl (m:Int)),some (.int kc (m:Int)),some (.int kl2 (m2:Int)),some (.int kc2 (m2:Int))))
  (hb:by'*m<=281474976710656/\m<=9223372036854775807/\by2*m2<=281474976710656/\m2<=9223372036854775807) (hz:madeCells z.cells (m*kk)=zs.toArray) (dh:madeCells z2.cells (m2*kk2)=zs2.toArray) (hl:zs.length=m*kk/\zs2.length=m2*kk2)
  (h:∀ b,VD P n Q ks ops Hs B0 L fuel (listed.setIfInBounds i true) ((d,.slice (some ⟨b,0,none⟩) m m)::env) ((d,none)::A) ((k,.row e kk (.slice (some ⟨b,0,none⟩) m m) m zs)::H) Bs)
  (h2:∀ b,VD P n Q ks ops Hs B0 L fuel (listed.setIfInBounds i2 true) ((d2,.slice (some ⟨b,0,none⟩) m2 m2)::env) ((d2,none)::A) ((k2,.row e2 kk2 (.slice (some ⟨b,0,none⟩) m2 m2) m2 zs2)::H) Bs):VD P n Q ks ops Hs B0 L (fuel+1) listed env A H Bs:=by
 simp only[Prod.mk.injEq,zw1]at hi hn hv;subst hB;obtain⟨dl,dm⟩:=hi;obtain⟨dr,dt,hk,db⟩:=hn;obtain⟨g1,g2,g3,g4⟩:=hb;intro hH hA w hI;refine zpH i i2 (R:=fun r w'=>∃ b,r=.slice (some ⟨b,0,none⟩) m m/\New w zs e b w') (Rj:=fun r w'=>∃ b,r=.slice (some ⟨b,0,none⟩) m2 m2/\New w zs2 e2 b w') dl dm hr O O dr O O dt (.inl (zpv hu he hv.1 hv.2.1 g1 g2 hz)) (.inl (zpv dc dg hv.2.2.1 hv.2.2.2 g3 g4 dh)) ?_ ?_
 .
  rintro _ w1 ⟨b,rfl,hN⟩;have hC:=hI.row k g2 hl.1 hN;have hY:Has Hs ((k,.row e kk (.slice (some ⟨b,0,none⟩) m m) m zs)::H):=hH.new hk;exact⟨fun _=>(hC.drop j).pick hY da,h b hY (TgOk.none (hA.new hk)) w1 hC⟩
 rintro _ w1 ⟨b,rfl,hN⟩;have hC:=hI.row k2 g4 hl.2 hN;have hY:Has Hs ((k2,.row e2 kk2 (.slice (some ⟨b,0,none⟩) m2 m2) m2 zs2)::H):=hH.new db;exact⟨fun _=>(hC.drop j).pick hY da,h2 b hY (TgOk.none (hA.new db)) w1 hC⟩
theorem zrH (is k:Nat) {tl:TypeId} (q:Nat) (hs:∀ w,(sizeOf tl).run P w=.ok 1 w) (hi:ops[is]?=some ⟨none,.store tl x y,ty,ps,aft,g⟩) (hr:Region.ready .any ops listed=[is])
  (hn:(gd ops env g,hget H k,qK H k,ev env x,ev env y,Go.GL.one v,L.contains is)=(some true,some (.row t 1 (.slice (some ⟨b,0,none⟩) m c) m xs),none,some (.pointer (some ⟨b,o,none⟩)),some v,true,true)) (hj:o=q) (hl:q<xs.length)
  (h:VDx P n Q ks ops (VI B0 Hs) L fuel (listed.setIfInBounds is true) env A (hset H k (.row t 1 (.slice (some ⟨b,0,none⟩) m c) m (xs.set q v))) Bs):VD P n Q ks ops Hs B0 L (fuel+1) listed env A H Bs:=by
 simp only[Prod.mk.injEq]at hn;subst hj;obtain⟨h2,h3,ha,h4,h5,h1,h6⟩:=hn;intro hH hA w hI;have ho:w.ownsRow 0 t 1 (.slice (some ⟨b,0,none⟩) m c) m xs:=hI.at k h3;obtain⟨sp,hB,hc,hY,da⟩:=xr ho;have dc:xs.length=m:=by have:=ho.1;omega
 obtain⟨c1,c2⟩:=xL h1;refine zrD is hi hr h2 h6 (M.store hs h4 h5 c1 c2 hB tO) ?_;rintro w2 ⟨_,hC,db⟩;refine h (hA.res h3 ha) w2 (hI.set h3 (db.mono Jc) ?_ trivial (fun _ h=>h) fun q hq=>⟨.inl hq,by have hq:some b=some q:=hq;cases hq;exact hC.lt⟩);have:=zN (k:=1) (n:=m) (cap:=c) hC hc hY tD;rw[zvs _ _ hl,zvU,zvA tD,zvB tD]at this;exact this
theorem zrI {xs:Array Operand} (hf:∀ args w,(callFunc f args).run P w=.ok (.enter f args) w) (hn:(Nat.blt d n,gd ops env g,qG env xs.toList,ev env x)=(true,some true,some vs,some (.func (.func f) fs.toArray cs.toArray)))
  (hc:∀ w,VI Bs H w->Calls P f (fs++vs++cs).toArray w (Ret fun r w'=>r=v/\Ext w w')) (h:V P n Q ks (.o ops rest) ((d,v)::env) ((d,none)::A) H Bs):V P n Q ks (.o ops (⟨some d,.call ⟨.value x,xs,ts⟩,ty,ps,aft,g⟩::rest)) env A H Bs:=by
 refine fun hA w hI=>zpo hn hf (hc w hI) ?_;rintro _ w' ⟨rfl,hk⟩;exact h hA.none w' (hI.ext hk)
end
open Go.RowKit
def zgZ (k:Nat):List Nat->Bool
 | []=>false
 | j::r=>cond (Nat.beq j k) true (zgZ k r)
def yM (ks:List Nat):Hp->Hp
 | []=>[]
 | x::r=>cond (zgZ x.1 ks) (yM ks r) (x::yM ks r)
theorem yr {ks:List Nat}:∀ {H:Hp} {x:Nat × HE},x ∈ yM ks H->x ∈ H/\zgZ x.1 ks=false
 | y::r,x,h=>by
  simp only[yM]at h;cases hb:zgZ y.1 ks with
  | true =>
   rw[hb]at h;have h:x ∈ yM ks r:=h;exact⟨zsU _ (yr h).1,(yr h).2⟩
  | false =>
   rw[hb]at h;rcases zt7.1 h with rfl | h
   . grind
   exact⟨zsU _ (yr h).1,(yr h).2⟩
theorem hdels_sub {ks:List Nat}:∀ {H:Hp},(yM ks H).Sublist H
 | []=>List.Sublist.refl _
 | y::r=>by
  simp only[yM];cases zgZ y.1 ks with
  | true=>exact hdels_sub.trans (List.sublist_cons_self ..)
  | false=>exact hdels_sub.cons_cons _
theorem zkh (h:H.Pairwise (fun x y=>∀ q,x.2.S q->¬ y.2.S q)):∀ x ∈ H,∀ y ∈ H,x ≠ y->∀ q,x.2.S q->¬ y.2.S q:=by
 induction H with
 | nil=>intro x hx;cases hx
 | cons z r ih =>
  rw[zvh]at h;intro x hx y hy hC q hq hs;rcases zt7.1 hx with h1 | h1
  . grind
  grind
def InS (H:Hp) (ks:List Nat) (q:Nat):Prop:=∃ y ∈ H,zgZ y.1 ks=true/\y.2.S q
structure Hands (H:Hp) (ks:List Nat) (Hn:Hp) (w w':World):Prop where
 keep:Keep (InS H ks) w w'
 ok:∀ x ∈ Hn,x.2.holds w'/\x.2.loc/\(∀ b,¬ x.2.fz b)/\∀ q,x.2.S q->(InS H ks q\/w.heap.size<=q)/\q<w'.heap.size
 apart:Hn.Pairwise (fun x y=>∀ q,x.2.S q->¬ y.2.S q)
theorem VI.hands {Hn:Hp} {ks:List Nat} (h:VI Bs H w) (hh:Hands H ks Hn w w'):VI Bs (Hn++yM ks H) w':=by
 have hC:∀ x ∈ yM ks H,∀ q,InS H ks q->¬ x.2.S q:=by
  rintro x hx q ⟨y,hy,hk,hq⟩ hs;obtain⟨h1,h2⟩:=yr hx;exact zkh h.apart x h1 y hy (fun e=>tD) q hs hq
 have da:∀ x ∈ yM ks H,∀ b,x.2.fz b->¬ InS H ks b:=by
  rintro x hx b hb ⟨y,hy,hk,hq⟩;exact h.froz x (yr hx).1 y hy b hb hq
 have db:∀ x ∈ yM ks H,∀ q,x.2.S q->q<w.heap.size:=fun x hx q hq=>h.low x (yr hx).1 q hq
 have hY:∀ x ∈ yM ks H,∀ y ∈ Hn,∀ q,y.2.S q->¬ x.2.S q:=fun x hx y hy q hq hs=>by
  rcases ((hh.ok y hy).2.2.2 q hq).1 with h1 | h1
  . grind
  grind
 refine⟨?_,?_,?_,?_,?_,?_⟩
 .
  intro x hx;rcases zta.1 hx with hx | hx
  . exact(hh.ok x hx).1
  have h1:=(yr hx).1;exact HE.keep (e:=x.2) (h.holds x h1) (h.loc x h1) hh.keep (fun q hq hi=>hC x hx q hi hq) (da x hx)
 .
  intro x hx;rcases zta.1 hx with hx | hx
  . exact(hh.ok x hx).2.1
  exact h.loc x (yr hx).1
 . exact zvg.2 ⟨hh.apart,h.apart.sublist hdels_sub,fun x hx y hy q hq=>hY y hy x hx q hq⟩
 .
  intro x hx y hy b hb hs;rcases zta.1 hx with hx | hx
  . exact(hh.ok x hx).2.2.1 b hb
  rcases zta.1 hy with hy | hy
  .
   rcases ((hh.ok y hy).2.2.2 b hs).1 with h1 | h1
   . grind
   have:=zqH (h.holds x (yr hx).1) hb;omega
  exact h.froz x (yr hx).1 y (yr hy).1 b hb hs
 .
  intro x hx q hq;rcases zta.1 hx with hx | hx
  . exact((hh.ok x hx).2.2.2 q hq).2
  exact zvP (db x hx q hq) hh.keep.size
 intro p hp;obtain⟨h1,h2⟩:=h.base p hp;refine⟨h1.trans hh.keep fun q hq hi=>?_,fun x hx q hq=>?_⟩
 .
  obtain⟨y,hy,_,hs⟩:=hi
  grind
 rcases zta.1 hx with hx | hx
 .
  rcases ((hh.ok x hx).2.2.2 q hq).1 with⟨y,hy,_,hs⟩ | h3
  . grind
  exact .inr (zsX h1.size h3)
 exact h2 x (yr hx).1 q hq
theorem zrK (hh:∀ x ∈ H,x.2.holds w/\x.2.loc/\(∀ b,¬ x.2.fz b)/\∀ q,x.2.S q->q<w.heap.size) (hC:H.Pairwise (fun x y=>∀ q,x.2.S q->¬ y.2.S q)):VI [(w,HS H)] H w :=
 ⟨fun x hx=>(hh x hx).1,fun x hx=>(hh x hx).2.1,hC,fun x hx _ _ b hb _=>(hh x hx).2.2.1 b hb,fun x hx=>(hh x hx).2.2.2,fun p hp=>by
  rw[zt9]at hp;subst hp
  exact⟨Keep.refl _ _,fun x hx q hq=>.inl ⟨x,hx,hq⟩⟩⟩
section
variable {n:Fm} {pos:Pos}
variable {ty:TypeId} {ps:String}
theorem zrL (H:Hp) (hh:∀ x ∈ H,x.2.holds w/\x.2.loc/\(∀ b,¬ x.2.fz b)/\∀ q,x.2.S q->q<w.heap.size) (hC:H.Pairwise (fun x y=>∀ q,x.2.S q->¬ y.2.S q)) (h:V P n Q ks pos env [] H [(w,HS H)]):G P n Q ks pos env w:=h TgOk.nil w (zrK hh hC)
theorem zrM (kk:List Nat) {xs:Array Operand} (A1:Tgs) (hf:∀ args w,(callFunc f args).run P w=.ok (.enter f args) w) (hn:(Nat.blt d n,gd ops env g,qG env xs.toList)=(true,some true,some vs))
  (hC:∀ r x,A1.map (fun p=>zd7 ((d,r)::env) p.1)=A1.map (fun p=>jw (Hn x++yM kk H) p.2)) (hY:∀ x,A1.all (fun p=>(jw (Hn x++yM kk H) p.2).isSome)=true)
  (hc:∀ w,VI Bs H w->Calls P f vs.toArray w (Ret fun r w'=>∃ x,Φ r x/\Hands H kk (Hn x) w w'))
  (h:∀ r x,Φ r x->V P n Q ks (.o ops rest) ((d,r)::env) A1 (Hn x++yM kk H) Bs):V P n Q ks (.o ops (⟨some d,.call ⟨.value (.func f),xs,ts⟩,ty,ps,aft,g⟩::rest)) env A H Bs:=by
 refine fun hA w hI=>G.call hn hf (hc w hI) ?_;rintro r w' ⟨x,hP,hh⟩;exact h r x hP (TgOk.of (hC r x) (hY x)) w' (hI.hands hh)
theorem zrN {op:Array Oper} (i j:Nat) (kk:List Nat) {xs:Array Operand} (A1:Tgs) (hf:∀ args w,(callFunc f args).run P w=.ok (.enter f args) w) (hi:op[i]?=some ⟨some d,.call ⟨.value (.func f),xs,ts⟩,ty,ps,aft,g⟩) (hr:Region.ready .any op listed=[i]) (hn:(Nat.blt d n,gd op env g,qG env xs.toList,xX (Hs.map (·.1)))=(true,some true,some vs,true)) (hB:Bs.drop j=B0)
  (hC:∀ x,Hs.map (fun y=>hget (Hn x++yM kk H) y.1)=Hs.map (fun y=>some y.2))
  (da:∀ r x,A1.map (fun p=>zd7 ((d,r)::env) p.1)=A1.map (fun p=>jw (Hn x++yM kk H) p.2)) (db:∀ x,A1.all (fun p=>(jw (Hn x++yM kk H) p.2).isSome)=true)
  (hc:∀ w,VI Bs H w->Calls P f vs.toArray w (Ret fun r w'=>∃ x,Φ r x/\Hands H kk (Hn x) w w'))
  (h:∀ r x,Φ r x->VD P n Q ks op Hs B0 L fuel (listed.setIfInBounds i true) ((d,r)::env) A1 (Hn x++yM kk H) Bs):VD P n Q ks op Hs B0 L (fuel+1) listed env A H Bs:=by
 simp only[Prod.mk.injEq]at hn;subst hB;intro hH hA w hI;refine zra i hi hr hn.1 hn.2.1 (.inr ⟨f,_,F.call hf (yo hn.2.2.1),hc w hI⟩) ?_;rintro r w' ⟨x,hP,hh⟩;have hY:=hI.hands hh;exact⟨(hY.drop j).pick (Has.of (hC x)) hn.2.2.2,h r x hP (Has.of (hC x)) (TgOk.of (da r x) (db x)) w' hY⟩
end
theorem SlR.atD {n cap:Nat} (h:SlR k R D w (.slice ao n cap) l) {x:α} (hx:l[i]?=some x):∃ b o cs,ao=some ⟨b,o,none⟩/\D b/\Cells w b (o+i*k) cs/\R D w x cs:=by
 obtain⟨ao',cap',h1,h2,h3,h4⟩:=h
 grind
theorem zrQ {dst:Option Tmp} {ty:TypeId} {pos:String} {len:Nat} {kd:IntKind} {i:Int} (hu:∀ w,(underlying t).run P w=.ok (.array len e) w) (hs:∀ w,(sizeOf e).run P w=.ok 1 w) (hC:∀ w,(isAgg e).run P w=.ok false w) (hx:ev env x=some (.agg cs.toArray)) (hy:ev env y=some (.int kd i)) (h0:0<=i/\i<len) (hv:cs[i.toNat]?=some v) :
  yu P ⟨dst,.index t x y,ty,pos,aft,g⟩ env w v w:=by
 intro n a ha;simp[execOp,ha.eval hx,ha.eval hy,Instr.index,asIntOf,hu,hs,h0,part,hC,hv]
theorem zbt {e:HE} {E:α->HE} (hg:hget H k=some e) (hE:∀ x,(E x).loc/\∀ b,¬ (E x).fz b) (h:Calls P f args w (Ret fun r w'=>∃ x,Φ r x/\(E x).holds w'/\Keep e.S w w'/\∀ q,(E x).S q->(e.S q\/w.heap.size<=q)/\q<w'.heap.size)):Calls P f args w (Ret fun r w'=>∃ x,Φ r x/\Hands H [k] [(k,E x)] w w'):=by
 refine Calls.mono h ?_;rintro e' w' ⟨r,rfl,x,h1,h2,h3,h4⟩;have hC:∀ q,e.S q->InS H [k] q:=fun q hq=>⟨(k,e),zl hg,by simp[zgZ,],hq⟩;refine⟨r,rfl,x,h1,h3.mono fun q _ hq=>hC q hq,fun y hy=>?_,zvk _ _⟩;rw[zt9]at hy;subst hy;exact⟨h2,(hE x).1,(hE x).2,fun q hq=>⟨(h4 q hq).1.imp (hC q) id,(h4 q hq).2⟩⟩
theorem VI.inS {e:HE} {S:Nat->Prop} (hI:VI Bs H w) (j k:Nat) (hb:Bs[j]?=some (w0,S)) (hg:hget H k=some e) (hq:e.S q):(S q\/w0.heap.size<=q)/\q<w.heap.size :=
 ⟨(hI.base _ (zsS hb)).2 _ (zl hg) q hq,hI.low _ (zl hg) q hq⟩
theorem VI.offD {e:HE} {S:Nat->Prop} (hI:VI Bs H w) (j k:Nat) (hb:Bs[j]?=some (w0,S)) (hg:hget H k=some e) (hq:q<w0.heap.size) (hS:¬ S q):¬ e.S q:=fun h=>(hI.inS j k hb hg h).1.elim hS (fun h=>tO)
theorem VI.hsE (hI:VI Bs H w) (j:Nat) (hb:Bs[j]?=some (w0,fun _=>False)) (hs:HS H q):w0.heap.size<=q:=by
 obtain⟨x,hx,hq⟩:=hs;exact((hI.base _ (zsS hb)).2 x hx q hq).elim False.elim id
end Go.GL
namespace Go.Proofs.YtckdhgbepmpgiaaGreat
open Go.GL
def EqD (D:Nat->Prop) (w w':World):Prop:=∀ b,D b->b<w.heap.size/\w'.heap[b]?=w.heap[b]?
theorem EqD.refl (h:∀ b,D b->b<w.heap.size):EqD D w w:=fun b hb=>⟨h b hb,rfl⟩
theorem EqD.keep {S:Nat->Prop} (h:EqD D w w') (hk:Keep S w' w2) (hl:∀ b,D b->b<w'.heap.size) (hS:∀ b,D b->¬ S b):EqD D w w2:=fun b hb=>⟨(h b hb).1,(hk.block b (hl b hb) (hS b hb)).trans (h b hb).2⟩
theorem EqD.to (hR:yq R) (h:EqD D w w') (hs:SlR k R D w v l):SlR k R D w' v l:=hs.stable hR (fun _ h=>h) fun b hb _=>(h b hb).2
theorem EqD.back (hR:yq R) (h:EqD D w w') (hs:SlR k R D w' v l):SlR k R D w v l:=hs.stable hR (fun _ h=>h) fun b hb _=>(h b hb).2.symm
theorem EqD.lt (h:EqD D w w') (hb:D b):b<w'.heap.size:=by
 have h1:=(h b hb).2;have h2:=(h b hb).1;rw[ztr h2]at h1;exact(ztt.1 h1).1
end Go.Proofs.YtckdhgbepmpgiaaGreat
namespace Go.GL
mutual
def Tm.nodes:Tm->Nat
 | .mk _ _ ks=>1+tnodes ks
def tnodes:List Tm->Nat
 | []=>0
 | k::r=>k.nodes+tnodes r
end
mutual
def Tm.depth:Tm->Nat
 | .mk _ _ ks=>tdepth ks+1
def tdepth:List Tm->Nat
 | []=>0
 | k::r=>max k.depth (tdepth r)
end
mutual
def St.nodes:St->Nat
 | .mk _ _ _ _ t f g _=>1+t.nodes+snodes f+snodes g
def snodes:List St->Nat
 | []=>0
 | s::r=>s.nodes+snodes r
end
mutual
def St.bulk:St->Nat
 | .mk _ _ _ _ t f g b=>1+t.nodes+b.length+sbulk f+sbulk g
def sbulk:List St->Nat
 | []=>0
 | s::r=>s.bulk+sbulk r
end
mutual
def St.size:St->Nat
 | .mk _ _ _ _ _ f g _=>1+ssize f+ssize g
def ssize:List St->Nat
 | []=>0
 | s::r=>s.size+ssize r
end
mutual
def St.depth:St->Nat
 | .mk _ _ _ _ _ f g _=>max (sdepth f+1) (sdepth g+1)
def sdepth:List St->Nat
 | []=>0
 | s::r=>max s.depth (sdepth r)
end
mutual
/-- Some term of a step is nested too deep. -/
def St.tdeep:St->Bool
 | .mk _ _ _ _ t f g _=>decide (12<t.depth) || stdeep f || stdeep g
def stdeep:List St->Bool
 | []=>false
 | s::r=>s.tdeep || stdeep r
end
theorem Tm.nodes_eq (t:Tm):t.nodes=1+tnodes t.kids:=by cases t;rfl
theorem Tm.depth_eq (t:Tm):t.depth=tdepth t.kids+1:=by cases t;rfl
theorem St.nodes_eq (s:St):s.nodes=1+s.term.nodes+snodes s.thn+snodes s.els:=by cases s;rfl
theorem St.bulk_eq (s:St):s.bulk=1+s.term.nodes+s.bounds.length+sbulk s.thn+sbulk s.els:=by cases s;rfl
theorem St.size_eq (s:St):s.size=1+ssize s.thn+ssize s.els:=by cases s;rfl
theorem St.depth_eq (s:St):s.depth=max (sdepth s.thn+1) (sdepth s.els+1):=by cases s;rfl
theorem St.tdeep_eq (s:St):s.tdeep=(decide (12<s.term.depth) || stdeep s.thn || stdeep s.els):=by cases s;rfl
theorem ja (a b:List Tm):tnodes (a++b)=tnodes a+tnodes b:=by
 induction a with
 | nil=>simp[tnodes]
 | cons x r ih=>simp[tnodes,ih,zvF]
theorem zdc (a b:List Tm):tdepth (a++b)=max (tdepth a) (tdepth b):=by
 induction a with
 | nil=>simp[tdepth]
 | cons x r ih=>simp[tdepth,ih,Nat.max_assoc]
theorem kT (a b:List St):snodes (a++b)=snodes a+snodes b:=by
 induction a with
 | nil=>simp[snodes]
 | cons x r ih=>simp[snodes,ih,zvF]
theorem qw (a b:List St):sbulk (a++b)=sbulk a+sbulk b:=by
 induction a with
 | nil=>simp[sbulk]
 | cons x r ih=>simp[sbulk,ih,zvF]
theorem zaD (a b:List St):ssize (a++b)=ssize a+ssize b:=by
 induction a with
 | nil=>simp[ssize]
 | cons x r ih=>simp[ssize,ih,zvF]
theorem jb (a b:List St):sdepth (a++b)=max (sdepth a) (sdepth b):=by
 induction a with
 | nil=>simp[sdepth]
 | cons x r ih=>simp[sdepth,ih,Nat.max_assoc]
theorem jc (a b:List St):stdeep (a++b)=(stdeep a || stdeep b):=by
 induction a with
 | nil=>simp[stdeep]
 | cons x r ih=>simp[stdeep,ih,Bool.or_assoc]
theorem ze {x:α} (h:l[i]?=some x):l.take (i+1)=l.take i++[x]:=by
 rw[zvy,h];rfl
theorem ku {l:List Tm} {x:Tm} (h:l[i]?=some x):tnodes (l.take (i+1))=tnodes (l.take i)+x.nodes:=by rw[ze h,ja];simp[tnodes]
theorem zbu {l:List Tm} {x:Tm} (h:l[i]?=some x):tdepth (l.take (i+1))=max (tdepth (l.take i)) x.depth:=by rw[ze h,zdc];simp[tdepth]
theorem zbv {l:List St} {x:St} (h:l[i]?=some x):snodes (l.take (i+1))=snodes (l.take i)+x.nodes:=by rw[ze h,kT];simp[snodes]
theorem zh0 {l:List St} {x:St} (h:l[i]?=some x):sbulk (l.take (i+1))=sbulk (l.take i)+x.bulk:=by rw[ze h,qw];simp[sbulk]
theorem jN {l:List St} {x:St} (h:l[i]?=some x):ssize (l.take (i+1))=ssize (l.take i)+x.size:=by rw[ze h,zaD];simp[ssize]
theorem zbw {l:List St} {x:St} (h:l[i]?=some x):sdepth (l.take (i+1))=max (sdepth (l.take i)) x.depth:=by rw[ze h,jb];simp[sdepth]
theorem zbx {l:List St} {x:St} (h:l[i]?=some x):stdeep (l.take (i+1))=(stdeep (l.take i) || x.tdeep):=by rw[ze h,jc];simp[stdeep]
theorem yH {x:α} (h:l[i]?=some x):l=l.take i++x::l.drop (i+1):=by
 obtain⟨h1,h2⟩:=zt5.1 h;rw[<- h2,List.getElem_cons_drop,zvz]
theorem kU {l:List St} {x:St} (h:x ∈ l):x.bulk<=sbulk l:=by
 obtain⟨i,hi⟩:=zv5.1 h;rw[yH hi,qw];simp[sbulk];omega
theorem xR {l:List Tm} {x:Tm} (h:l[i]?=some x):tnodes l=tnodes (l.take i)+x.nodes+tnodes (l.drop (i+1)):=by
 conv=>lhs;rw[yH h]
 rw[ja];simp[tnodes,zvF]
theorem qx {l:List St} {x:St} (h:l[i]?=some x):snodes l=snodes (l.take i)+x.nodes+snodes (l.drop (i+1)):=by
 conv=>lhs;rw[yH h]
 rw[kT];simp[snodes,zvF]
theorem zfi {l:List St} {x:St} (h:l[i]?=some x):sbulk l=sbulk (l.take i)+x.bulk+sbulk (l.drop (i+1)):=by
 conv=>lhs;rw[yH h]
 rw[qw];simp[sbulk,zvF]
theorem xC {l:List St} {x:St} (h:l[i]?=some x):ssize l=ssize (l.take i)+x.size+ssize (l.drop (i+1)):=by
 conv=>lhs;rw[yH h]
 rw[zaD];simp[ssize,zvF]
theorem zby (l:List Tm):l.length<=tnodes l:=by
 induction l with
 | nil=>simp
 | cons x r ih=>have:=x.nodes_eq;simp[tnodes];omega
theorem zdd (l:List St):l.length<=snodes l:=by
 induction l with
 | nil=>simp
 | cons x r ih=>have:=x.nodes_eq;simp[snodes];omega
theorem zaE:∀ l:List St,snodes l<=sbulk l:=by
 intro l;induction l using zqD with
 | h l ih =>
  have key:∀ r:List St,(∀ s ∈ r,snodes s.thn<=sbulk s.thn/\snodes s.els<=sbulk s.els)->snodes r<=sbulk r:=by
   intro r;induction r with
   | nil=>intro _;simp[snodes]
   | cons x r ih2 =>
    intro h;have h1:=h x (zsV ..);have h2:=ih2 (fun s hs=>h s (zsU _ hs));have h3:=x.nodes_eq;have h4:=x.bulk_eq;simp only[snodes,sbulk];omega
  exact key l ih
theorem zaF:∀ l:List St,ssize l<=snodes l:=by
 intro l;induction l using zqD with
 | h l ih =>
  have key:∀ r:List St,(∀ s ∈ r,ssize s.thn<=snodes s.thn/\ssize s.els<=snodes s.els)->ssize r<=snodes r:=by
   intro r;induction r with
   | nil=>intro _;simp[ssize]
   | cons x r ih2 =>
    intro h;have h1:=h x (zsV ..);have h2:=ih2 (fun s hs=>h s (zsU _ hs));have h3:=x.nodes_eq;have h4:=x.size_eq;simp only[snodes,ssize];omega
  exact key l ih
theorem jO (l:List St):l.length<=ssize l:=by
 induction l with
 | nil=>simp
 | cons x r ih=>have:=x.size_eq;simp[ssize];omega
theorem zaG:∀ l:List Tm,tdepth l<=tnodes l:=by
 have key:∀ l:List Tm,(∀ k ∈ l,k.depth<=k.nodes)->tdepth l<=tnodes l:=by
  intro l;induction l with
  | nil=>intro _;simp[tdepth]
  | cons x r ih =>
   intro h;have h1:=h x (zsV ..);have h2:=ih (fun k hk=>h k (zsU _ hk));simp only[tdepth,tnodes];omega
 have all:∀ t:Tm,t.depth<=t.nodes:=by
  intro t;induction t using zqB with
  | h t ih =>
   have:=key t.kids ih;rw[t.depth_eq,t.nodes_eq];omega
 exact fun l=>key l (fun k _=>all k)
theorem jA:∀ l:List St,sdepth l<=snodes l:=by
 intro l;induction l using zqD with
 | h l ih =>
  have key:∀ r:List St,(∀ s ∈ r,sdepth s.thn<=snodes s.thn/\sdepth s.els<=snodes s.els)->sdepth r<=snodes r:=by
   intro r;induction r with
   | nil=>intro _;simp[sdepth]
   | cons x r ih2 =>
    intro h;have h1:=h x (zsV ..);have h2:=ih2 (fun s hs=>h s (zsU _ hs));have h3:=x.nodes_eq;have h4:=x.depth_eq;simp only[snodes,sdepth];omega
  exact key l ih
def zx:List Ht->Nat
 | []=>0
 | h::r=>h.term.nodes+zx r
theorem kV (a b:List Ht):zx (a++b)=zx a+zx b:=by
 induction a with
 | nil=>simp[zx]
 | cons x r ih=>simp[zx,ih,zvF]
theorem kw {l:List Ht} {x:Ht} (h:l[i]?=some x):zx (l.take (i+1))=zx (l.take i)+x.term.nodes:=by rw[ze h,kV];simp[zx]
theorem xS {l:List Ht} {x:Ht} (h:l[i]?=some x):zx l=zx (l.take i)+x.term.nodes+zx (l.drop (i+1)):=by
 conv=>lhs;rw[yH h]
 rw[kV];simp[zx,zvF]
def few (f:Fl) (vars nodes:Nat):Bool:=decide (f.vars.length<=vars/\f.hatches.length<=vars/\sbulk f.body+zx f.hatches<=nodes)
theorem zrR {a b:Nd} (h1:a.kind=b.kind) (h2:a.at_=b.at_) (h3:a.next=b.next) (h4:a.other=b.other):a=b:=by
 cases a;cases b;simp_all
mutual
/-- The number of nodes of a step. -/
def St.wid:St->Nat
 | .mk a _ _ _ _ f g _=>1+widL f+widL g+(if a=4 then 1 else 0)
def widL:List St->Nat
 | []=>0
 | s::r=>s.wid+widL r
end
theorem St.wid_eq (s:St):s.wid=1+widL s.thn+widL s.els+(if s.act=4 then 1 else 0):=by cases s;rfl
theorem zbz (a b:List St):widL (a++b)=widL a+widL b:=by
 induction a with
 | nil=>simp[widL]
 | cons x r ih=>simp[widL,ih,zvF]
theorem zbA {l:List St} {x:St} (h:l[i]?=some x):widL (l.take (i+1))=widL (l.take i)+x.wid:=by rw[ze h,zbz];simp[widL]
theorem zaq {l:List St} {x:St} (h:l[i]?=some x):widL l=widL (l.take i)+x.wid+widL (l.drop (i+1)):=by
 conv=>lhs;rw[yH h]
 rw[zbz];simp[widL,zvF]
theorem xj:∀ l:List St,widL l<=2*ssize l:=by
 intro l;induction l using zqD with
 | h l ih =>
  have key:∀ r:List St,(∀ s ∈ r,widL s.thn<=2*ssize s.thn/\widL s.els<=2*ssize s.els)->widL r<=2*ssize r:=by
   intro r;induction r with
   | nil=>intro _;simp[widL]
   | cons x r ih2 =>
    intro h;have h1:=h x (zsV ..);have h2:=ih2 (fun s hs=>h s (zsU _ hs));have h3:=x.wid_eq;have h4:=x.size_eq;have h5:(if x.act=4 then 1 else 0)<=1:=tD;simp only[widL,ssize];omega
  exact key l ih
mutual
def St.lay:St->Nat->Nat->Nat->List Nd
 | .mk a _ _ _ _ f g _,at_,node,e =>
  if a=3 then ⟨3,at_,if f.isEmpty then e else (node+1:Nat),if g.isEmpty then e else (node+1+widL f:Nat)⟩::(layL f (at_+1) (node+1) e++layL g (at_+1+ssize f) (node+1+widL f) e)
  else if a=4 then ⟨4,at_,(node+1:Nat),-1⟩::⟨5,at_,if f.isEmpty then (node+1:Nat) else (node+2:Nat),e⟩::layL f (at_+1) (node+2) (node+1)
  else [⟨2,at_,e,-1⟩]
def layL:List St->Nat->Nat->Nat->List Nd
 | [],_,_,_=>[]
 | s::r,at_,node,after=>s.lay at_ node (if r.isEmpty then after else node+s.wid)++layL r (at_+s.size) (node+s.wid) after
end
theorem St.lay_eq (s:St) (at_ node e:Nat):s.lay at_ node e =
  if s.act=3 then ⟨3,at_,if s.thn.isEmpty then e else (node+1:Nat),if s.els.isEmpty then e else (node+1+widL s.thn:Nat)⟩::(layL s.thn (at_+1) (node+1) e++layL s.els (at_+1+ssize s.thn) (node+1+widL s.thn) e)
  else if s.act=4 then ⟨4,at_,(node+1:Nat),-1⟩::⟨5,at_,if s.thn.isEmpty then (node+1:Nat) else (node+2:Nat),e⟩::layL s.thn (at_+1) (node+2) (node+1)
  else [⟨2,at_,e,-1⟩]:=by cases s;rw[St.lay];rfl
def zd (f:Fl):List Nd:=⟨0,-1,1,-1⟩::(layL f.body 0 1 (1+widL f.body)++[⟨1,-1,-1,-1⟩])
abbrev jd:=Nat × Bool
def jt (ns:List Nd) (to:Int) (e:jd):List Nd:=ns.modify e.1 fun x=>if e.2 then { x with other:=to } else { x with next:=to }
def zo (ns:List Nd) (to:Int) (es:List jd):List Nd:=es.foldl (fun ns e=>jt ns to e) ns
structure Bd where
 nodes:List Nd
 step:Nat
mutual
def St.one:St->Nat->Bd->Bd × List jd
 | .mk a _ _ _ _ f g _,at_,b =>
  if a=3 then
   let x:=listB f { nodes:=b.nodes++[⟨3,b.step,-1,-1⟩],step:=b.step+1 } [(at_,false)]
   let y:=listB g x.1 [(at_,true)]
   (y.1,x.2++y.2)
  else if a=4 then
   let x:=listB f { nodes:=jt (b.nodes++[⟨4,b.step,-1,-1⟩,⟨5,b.step,-1,-1⟩]) (at_+1:Nat) (at_,false),step:=b.step+1 } [(at_+1,false)]
   ({ x.1 with nodes:=zo x.1.nodes (at_+1:Nat) x.2 },[(at_+1,true)])
  else ({ nodes:=b.nodes++[⟨2,b.step,-1,-1⟩],step:=b.step+1 },[(at_,false)])
def listB:List St->Bd->List jd->Bd × List jd
 | [],b,ins=>(b,ins)
 | s::r,b,ins =>
  let x:=s.one b.nodes.length { b with nodes:=zo b.nodes b.nodes.length ins }
  listB r x.1 x.2
end
theorem St.one_eq (s:St) (at_:Nat) (b:Bd):s.one at_ b =
  if s.act=3 then
   ((listB s.els (listB s.thn { nodes:=b.nodes++[⟨3,b.step,-1,-1⟩],step:=b.step+1 } [(at_,false)]).1 [(at_,true)]).1,
    (listB s.thn { nodes:=b.nodes++[⟨3,b.step,-1,-1⟩],step:=b.step+1 } [(at_,false)]).2++(listB s.els (listB s.thn { nodes:=b.nodes++[⟨3,b.step,-1,-1⟩],step:=b.step+1 } [(at_,false)]).1 [(at_,true)]).2)
  else if s.act=4 then
   ({ (listB s.thn { nodes:=jt (b.nodes++[⟨4,b.step,-1,-1⟩,⟨5,b.step,-1,-1⟩]) (at_+1:Nat) (at_,false),step:=b.step+1 } [(at_+1,false)]).1 with
    nodes:=zo (listB s.thn { nodes:=jt (b.nodes++[⟨4,b.step,-1,-1⟩,⟨5,b.step,-1,-1⟩]) (at_+1:Nat) (at_,false),step:=b.step+1 } [(at_+1,false)]).1.nodes (at_+1:Nat)
     (listB s.thn { nodes:=jt (b.nodes++[⟨4,b.step,-1,-1⟩,⟨5,b.step,-1,-1⟩]) (at_+1:Nat) (at_,false),step:=b.step+1 } [(at_+1,false)]).2 },[(at_+1,true)])
  else ({ nodes:=b.nodes++[⟨2,b.step,-1,-1⟩],step:=b.step+1 },[(at_,false)]):=by cases s;rw[St.one];rfl
theorem zar (s:St) (r:List St) (b:Bd) (ins:List jd):listB (s::r) b ins=listB r (s.one b.nodes.length { b with nodes:=zo b.nodes b.nodes.length ins }).1 (s.one b.nodes.length { b with nodes:=zo b.nodes b.nodes.length ins }).2:=by rw[listB]
def zg7 (f:Fl):List Nd :=
 zo (listB f.body { nodes:=[⟨0,-1,-1,-1⟩],step:=0 } [(0,false)]).1.nodes ((listB f.body { nodes:=[⟨0,-1,-1,-1⟩],step:=0 } [(0,false)]).1.nodes.length:Nat) (listB f.body { nodes:=[⟨0,-1,-1,-1⟩],step:=0 } [(0,false)]).2++[⟨1,-1,-1,-1⟩]
theorem yz (ns:List Nd) (to:Int) (e:jd):(jt ns to e).length=ns.length:=by simp[jt]
theorem zT (es:List jd):∀ (ns:List Nd) (to:Int),(zo ns to es).length=ns.length:=by
 induction es with
 | nil=>intro ns to;rfl
 | cons e r ih=>intro ns to;rw[zo,zuw,<- zo,ih,yz]
theorem xD (e:jd) (r:List jd) (ns:List Nd) (to:Int):zo ns to (e::r)=zo (jt ns to e) to r:=rfl
theorem kW (a b:List jd) (ns:List Nd) (to:Int):zo ns to (a++b)=zo (zo ns to a) to b:=by simp[zo,]
theorem zi7 (ns:List Nd) (to to':Int) (e e':jd) (h:to=to'\/e ≠ e'):jt (jt ns to e) to' e'=jt (jt ns to' e') to e:=by
 apply zuj;intro i;simp only[jt,zuB];obtain⟨a,p⟩:=e;obtain⟨a',p'⟩:=e';dsimp only;by_cases h1:a=i<;>by_cases h2:a'=i<;>simp only[h1,h2,if_true,if_false]<;>cases ns[i]?<;>simp;rename_i x;cases p<;>cases p'<;>simp
 . grind
 grind
theorem zbB (es:List jd):∀ (ns:List Nd) (to to':Int) (e:jd),(to=to'\/e ∉ es)->zo (jt ns to' e) to es=jt (zo ns to es) to' e:=by
 induction es with
 | nil=>intro ns to to' e _;rfl
 | cons x r ih =>
  intro ns to to' e h;rw[xD,xD,<- ih _ _ _ _ (h.imp id (fun h hm=>h (zsU _ hm)))];congr 1;exact zi7 _ _ _ _ _ (h.imp (fun h=>h.symm) (fun h he=>h tD))
theorem zfj (es es':List jd) (ns:List Nd) (to:Int):zo (zo ns to es) to es'=zo (zo ns to es') to es:=by
 induction es generalizing ns with
 | nil=>rfl
 | cons e r ih =>
  rw[xD,ih,xD,zbB _ _ _ _ _ (.inl rfl)]
theorem zef {to:Int} {e:jd} (h:e.1<ns.length):jt (ns++ms) to e=jt ns to e++ms:=by
 apply zuj;intro i;simp only[jt,zuB];by_cases h1:i<ns.length
 . rw[zth h1,zth tD,zuB]
 rw[zti tO,zti tD];simp[show ¬ e.1=i by omega]
theorem zfk {es:List jd}:∀ {ns ms:List Nd} {to:Int},(∀ e ∈ es,e.1<ns.length)->zo (ns++ms) to es=zo ns to es++ms:=by
 induction es with
 | nil=>intro ns ms to _;rfl
 | cons e r ih =>
  intro ns ms to h;rw[xD,xD,zef (h e (zsV ..)),ih (fun x hx=>by rw[yz];exact h x (zsU _ hx))]
theorem kX {x:Nd} {to:Int} {p:Bool} (hk:k=ns.length):jt (ns++[x]) to (k,p)=ns++[if p then { x with other:=to } else { x with next:=to }]:=by
 subst hk;apply zuj;intro i;simp only[jt,zuB];by_cases h1:i<ns.length
 . rw[zth h1,zth h1];simp[show ¬ ns.length=i by omega]
 rw[zti tO,zti tO];by_cases h2:i=ns.length
 . grind
 rw[ztf tD,ztf tD];simp
theorem zde {x:Nd} {to:Int} {p:Bool} (hk:k=ns.length):jt (ns++x::ms) to (k,p)=ns++(if p then { x with other:=to } else { x with next:=to })::ms:=by
 have:=zef (ns:=ns++[x]) (ms:=ms) (to:=to) (e:=(k,p)) tD;rw[zu0,zvv,kX hk]at this
 grind
mutual
def St.plainB:St->Bool
 | .mk a _ _ _ _ f g _=>(if a=3 then true else if a=4 then g.isEmpty else f.isEmpty&&g.isEmpty)&&plainL f&&plainL g
def plainL:List St->Bool
 | []=>true
 | s::r=>s.plainB&&plainL r
end
theorem St.plainB_eq (s:St):s.plainB=((if s.act=3 then true else if s.act=4 then s.els.isEmpty else s.thn.isEmpty&&s.els.isEmpty)&&plainL s.thn&&plainL s.els):=by cases s;rw[St.plainB];rfl
theorem yU {l:List St} (h:plainL l=true):∀ s ∈ l,s.plainB=true:=by
 induction l with
 | nil=>intro s hs;simp at hs
 | cons x r ih =>
  intro s hs;rw[plainL,ztA]at h;rcases zt7.1 hs with rfl | hs
  . exact h.1
  grind
theorem zbC {l:List St} (h:∀ s ∈ l,s.plainB=true):plainL l=true:=by
 induction l with
 | nil=>rfl
 | cons x r ih=>rw[plainL,h x (zsV ..),ih (fun s hs=>h s (zsU _ hs))];rfl
structure BOk (l:List St) (b:Bd) (ins:List jd) (c:Bd) (outs:List jd):Prop where
 len:c.nodes.length=b.nodes.length+widL l
 step:c.step=b.step+ssize l
 out:∀ e ∈ outs,e ∈ ins\/b.nodes.length<=e.1
 lt:∀ e ∈ outs,e.1<c.nodes.length
 lay:∀ after:Nat,zo c.nodes after outs=zo b.nodes (if l.isEmpty then after else b.nodes.length:Nat) ins++layL l b.step b.nodes.length after
structure OOk (s:St) (b:Bd) (c:Bd) (outs:List jd):Prop where
 len:c.nodes.length=b.nodes.length+s.wid
 step:c.step=b.step+s.size
 out:∀ e ∈ outs,b.nodes.length<=e.1
 lt:∀ e ∈ outs,e.1<c.nodes.length
 lay:∀ after:Nat,zo c.nodes after outs=b.nodes++s.lay b.step b.nodes.length after
theorem zeg (s:St) (hp:s.plainB=true) (h1:∀ (b:Bd) (ins:List jd),(∀ e ∈ ins,e.1<b.nodes.length)->BOk s.thn b ins (listB s.thn b ins).1 (listB s.thn b ins).2)
  (h2:∀ (b:Bd) (ins:List jd),(∀ e ∈ ins,e.1<b.nodes.length)->BOk s.els b ins (listB s.els b ins).1 (listB s.els b ins).2) (b:Bd):OOk s b (s.one b.nodes.length b).1 (s.one b.nodes.length b).2:=by
 rw[s.plainB_eq,ztA,ztA]at hp;have hw:=s.wid_eq;have hz:=s.size_eq;rw[s.one_eq];by_cases a3:s.act=3
 .
  rw[zt1 i5]at hw;simp only[zt2 a3];have H1:=h1 { nodes:=b.nodes++[⟨3,b.step,-1,-1⟩],step:=b.step+1 } [(b.nodes.length,false)] tR;generalize hx:listB s.thn { nodes:=b.nodes++[⟨3,b.step,-1,-1⟩],step:=b.step+1 } [(b.nodes.length,false)]=x at H1;obtain⟨len1,jv,out1,lt1,lay1⟩:=H1;simp only[zsZ,ztc]at len1 jv out1 lay1;have H2:=h2 x.1 [(b.nodes.length,true)] tD;generalize hy:listB s.els x.1 [(b.nodes.length,true)]=y at H2;obtain⟨len2,step2,out2,lt2,lay2⟩:=H2;refine⟨tO,tO,?_,?_,?_⟩
  . grind
  . grind
  intro after
  have hC:(b.nodes.length,true) ∉ x.2:=by
   grind
  rw[kW,zfj,lay2,zfk (by intro e he;rw[zT];exact lt1 e he)];rw[show ∀ (t:Int),zo x.1.nodes t [(b.nodes.length,true)]=jt x.1.nodes t (b.nodes.length,true) from fun _=>rfl];rw[zbB _ _ _ _ _ (.inr hC),lay1];rw[show ∀ (t:Int) (ns:List Nd),zo ns t [(b.nodes.length,false)]=jt ns t (b.nodes.length,false) from fun _ _=>rfl];rw[kX rfl,zu0,zvv,zde rfl,s.lay_eq,zt2 a3];rw[zu0,zu3,jv,len1];simp only[if_true,ztD,if_false];congr 2;apply zrR<;>dsimp only
  . split<;>rfl
  rw[apply_ite Nat.cast]
 by_cases a4:s.act=4
 .
  rw[zt2 a4]at hw;rw[zt1 a3,zt2 a4]at hp;have hY:s.els=[]:=by simpa using hp.1.1
  rw[hY]at hw hz;simp only[widL,ssize]at hw hz;simp only[zt1 a3,zt2 a4];have da:jt (b.nodes++[⟨4,b.step,-1,-1⟩,⟨5,b.step,-1,-1⟩]) (b.nodes.length+1:Nat) (b.nodes.length,false)=b.nodes++[⟨4,b.step,(b.nodes.length+1:Nat),-1⟩,⟨5,b.step,-1,-1⟩]:=by rw[zde rfl];rfl
  rw[da];have H1:=h1 { nodes:=b.nodes++[⟨4,b.step,(b.nodes.length+1:Nat),-1⟩,⟨5,b.step,-1,-1⟩],step:=b.step+1 } [(b.nodes.length+1,false)] tR;generalize hx:listB s.thn { nodes:=b.nodes++[⟨4,b.step,(b.nodes.length+1:Nat),-1⟩,⟨5,b.step,-1,-1⟩],step:=b.step+1 } [(b.nodes.length+1,false)]=x at H1;obtain⟨len1,jv,out1,lt1,lay1⟩:=H1;simp only[zsZ,ztk,List.length_nil]at len1 jv out1 lay1;refine⟨by rw[zT];omega,by dsimp only;omega,?_,?_,?_⟩
  .
   intro e he;rw[zt9.1 he];dsimp only;omega
  .
   intro e he;rw[zt9.1 he,zT];dsimp only;omega
  intro after;dsimp only;rw[lay1];simp only[show ∀ (t:Int) (ns:List Nd) (q:Bool),zo ns t [(b.nodes.length+1,q)]=jt ns t (b.nodes.length+1,q) from fun _ _ _=>rfl];rw[show ∀ (x y:Nd),b.nodes++[x,y]=(b.nodes++[x])++[y] from fun x y=>tR];rw[kX tR];rw[zu0 (b.nodes++[_]),zvv,zde tR,s.lay_eq,zt1 a3,zt2 a4,zu0,zvv];simp only[if_true,ztD,if_false];congr 3;apply zrR<;>dsimp only;rw[apply_ite Nat.cast]
 rw[zt1 a4]at hw;rw[zt1 a3,zt1 a4,ztA,zuM,zuM]at hp;rw[hp.1.1.1,hp.1.1.2]at hw hz;simp only[widL,ssize]at hw hz;simp only[zt1 a3,zt1 a4];refine⟨tY,by dsimp only;omega,?_,?_,?_⟩
 . intro e he;rw[zt9.1 he];exact ztg _
 . intro e he;rw[zt9.1 he];simp
 intro after;dsimp only;rw[show ∀ (t:Int) (ns:List Nd),zo ns t [(b.nodes.length,false)]=jt ns t (b.nodes.length,false) from fun _ _=>rfl];rw[kX rfl,s.lay_eq,zt1 a3,zt1 a4];rfl
theorem xE (l:List St):plainL l=true->∀ (b:Bd) (ins:List jd),(∀ e ∈ ins,e.1<b.nodes.length)->BOk l b ins (listB l b ins).1 (listB l b ins).2:=by
 induction l using zqD with
 | h l ih =>
 intro hp
 have key:∀ r:List St,(∀ x ∈ r,x ∈ l)->∀ (b:Bd) (ins:List jd),(∀ e ∈ ins,e.1<b.nodes.length)->BOk r b ins (listB r b ins).1 (listB r b ins).2:=by
  intro r;induction r with
  | nil =>
   intro _ b ins hi;rw[listB];exact⟨by simp[widL],by simp[ssize],fun e he=>.inl he,hi,fun after=>by simp[layL]⟩
  | cons s r ihr =>
   intro hm b ins hi;have hs:=yU hp s (hm s (zsV ..));have hC:=hs;rw[s.plainB_eq,ztA,ztA]at hC;have H:=zeg s hs (fun b ins h=>(ih s (hm s (zsV ..))).1 hC.1.2 b ins h) (fun b ins h=>(ih s (hm s (zsV ..))).2 hC.2 b ins h) { b with nodes:=zo b.nodes b.nodes.length ins };rw[zar];dsimp only at H;rw[zT]at H;generalize s.one b.nodes.length { b with nodes:=zo b.nodes b.nodes.length ins }=x at H;obtain⟨len1,jv,out1,lt1,lay1⟩:=H;simp only[zT]at len1 jv out1 lt1 lay1;have H2:=ihr (fun y hy=>hm y iu) x.1 x.2 lt1;generalize listB r x.1 x.2=y at H2;obtain⟨len2,step2,out2,lt2,lay2⟩:=H2;refine⟨by simp only[widL];omega,by simp only[ssize];omega,?_,lt2,?_⟩
   .
    intro e he;rcases out2 e he with h | h
    . exact .inr (out1 e h)
    exact .inr tO
   intro after;rw[lay2,lay1,layL,zu0,len1,jv];simp only[List.isEmpty_cons,ztD,if_false]
 exact key l (fun x h=>h)
theorem zki (f:Fl) (hp:plainL f.body=true):zg7 f=zd f:=by
 have H:=xE f.body hp { nodes:=[⟨0,-1,-1,-1⟩],step:=0 } [(0,false)] tR;unfold zg7 zd;generalize listB f.body { nodes:=[⟨0,-1,-1,-1⟩],step:=0 } [(0,false)]=x at H ⊢;obtain⟨len1,jv,out1,lt1,lay1⟩:=H;simp only[ztc]at len1 lay1;rw[lay1,len1];rw[show ∀ (t:Int) (ns:List Nd),zo ns t [((0:Nat),false)]=jt ns t (0,false) from fun _ _=>rfl];have h1:∀ t:Int,jt [⟨0,-1,-1,-1⟩] t (0,false)=[⟨0,-1,t,-1⟩]:=fun t=>rfl;rw[h1]
 have h2:((if f.body.isEmpty then 1+widL f.body else 1:Nat):Int)=1:=by
  split
  .
   rename_i h;have:f.body=[]:=tD;rw[this];rfl
  rfl
 rw[h2];rfl
theorem zB (l:List St):plainL l=true->∀ at_ node after,(layL l at_ node after).length=widL l:=by
 intro hp at_ node after;have H:=xE l hp { nodes:=List.replicate node ⟨0,0,0,0⟩,step:=at_ } [] tR;have h1:=H.lay after;have h2:=congrArg List.length h1;rw[zT,H.len]at h2;simp[zo]at h2;omega
theorem yA (f:Fl) (hp:plainL f.body=true):(zd f).length=widL f.body+2:=by
 simp[zd,zB _ hp]
structure Nums (ns:List Nd) (a n:Nat):Prop where
 range:∀ x ∈ ns,(a:Int)<=x.at_/\x.at_<(a+n:Nat)
 ord:ns.Pairwise fun x y=>x.at_<=y.at_
 all:∀ k,k<n->∃ x ∈ ns,x.at_=(a+k:Nat)
theorem Nums.nil (a:Nat):Nums [] a 0:=⟨fun x h=>tD,List.Pairwise.nil,fun k h=>tO⟩
theorem Nums.append {n:Nat} (h:Nums ns a n) (h':Nums ms b m) (hb:b=a+n):Nums (ns++ms) a (n+m):=by
 subst hb;refine⟨fun x hx=>?_,?_,fun k hk=>?_⟩
 .
  rcases zta.1 hx with hx | hx
  . have:=h.range x hx;omega
  have:=h'.range x hx;omega
 .
  rw[zvg];refine⟨h.ord,h'.ord,fun x hx y hy=>?_⟩;have:=h.range x hx;have:=h'.range y hy;omega
 by_cases hC:k<n
 .
  obtain⟨x,hx,e⟩:=h.all k hC
  grind
 obtain⟨x,hx,e⟩:=h'.all (k - n) tO
 grind
theorem Nums.cons {n:Nat} {x:Nd} (h:Nums ns (a+1) n) (hx:x.at_=a):Nums (x::ns) a (n+1):=by
 refine⟨fun y hy=>?_,?_,fun k hk=>?_⟩
 .
  rcases zt7.1 hy with rfl | hy
  . omega
  have:=h.range y hy;omega
 .
  rw[zvh];exact⟨fun y hy=>by have:=h.range y hy;omega,h.ord⟩
 by_cases hC:k=0
 . grind
 obtain⟨y,hy,e⟩:=h.all (k - 1) tO
 grind
theorem zrS {n:Nat} {x:Nd} (h:Nums ns a n) (hn:0<n) (hx:x.at_=a):Nums (x::ns) a n:=by
 refine⟨fun y hy=>?_,?_,fun k hk=>?_⟩
 .
  rcases zt7.1 hy with rfl | hy
  . omega
  exact h.range y hy
 .
  rw[zvh];exact⟨fun y hy=>by have:=h.range y hy;omega,h.ord⟩
 obtain⟨y,hy,e⟩:=h.all k hk
 grind
theorem jP (l:List St):plainL l=true->∀ a node after,Nums (layL l a node after) a (ssize l):=by
 induction l using zqD with
 | h l ih =>
 intro hp
 have key:∀ r:List St,(∀ x ∈ r,x ∈ l)->∀ a node after,Nums (layL r a node after) a (ssize r):=by
  intro r;induction r with
  | nil=>intro _ a node after;exact Nums.nil a
  | cons s r ihr =>
   intro hm a node after;have hs:=yU hp s (hm s (zsV ..));rw[s.plainB_eq,ztA,ztA]at hs;have h1:=(ih s (hm s (zsV ..))).1 hs.1.2;have h2:=(ih s (hm s (zsV ..))).2 hs.2;rw[layL,ssize];refine Nums.append ?_ (ihr (fun y hy=>hm y iu) _ _ _) O;generalize (if r.isEmpty=true then after else node+s.wid)=e;have hz:=s.size_eq;rw[s.lay_eq];by_cases a3:s.act=3
   .
    rw[zt2 a3,show s.size=(ssize s.thn+ssize s.els)+1 by omega];exact Nums.cons (Nums.append (h1 _ _ _) (h2 _ _ _) O) O
   by_cases a4:s.act=4
   .
    rw[zt1 a3,zt2 a4]at hs;rw[zt1 a3,zt2 a4];have hC:s.els=[]:=tD;rw[hC]at hz;simp only[ssize]at hz;rw[show s.size=ssize s.thn+1 by omega];exact zrS (Nums.cons (h1 _ _ _) O) tO O
   rw[zt1 a3,zt1 a4,ztA,zuM,zuM]at hs;rw[zt1 a3,zt1 a4];rw[hs.1.1.1,hs.1.1.2]at hz;simp only[ssize]at hz;rw[show s.size=0+1 by omega];exact Nums.cons (Nums.nil _) O
 exact key l (fun x h=>h)
open Go.RowKit
def Wr (p:TypeId->Bool) (W0:Nat) (w:World) (k:Nat):Prop:=W0<=k/\∀ cs e,Blk w k cs e->p e=true
abbrev KT (p:TypeId->Bool) (W0:Nat) (w w':World):Prop:=Keep (Wr p W0 w) w w'
section
variable {p:TypeId->Bool} {w'':World}
theorem Blk.ty {e':TypeId} (h:Blk w b cs e) (h':Blk w b cs' e'):e=e'/\cs=cs':=by
 unfold Blk at h h'
 grind
theorem Blk.ne {e':TypeId} (h:Blk w a cs e) (h':Blk w b cs' e') (hC:e ≠ e'):a ≠ b:=by
 rintro rfl;exact hC (h.ty h').1
theorem Wr.mk (hW:W0<=k) (hb:Blk w k cs e) (hp:p e=true):Wr p W0 w k:=⟨hW,fun cs' e' h=>by rw[<- (hb.ty h).1];exact hp⟩
theorem KT.refl:KT p W0 w w:=Keep.refl _ _
theorem KT.trans (h:KT p W0 w w') (h':KT p W0 w' w''):KT p W0 w w'':=by
 refine Keep.trans h h' (fun k hk hT=>?_);by_cases hS:Wr p W0 w k
 . exact hS
 exfalso;apply hS;refine⟨hT.1,fun cs e h2=>hT.2 cs e ?_⟩;unfold Blk at h2 ⊢;rw[h.block k hk hS];exact h2
theorem zrT (h:Ext w w'):KT p W0 w w':=Keep.mono h (fun _ _ h=>h.elim)
theorem KT.ext' (h:KT p W0 w w') (h':Ext w' w''):KT p W0 w w'':=KT.trans h (zrT h')
theorem zrU (hb:Blk w b cs e) (hp:p e=true) (hW:W0<=b) (h:zd4 w b cs' e w'):KT p W0 w w' :=
 h.2.2.mono (fun k _ (hk:k=b)=>by subst hk;exact Wr.mk hW hb hp)
theorem xe {n:Nat} (h:w.ownsRow 0 e k v n xs) {g:Nat} (hg:v.ownBlock=some g):∃ cs,Blk w g cs e:=by
 rcases h.2 with⟨rfl,_⟩ | ⟨g',cap,cur,rfl,_,h2,_⟩
 . simp[Value.ownBlock]at hg
 simp[Value.ownBlock]at hg;subst hg;exact⟨cur.toList,by unfold Blk;simpa using h2⟩
theorem KT.row {n:Nat} (ho:w.ownsRow 0 e k v n xs) (hp:p e=true) (hW:∀ g,v.ownBlock=some g->W0<=g) (h:Keep (fun k=>v.ownBlock=some k) w w'):KT p W0 w w' :=
 h.mono (fun g _ hg=>by obtain⟨cs,hb⟩:=xe ho hg;exact Wr.mk (hW g hg) hb hp)
theorem KT.new {S:Nat->Prop} (h:KT p W0 w w') (h':Keep S w' w'') (hS:∀ k,S k->w.heap.size<=k):KT p W0 w w'' :=
 Keep.trans h h' (fun k hk hT=>absurd (hS k hT) tO)
theorem zrV (h:KT p W0 w w') (hW:w.heap.size<=W0):Ext w w':=Keep.mono h (fun k hk ⟨h1,_⟩=>tO)
theorem KT.blk (h:KT p W0 w w') (hb:Blk w b cs e) (hp:p e=false):Blk w' b cs e :=
 Keep.blk h hb (fun⟨_,h2⟩=>tD)
theorem KT.own (h:KT p W0 w w') {n:Nat} (ho:w.ownsRow 0 e k v n xs) (hp:p e=false):w'.ownsRow 0 e k v n xs :=
 zj ho h (fun g hg ⟨_,h2⟩=>by obtain⟨cs,hb⟩:=xe ho hg;have:=h2 _ _ hb;rw[hp]at this;cases this)
theorem KT.sl (h:KT p W0 w w') (hs:yq R) (hl:SlR k R D w v l) (hD:∀ q,D q->q<W0):SlR k R D w' v l :=
 hl.keep hs h (fun q hq _ ⟨h1,_⟩=>tD)
end
end Go.GL
namespace Go.Proofs
theorem Tryz.el3:(Tryz.prog.info? 3).map (fun i=>(i.zero,i.size,i.bytes))=some (some ((Value.int IntKind.i64 0)),1,8):=tK
theorem Tryz.el4:(Tryz.prog.info? 4).map (fun i=>(i.zero,i.size,i.bytes))=some (some ((Value.bool false)),1,1):=tK
theorem Tryz.el27:(Tryz.prog.info? 27).map (fun i=>(i.zero,i.size,i.bytes))=some (some ((Value.slice none 0 0)),1,24):=tK
theorem Tryz.el59:(Tryz.prog.info? 59).map (fun i=>(i.zero,i.size,i.bytes))=some (some ((Value.agg #[Value.slice none 0 0,Value.slice none 0 0,Value.int IntKind.i64 0])),3,56):=tK
theorem Tryz.el65:(Tryz.prog.info? 65).map (fun i=>(i.zero,i.size,i.bytes))=some (some ((Value.agg #[Value.int IntKind.i64 0,Value.int IntKind.i64 0,Value.int IntKind.i64 0,Value.int IntKind.i64 0])),4,32):=tK
theorem Tryz.el72:(Tryz.prog.info? 72).map (fun i=>(i.zero,i.size,i.bytes))=some (some ((Value.agg #[Value.int IntKind.i64 0,Value.int IntKind.i64 0,Value.int IntKind.i64 0,Value.int IntKind.i64 0,Value.int IntKind.i64 0,Value.int IntKind.i64 0,Value.slice none 0 0,Value.slice none 0 0,Value.slice none 0 0,Value.slice none 0 0])),10,144):=tK
theorem Tryz.el85:(Tryz.prog.info? 85).map (fun i=>(i.zero,i.size,i.bytes))=some (some ((Value.agg #[Value.int IntKind.i64 0,Value.int IntKind.i64 0])),2,16):=tK
theorem Tryz.el88:(Tryz.prog.info? 88).map (fun i=>(i.zero,i.size,i.bytes))=some (some ((Value.agg #[Value.int IntKind.i64 0,Value.int IntKind.i64 0,Value.slice none 0 0,Value.slice none 0 0])),4,64):=tK
theorem Tryz.el120:(Tryz.prog.info? 120).map (fun i=>(i.zero,i.size,i.bytes))=some (some (Value.nilFunc),1,8):=tK
theorem Tryz.el142:(Tryz.prog.info? 142).map (fun i=>(i.zero,i.size,i.bytes))=some (some ((Value.agg #[Value.string { data:=#[] },Value.int IntKind.i64 0,Value.int IntKind.i64 0,Value.int IntKind.i64 0,Value.int IntKind.i64 0])),5,48):=tK
theorem Tryz.el159:(Tryz.prog.info? 159).map (fun i=>(i.zero,i.size,i.bytes))=some (some ((Value.agg #[Value.int IntKind.i64 0,Value.int IntKind.i64 0])),2,16):=tK
theorem Tryz.el169:(Tryz.prog.info? 169).map (fun i=>(i.zero,i.size,i.bytes))=some (some ((Value.agg #[Value.int IntKind.i64 0,Value.int IntKind.i64 0])),2,16):=tK
theorem Tryz.el240:(Tryz.prog.info? 240).map (fun i=>(i.zero,i.size,i.bytes))=some (some ((Value.agg #[Value.int IntKind.i64 0,Value.int IntKind.i64 0])),2,16):=tK
end Go.Proofs
namespace Go.GL
theorem zbD {α:Type} {f:α->Nat}:∀ {l:List α},(l.map f).Nodup->∀ {x y:α},x ∈ l->y ∈ l->f x=f y->x=y
 | [],_,_,_,hx,_,_=>tD
 | z::r,h,x,y,hx,hy,e=>by
  rw[zuV,zvd]at h;rcases zt7.1 hx with h1 | h1
  . grind
  rcases zt7.1 hy with h2 | h2
  . grind
  exact zbD h.2 h1 h2 e
section
variable {n:Fm} {S:World->Prop}
theorem zml {o:Oper} {R:Value->World->Prop} {K:Act->World->Prop} {Q':Exit->Act->World->Prop} {a:Act} (hi:ops[i]?=some o) (hg:o.guard=none) (hd:o.dst=some d) (ha:Ok n env a) (hm:Does P o env w R)
  (h:∀ v w',R v w'->K (a.put (some d) v) w'):wpOp P ops Q' i K a w:=by
 refine zbi hi hg ?_;unfold Oper.wp;rcases hm with⟨v,w',h1,h2⟩ | ⟨f,args,h1,h2⟩
 .
  rw[h1 n a ha,Oper.upon_value,hd]
  grind
 rw[h1 n a ha,Oper.upon_enter];refine h2.mono ?_;rintro e w' ⟨v,rfl,hR⟩;simp only[hd];exact h v w' hR
end
end Go.GL
namespace Go.Proofs.YtckdhgbepmpgiaaGreat
open Go.GL
variable {es:List jd}
def xM (x:Nd):List Value:=[.int .i64 x.kind,.int .i64 x.at_,.int .i64 x.next,.int .i64 x.other]
theorem zL (x:Nd):(xM x).length=4:=rfl
theorem je (x:Nd):∀ u ∈ xM x,u.oneCell'=true:=by simp[xM,Value.oneCell']
def bty (e:TypeId):Bool:=e == 197 || e == 65
theorem zos:bty 197=true:=tS
theorem zo1:bty 65=true:=tS
structure BdS (W0 B:Nat) (w:World) (b:Bd) (v:Value):Prop where
 blk:Blk w B [v,.int .i64 b.step] 197
 row:w.ownsRow 0 65 4 v b.nodes.length (b.nodes.flatMap xM)
 low:W0<=B
 far:∀ g,v.ownBlock=some g->W0<=g
theorem BdS.ext {b:Bd} (h:BdS W0 B w b v) (hk:Ext w w'):BdS W0 B w' b v:=⟨hk.blk h.blk (fun h=>h),zj h.row hk (fun _ _ h=>h),h.low,h.far⟩
theorem BdS.ne {b:Bd} (h:BdS W0 B w b v) {g:Nat} (hg:v.ownBlock=some g):g ≠ B:=by
 obtain⟨cs,hb⟩:=xe h.row hg;exact hb.ne h.blk tS
def HC (B:Nat) (w:World) (e:jd) (x:Value):Prop:=∃ bb ab,x=.func (.func (if e.2 then 215 else 166)) #[] #[.pointer (some ⟨bb,0,none⟩),.pointer (some ⟨ab,0,none⟩)]/\Blk w bb [.pointer (some ⟨B,0,none⟩)] 195/\Blk w ab [.int .i64 e.1] 3
theorem HC.one {e:jd} {x:Value} (h:HC B w e x):x.oneCell'=true:=by obtain⟨_,_,rfl,_⟩:=h;rfl
theorem HC.ext {e:jd} {x:Value} (h:HC B w e x) (hk:Ext w w'):HC B w' e x:=by
 obtain⟨bb,ab,h1,h2,h3⟩:=h;exact⟨bb,ab,h1,hk.blk h2 (fun h=>h),hk.blk h3 (fun h=>h)⟩
theorem HC.kt {e:jd} {x:Value} (h:HC B w e x) (hk:KT bty W0 w w'):HC B w' e x:=by
 obtain⟨bb,ab,h1,h2,h3⟩:=h;exact⟨bb,ab,h1,hk.blk h2 tS,hk.blk h3 tS⟩
def Hung (B:Nat) (w:World) (v:Value) (es:List jd):Prop:=∃ xs:List Value,w.ownsRow 0 120 1 v es.length xs/\∀ (i:Nat) e x,es[i]?=some e->xs[i]?=some x->HC B w e x
theorem Hung.ext (h:Hung B w v es) (hk:Ext w w'):Hung B w' v es:=by
 obtain⟨xs,h1,h2⟩:=h;exact⟨xs,zj h1 hk (fun _ _ h=>h),fun i e x he hx=>(h2 i e x he hx).ext hk⟩
theorem Hung.kt (h:Hung B w v es) (hk:KT bty W0 w w'):Hung B w' v es:=by
 obtain⟨xs,h1,h2⟩:=h;exact⟨xs,hk.own h1 tS,fun i e x he hx=>(h2 i e x he hx).kt hk⟩
theorem Hung.form (h:Hung B w v es):∃ ao c,v=.slice ao es.length c/\es.length<=c:=by
 obtain⟨xs,h1,h2⟩:=h;rcases h1.2 with⟨rfl,h3⟩ | ⟨g,cap,cur,rfl,h3,h4,h5,h6⟩
 . grind
 grind
theorem Hung.at {n:Nat} (h:Hung B w (.slice ao n c) es) {e:jd} (he:es[i]?=some e):∃ g x,ao=some ⟨g,0,none⟩/\Cells w g (0+i*1) [x]/\HC B w e x:=by
 obtain⟨xs,h1,h2⟩:=h;have hi:=(zt5.1 he).1;have hC:=h1.1;obtain⟨x,hx⟩:∃ x,xs[i]?=some x:=j9;rcases h1.2 with⟨h3,h4⟩ | ⟨g,cap,cur,h3,_,h4,h5,h6,h7,h8⟩
 . omega
 cases h3;refine⟨g,x,rfl,?_,h2 i e x he hx⟩;intro j u hu;cases j with
 | zero =>
  simp at hu;subst hu;have hb:Blk w g cur.toList 120:=by unfold Blk;simpa using h4
  have:=hb.cells i x (by rw[<- h8,ztn]at hx;split at hx;exact hx;cases hx);simpa using this
 | succ j=>simp at hu
theorem zdf (B:Nat) (k:Nat) (w:World):Calls prog 126 #[.pointer (some ⟨B,0,none⟩),.int .i64 k] w (Ret fun r w'=>HC B w' (k,false) r/\Ext w w'):=by
 have hE:=Keep.refl (fun _=>False) w;refine zqr func126 O ntmps126 O (Gs 2 O (G.mem O O (M.box O O) ?_));rintro _ du ⟨bb,rfl,hY,dr,hC,da⟩;have dl:_<=bb:=zsX hE.size (zvO hY.symm);replace hE:=Tr1 da hE;refine G.mem O O (M.box O O) ?_;rintro _ dw ⟨ab,rfl,db,dt,dc,dg⟩;have dh:bb ≠ ab:=tO;have dm:_<=ab:=zsX hE.size (zvO db.symm);obtain⟨hE,hC⟩:=Tr2 dg hE hC;refine Gs 10 O (zoU results126 O ⟨_,rfl,⟨bb,ab,rfl,hC,dc⟩,hE⟩)
theorem zg8 (B:Nat) (k:Nat) (w:World):Calls prog 204 #[.pointer (some ⟨B,0,none⟩),.int .i64 k] w (Ret fun r w'=>HC B w' (k,true) r/\Ext w w'):=by
 have hE:=Keep.refl (fun _=>False) w;refine zqr func204 O ntmps204 O (Gs 2 O (G.mem O O (M.box O O) ?_));rintro _ du ⟨bb,rfl,hY,dr,hC,da⟩;have dl:_<=bb:=zsX hE.size (zvO hY.symm);replace hE:=Tr1 da hE;refine G.mem O O (M.box O O) ?_;rintro _ dw ⟨ab,rfl,db,dt,dc,dg⟩;have dh:bb ≠ ab:=tO;have dm:_<=ab:=zsX hE.size (zvO db.symm);obtain⟨hE,hC⟩:=Tr2 dg hE hC;refine Gs 10 O (zoU results204 O ⟨_,rfl,⟨bb,ab,rfl,hC,dc⟩,hE⟩)
theorem zdg (L:List Nd) (i:Nat) (hi:i<L.length) (sp:List Value) (to:Int) (p:Bool):(L.flatMap xM++sp).set (i*4+(if p then 3 else 2)) (.int .i64 to)=(jt L to (i,p)).flatMap xM++sp:=by
 have h1:=zd5 (enc:=xM) zL hi (if p then { L[i] with other:=to } else { L[i] with next:=to }) sp
 have h2:jt L to (i,p)=L.set i (if p then { L[i] with other:=to } else { L[i] with next:=to }):=by
  apply zuj;intro j;simp only[jt,zuB,zuF];by_cases hj:i=j
  . subst hj;simp[hi]
  grind
 rw[h2,<- h1];have h3:=zd5 (enc:=xM) zL hi L[i] sp;rw[List.set_getElem_self]at h3
 have ht:((L.flatMap xM++sp).take (i*4)).length=i*4:=by
  have:=zQ zL L
  grind
 generalize (L.flatMap xM++sp).drop (i*4+4)=C at h3 ⊢;generalize (L.flatMap xM++sp).take (i*4)=A at h3 ht ⊢;rw[<- h3,zu0,zu0,zvt _ _ tO,ht,zvJ];cases p<;>rfl
theorem zkj (W0 B bb ab i:Nat) (to:Int) (b:Bd) (v:Value) (w:World) (hb:BdS W0 B w b v) (dc:Blk w bb [.pointer (some ⟨B,0,none⟩)] 195) (dg:Blk w ab [.int .i64 (i:Nat)] 3) (hi:i<b.nodes.length) :
  Calls prog 166 #[.int .i64 to,.pointer (some ⟨bb,0,none⟩),.pointer (some ⟨ab,0,none⟩)] w (Ret fun _ w'=>BdS W0 B w' { b with nodes:=jt b.nodes to (i,false) } v/\KT bty W0 w w'):=by
 obtain⟨g,cap,sp,rfl,_,dh,dl,hY,dm⟩:=qu zL tS hb.row tD;have hB:=hb.blk;have dt:=zQ zL b.nodes;have du:(b.nodes.flatMap xM++sp).length=b.nodes.length*4+sp.length:=tD;have dr:=hb.ne rfl;have hset:=zdg b.nodes i hi sp to false;refine zqs func166 O ntmps166 O (Dw (fun q=>Ext w q) [8] (fun wd1 hD _=>?_));refine WD.take 0 O tK O O O hD (fun w1 hC=>R.load isAgg195 O ((hC.blk dc (fun h=>h)).cells 0 _ O)) (Ds [1,2] tK O (WD.take 3 O tK O O O hD (fun w1 hC=>R.load tg34 O ((hC.blk hB (fun h=>h)).cells 0 _ O)) (WD.take 4 O tK O O O hD (fun w1 hC=>R.load tg3 O ((hC.blk dg (fun h=>h)).cells 0 _ O)) (Da [5,6,7] tK O tO (zps 8 O tK O O (M.store ts3 O O O O (hD.blk hY (fun h=>h)) tO) ?_)))));rintro wf ⟨_,da,db⟩;refine⟨fun h=>absurd (zt9.2 O) h,?_⟩;rw[show 0+(i:Int).toNat*4+_=i*4+(if false then 3 else 2) by simp,hset]at da;have hK:KT bty W0 w wf:=Keep.trans (zrT hD) db UL;refine G.done tK ?_ _;refine zp9 results166 ⟨_,rfl,⟨db.blk (hD.blk hB (fun h=>h)) (fun h=>dr h.symm),?_,hb.low,hb.far⟩,hK⟩;have h:=qY zL (k:=b.nodes.length) da tD JP dh dl;rw[zvB JP]at h;rw[yz];exact h
theorem zi8 (W0 B bb ab i:Nat) (to:Int) (b:Bd) (v:Value) (w:World) (hb:BdS W0 B w b v) (dc:Blk w bb [.pointer (some ⟨B,0,none⟩)] 195) (dg:Blk w ab [.int .i64 (i:Nat)] 3) (hi:i<b.nodes.length) :
  Calls prog 215 #[.int .i64 to,.pointer (some ⟨bb,0,none⟩),.pointer (some ⟨ab,0,none⟩)] w (Ret fun _ w'=>BdS W0 B w' { b with nodes:=jt b.nodes to (i,true) } v/\KT bty W0 w w'):=by
 obtain⟨g,cap,sp,rfl,_,dh,dl,hY,dm⟩:=qu zL tS hb.row tD;have hB:=hb.blk;have dt:=zQ zL b.nodes;have du:(b.nodes.flatMap xM++sp).length=b.nodes.length*4+sp.length:=tD;have dr:=hb.ne rfl;have hset:=zdg b.nodes i hi sp to true;refine zqs func215 O ntmps215 O (Dw (fun q=>Ext w q) [8] (fun wd1 hD _=>?_));refine WD.take 0 O tK O O O hD (fun w1 hC=>R.load isAgg195 O ((hC.blk dc (fun h=>h)).cells 0 _ O)) (Ds [1,2] tK O (WD.take 3 O tK O O O hD (fun w1 hC=>R.load tg34 O ((hC.blk hB (fun h=>h)).cells 0 _ O)) (WD.take 4 O tK O O O hD (fun w1 hC=>R.load tg3 O ((hC.blk dg (fun h=>h)).cells 0 _ O)) (Da [5,6,7] tK O tO (zps 8 O tK O O (M.store ts3 O O O O (hD.blk hY (fun h=>h)) tO) ?_)))));rintro wf ⟨_,da,db⟩;refine⟨fun h=>absurd (zt9.2 O) h,?_⟩;rw[show 0+(i:Int).toNat*4+_=i*4+(if true then 3 else 2) by simp,hset]at da;have hK:KT bty W0 w wf:=Keep.trans (zrT hD) db UL;refine G.done tK ?_ _;refine zp9 results215 ⟨_,rfl,⟨db.blk (hD.blk hB (fun h=>h)) (fun h=>dr h.symm),?_,hb.low,hb.far⟩,hK⟩;have h:=qY zL (k:=b.nodes.length) da tD JP dh dl;rw[zvB JP]at h;rw[yz];exact h
theorem zg9 (W0 B:Nat) (kind:Int) (b:Bd) (v:Value) (w:World) (hb:BdS W0 B w b v) (hW:W0<=w.heap.size) (dx:b.nodes.length<=100000) :
  Calls prog 203 #[.pointer (some ⟨B,0,none⟩),.int .i64 kind] w (Ret fun _ w'=>(∃ v',BdS W0 B w' { b with nodes:=b.nodes++[⟨kind,b.step,-1,-1⟩] } v')/\KT bty W0 w w'):=by
 have hB:=hb.blk;refine zqr func203 O ntmps203 O (Dw (fun q=>Blk q B [v,.int .i64 b.step] 197) [15] (fun wd hD _=>?_));have db:=hb.ext hD;refine Ds [0,1,2,3] tK O (WD.take 4 O tK O O O db.blk (fun w1 dc=>R.load tg34 O (dc.cells 0 _ O)) (Ds [5,6,7,8] tK O (WD.take 9 O tK O O O db.blk (fun w1 dc=>R.load tg3 O (dc.cells 1 _ O)) (zpG 10 O tK O O O (fun w1=>R.build (v:=.agg #[.int .i64 kind,.int .i64 b.step,.int .i64 (-1),.int .i64 (-1)]) [(0,_),(1,_),(2,_),(3,_)] O (fun _=>tK)) (WD.mem 11 O tK O O O (M.buildSlice (cs:=xM ⟨kind,b.step,-1,-1⟩) [(0,_)] tR34 ts65 tz65 tS O tK) ?_)))));rintro _ w2 ⟨b2,rfl,dy,dz,dr,dh⟩;have hC:=db.ext dh;refine⟨fun _=>hC.blk,?_⟩;refine WD.mem 12 O tK O O O (M.append tu34 Tryz.el65 O tS O O hC.row O (Cells.add dr.cells) (je _) tO tO) ?_;rintro v' w3 ⟨hY,dt,dl,_⟩;have dg:=dl.blk hC.blk (fun h=>hC.ne h rfl);refine⟨fun _=>dg,?_⟩;refine Ds [13,14] tK O ?_;obtain⟨av,cv,rfl⟩:=yb hY;refine zps 15 O tK O O (M.store ts34 O O O O dg tR) ?_;rintro wf ⟨_,du,dm⟩;refine⟨fun h=>absurd (zt9.2 O) h,?_⟩;have dw:=hD.size
 have da:∀ g,Value.ownBlock (.slice av (b.nodes.length+1) cv)=some g->W0<=g/\g ≠ B:=by
  intro g hg;rcases dt with h | ⟨g',h1,h2⟩
  . exact⟨hb.far g tD,hC.ne tD⟩
  rw[h1]at hg;cases hg;have:=hC.blk.lt;omega
 refine G.done tK ?_ _;refine zp9 results203 ⟨_,rfl,⟨.slice av (b.nodes.length+1) cv,du,?_,hb.low,fun g hg=>(da g hg).1⟩,?_⟩
 .
  have h:=zj hY dm (fun g hg h=>(da g hg).2 h)
  grind
 exact KT.trans (KT.trans (zrT (hD.ext dh)) (KT.row hC.row zo1 hC.far dl)) (dm.mono (fun q hq h=>by have h:q=B:=h;subst h;exact Wr.mk hb.low dg zos))
theorem zfl (W0 B i:Nat) (p:Bool) (to:Int) (b:Bd) (v x:Value) (w:World) (hb:BdS W0 B w b v) (hx:HC B w (i,p) x) (hi:i<b.nodes.length) :
  ∃ f,∃ cs:List Value,x=.func (.func f) #[] cs.toArray/\(∀ args w,(callFunc f args).run prog w=.ok (.enter f args) w)/\Calls prog f (([]:List Value)++[Value.int .i64 to]++cs).toArray w (Ret fun _ w'=>BdS W0 B w' { b with nodes:=jt b.nodes to (i,p) } v/\KT bty W0 w w'):=by
 obtain⟨bb,ab,rfl,h1,h2⟩:=hx;cases p
 . exact⟨_,[_,_],rfl,call166,zkj W0 B bb ab i to b v w hb h1 h2 hi⟩
 exact⟨_,[_,_],rfl,call215,zi8 W0 B bb ab i to b v w hb h1 h2 hi⟩
theorem BdS.bump {b:Bd} (h:BdS W0 B w b v) (hw:zd4 w B [v,.int .i64 ((b.step:Int)+1)] 197 w'):BdS W0 B w' { b with step:=b.step+1 } v/\KT bty W0 w w' :=
 ⟨⟨hw.2.1,zj h.row hw.2.2 (fun _ hg he=>h.ne hg he),h.low,h.far⟩,zrU h.blk zos h.low hw⟩
theorem Hung.lit {g:Nat} {x:Value} {e:jd} (hb:Blk w g [x] 120) (hx:HC B w e x):Hung B w (.slice (some ⟨g,0,none⟩) 1 1) [e] :=
 ⟨[x],zN (k:=1) (n:=1) (cap:=1) hb (ztg _) tS rfl,fun i e' x' he hC=>by
  grind⟩
theorem Hung.len (h:Hung B w v es):es.length<=9223372036854775807:=by
 obtain⟨xs,h1,_⟩:=h;obtain⟨_,_,_,h2,h3⟩:=xP h1;omega
theorem zkk (s:St) (h1:∀ b ins,(listB s.thn b ins).2.length<=max ins.length 1+widL s.thn) (h2:∀ b ins,(listB s.els b ins).2.length<=max ins.length 1+widL s.els) (a:Nat) (b:Bd):(s.one a b).2.length<=1+s.wid:=by
 rw[s.one_eq];have hw:=s.wid_eq;split
 .
  dsimp only;rw[zsZ];have e1:=h1 { nodes:=b.nodes++[⟨3,b.step,-1,-1⟩],step:=b.step+1 } [(a,false)];have e2:=h2 (listB s.thn { nodes:=b.nodes++[⟨3,b.step,-1,-1⟩],step:=b.step+1 } [(a,false)]).1 [(a,true)];simp only[ztc]at e1 e2;omega
 split<;>simp
theorem zeh (l:List St):∀ b ins,(listB l b ins).2.length<=max ins.length 1+widL l:=by
 induction l using zqD with
 | h l ih =>
 have key:∀ r:List St,(∀ x ∈ r,x ∈ l)->∀ b ins,(listB r b ins).2.length<=max ins.length 1+widL r:=by
  intro r;induction r with
  | nil=>intro _ b ins;rw[listB];dsimp only;omega
  | cons s r ihr =>
   intro hm b ins;have h1:=zkk s (ih s (hm s (zsV ..))).1 (ih s (hm s (zsV ..))).2 b.nodes.length { b with nodes:=zo b.nodes b.nodes.length ins };rw[zar];have h2:=ihr (fun y hy=>hm y iu) (s.one b.nodes.length { b with nodes:=zo b.nodes b.nodes.length ins }).1 (s.one b.nodes.length { b with nodes:=zo b.nodes b.nodes.length ins }).2;simp only[widL];omega
 exact key l (fun x h=>h)
theorem kz {to:Int} {e:jd} (h:es[i]?=some e):zo ns to (es.take (i+1))=jt (zo ns to (es.take i)) to e:=by rw[ze h,kW];rfl
def zi9 (l:List St):Prop:=∀ (W0 B:Nat) (v vin:Value) (D:Nat->Prop) (w:World) (b:Bd) (nv:Value) (ins:List jd),SlR 10 RSt D w v l->(∀ q,D q->q<W0)->BdS W0 B w b nv->Hung B w vin ins->(∀ e ∈ ins,e.1<b.nodes.length)->W0<=w.heap.size ->
 plainL l=true->b.nodes.length+widL l<=100000->b.step+ssize l<=100000 ->
 Calls prog 125 #[.pointer (some ⟨B,0,none⟩),v,vin] w (Ret fun r w'=>(∃ nv',BdS W0 B w' (listB l b ins).1 nv')/\Hung B w' r (listB l b ins).2/\(r.ownBlock=vin.ownBlock\/∃ g,r.ownBlock=some g/\w.heap.size<=g)/\KT bty W0 w w')
theorem znt (s:St) (h1:zi9 s.thn) (h2:zi9 s.els) (W0 B:Nat) (cs:List Value) (D:Nat->Prop) (w:World) (b:Bd) (nv:Value) (hs:RSt D w s cs) (hD:∀ q,D q->q<W0) (hb:BdS W0 B w b nv) (hW:W0<=w.heap.size) (hp:s.plainB=true)
  (hn:b.nodes.length+s.wid<=100000) (fA:b.step+s.size<=100000) :
  Calls prog 165 #[.pointer (some ⟨B,0,none⟩),.agg cs.toArray,.int .i64 b.nodes.length] w (Ret fun r w'=>(∃ nv',BdS W0 B w' (s.one b.nodes.length b).1 nv')/\Hung B w' r (s.one b.nodes.length b).2/\(∃ g,r.ownBlock=some g/\w.heap.size<=g)/\KT bty W0 w w'):=by
 have fB:=hs.one;obtain⟨v1,v2,v3,v4,rfl,hk,ht,he,fC⟩:=hs.get;have hw:=s.wid_eq;have hz:=s.size_eq;have dr:=hp;rw[s.plainB_eq,ztA,ztA]at dr;have fD:=hW;refine zqs func165 O ntmps165 O (Gs 2 O (G.mem O O (M.box O O) ?_));rintro _ w1 ⟨c,rfl,hc,eM,dW,ej⟩;replace hb:=hb.ext ej;have dX:KT bty W0 w w1:=zrT ej;refine Gs 7 O (zqk O isAgg66 (dW.cells 0 _ O) (Gs 9 O (zoD O (fun a3=>?_) (fun a3=>?_))))
 .
  rw[s.one_eq,zt2 a3];rw[zt1 i5]at hw;refine Gs 3 O (G.call O call203 (zg9 W0 B 3 b nv w1 hb tO tO) ?_);rintro _ w2 ⟨⟨nv2,hC⟩,dw⟩;have dD:=dX.trans dw;have dx:=dw.blk dW tS;refine Gs 7 O (zqk O tg3 (hC.blk.cells 1 (.int .i64 b.step) O) (Ga 3 O tO (zpt O (M.store ts3 O O O O hC.blk tR) ?_)));rintro w3 dY;obtain⟨dc,dy⟩:=hC.bump dY;have dE:=dD.trans dy;have dz:=dy.blk dx tS;refine Gs 3 O (Dw (fun q=>Blk q c [.int .i64 s.act,.int .i64 s.cost,.int .i64 s.var,.int .i64 s.n,.int .i64 s.term.op,.int .i64 s.term.n,v1,v2,v3,v4] 72) [] (fun w4 dA _=>?_));have dg:=dA.blk dz (fun h=>h);have db:=dc.ext dA;have dZ:=dE.ext' dA;refine Ds [0,1] tK O (WD.take 2 O tK O O O dg (fun w1 dF=>R.load tg24 O (dF.cells 7 _ O)) (Ds [3,4] tK O (WD.call 5 O tK O O O (F.call (vs:=[_,_]) call126 O) (zdf B b.nodes.length w4) ?_)));rintro x w5 ⟨hx,dB⟩;have dh:=dB.blk dg (fun h=>h);have d5:=db.ext dB;have dO:=dZ.ext' dB;refine⟨fun _=>dh,?_⟩;have dl:=hx;obtain⟨bb,ab,rfl,_,_⟩:=hx;refine WD.mem 6 O tK O O O (M.buildSlice (cs:=[.func (.func 166) #[] #[.pointer (some ⟨bb,0,none⟩),.pointer (some ⟨ab,0,none⟩)]]) [(0,_)] tR198 ts120 tz120 tS O tK) ?_;rintro _ w6 ⟨g6,rfl,fE,fF,eN,dt⟩;have hY:=dt.blk dh (fun h=>h);have d6:=d5.ext dt;have dG:=dO.ext' dt;refine⟨fun _=>hY,?_⟩;have eO:=Hung.lit eN (dl.ext dt);have eP:=dG.size;refine WD.call 7 O tK O O O (F.call (vs:=[_,_,_]) call125 O) (h1 W0 B _ _ D w6 _ _ _ (dG.sl zf ht hD) hD d6 eO tR tO dr.1.2 tD tD) ?_;rintro r7 w7 ⟨⟨nv7,dQ⟩,ek,eQ,em⟩;have da:=em.blk hY tS;have d7:=dG.trans em;refine⟨fun _=>da,?_⟩;have d8:=xE s.thn dr.1.2 { nodes:=b.nodes++[⟨3,b.step,-1,-1⟩],step:=b.step+1 } [(b.nodes.length,false)] tR;have er:=zeh s.thn { nodes:=b.nodes++[⟨3,b.step,-1,-1⟩],step:=b.step+1 } [(b.nodes.length,false)];simp only[ztc]at er;generalize hX:listB s.thn { nodes:=b.nodes++[⟨3,b.step,-1,-1⟩],step:=b.step+1 } [(b.nodes.length,false)]=X at dQ ek d8 er ⊢;have dH:=d8.len;have dC:=d8.step;simp only[zsZ,ztc]at dH dC
  have fG:∃ g,r7.ownBlock=some g/\w.heap.size<=g:=by
   have:=dO.size;rcases eQ with h | ⟨g,h,h'⟩
   . exact⟨g6,by rw[h];rfl,tO⟩
   grind
  refine Ds [8] tK O (G.done tK ?_ _);refine Gs 2 O (Dw (fun q=>Blk q c [.int .i64 s.act,.int .i64 s.cost,.int .i64 s.var,.int .i64 s.n,.int .i64 s.term.op,.int .i64 s.term.n,v1,v2,v3,v4] 72) [] (fun x4 yk4 _=>?_));have yBc4:=yk4.blk da (fun h=>h);have yb4:=dQ.ext yk4;have yu4:=ek.ext yk4;have yE4:=d7.ext' yk4;refine Ds [0,1,2] tK O (WD.take 3 O tK O O O yBc4 (fun w1 dF=>R.load tg24 O (dF.cells 8 _ O)) (Ds [4,5] tK O (WD.call 6 O tK O O O (F.call (vs:=[_,_]) call204 O) (zg8 B b.nodes.length x4) ?_)));rintro x x5 ⟨hx,yk5⟩;have yBc5:=yk5.blk yBc4 (fun h=>h);have yb5:=yb4.ext yk5;have yu5:=yu4.ext yk5;have yE5:=yE4.ext' yk5;refine⟨fun _=>yBc5,?_⟩;have dl:=hx;obtain⟨bb,ab,rfl,_,_⟩:=hx;refine WD.mem 7 O tK O O O (M.buildSlice (cs:=[.func (.func 215) #[] #[.pointer (some ⟨bb,0,none⟩),.pointer (some ⟨ab,0,none⟩)]]) [(0,_)] tR198 ts120 tz120 tS O tK) ?_;rintro _ x6 ⟨g6',rfl,yg6,ys6,yB6,yk6⟩;have yBc6:=yk6.blk yBc5 (fun h=>h);have yb6:=yb5.ext yk6;have yu6:=yu5.ext yk6;have yE6:=yE5.ext' yk6;refine⟨fun _=>yBc6,?_⟩;have zu6:=Hung.lit yB6 (dl.ext yk6);have ysz6:=yE6.size;refine WD.call 8 O tK O O O (F.call (vs:=[_,_,_]) call125 O) (h2 W0 B _ _ D x6 _ _ _ (yE6.sl zf he hD) hD yb6 zu6 tD tO dr.2 tO tO) ?_;rintro r8 x7 ⟨⟨nv8,yb7⟩,yu7,yf7,yK7⟩;have yBc7:=yK7.blk yBc6 tS;have yE7:=yE6.trans yK7;have zu7:=yu6.kt yK7;refine⟨fun _=>yBc7,?_⟩;have ew:=zeh s.els X.1 [(b.nodes.length,true)];simp only[ztc]at ew;generalize listB s.els X.1 [(b.nodes.length,true)]=Y at yb7 yu7 ew ⊢;obtain⟨xs7,dR,d9⟩:=zu7;obtain⟨xs8,ez,dI⟩:=yu7
  have eR:∀ u ∈ xs8,u.oneCell'=true:=by
   intro u hu;obtain⟨i,hi⟩:=zv5.1 hu;have eS:=(zt5.1 hi).1;have h8:=ez.1;exact(dI i Y.2[i] u (zsR tO) hi).one
  refine WD.mem 9 O tK O O O (zqA underlying198 Tryz.el120 O tS O O dR ez eR tO tO) ?_;rintro u x8 ⟨fH,eT,yk8⟩
  have eb:∀ k,r7.ownBlock=some k->w.heap.size<=k:=by
   grind
  have yE8:KT bty W0 w x8:=yE7.new yk8 eb
  have dm:∀ k cs e,Blk x7 k cs e->e ≠ 120->Blk x8 k cs e:=fun k cs e hb eU=>yk8.blk hb (fun h=>by
   obtain⟨cs',dJ⟩:=xe dR h
   exact eU (hb.ty dJ).1)
  refine⟨fun _=>dm _ _ _ yBc7 tS,?_⟩;refine Ds [10] tK O (G.done tK ?_ _);refine Gs 4 O ?_
  refine zoU results165 O ⟨_,rfl,⟨nv8,dm _ _ _ yb7.blk tS,zj yb7.row yk8 (fun g hg h=>by
    obtain⟨cs',dJ⟩:=xe dR h;obtain⟨cs2,hC⟩:=xe yb7.row hg
    exact absurd (hC.ty dJ).1 tS),yb7.low,yb7.far⟩,⟨xs7++xs8,tD,?_⟩,?_,yE8⟩
  .
   have eA:∀ e x,HC B x7 e x->HC B x8 e x:=by
    rintro e x ⟨bb,ab,q1,q2,q3⟩;exact⟨bb,ab,q1,dm _ _ _ q2 tS,dm _ _ _ q3 tS⟩
   intro i e x dS dT;have fI:=dR.1;by_cases hi:i<X.2.length
   .
    rw[zth hi]at dS;rw[zth tO]at dT;exact eA _ _ (d9 i e x dS dT)
   rw[zti tO]at dS;rw[zti tO,show i - xs7.length=i - X.2.length by omega]at dT;exact eA _ _ (dI _ e x dS dT)
  rcases eT with h | ⟨g,h,h'⟩
  . grind
  have:=yE7.size
  grind
 rw[s.one_eq,zt1 a3];refine Gs 6 O (zoD O (fun a4=>?_) (fun a4=>?_))
 .
  rw[zt2 a4];rw[zt2 a4]at hw;rw[zt1 a3,zt2 a4]at dr;refine Gs 3 O (G.call O call203 (zg9 W0 B 4 b nv w1 hb tO tO) ?_);rintro _ w2 ⟨⟨nv2,hC⟩,dw⟩;have dD:=dX.trans dw;have dx:=dw.blk dW tS;refine Gs 5 O (G.call O call203 (zg9 W0 B 5 _ nv2 w2 hC (by have:=dD.size;omega) tD) ?_);rintro _ w3 ⟨⟨nv3,dc⟩,dy⟩;have dE:=dD.trans dy;have dz:=dy.blk dx tS;dsimp only at dc;rw[zu0,zvv]at dc;refine Gs 7 O (zqk O tg3 (dc.blk.cells 1 (.int .i64 b.step) O) (Ga 3 O tO (zpt O (M.store ts3 O O O O dc.blk tR) ?_)));rintro w4 eV;obtain⟨db,eC⟩:=dc.bump eV;dsimp only at db;have dZ:=dE.trans eC;have dg:=eC.blk dz tS;obtain⟨g,cap,sp,rfl,_,eW,eX,eD,eY⟩:=qu zL tS db.row tR;have dK:(b.nodes++[⟨4,b.step,-1,-1⟩,⟨5,b.step,-1,-1⟩]:List Nd).length=b.nodes.length+2:=tR;have fJ:((b.nodes++[⟨4,b.step,-1,-1⟩,⟨5,b.step,-1,-1⟩]:List Nd).flatMap xM++sp).length=(b.nodes.length+2)*4+sp.length:=by rw[zsZ,zQ zL,dK]
  have hset:=zdg (b.nodes++[⟨4,b.step,-1,-1⟩,⟨5,b.step,-1,-1⟩]) b.nodes.length tO sp (b.nodes.length+1:Nat) false;refine Gs 7 O (zqk O tg34 (db.blk.cells 0 _ O) (Ga 3 O tO (zqg O O (zph tR34 ts65 O O O tY) (Gs 1 O (zpt O (M.store ts3 O O O O eD tD) ?_)))));rintro w5 ⟨_,eE,eF⟩;have e5:0+(b.nodes.length:Int).toNat*4+2=b.nodes.length*4+(if false then 3 else 2):=tR;have dL:Blk w5 g (((b.nodes++[⟨4,b.step,-1,-1⟩,⟨5,b.step,-1,-1⟩]:List Nd).flatMap xM++sp).set (0+(b.nodes.length:Int).toNat*4+2) (.int .i64 (b.nodes.length+1:Nat))) 65:=eE;rw[e5,hset]at dL;have eG:KT bty W0 w4 w5:=zrU eD zo1 (db.far _ rfl) ⟨‹_›,eE,eF⟩;have dO:=dZ.trans eG;have dh:=eG.blk dg tS;have eZ:=db.ne rfl
  have d5:BdS W0 B w5 { nodes:=jt (b.nodes++[⟨4,b.step,-1,-1⟩,⟨5,b.step,-1,-1⟩]) (b.nodes.length+1:Nat) (b.nodes.length,false),step:=b.step+1 } (.slice (some ⟨g,0,none⟩) (b.nodes++[⟨4,b.step,-1,-1⟩,⟨5,b.step,-1,-1⟩]:List Nd).length cap):=by
   refine⟨eF.blk db.blk (fun h=>eZ h.symm),?_,db.low,db.far⟩;have h:=qY zL (k:=(b.nodes++[⟨4,b.step,-1,-1⟩,⟨5,b.step,-1,-1⟩]:List Nd).length) dL tD JP eW eX;rw[zvB JP]at h;dsimp only;rw[yz];exact h
  refine Gs 4 O (Dw (fun q=>Blk q c [.int .i64 s.act,.int .i64 s.cost,.int .i64 s.var,.int .i64 s.n,.int .i64 s.term.op,.int .i64 s.term.n,v1,v2,v3,v4] 72) [] (fun w6 dt _=>?_));have hY:=dt.blk dh (fun h=>h);have d6:=d5.ext dt;have dG:=dO.ext' dt;refine Ds [0,1] tK O (WD.take 2 O tK O O O hY (fun w1 dF=>R.load tg24 O (dF.cells 7 _ O)) (Da [3,4,5,10] tK O tO (WD.call 6 O tK O O O (F.call (vs:=[_,_]) call126 O) (zdf B (b.nodes.length+1) w6) ?_)));rintro x w7 ⟨hx,ec⟩;have da:=ec.blk hY (fun h=>h);have dQ:=d6.ext ec;have d7:=dG.ext' ec;refine⟨fun _=>da,?_⟩;have dl:=hx;obtain⟨bb,ab,rfl,_,_⟩:=hx;refine WD.mem 7 O tK O O O (M.buildSlice (cs:=[.func (.func 166) #[] #[.pointer (some ⟨bb,0,none⟩),.pointer (some ⟨ab,0,none⟩)]]) [(0,_)] tR198 ts120 tz120 tS O tK) ?_;rintro _ w8 ⟨g8,rfl,fK,fL,fb,dU⟩;have dM:=dU.blk da (fun h=>h);have fe:=dQ.ext dU;have ed:=d7.ext' dU;refine⟨fun _=>dM,?_⟩;have fg:=Hung.lit fb (dl.ext dU);have fm:=ed.size;refine WD.call 8 O tK O O O (F.call (vs:=[_,_,_]) call125 O) (h1 W0 B _ _ D w8 _ _ _ (ed.sl zf ht hD) hD fe fg (by intro e he;rw[zt9.1 he];dsimp only;rw[yz,dK];omega) tO dr.1.2 (by dsimp only;rw[yz,dK];omega) tD) ?_;rintro r9 w9 ⟨⟨nv9,eH⟩,dV,fM,eI⟩;have ee:=eI.blk dM tS;have fp:=ed.trans eI;refine⟨fun _=>ee,?_⟩;have ef:=xE s.thn dr.1.2 { nodes:=jt (b.nodes++[⟨4,b.step,-1,-1⟩,⟨5,b.step,-1,-1⟩]) (b.nodes.length+1:Nat) (b.nodes.length,false),step:=b.step+1 } [(b.nodes.length+1,false)] (by intro e he;rw[zt9.1 he];dsimp only;rw[yz,dK];omega);generalize hX:listB s.thn { nodes:=jt (b.nodes++[⟨4,b.step,-1,-1⟩,⟨5,b.step,-1,-1⟩]) (b.nodes.length+1:Nat) (b.nodes.length,false),step:=b.step+1 } [(b.nodes.length+1,false)]=X at eH dV ef ⊢;obtain⟨a9,c9,rfl,_⟩:=dV.form;have du:=ef.len;have eh:=ef.lt;have fq:=dV.len;dsimp only at du;rw[yz,dK]at du;refine Ds [9] tK O (G.done tK ?_ _);refine Gs 1 O (zoP (σ:=Unit) (fun u=>[(0,.pointer (some ⟨B,0,none⟩)),(2,.int .i64 b.nodes.length)]) (fun u=>fun w'=>(∃ nv',BdS W0 B w' { X.1 with nodes:=zo X.1.nodes (b.nodes.length+1:Nat) X.2 } nv')/\KT bty W0 w w') ?_ ?_)
  .
   refine Gs 1 O (G.loop (σ:=Nat) (fun j=>[(0,.pointer (some ⟨B,0,none⟩)),(2,.int .i64 b.nodes.length),(71,.slice a9 X.2.length c9),(72,.int .i64 X.2.length),(73,.int .i64 j)]) (fun j=>fun w'=>j<=X.2.length/\(∃ nv',BdS W0 B w' { X.1 with nodes:=zo X.1.nodes (b.nodes.length+1:Nat) (X.2.take j) } nv')/\Hung B w' (.slice a9 X.2.length c9) X.2/\KT bty W0 w w') (fun j=>X.2.length - j) 0 j2 ⟨zt6 _,⟨_,eH⟩,dV,fp⟩ ?_);rintro j y1 ⟨hj,⟨nvj,ei⟩,eJ,eK⟩;refine Gs 6 O (zoD O (fun eS=>?_) (fun fN=>?_))
   .
    obtain⟨e,he⟩:∃ e,X.2[j]?=some e:=j9;obtain⟨ge,x,rfl,ft,fu⟩:=eJ.at he;obtain⟨ie,pe⟩:=e;obtain⟨f,fcs,rfl,fw,dN⟩:=zfl W0 B ie pe (b.nodes.length+1:Nat) _ _ x y1 ei fu (by dsimp only;rw[zT];exact eh _ (zsS he));refine Ga 7 O tO (zqk O isAgg120 (ft 0 _ O) (Ga 7 O tO (zpo O fw dN ?_)));rintro _ y2 ⟨dJ,eL⟩;refine Ga 7 O tO (G.back (j+1) j2 ⟨tO,⟨nvj,by rw[kz he];exact dJ⟩,eJ.kt eL,eK.trans eL⟩ tO)
   have fx:j=X.2.length:=tO;subst fx;rw[zsW]at ei;refine Gs 4 O (zoR () j2 ⟨⟨nvj,ei⟩,eK⟩)
  rintro u y3 ⟨⟨nv3',yb3⟩,yE3⟩;refine Ga 6 O tO (G.call O call204 (zg8 B (b.nodes.length+1) y3) ?_);rintro x y4 ⟨hx,yk4⟩;have dl:=hx;obtain⟨bb,ab,rfl,_,_⟩:=hx;refine G.mem O O (M.buildSlice (cs:=[.func (.func 215) #[] #[.pointer (some ⟨bb,0,none⟩),.pointer (some ⟨ab,0,none⟩)]]) [(0,_)] tR198 ts120 tz120 tS O tK) ?_;rintro _ y5 ⟨g5,rfl,yg5,ys5,yB5,yk5⟩;have:=yE3.size;have:=yk4.size;refine Gs 6 O (zoU results165 O ⟨_,rfl,⟨nv3',(yb3.ext yk4).ext yk5⟩,Hung.lit yB5 (dl.ext yk5),⟨g5,rfl,tO⟩,(yE3.ext' yk4).ext' yk5⟩)
 rw[zt1 a4];rw[zt1 a4]at hw;rw[zt1 a3,zt1 a4]at dr;refine Gs 6 O (G.call O call203 (zg9 W0 B 2 b nv w1 hb tO tO) ?_);rintro _ w2 ⟨⟨nv2,hC⟩,dw⟩;have dD:=dX.trans dw;refine Gs 7 O (zqk O tg3 (hC.blk.cells 1 (.int .i64 b.step) O) (Ga 3 O tO (zpt O (M.store ts3 O O O O hC.blk tR) ?_)));rintro w3 dY;obtain⟨dc,dy⟩:=hC.bump dY;have dE:=dD.trans dy;refine Gs 6 O (G.call O call126 (zdf B b.nodes.length w3) ?_);rintro x w4 ⟨hx,dA⟩;have dl:=hx;obtain⟨bb,ab,rfl,_,_⟩:=hx;refine G.mem O O (M.buildSlice (cs:=[.func (.func 166) #[] #[.pointer (some ⟨bb,0,none⟩),.pointer (some ⟨ab,0,none⟩)]]) [(0,_)] tR198 ts120 tz120 tS O tK) ?_;rintro _ w5 ⟨g5,rfl,fO,fP,fy,dB⟩;have:=dE.size;have:=dA.size;refine Gs 4 O (zoU results165 O ⟨_,rfl,⟨nv2,(dc.ext dA).ext dB⟩,Hung.lit fy (dl.ext dB),⟨g5,rfl,tO⟩,(dE.ext' dA).ext' dB⟩)
theorem zbE {x:α} (h:l[i]?=some x):l.drop i=x::l.drop (i+1):=by
 obtain⟨h1,h2⟩:=zt5.1 h;rw[<- h2,List.getElem_cons_drop]
theorem zmm (l:List St):zi9 l:=by
 induction l using zqD with
 | h l ih =>
 intro W0 B v vin D w b nv ins hl hD hb hu dE hW hp hn d7;obtain⟨av,cv,rfl⟩:=hl.form;have d8:=hl.max;refine zqs func125 O ntmps125 O (Gs 14 O (G.loop (σ:=Nat × Value) (fun⟨i,vi⟩=>[(0,.pointer (some ⟨B,0,none⟩)),(2,vi),(12,.slice av l.length cv),(13,.int .i64 l.length),(14,.int .i64 i)]) (fun⟨i,vi⟩=>fun w'=>i<=l.length/\(∃ b' nv' ins',BdS W0 B w' b' nv'/\Hung B w' vi ins'/\(∀ e ∈ ins',e.1<b'.nodes.length)/\listB (l.drop i) b' ins'=listB l b ins/\b'.nodes.length=b.nodes.length+widL (l.take i)/\b'.step=b.step+ssize (l.take i))/\(vi.ownBlock=vin.ownBlock\/∃ g,vi.ownBlock=some g/\w.heap.size<=g)/\KT bty W0 w w') (fun⟨i,vi⟩=>l.length - i) (0,vin) j2 ⟨zt6 _,⟨b,nv,ins,hb,hu,dE,rfl,by simp[widL],by simp[ssize]⟩,.inl rfl,KT.refl⟩ ?_));rintro⟨i,vi⟩ w1 ⟨hi,⟨b1,nv1,ins1,da,db,dr,dl,d9,eb⟩,dF,dt⟩;refine Gs 6 O (zoD O (fun dG=>?_) (fun ec=>?_))
 .
  obtain⟨s,he⟩:∃ x,l[i]?=some x:=j9;have hm:=zsS he;have dH:=dt.sl zf hl hD
  obtain⟨bq,oq,cq,dI,ed,ee,dJ,dA⟩:∃ b o cs,av=some ⟨b,o,none⟩/\D b/\cs.length=10/\Cells w1 b (o+i*10) cs/\RSt D w1 s cs:=by
   obtain⟨ao',cap',h1,h2,h3,h4⟩:=dH
   grind
  have hC:=dA.one;have dc:=yU hp s hm;have ef:=zaq he;have eh:=xC he;obtain⟨v1,v2,v3,v4,rfl,q1,q2,q3,q4⟩:=dA.get;refine Gs 6 O (zqg O O (zph tR24 ts72 O O dI tO) (zqm O tg72 ts72 dJ O (G.mem O O (M.alloc (cs:=_) tz72 O) ?_)));rintro _ w2 ⟨c,rfl,hc,ei,du,dK⟩;refine zpt O (zpu ts72 O O O O hC du tR) ?_;rintro w3 ⟨_,dL,dM⟩;have hY:Ext w1 w3:=dK.trans dM (fun q hq h=>tO);have dN:=dt.ext' hY;replace da:=da.ext hY;replace db:=db.ext hY;obtain⟨an,cn,rfl,ej,_⟩:=xP da.row;obtain⟨a1,c1,rfl,_⟩:=db.form;have dO:=db.len;have dw:Blk w3 c [.int .i64 s.act,.int .i64 s.cost,.int .i64 s.var,.int .i64 s.n,.int .i64 s.term.op,.int .i64 s.term.n,v1,v2,v3,v4] 72:=dL;refine Gs 7 O (zqk O tg34 (da.blk.cells 0 _ O) (Gs 13 O (G.loop (σ:=Nat) (fun j=>[(0,.pointer (some ⟨B,0,none⟩)),(8,.pointer (some ⟨c,0,none⟩)),(9,.int .i64 b1.nodes.length),(12,.slice av l.length cv),(13,.int .i64 l.length),(14,.int .i64 i),(23,.slice a1 ins1.length c1),(24,.int .i64 ins1.length),(25,.int .i64 j)]) (fun j=>fun w'=>j<=ins1.length/\BdS W0 B w' { b1 with nodes:=zo b1.nodes b1.nodes.length (ins1.take j) } (.slice an b1.nodes.length cn)/\Hung B w' (.slice a1 ins1.length c1) ins1/\Blk w' c [.int .i64 s.act,.int .i64 s.cost,.int .i64 s.var,.int .i64 s.n,.int .i64 s.term.op,.int .i64 s.term.n,v1,v2,v3,v4] 72/\KT bty W0 w3 w') (fun j=>ins1.length - j) 0 j2 ⟨zt6 _,da,db,dw,KT.refl⟩ ?_)));rintro j y1 ⟨hj,dx,dB,dC,dg⟩;have dD:=dN.trans dg;refine Gs 6 O (zoD O (fun ek=>?_) (fun em=>?_))
  .
   obtain⟨e,dy⟩:∃ e,ins1[j]?=some e:=j9;obtain⟨ge,x,rfl,dQ,dR⟩:=dB.at dy;obtain⟨ie,pe⟩:=e;obtain⟨f,fcs,rfl,dS,dh⟩:=zfl W0 B ie pe (b1.nodes.length:Nat) _ _ x y1 dx dR (by dsimp only;rw[zT];exact dr _ (zsS dy));refine Ga 7 O tO (zqk O isAgg120 (dQ 0 _ O) (Gs 6 O (zpo O dS dh ?_)));rintro _ y2 ⟨dT,dz⟩;refine Ga 7 O tO (G.back (j+1) j2 ⟨tO,by rw[kz dy];exact dT,dB.kt dz,dz.blk dC tS,dg.trans dz⟩ tO)
  have dU:j=ins1.length:=tO;subst dU;rw[zsW]at dx;have dV:=dD.size;have hC:=znt s (ih s hm).1 (ih s hm).2 W0 B _ D y1 { b1 with nodes:=zo b1.nodes b1.nodes.length ins1 } _ (RSt.put (s:=s) (dg.sl zy (q1.ext zy hY) hD) (dg.sl zf (q2.ext zf hY) hD) (dg.sl zf (q3.ext zf hY) hD) (dg.sl zc (q4.ext zc hY) hD)) hD dx tO dc (by dsimp only;rw[zT];omega) tD;have dm:=zeg s dc (fun b ins h=>xE s.thn (by rw[s.plainB_eq,ztA,ztA]at dc;exact dc.1.2) b ins h) (fun b ins h=>xE s.els (by rw[s.plainB_eq,ztA,ztA]at dc;exact dc.2) b ins h) { b1 with nodes:=zo b1.nodes b1.nodes.length ins1 };simp only[zT]at hC dm;refine Gs 7 O (zqm O tg72 ts72 dC.cells O (Gs 1 O (G.call O call165 hC ?_)));rintro r y2 ⟨⟨nv2,dW⟩,dX,⟨g2,dY,dZ⟩,d5⟩;refine Ga 8 O tO (G.back (i+1,r) j2 ⟨tO,⟨_,nv2,_,dW,dX,dm.lt,?_,?_,?_⟩,.inr ⟨g2,dY,tO⟩,dD.trans d5⟩ tD)
  . rw[<- dl,zbE he,zar]
  . have:=dm.len;dsimp only at this;rw[zT]at this;rw[zbA he];omega
  have:=dm.step;dsimp only at this;rw[jN he];omega
 have d6:i=l.length:=tO;subst d6;rw[zud,listB]at dl;refine Gs 12 O (zoU results125 O ⟨_,rfl,⟨nv1,by rw[<- dl];exact da⟩,by rw[<- dl];exact db,dF,dt⟩)
end Go.Proofs.YtckdhgbepmpgiaaGreat
namespace Go.GL
theorem zu [Decidable p] (h:p):some (Value.bool true)=some (Value.bool (decide p)):=by rw[zt3 h]
theorem zv [Decidable p] (h:¬ p):some (Value.bool false)=some (Value.bool (decide p)):=by rw[zt4 h]
theorem zi {q:Prop} [Decidable q] [Decidable p] (h:q ↔ p):some (Value.bool (decide q))=some (Value.bool (decide p)):=by rw[ztj.2 h]
theorem xo {a b:Bool} (h:a=b):some (Value.bool a)=some (Value.bool b):=by rw[h]
end Go.GL
namespace Go.Proofs.YtckdhgbepmpgiaaGreat
open Go.GL
theorem zei (hc:Calls prog f args w (Ret fun r w'=>r=v/\Ext w w')):Calls prog f args w (Ret fun r w'=>∃ _:Unit,r=v/\Hands H [] [] w w'):=by
 refine hc.mono ?_;rintro _ w' ⟨_,rfl,rfl,hk⟩;exact⟨_,rfl,(),rfl,hk.mono fun q _ h=>h.elim,fun x hx=>tD,List.Pairwise.nil⟩
theorem jQ (l:List St):∀ (v:Value) (D:Nat->Prop) (w:World),SlR 10 RSt D w v l->ssize l<=1000000->Calls prog 56 #[v] w (Ret fun r w'=>r=.int .i64 (ssize l)/\Ext w w'):=by
 induction l using zqD with
 | h l ih =>
 intro v D w hl dF;have dm:=jO l;obtain⟨ao,cap,rfl⟩:=hl.form;refine zqq func56 O ntmps56 O (V.inn (Vs 17 O (zrl (σ:=Nat) [0] [] [] O (fun e i=>(3,.int .i64 (ssize (l.take i)))::(4,.int .i64 i)::e) (fun e i=>e) (fun i=>i<=l.length) (fun i=>l.length - i) 0 j2 j3 j1 j1 j1 (zt6 _) ?_)));rintro i hi;refine Vs 9 O (zoE O (fun dG=>?_) (fun dH=>?_))
 .
  refine zri 1000 0 i tO hl O O O (fun s dI dJ dK hC hY da dg=>?_);obtain⟨dr,dt,du,dw,rfl,dh,db,dc,dl⟩:=dg.get;obtain⟨dx,dy,rfl⟩:=dh.form;obtain⟨dz,dA,rfl⟩:=db.form;obtain⟨dB,dC,rfl⟩:=dc.form;obtain⟨dD,dE,rfl⟩:=dl.form;have dL:=xC hC;have dM:=s.size_eq;refine Vs 4 O (Vw [1000] [] O (Vb [0,1,2,3,9,10] 0 tK O O O tO ?_));refine zqR 4 1000 tR24 ts72 O tK O da tO _ rfl O (Vd [5,6] 0 tK O O O ?_);refine zqR 11 1000 tR24 ts72 O tK O da tO _ rfl O (Vd [12,13] 0 tK O O O (zr3 7 0 tc56 O tK O O (fun w hI=>(ih s hY).1 _ D w y7 tO) (Vb [8] 0 tK O O O tO (zr3 14 0 tc56 O tK O O (fun w hI=>(ih s hY).2 _ D w ip tO) (Vb [15,16] 0 tK O O O tO (VD.done tK (Va 7 O tO (V.back (i+1) (Sub.cons (xQ O (by rw[jN hC];omega)) YO) j3 tO tO 0 O O))))))))
 obtain rfl:i=l.length:=tO;refine Vs 12 O (zr9 0 results56 O O tD)
theorem jB (t:Tm):∀ (cs:List Value) (D:Nat->Prop) (w:World),RTm D w t cs->t.nodes<=1000000->Calls prog 105 #[.agg cs.toArray] w (Ret fun r w'=>r=.int .i64 t.nodes/\Ext w w'):=by
 induction t using zqB with
 | h t ih =>
 intro cs D w ht dr;have dg:=zby t.kids;have dt:=t.nodes_eq;obtain⟨v,rfl,hk⟩:=ht.get;obtain⟨ao,cap,rfl⟩:=hk.form;refine zqq func105 O ntmps105 O (V.inn (Vs 2 O (V.box 1 O O (fun b1=>?_))));refine Vs 15 O (zrl (σ:=Nat) [1] [1] [1] O (fun e i=>(3,.int .i64 (1+tnodes (t.kids.take i):Nat))::(4,.int .i64 i)::e) (fun e i=>e) (fun i=>i<=t.kids.length) (fun i=>t.kids.length - i) 0 j2 j3 j1 j1 j1 (zt6 _) ?_);rintro i hi;refine Vs 10 O (zoE O (fun du=>?_) (fun dw=>?_))
 .
  refine Vs 9 O (zri 1000 0 i tO hk O O O (fun k dx dy dz hC da db dc=>?_));obtain⟨dh,rfl,hY⟩:=dc.get;obtain⟨dl,dm,rfl⟩:=hY.form;refine zqQ 1000 tR68 ts70 O db tO _ rfl O ?_;have dA:=xR hC;refine Vs 1 O (zr2 call105 O (fun w hI=>ih k da _ D w (RTm.put iV) tO) (Va 10 O tO (V.back (i+1) (Sub.cons (xQ O (by rw[ku hC];omega)) YO) j3 tO tO 0 O O)))
 obtain rfl:i=t.kids.length:=tO;refine Vs 12 O (zr9 0 results105 O O tD)
theorem jC (t:Tm):∀ (cs:List Value) (D:Nat->Prop) (w:World),RTm D w t cs->t.nodes<=1000000->Calls prog 106 #[.agg cs.toArray] w (Ret fun r w'=>r=.int .i64 t.depth/\Ext w w'):=by
 induction t using zqB with
 | h t ih =>
 intro cs D w ht dr;have dg:=zby t.kids;have dt:=t.nodes_eq;obtain⟨v,rfl,hk⟩:=ht.get;obtain⟨ao,cap,rfl⟩:=hk.form;refine zqq func106 O ntmps106 O (V.inn (Vs 2 O (V.box 1 O O (fun b1=>?_))));refine Vs 15 O (zrl (σ:=Nat) [1] [1] [1] O (fun e i=>(3,.int .i64 (tdepth (t.kids.take i):Nat))::(4,.int .i64 i)::e) (fun e i=>e) (fun i=>i<=t.kids.length) (fun i=>t.kids.length - i) 0 j2 j3 j1 j1 j1 (zt6 _) ?_);rintro i hi;refine Vs 10 O (zoE O (fun du=>?_) (fun dw=>?_))
 .
  refine Vs 9 O (zri 1000 0 i tO hk O O O (fun k dx dy dz hC da db dc=>?_));obtain⟨dh,rfl,hY⟩:=dc.get;obtain⟨dl,dm,rfl⟩:=hY.form;refine zqQ 1000 tR68 ts70 O db tO _ rfl O ?_;have dA:=xR hC;have dB:=zbu hC;refine Vs 1 O (zr2 call106 O (fun w hI=>ih k da _ D w (RTm.put iV) tO) (Vs 10 O (zoE O (fun dC=>?_) (fun dD=>?_))))
  . refine Va 11 O tO (V.back (i+1) Ui j3 tO tO 0 O O)
  refine Va 8 O tO (V.back (i+1) Ui j3 tO tO 0 O O)
 obtain rfl:i=t.kids.length:=tO;have dE:=zaG t.kids;rw[zsW];refine Va 13 O tO (zr9 0 results106 O O (by rw[t.depth_eq];rfl))
theorem zfm (l:List St):∀ (v:Value) (D:Nat->Prop) (w:World),SlR 10 RSt D w v l->snodes l<=1000000->Calls prog 104 #[v] w (Ret fun r w'=>r=.int .i64 (snodes l)/\Ext w w'):=by
 induction l using zqD with
 | h l ih =>
 intro v D w hl dF;have dm:=zdd l;obtain⟨ao,cap,rfl⟩:=hl.form;refine zqq func104 O ntmps104 O (V.inn (Vs 17 O (zrl (σ:=Nat) [0] [] [] O (fun e i=>(3,.int .i64 (snodes (l.take i)))::(4,.int .i64 i)::e) (fun e i=>e) (fun i=>i<=l.length) (fun i=>l.length - i) 0 j2 j3 j1 j1 j1 (zt6 _) ?_)));rintro i hi;refine Vs 9 O (zoE O (fun dG=>?_) (fun dH=>?_))
 .
  refine zri 1000 0 i tO hl O O O (fun s dI dJ dK hY da hC dh=>?_);obtain⟨dr,dt,du,dw,rfl,db,dc,dg,dl⟩:=dh.get;obtain⟨dx,dy,rfl⟩:=db.form;obtain⟨dz,dA,rfl⟩:=dc.form;obtain⟨dB,dC,rfl⟩:=dg.form;obtain⟨dD,dE,rfl⟩:=dl.form;have dL:=qx hY;have dM:=s.nodes_eq;refine Vs 4 O (Vw [1000] [] O (Vb [0,1,2,3,9,10,16,17] 0 tK O O O tO ?_));refine zqR 4 1000 tR24 ts72 O tK O hC tO _ rfl O (Vd [5,6] 0 tK O O O ?_);refine zqR 11 1000 tR24 ts72 O tK O hC tO _ rfl O (Vd [12,13] 0 tK O O O ?_);refine zqR 18 1000 tR24 ts72 O tK O hC tO _ rfl O (Vd [19,20] 0 tK O O O (zr3 7 0 call105 O tK O O (fun w hI=>jB s.term _ D w (RTm.put y7) tO) (Vb [8] 0 tK O O O tO (zr3 14 0 call104 O tK O O (fun w hI=>(ih s da).1 _ D w ip tO) (Vb [15] 0 tK O O O tO (zr3 21 0 call104 O tK O O (fun w hI=>(ih s da).2 _ D w i6 tO) ?_))))));refine Vb [22,23] 0 tK O O O tO (VD.done tK (Va 7 O tO (V.back (i+1) (Sub.cons (xQ O (by rw[zbv hY];omega)) YO) j3 tO tO 0 O O)))
 obtain rfl:i=l.length:=tO;refine Vs 12 O (zr9 0 results104 O O tD)
theorem zbF (l:List St):∀ (v:Value) (D:Nat->Prop) (w:World),SlR 10 RSt D w v l->snodes l<=1000000->Calls prog 107 #[v] w (Ret fun r w'=>r=.int .i64 (sdepth l)/\Ext w w'):=by
 induction l using zqD with
 | h l ih =>
 intro v D w hl dF;have dm:=zdd l;obtain⟨ao,cap,rfl⟩:=hl.form;refine zqq func107 O ntmps107 O (V.inn (Vs 17 O (zrl (σ:=Nat) [0] [] [] O (fun e i=>(3,.int .i64 (sdepth (l.take i)))::(4,.int .i64 i)::e) (fun e i=>e) (fun i=>i<=l.length) (fun i=>l.length - i) 0 j2 j3 j1 j1 j1 (zt6 _) ?_)));rintro i hi;refine Vs 9 O (zoE O (fun dG=>?_) (fun dH=>?_))
 .
  refine zri 1000 0 i tO hl O O O (fun s dI dJ dK hC hY da dg=>?_);obtain⟨dr,dt,du,dw,rfl,dh,db,dc,dl⟩:=dg.get;obtain⟨dx,dy,rfl⟩:=dh.form;obtain⟨dz,dA,rfl⟩:=db.form;obtain⟨dB,dC,rfl⟩:=dc.form;obtain⟨dD,dE,rfl⟩:=dl.form;have dL:=qx hC;have dM:=s.nodes_eq;have dN:=zbw hC;have dO:=s.depth_eq;have dQ:=jA s.thn;have dR:=jA s.els;refine Vs 8 O ?_;refine zqQ 1000 tR24 ts72 O da tO _ rfl O (Vs 2 O (zr2 call107 O (fun w hI=>(ih s hY).1 _ D w y7 tO) (Va 8 O tO ?_)));refine zqQ 1000 tR24 ts72 O da tO _ rfl O (Vs 2 O (zr2 call107 O (fun w hI=>(ih s hY).2 _ D w ip tO) (Va 12 O tO (zoE O (fun h1=>?_) (fun h1=>?_)))))
  .
   refine Vs 12 O (zoE O (fun h2=>?_) (fun h2=>?_))
   . refine Va 11 O tO (V.back (i+1) Ui j3 tO tO 0 O O)
   refine Va 8 O tO (V.back (i+1) Ui j3 tO tO 0 O O)
  refine Vs 9 O (zoE O (fun h2=>?_) (fun h2=>?_))
  . refine Va 11 O tO (V.back (i+1) Ui j3 tO tO 0 O O)
  refine Va 8 O tO (V.back (i+1) Ui j3 tO tO 0 O O)
 obtain rfl:i=l.length:=tO;refine Vs 12 O (zr9 0 results107 O O tD)
theorem zbG (l:List St):∀ (v:Value) (D:Nat->Prop) (w:World),SlR 10 RSt D w v l->snodes l<=1000000->Calls prog 108 #[v] w (Ret fun r w'=>r=.bool (stdeep l)/\Ext w w'):=by
 induction l using zqD with
 | h l ih =>
 intro v D w hl dI;have dr:=zdd l;obtain⟨ao,cap,rfl⟩:=hl.form;refine zqq func108 O ntmps108 O (V.inn (Vs 12 O (zrl (σ:=Nat) [0] [] [] O (fun e i=>(3,.int .i64 i)::e) (fun e i=>e) (fun i=>i<=l.length/\stdeep (l.take i)=false) (fun i=>l.length - i) 0 j2 j3 j1 j1 j1 JF ?_)));rintro i ⟨hi,dm⟩;refine Vs 9 O (zoE O (fun dJ=>?_) (fun dK=>?_))
 .
  refine zri 1000 0 i tO hl O O O (fun s dL dM dN hC da hY dh=>?_);obtain⟨dt,du,dw,dx,rfl,db,dc,dg,dl⟩:=dh.get;obtain⟨dy,dz,rfl⟩:=db.form;obtain⟨dA,dB,rfl⟩:=dc.form;obtain⟨dC,dD,rfl⟩:=dg.form;obtain⟨dE,dF,rfl⟩:=dl.form;have dO:=qx hC;have dQ:=s.nodes_eq;have dG:=zbx hC;rw[dm,ztE,s.tdeep_eq]at dG
  have dH:(decide (12<s.term.depth) || stdeep s.thn || stdeep s.els)=true->stdeep l=true:=by
   intro h;rw[yH hC,jc];simp only[stdeep,s.tdeep_eq,h,Bool.true_or,Bool.or_true]
  refine Vs 8 O ?_;refine zqQ 1000 tR24 ts72 O hY tO _ rfl O (Vs 2 O (zr2 call106 O (fun w hI=>jC s.term _ D w (RTm.put y7) tO) (Vs 2 O (V.sp 17 O (fun h1=>?_) (fun h1=>?_)))))
  . refine Vs 29 O (zr9 0 tr108 O O tD)
  have dR:decide (12<s.term.depth)=false:=zt4 tO;refine Vs 2 O ?_;refine zqQ 1000 tR24 ts72 O hY tO _ rfl O (Vs 2 O (zr2 call108 O (fun w hI=>(ih s da).1 _ D w ip tO) (Vs 2 O (zqb 25 O (fun h2=>?_) (fun h2=>?_)))))
  . refine Vs 21 O (zr9 0 tr108 O O tD)
  refine Vs 2 O ?_;refine zqQ 1000 tR24 ts72 O hY tO _ rfl O (Vs 2 O (zr2 call108 O (fun w hI=>(ih s da).2 _ D w i6 tO) (Vs 3 O (V.bool O (fun h3=>?_) (fun h3=>?_)))))
  . refine Vs 11 O (zr9 0 tr108 O O tD)
  refine Va 8 O tO (V.back (i+1) j2 j3 Ua tO 0 O O)
 obtain rfl:i=l.length:=tO;rw[zsW]at dm;refine Vs 11 O (zr9 0 tr108 O O tD)
theorem yg (a b:Int) (w:World):Calls prog 113 #[.int .i64 a,.int .i64 b] w (Ret fun r w'=>r=.int .i64 (max a b)/\Ext w w'):=by
 refine zqr func113 O ntmps113 O (V.inn (Vs 13 O (zoE O (fun k1_=>?_) (fun k1_=>?_))))
 . refine Vs 8 O (zr9 0 results113 O O tD)
 refine Vs 9 O (zr9 0 results113 O O tD)
theorem yl (a b:Int) (w:World):Calls prog 114 #[.int .i64 a,.int .i64 b] w (Ret fun r w'=>r=.int .i64 (min a b)/\Ext w w'):=by
 refine zqr func114 O ntmps114 O (V.inn (Vs 13 O (zoE O (fun k1_=>?_) (fun k1_=>?_))))
 . refine Vs 8 O (zr9 0 results114 O O tD)
 refine Vs 9 O (zr9 0 results114 O O tD)
def xt (n low high:Int):Int:=if n<low then low else if high<n then high else n
theorem zV (p:Bool) (w:World):Calls prog 131 #[.bool p] w (Ret fun r w'=>r=.int .i64 (if p then 1 else 0)/\Ext w w'):=by
 refine zqq func131 O ntmps131 O (V.inn (Vs 11 O (V.bool O (fun k1_=>?_) (fun k1_=>?_))))
 . refine Vs 7 O (zr9 0 results131 O O tD)
 refine Vs 8 O (zr9 0 results131 O O tD)
theorem zbH (a:Int) (w:World) (ha:-4611686018427387904<=a):Calls prog 182 #[.int .i64 a] w (Ret fun r w'=>r=.int .i64 (if a<0 then -a else a)/\Ext w w'):=by
 refine zqq func182 O ntmps182 O (V.inn (Vs 12 O (zoE O (fun k1_=>?_) (fun k1_=>?_))))
 . refine Va 9 O tO (zr9 0 results182 O O tD)
 refine Vs 9 O (zr9 0 results182 O O tD)
theorem zej (a b c:Int) (w:World) (hC:b<=c):Calls prog 132 #[.int .i64 a,.int .i64 b,.int .i64 c] w (Ret fun r w'=>r=.int .i64 (xt a b c)/\Ext w w'):=by
 refine zqs func132 O ntmps132 O (V.inn (Vs 16 O (zr9 0 results132 O O (by congr 1;unfold xt;grind))))
theorem zbI (t:Tm):∀ (cs:List Value) (D:Nat->Prop) (w:World) (left:Int),RTm D w t cs -> -100000<=left->left<=1000000->Calls prog 58 #[.agg cs.toArray,.int .i64 left] w (Ret fun r w'=>(∃ m:Int,r=.int .i64 m/\((t.nodes:Int)<=left->m=left - t.nodes)/\(¬ (t.nodes:Int)<=left->m<0/\min left 0 - 1<=m))/\Ext w w'):=by
 induction t using zqB with
 | h t ih =>
 intro cs D w left ht h1 h2;have dx:=t.nodes_eq;obtain⟨v,rfl,hk⟩:=ht.get;have dy:=hk.max;obtain⟨ao,cap,rfl⟩:=hk.form;refine zqr func58 O ntmps58 O (V.inn (Vs 2 O (V.box 2 O O (fun b2=>?_))));refine Va 17 O tO (zrl (σ:=Nat × Int) [2] [2] [2] O (fun e ⟨i,x⟩=>(1,.int .i64 x)::(5,.int .i64 i)::e) (fun e ⟨i,x⟩=>e) (fun⟨i,x⟩=>i<=t.kids.length/\((1+tnodes (t.kids.take i):Nat)<=left->x=left - (1+tnodes (t.kids.take i):Nat))/\(¬ ((1+tnodes (t.kids.take i):Nat):Int)<=left->x<0/\min left 0 - 1<=x)) (fun⟨i,x⟩=>t.kids.length - i) (0,left - 1) j2 j3 j1 j1 j1 ⟨zt6 _,fun _=>rfl,fun h=>by simp[tnodes]at h;omega⟩ ?_);rintro⟨i,x⟩ ⟨hi,hy,hn⟩
 have hC:(i=t.kids.length\/x<0)->((t.nodes:Int)<=left->x=left - t.nodes)/\(¬ (t.nodes:Int)<=left->x<0/\min left 0 - 1<=x):=by
  intro h
  have dz:tnodes (t.kids.take i)<=tnodes t.kids:=by
   have:=ja (t.kids.take i) (t.kids.drop i);rw[zvz]at this;omega
  rcases h with h | h
  .
   rw[h,zsW]at hy hn;constructor
   . intro h3;rw[hy tO];omega
   intro h3;exact hn tO
  constructor
  . intro h3;have:=hy tO;omega
  intro h3;by_cases h4:((1+tnodes (t.kids.take i):Nat):Int)<=left
  . have:=hy h4;omega
  exact hn h4
 refine Vs 9 O (V.sp 13 O (fun dh=>?_) (fun dh=>?_))
 .
  refine Vs 5 O (zoE O (fun dl=>?_) (fun dl=>?_))
  .
   refine Vs 8 O (zri 1000 0 i tO hk O O O (fun k dA dB dC da db dc dg=>?_));obtain⟨dm,rfl,hY⟩:=dg.get;obtain⟨dr,dt,rfl⟩:=hY.form;refine zqQ 1000 tR68 ts70 O dc tO _ rfl O ?_;have dD:=ku da;refine Vs 2 O (zr4 call58 O (fun w hI=>ih k db _ D w x (RTm.put iV) tO tO) ?_);rintro r w1 w2 dE du ⟨m,rfl,dF,dG⟩ dw
   have g1:((1+tnodes (t.kids.take (i+1)):Nat):Int)<=left->m=left - (1+tnodes (t.kids.take (i+1)):Nat):=fun h3=>by
    omega
   have g2:¬ ((1+tnodes (t.kids.take (i+1)):Nat):Int)<=left->m<0/\min left 0 - 1<=m:=fun h3=>by
    omega
   refine Va 9 O tO (V.back ⟨i+1,m⟩ j2 j3 ⟨tO,g1,g2⟩ tD 1 O O)
  refine Vs 12 O (zoV results58 O (fun w hI=>⟨_,rfl,⟨x,rfl,hC (.inr tO)⟩,hI.k0⟩))
 refine Vs 18 O (zoV results58 O (fun w hI=>⟨_,rfl,⟨x,rfl,hC (.inl tO)⟩,hI.k0⟩))
theorem zek (l:List St):∀ (v:Value) (D:Nat->Prop) (w:World) (left:Int),SlR 10 RSt D w v l -> -10<=left->left<=1000000->Calls prog 57 #[v,.int .i64 left] w (Ret fun r w'=>(∃ m:Int,r=.int .i64 m/\((sbulk l:Int)<=left->m=left - sbulk l)/\(¬ (sbulk l:Int)<=left->m<0/\min left (-1)<=m))/\Ext w w'):=by
 induction l using zqD with
 | h l ih =>
 intro v D w left hl h1 h2;have dO:=hl.max;obtain⟨ao,cap,rfl⟩:=hl.form;refine zqr func57 O ntmps57 O (V.inn (Vs 12 O (zrl (σ:=Nat × Int) [0] [] [] O (fun e ⟨i,x⟩=>(1,.int .i64 x)::(5,.int .i64 i)::e) (fun e ⟨i,x⟩=>e) (fun⟨i,x⟩=>i<=l.length/\((sbulk (l.take i):Int)<=left->x=left - sbulk (l.take i))/\(¬ (sbulk (l.take i):Int)<=left->x<0/\min left (-1)<=x)) (fun⟨i,x⟩=>l.length - i) (0,left) j2 j3 j1 j1 j1 ⟨zt6 _,fun _=>by simp[sbulk],fun h=>by simp[sbulk]at h;omega⟩ ?_)));rintro⟨i,x⟩ ⟨hi,hy,hn⟩
 have hY:(i=l.length\/x<0)->((sbulk l:Int)<=left->x=left - sbulk l)/\(¬ (sbulk l:Int)<=left->x<0/\min left (-1)<=x):=by
  intro h
  have dQ:sbulk (l.take i)<=sbulk l:=by
   have:=qw (l.take i) (l.drop i);rw[zvz]at this;omega
  rcases h with h | h
  .
   rw[h,zsW]at hy hn;exact⟨hy,hn⟩
  constructor
  . intro h3;have:=hy tO;omega
  intro h3;by_cases h4:(sbulk (l.take i):Int)<=left
  . have:=hy h4;omega
  exact hn h4
 refine Vs 8 O (V.sp 10 O (fun dx=>?_) (fun dx=>?_))
 .
  refine Vs 5 O (zoE O (fun dy=>?_) (fun dy=>?_))
  .
   refine zri 1000 0 i tO hl O O O (fun s dR dS dT da db hC dr=>?_);obtain⟨dz,dA,dB,dC,rfl,dc,dg,dh,dl⟩:=dr.get;obtain⟨dD,dE,rfl⟩:=dc.form;obtain⟨dF,dG,rfl⟩:=dg.form;obtain⟨dH,dI,rfl⟩:=dh.form;obtain⟨dJ,dK,rfl⟩:=dl.form;have dU:=zh0 da;have dV:=zfi da;have dW:=s.bulk_eq
   have dL:(sbulk (l.take i):Int)<=left/\x=left - sbulk (l.take i):=by
    omega
   have dX:=dl.max;refine Vs 8 O ?_;refine zqQ 1000 tR24 ts72 O hC tO _ rfl O (Va 4 O tO (zr4 call58 O (fun w hI=>zbI s.term _ D w (x - 1) (RTm.put ip) tO tO) ?_));rintro r w1 w2 dt dm ⟨m1,rfl,dM,dY⟩ dN;refine Vs 9 O ?_;refine zqQ 1000 tR24 ts72 O hC tO _ rfl O (Vs 6 O (zoE O (fun hb=>?_) (fun hb=>?_)))
   .
    have g1:(sbulk l:Int)<=left -> -1=left - (sbulk l:Int):=fun h3=>by
     omega
    refine Vs 12 O (zoV results57 O (fun w hI=>⟨_,rfl,⟨-1,rfl,g1,fun h3=>tO⟩,hI.k1⟩))
   have h5:(s.term.nodes:Int)<=x - 1:=by
    omega
   have hm:=dM h5;refine Vs 2 O (Vw [1000] [] O (Vd [0,1,5,6,10,11,12] 0 tK O O O ?_));refine zqR 2 1000 tR24 ts72 O tK O hC tO _ rfl O (Vd [3,4] 0 tK O O O ?_);refine zqR 7 1000 tR24 ts72 O tK O hC tO _ rfl O (Vd [8,9] 0 tK O O O ?_);refine zqR 13 1000 tR24 ts72 O tK O hC tO _ rfl O (Vb [14,15,16,17] 0 tK O O O tO (zr5 18 0 call57 O tK O O (fun w hI=>(ih s db).1 _ D w (m1 - s.bounds.length) (Tr1 hI.k1 dg) tO tO) ?_));rintro r w1 w2 dt dm ⟨m2,rfl,h6,h7⟩ du;refine zr5 19 1 call57 O tK O O (fun w hI=>(ih s db).2 _ D w m2 (Tr1 hI.k2 dh) tO tO) ?_;rintro r w1 w2 dt dm ⟨m3,rfl,h8,h9⟩ dw
   have g1:(sbulk (l.take (i+1)):Int)<=left->m3=left - sbulk (l.take (i+1)):=fun h3=>by
    omega
   have g2:¬ (sbulk (l.take (i+1)):Int)<=left->m3<0/\min left (-1)<=m3:=fun h3=>by
    omega
   refine Vd [20] 2 tK O O O (VD.done tK (Va 7 O tO (V.back ⟨i+1,m3⟩ j2 j3 ⟨tO,g1,g2⟩ tD 3 O O)))
  refine Vs 12 O (zoV results57 O (fun w hI=>⟨_,rfl,⟨x,rfl,hY (.inr tO)⟩,hI.k0⟩))
 refine Vs 18 O (zoV results57 O (fun w hI=>⟨_,rfl,⟨x,rfl,hY (.inl tO)⟩,hI.k0⟩))
theorem zkl (f:Fl) (a b:Int) (v1 v2 v3:Value) (D:Nat->Prop) (w:World) (h:RFl D w f v1 v2 v3) (hb:0<=b/\b<=1000000) (ha:a<=1000):Calls prog 28 #[.agg #[v1,v2,v3],.int .i64 a,.int .i64 b] w (Ret fun r w'=>r=.bool (decide ((f.vars.length:Int)<=a/\(f.hatches.length:Int)<=a/\((sbulk f.body+zx f.hatches:Nat):Int)<=b))/\Ext w w'):=by
 obtain⟨hv,hh,dg⟩:=h;obtain⟨a1,n1,rfl⟩:=hv.form;obtain⟨a2,n2,rfl⟩:=hh.form;obtain⟨a3,n3,rfl⟩:=dg.form;have dy:=hh.max;refine zqs func28 O ntmps28 O (V.inn (Vs 2 O (V.box 3 O O (fun b3=>?_))));refine Vs 12 O (V.sp 15 O (fun h1=>?_) (fun h1=>?_))
 . refine Vs 16 O (zoV results28 O iS)
 refine Vs 8 O (zoE O (fun h2=>?_) (fun h2=>?_))
 . refine Vs 7 O (zoV results28 O iS)
 refine Vs 7 O (zr4 call57 O (fun w hI=>zek f.body _ D w b i6 tO tO) ?_);rintro r w1 w2 dl hY ⟨m,rfl,dz,dA⟩ dm;refine Vs 13 O (zrl (σ:=Nat × Int) [27,28] [] [] O (fun e ⟨i,x⟩=>(7,.int .i64 x)::(29,.int .i64 i)::e) (fun e ⟨i,x⟩=>e) (fun⟨i,x⟩=>i<=f.hatches.length/\(((sbulk f.body+zx (f.hatches.take i):Nat):Int)<=b->x=b - (sbulk f.body+zx (f.hatches.take i):Nat))/\(¬ ((sbulk f.body+zx (f.hatches.take i):Nat):Int)<=b->x<0 /\ -1 - (i:Int)<=x)) (fun⟨i,x⟩=>f.hatches.length - i) (0,m) j2 j3 j1 j1 j1 ⟨zt6 _,fun h=>by simp[zx]at h ⊢;omega,fun h=>by simp[zx]at h ⊢;omega⟩ ?_);rintro⟨i,x⟩ ⟨hi,hy,hn⟩;refine Vs 6 O (zoE O (fun dr=>?_) (fun dr=>?_))
 .
  refine Vs 6 O (zri 1000 1 i tO hh O O O (fun e dB dC dD da dt db dc=>?_));obtain⟨du,rfl,hC⟩:=dc;obtain⟨dw,dx,rfl⟩:=hC.form;refine zqQ 1000 tR23 ts109 O db tO _ rfl O ?_;have dE:=kw da;refine Vs 1 O (V.alloc 9 tz109 O O (fun b9=>?_));refine Vs 7 O (zr4 call58 O (fun w hI=>zbI e.term _ D w x (RTm.put (Tr1 hI.k1 hC)) tO tO) ?_);rintro r w1 w2 dl hY ⟨m2,rfl,h6,h7⟩ dh
  have g1:((sbulk f.body+zx (f.hatches.take (i+1)):Nat):Int)<=b->m2=b - (sbulk f.body+zx (f.hatches.take (i+1)):Nat):=fun h3=>by
   omega
  have g2:¬ ((sbulk f.body+zx (f.hatches.take (i+1)):Nat):Int)<=b->m2<0 /\ -1 - ((i+1:Nat):Int)<=m2:=fun h3=>by
   omega
  refine Va 8 O tO (V.back ⟨i+1,m2⟩ j2 j3 ⟨tO,g1,g2⟩ tD 1 O O)
 obtain rfl:i=f.hatches.length:=tO;rw[zsW]at hy hn
 have g:decide (x ≥ 0)=decide ((f.vars.length:Int)<=a/\(f.hatches.length:Int)<=a/\((sbulk f.body+zx f.hatches:Nat):Int)<=b):=by
  grind
 refine Vs 13 O (zoV results28 O (fun w hI=>⟨_,rfl,tD,hI.k1⟩))
def zR (op:Int):Int:=if op=0\/op=24 then 0 else if op=6\/op=7 then 1 else if 8<=op/\op<=22 then 2 else if op=23 then 3 else if op=25 then -2 else -1
theorem zh1 (op:Int) (w:World):Calls prog 150 #[.int .i64 op] w (Ret fun r w'=>r=.int .i64 (zR op)/\Ext w w'):=by
 refine zqq func150 O ntmps150 O (V.inn (Vs 19 O (zrm (σ:=Unit) [3] [] [] O (fun e u=>(4,.bool (decide (op=0\/op=24)))::e) (fun e u=>e) (fun u=>True) j1 j1 ?_ ?_)))
 .
  refine zoE O (fun k1_=>?_) (fun k1_=>?_)
  . refine Vs 1 O (zoS () Uf j3 trivial 0 O O)
  refine Vs 4 O (zoS () Uf j3 trivial 0 O O)
 rintro u _;refine Vs 1 O (zoE O (fun h4=>?_) (fun h4=>?_))
 . refine Vs 8 O i9
 refine Vs 7 O (zrm (σ:=Unit) [3] [] [] O (fun e u=>(7,.bool (decide (op=6\/op=7)))::e) (fun e u=>e) (fun u=>True) j1 j1 ?_ ?_)
 .
  refine zoE O (fun k1_=>?_) (fun k1_=>?_)
  . refine Vs 1 O (zoS () Uf j3 trivial 0 O O)
  refine Vs 4 O (zoS () Uf j3 trivial 0 O O)
 rintro u _;refine Vs 1 O (zoE O (fun h7=>?_) (fun h7=>?_))
 . refine Vs 8 O i9
 refine Vs 7 O (zrm (σ:=Unit) [3] [] [] O (fun e u=>(10,.bool (decide (8<=op/\op<=22)))::e) (fun e u=>e) (fun u=>True) j1 j1 ?_ ?_)
 .
  refine zoE O (fun k1_=>?_) (fun k1_=>?_)
  . refine Vs 1 O (zoS () Uf j3 trivial 0 O O)
  refine Vs 6 O (zoE O (fun k2_=>?_) (fun k2_=>?_))
  . refine Vs 1 O (zoS () Uf j3 trivial 0 O O)
  refine Vs 6 O (zoE O (fun k3_=>?_) (fun k3_=>?_))
  . refine Vs 1 O (zoS () Uf j3 trivial 0 O O)
  refine Vs 6 O (zoE O (fun k4_=>?_) (fun k4_=>?_))
  . refine Vs 1 O (zoS () Uf j3 trivial 0 O O)
  refine Vs 6 O (zoE O (fun k5_=>?_) (fun k5_=>?_))
  . refine Vs 1 O (zoS () Uf j3 trivial 0 O O)
  refine Vs 6 O (zoE O (fun k6_=>?_) (fun k6_=>?_))
  . refine Vs 1 O (zoS () Uf j3 trivial 0 O O)
  refine Vs 6 O (zoE O (fun k7_=>?_) (fun k7_=>?_))
  . refine Vs 1 O (zoS () Uf j3 trivial 0 O O)
  refine Vs 6 O (zoE O (fun k8_=>?_) (fun k8_=>?_))
  . refine Vs 1 O (zoS () Uf j3 trivial 0 O O)
  refine Vs 6 O (zoE O (fun k9_=>?_) (fun k9_=>?_))
  . refine Vs 1 O (zoS () Uf j3 trivial 0 O O)
  refine Vs 6 O (zoE O (fun k10_=>?_) (fun k10_=>?_))
  . refine Vs 1 O (zoS () Uf j3 trivial 0 O O)
  refine Vs 6 O (zoE O (fun k11_=>?_) (fun k11_=>?_))
  . refine Vs 1 O (zoS () Uf j3 trivial 0 O O)
  refine Vs 6 O (zoE O (fun k12_=>?_) (fun k12_=>?_))
  . refine Vs 1 O (zoS () Uf j3 trivial 0 O O)
  refine Vs 6 O (zoE O (fun k13_=>?_) (fun k13_=>?_))
  . refine Vs 1 O (zoS () Uf j3 trivial 0 O O)
  refine Vs 6 O (zoE O (fun k14_=>?_) (fun k14_=>?_))
  . refine Vs 1 O (zoS () Uf j3 trivial 0 O O)
  refine Vs 4 O (zoS () Uf j3 trivial 0 O O)
 rintro u _;refine Vs 1 O (zoE O (fun hC=>?_) (fun hC=>?_))
 . refine Vs 8 O i9
 refine Vs 6 O (zoE O (fun k1_=>?_) (fun k1_=>?_))
 . refine Vs 8 O i9
 refine Vs 6 O (zoE O (fun k2_=>?_) (fun k2_=>?_))
 . refine Vs 8 O i9
 refine Vs 9 O i9
theorem zfn (op:Int) (w:World):Calls prog 128 #[.int .i64 op] w (Ret fun r w'=>(∃ a b:Int,r=.tuple #[.int .i64 a,.int .i64 b]/\(a<0 ↔ zR op=-1)/\(0<=zR op->a=zR op/\b=zR op)/\(zR op=-2->a=2/\b=33))/\Ext w w'):=by
 refine zqq func128 O ntmps128 O (V.inn (Vs 13 O (V.sp 7 O (fun k1_=>?_) (fun k1_=>?_))))
 . refine Vs 16 O iE
 refine Vs 6 O (zoE O (fun k2_=>?_) (fun k2_=>?_))
 . refine Vs 9 O iE
 refine Vs 5 O (V.sp 14 O (fun k3_=>?_) (fun k3_=>?_))
 . refine Vs 16 O iE
 refine Vs 6 O (zoE O (fun k4_=>?_) (fun k4_=>?_))
 . refine Vs 9 O iE
 refine Vs 5 O (V.sp 21 O (fun k5_=>?_) (fun k5_=>?_))
 .
  refine Vs 6 O (zoE O (fun k6_=>?_) (fun k6_=>?_))
  . refine Vs 9 O iE
  refine Vs 7 O (zoE O (fun k7_=>?_) (fun k7_=>?_))
  . refine Vs 9 O iE
  refine Vs 7 O (zoE O (fun k8_=>?_) (fun k8_=>?_))
  . refine Vs 9 O iE
  refine Vs 10 O iE
 refine Vs 14 O (zoE O (fun k6_=>?_) (fun k6_=>?_))
 . refine Vs 9 O (zoY tr128 O O (fun w hI=>⟨_,rfl,⟨_,_,rfl,tO⟩,hI.k0⟩))
 refine Vs 7 O (zoE O (fun k7_=>?_) (fun k7_=>?_))
 . refine Vs 9 O (zoY tr128 O O (fun w hI=>⟨_,rfl,⟨_,_,rfl,tO⟩,hI.k0⟩))
 refine Vs 10 O iE
@[irreducible] def kB (n:Int):Bool:=decide (97<=n/\n<=122)
@[irreducible] def qy (n:Int):Bool:=decide (48<=n/\n<=57\/n=46\/n=95)
def okB (i:Nat) (n:Int):Bool:=kB n || (decide (i ≠ 0)&&qy n)
@[irreducible] def zcl (s:ByteArray):Bool:=decide (1<=s.size/\s.size<=40/\∀ (i:Nat) (h:i<s.size),okB i (s[i].toNat:Int)=true)
theorem zaH (s:ByteArray) (w:World):Calls prog 61 #[.string s] w (Ret fun r w'=>r=.bool (zcl s)/\Ext w w'):=by
 refine zqq func61 O ntmps61 O (V.inn (Vs 12 O (V.sp 10 O (fun h1=>?_) (fun h1=>?_))))
 . refine Vs 14 O (zr9 0 tr61 O O Jt)
 refine Vs 6 O (zoE O (fun h2=>?_) (fun h2=>?_))
 . refine Vs 7 O (zr9 0 tr61 O O Jt)
 refine Vs 9 O (zrl (σ:=Nat) [0] [] [] O (fun e i=>(3,.int .i64 i)::e) (fun e i=>e) (fun i=>i<=s.size/\(∀ (j:Nat) (h:j<s.size),j<i->okB j (s[j].toNat:Int)=true)) (fun i=>s.size - i) 0 j2 j3 j1 j1 j1 ⟨zt6 _,fun j _ h=>absurd h (zvV _)⟩ ?_);rintro i ⟨hi,hY⟩;refine Vs 9 O (zoE O (fun db=>?_) (fun db=>?_))
 .
  have da:i<s.size:=tO;refine Vs 8 O (zqh O (fun w hI=>zpW tu9 O O i O da) ?_);obtain⟨n,hn⟩:∃ n:Int,n=(s[i].toNat:Int):=⟨_,rfl⟩;rw[<- hn];refine Vs 4 O (zrm (σ:=Unit) [0,3,4] [] [] O (fun e u=>(5,.bool (kB n))::e) (fun e u=>e) (fun u=>True) j1 j1 ?_ ?_)
  .
   refine Vs 4 O (zqb 26 O (fun k1_=>?_) (fun k1_=>?_))
   . refine Vs 5 O (zoS () (Sub.cons JY j2) j3 trivial 0 O O)
   refine Vs 5 O (zoS () (Sub.cons JY j2) j3 trivial 0 O O)
  rintro u _;refine Vs 2 O (zrm (σ:=Unit) [0,3,5] [] [] O (fun e u=>(6,.bool (qy n))::e) (fun e u=>e) (fun u=>True) j1 j1 ?_ ?_)
  .
   refine Vs 4 O (zqb 32 O (fun k1_=>?_) (fun k1_=>?_))
   .
    refine Vs 4 O (zqb 36 O (fun k2_=>?_) (fun k2_=>?_))
    . refine Vs 9 O (zoS () (Sub.cons JC j2) j3 trivial 0 O O)
    refine Vs 4 O (zqb 40 O (fun k3_=>?_) (fun k3_=>?_))
    . refine Vs 5 O (zoS () (Sub.cons JC j2) j3 trivial 0 O O)
    refine Vs 5 O (zoS () (Sub.cons JC j2) j3 trivial 0 O O)
   refine Vs 8 O (zqb 40 O (fun k2_=>?_) (fun k2_=>?_))
   . refine Vs 5 O (zoS () (Sub.cons JC j2) j3 trivial 0 O O)
   refine Vs 5 O (zoS () (Sub.cons JC j2) j3 trivial 0 O O)
  rintro u _
  have hC:okB i n=true->∀ (j:Nat) (h:j<s.size),j<i+1->okB j (s[j].toNat:Int)=true:=by
   grind
  have dc:okB i n=false->zcl s=false:=by
   intro h0;rw[zcl,zt4]
   grind
  refine Vs 2 O (zrm (σ:=Unit) [0,3] [] [] O (fun e u=>(53,.bool (!okB i n))::e) (fun e u=>e) (fun u=>True) j1 j1 ?_ ?_)
  .
   refine Vs 2 O (zqh O (fun w hI=>zpS O j6) (Vs 1 O (zqb 46 O (fun k1_=>?_) (fun k1_=>?_))))
   .
    refine Vs 3 O (zqb 49 O (fun k2_=>?_) (fun k2_=>?_))
    . refine Vs 5 O (zoS () (Sub.cons J9 j2) j3 trivial 0 O O)
    refine Vs 1 O (zqh O (fun w hI=>zpS O j6) (Vs 3 O (zoS () (Sub.cons J9 j2) j3 trivial 0 O O)))
   refine Vs 8 O (zoS () (Sub.cons J9 j2) j3 trivial 0 O O)
  rintro u _;refine Vs 1 O (V.bool O (fun ho=>?_) (fun ho=>?_))
  . refine Vs 11 O (zr9 0 tr61 O O tD)
  refine Va 8 O tO (V.back (i+1) j2 j3 ⟨tO,hC tD⟩ tO 0 O O)
 refine Vs 11 O (zr9 0 tr61 O O (by rw[zcl,zt3 ⟨tO,tO,fun j h=>hY j h tO⟩]))
theorem kY (s:ByteArray) (w:World):Calls prog 157 #[.string s] w (Ret fun r w'=>r=.bool (zcl s)/\Ext w w'):=by
 refine zqq func157 O ntmps157 O (V.inn (Vs 11 O (V.sp 8 O (fun h1=>?_) (fun h1=>?_))))
 .
  have db:s.size=0:=by
   have:=congrArg List.length h1;rw[ByteArray.toList_eq]at this;simpa using this
  refine Vs 14 O (zr9 0 tr157 O O Jt)
 have db:s.size ≠ 0:=by
  intro h;apply h1;have:s.toList.length=0:=by rw[ByteArray.toList_eq];simpa using h
  rw[zug this,ByteArray.toList_eq]
 refine Vs 6 O (zoE O (fun h2=>?_) (fun h2=>?_))
 . refine Vs 7 O (zr9 0 tr157 O O Jt)
 refine Vs 11 O (zrl (σ:=Nat) [0,14] [] [] O (fun e i=>(15,.int .i64 i)::e) (fun e i=>e) (fun i=>i<=s.size/\(∀ (j:Nat) (h:j<s.size),j<i->okB j (s[j].toNat:Int)=true)) (fun i=>s.size - i) 0 j2 j3 j1 j1 j1 ⟨zt6 _,fun j _ h=>absurd h (zvV _)⟩ ?_);rintro i ⟨hi,hY⟩;refine Vs 6 O (zoE O (fun dc=>?_) (fun dc=>?_))
 .
  have da:i<s.size:=tO;refine Vs 14 O (zqh O (fun w hI=>zpW tu9 O O i O da) ?_);obtain⟨n,hn⟩:∃ n:Int,n=(s[i].toNat:Int):=⟨_,rfl⟩;rw[<- hn];refine Vs 4 O (zrm (σ:=Unit) [0,3,4,14,15] [] [] O (fun e u=>(5,.bool (kB n))::e) (fun e u=>e) (fun u=>True) j1 j1 ?_ ?_)
  .
   refine Vs 4 O (zqb 23 O (fun k1_=>?_) (fun k1_=>?_))
   . refine Vs 5 O (zoS () (Sub.cons JY j2) j3 trivial 0 O O)
   refine Vs 5 O (zoS () (Sub.cons JY j2) j3 trivial 0 O O)
  rintro u _
  have hC:okB i n=true->∀ (j:Nat) (h:j<s.size),j<i+1->okB j (s[j].toNat:Int)=true:=by
   grind
  have dg:okB i n=false->zcl s=false:=by
   intro h0;rw[zcl,zt4]
   grind
  refine Vs 2 O (zrm (σ:=Unit) [0,14,15] [] [] O (fun e u=>(48,.bool (!okB i n))::e) (fun e u=>e) (fun u=>True) j1 j1 ?_ ?_)
  .
   refine Vs 2 O (zqh O (fun w hI=>zpS O j6) (Vs 1 O (zqb 29 O (fun k1_=>?_) (fun k1_=>?_))))
   .
    refine Vs 3 O (zqb 32 O (fun k2_=>?_) (fun k2_=>?_))
    . refine Vs 17 O (zoS () U4 j3 trivial 0 O O)
    refine Vs 3 O (zqb 35 O (fun k3_=>?_) (fun k3_=>?_))
    .
     refine Vs 8 O (zqb 43 O (fun k4_=>?_) (fun k4_=>?_))
     . refine Vs 6 O (zoS () U4 j3 trivial 0 O O)
     refine Vs 6 O (zoS () U4 j3 trivial 0 O O)
    refine Vs 4 O (zqb 39 O (fun k4_=>?_) (fun k4_=>?_))
    .
     refine Vs 4 O (zqb 43 O (fun k5_=>?_) (fun k5_=>?_))
     . refine Vs 6 O (zoS () U4 j3 trivial 0 O O)
     refine Vs 6 O (zoS () U4 j3 trivial 0 O O)
    refine Vs 10 O (zoS () U4 j3 trivial 0 O O)
   refine Vs 20 O (zoS () U4 j3 trivial 0 O O)
  rintro u _;refine Vs 1 O (V.bool O (fun ho=>?_) (fun ho=>?_))
  . refine Vs 11 O (zr9 0 tr157 O O tD)
  refine Va 7 O tO (V.back (i+1) j2 j3 ⟨tO,hC tD⟩ tO 0 O O)
 refine Vs 11 O (zr9 0 tr157 O O (by rw[zcl,zt3 ⟨tO,tO,fun j h=>hY j h tO⟩]))
@[irreducible] def zb3 (low high:Int):Bool:=decide (low<=high /\ -1048576<=low/\high<=1048576)
theorem kZ (a b:Int) (w:World):Calls prog 62 #[.int .i64 a,.int .i64 b] w (Ret fun r w'=>r=.bool (zb3 a b)/\Ext w w'):=by
 refine zqr func62 O ntmps62 O (V.inn (Vs 11 O (V.sp 8 O (fun k1_=>?_) (fun k1_=>?_))))
 .
  refine Vs 4 O (V.sp 12 O (fun k2_=>?_) (fun k2_=>?_))
  . refine Vs 7 O (zr9 0 results62 O O y8)
  refine Vs 7 O (zr9 0 results62 O O y8)
 refine Vs 11 O (zr9 0 results62 O O y8)
theorem qH (a b:Int) (w:World):Calls prog 88 #[.int .i64 a,.int .i64 b] w (Ret fun r w'=>r=.bool (zb3 a b)/\Ext w w'):=by
 refine zqr func88 O ntmps88 O (V.inn (Vs 11 O (V.sp 8 O (fun k1_=>?_) (fun k1_=>?_))))
 .
  refine Vs 4 O (V.sp 12 O (fun k2_=>?_) (fun k2_=>?_))
  . refine Vs 7 O (zr9 0 results88 O O y8)
  refine Vs 7 O (zr9 0 results88 O O y8)
 refine Vs 11 O (zr9 0 results88 O O y8)
def zW (op:Int) (n:Nat):Bool:=if 0<=zR op then decide ((n:Int)=zR op) else decide (zR op=-2/\2<=n/\n<=33)
def xu (vs:List Vr) (n:Int):Bool:=match vs[n.toNat]? with
 | some v=>decide (v.kind=0)
 | none=>false
def zS (vs:List Vr) (inputs:Bool) (op n:Int):Bool:=if op=24 then decide (0<=n/\n<vs.length)&&!(inputs&&xu vs n) else decide (op=0\/n=0)
mutual
def zA (vs:List Vr) (inputs:Bool):Tm->Bool
 | .mk op n ks=>zW op ks.length&&zS vs inputs op n&&formedL vs inputs ks
def formedL (vs:List Vr) (inputs:Bool):List Tm->Bool
 | []=>true
 | k::r=>zA vs inputs k&&formedL vs inputs r
end
section
variable {vs:List Vr}
theorem yV (t:Tm):zA vs inp t=(zW t.op t.kids.length&&zS vs inp t.op t.n&&formedL vs inp t.kids):=by cases t;rw[zA];rfl
theorem km (a b:List Tm):formedL vs inp (a++b)=(formedL vs inp a&&formedL vs inp b):=by
 induction a with
 | nil=>simp[formedL]
 | cons x r ih=>simp[formedL,ih,Bool.and_assoc]
theorem zaI {l:List Tm} {x:Tm} (h:l[i]?=some x):formedL vs inp (l.take (i+1))=(formedL vs inp (l.take i)&&zA vs inp x):=by rw[ze h,km];simp[formedL]
theorem zX {l:List Tm} {x:Tm} (h:formedL vs inp l=true) (hx:x ∈ l):zA vs inp x=true:=by
 obtain⟨i,hi⟩:=zv5.1 hx;rw[yH hi,km]at h;simp[formedL]at h;exact h.2.1
theorem zbJ {l:List Tm} {x:Tm} (hx:x ∈ l) (h:zA vs inp x=false):formedL vs inp l=false:=by
 cases h1:formedL vs inp l with
 | false=>rfl
 | true=>rw[zX h1 hx]at h;cases h
theorem zcB {op:Int} {n:Nat} (h:zR op=-1\/(0<=zR op/\(n:Int) ≠ zR op)\/(zR op=-2/\(n<2\/33<n))):zW op n=false:=by
 unfold zW;split
 . exact zt4 tO
 exact zt4 tO
theorem jR (op:Int):zR op=0\/zR op=1\/zR op=2\/zR op=3\/zR op=-2\/zR op=-1:=by
 unfold zR;(repeat' split);all_goals omega
end
theorem zel (vs:List Vr) (inp:Bool) (vv:Value) (Dv:Nat->Prop) (t:Tm):∀ (cs:List Value) (D:Nat->Prop) (w:World),SlR 5 RVr Dv w vv vs->RTm D w t cs->Calls prog 110 #[vv,.agg cs.toArray,.bool inp] w (Ret fun r w'=>r=.bool (zA vs inp t)/\Ext w w'):=by
 induction t using zqB with
 | h t ih =>
 intro cs D w dc ht;obtain⟨v,rfl,hk⟩:=ht.get;have dB:=hk.max;obtain⟨ao,cap,rfl⟩:=hk.form;obtain⟨av,nv,rfl⟩:=dc.form;have hC:=yV (vs:=vs) (inp:=inp) t;have dC:=jR t.op;refine zqs func110 O ntmps110 O (V.inn (Vs 2 O (V.box 4 O O (fun b4=>?_))));refine Vs 7 O (zr2 call150 O (fun w hI=>zh1 t.op w) (Vs 5 O (zrm (σ:=Unit) [0,2,4] [4] [4] O (fun e u=>(40,.bool (!zW t.op t.kids.length))::e) (fun e u=>e) (fun u=>True) j1 j1 ?_ ?_)))
 .
  refine Vs 4 O (zqb 14 O (fun k1_=>?_) (fun k1_=>?_))
  . refine Vs 27 O (zoS () Ut j3 trivial 0 O O)
  refine Vs 3 O (zqb 17 O (fun k2_=>?_) (fun k2_=>?_))
  .
   refine Vs 8 O (zqb 25 O (fun k3_=>?_) (fun k3_=>?_))
   . refine Vs 16 O (zoS () Ut j3 trivial 0 O O)
   refine Vs 3 O (zqb 28 O (fun k4_=>?_) (fun k4_=>?_))
   .
    refine Vs 5 O (zqb 33 O (fun k5_=>?_) (fun k5_=>?_))
    . refine Vs 8 O (zoS () Ut j3 trivial 0 O O)
    refine Vs 8 O (zoS () Ut j3 trivial 0 O O)
   refine Vs 13 O (zoS () Ut j3 trivial 0 O O)
  refine Vs 11 O (zqb 28 O (fun k3_=>?_) (fun k3_=>?_))
  .
   refine Vs 5 O (zqb 33 O (fun k4_=>?_) (fun k4_=>?_))
   . refine Vs 8 O (zoS () Ut j3 trivial 0 O O)
   refine Vs 8 O (zoS () Ut j3 trivial 0 O O)
  refine Vs 13 O (zoS () Ut j3 trivial 0 O O)
 rintro u _;refine Vs 1 O (V.bool O (fun hq=>?_) (fun hq=>?_))
 . refine Vs 7 O (zr9 0 tr110 O O tD)
 rw[show zW t.op t.kids.length=true by grind,ztK]at hC;refine Vs 10 O (zrm (σ:=Unit) [0,2,4] [4] [4] O (fun e u=>e) (fun e u=>e) (fun u=>zS vs inp t.op t.n=true) j1 j1 ?_ ?_)
 .
  refine V.bool O (fun k1_=>?_) (fun k1_=>?_)
  .
   refine Vs 6 O (zqb 47 O (fun k2_=>?_) (fun k2_=>?_))
   . refine Vs 29 O (zr9 0 tr110 O O iL)
   refine Vs 7 O (zqb 54 O (fun k3_=>?_) (fun k3_=>?_))
   . refine Vs 22 O (zr9 0 tr110 O O iL)
   refine Vs 2 O (zqb 56 O (fun k4_=>?_) (fun k4_=>?_))
   .
    refine Vs 3 O ?_;have hv:0<=t.n/\t.n<vs.length:=tD;refine zri 1000 0 t.n.toNat tO dc O O O (fun x dD dE dF dg du dh dl=>?_);obtain rfl:=dl;refine zqQ 1000 tR22 ts142 O dh tO (t.n.toNat) tO O ?_;have dG:xu vs t.n=decide (x.kind=0):=by unfold xu;rw[dg]
    refine Vs 7 O (V.bool O (fun k5_=>?_) (fun k5_=>?_))
    . refine Vs 8 O (zr9 0 tr110 O O iL)
    refine Vs 1 O (zoS () j2 j3 Jg 0 O O)
   refine Vs 13 O (zoS () j2 j3 Jg 0 O O)
  refine Vs 6 O (zqb 69 O (fun k2_=>?_) (fun k2_=>?_))
  .
   refine Vs 6 O (V.bool O (fun k3_=>?_) (fun k3_=>?_))
   . refine Vs 8 O (zr9 0 tr110 O O iL)
   refine Vs 1 O (zoS () j2 j3 Jg 0 O O)
  refine Vs 8 O (zoS () j2 j3 Jg 0 O O)
 rintro u dw;rw[dw,ztK]at hC;refine Vs 8 O (zrl (σ:=Nat) [0,2,4] [4] [4] O (fun e i=>(8,.int .i64 i)::e) (fun e i=>e) (fun i=>i<=t.kids.length/\formedL vs inp (t.kids.take i)=true) (fun i=>t.kids.length - i) 0 j2 j3 j1 j1 j1 ⟨zt6 _,by simp[formedL]⟩ ?_);rintro i ⟨hi,hY⟩;refine Vs 10 O (zoE O (fun dx=>?_) (fun dx=>?_))
 .
  refine Vs 10 O (zri 2000 0 i tO hk O O O (fun k dH dI dJ dm da dr dt=>?_));obtain⟨dy,rfl,db⟩:=dt.get;obtain⟨dz,dA,rfl⟩:=db.form;refine zqQ 2000 tR68 ts70 O dr tO _ rfl O (Vs 2 O (zr2 call110 O (fun w hI=>ih k da _ D w ip (RTm.put y7)) (zqh O (fun w hI=>zpS O j6) (Vs 2 O (V.bool O (fun hb=>?_) (fun hb=>?_))))))
  . refine Vs 11 O (zr9 0 tr110 O O (by rw[hC,zbJ da tD]))
  refine Va 8 O tO (V.back (i+1) j2 j3 ⟨tO,by rw[zaI dm,hY];simpa using hb⟩ tO 0 O O)
 obtain rfl:i=t.kids.length:=tO;rw[zsW]at hY;refine Vs 11 O (zr9 0 tr110 O O tD)
theorem za0 (vs:List Vr) (inp:Bool) (vv:Value) (Dv:Nat->Prop) (t:Tm):∀ (cs:List Value) (D:Nat->Prop) (w:World),SlR 5 RVr Dv w vv vs->RTm D w t cs->Calls prog 87 #[vv,.agg cs.toArray,.bool inp] w (Ret fun r w'=>r=.bool (zA vs inp t)/\Ext w w'):=by
 induction t using zqB with
 | h t ih =>
 intro cs D w dc ht;have du:=ht.one;obtain⟨v,rfl,hk⟩:=ht.get;have dE:=hk.max;obtain⟨ao,cap,rfl⟩:=hk.form;obtain⟨av,nv,rfl⟩:=dc.form;have hC:=yV (vs:=vs) (inp:=inp) t;have dF:=jR t.op;refine zqs func87 O ntmps87 O (V.inn (Vs 2 O (V.box 4 O O (fun b4=>?_))));refine Vs 7 O (zr4 call128 O (fun w hI=>zfn t.op w) ?_);rintro r w1 w2 dG dw ⟨la,mo,rfl,dH,dI,dJ⟩ dx;refine Vs 9 O (zrm (σ:=Unit) [0,2,4] [4] [4] O (fun e u=>(32,.bool (!zW t.op t.kids.length))::e) (fun e u=>e) (fun u=>True) j1 j1 ?_ ?_)
 .
  refine Vs 4 O (zqb 19 O (fun k1_=>?_) (fun k1_=>?_))
  . refine Vs 14 O (zoS () Ut j3 trivial 0 O O)
  refine Vs 7 O (zqb 26 O (fun k2_=>?_) (fun k2_=>?_))
  . refine Vs 7 O (zoS () Ut j3 trivial 0 O O)
  refine Vs 7 O (zoS () Ut j3 trivial 0 O O)
 rintro u _;refine Vs 1 O (V.bool O (fun hq=>?_) (fun hq=>?_))
 . refine Vs 7 O (zr9 1 tr87 O O tD)
 rw[show zW t.op t.kids.length=true by grind,ztK]at hC;refine Vs 9 O (zrm (σ:=Unit) [0,2,4] [4] [4] O (fun e u=>e) (fun e u=>e) (fun u=>zS vs inp t.op t.n=true) j1 j1 ?_ ?_)
 .
  refine Vs 7 O (V.bool O (fun k1_=>?_) (fun k1_=>?_))
  . refine Vs 2 O (zoS () j2 j3 Jg 0 O O)
  refine Vs 6 O (V.bool O (fun k2_=>?_) (fun k2_=>?_))
  .
   refine Vs 6 O (zqb 45 O (fun k3_=>?_) (fun k3_=>?_))
   . refine Vs 30 O (zr9 1 tr87 O O iL)
   refine Vs 7 O (zqb 52 O (fun k4_=>?_) (fun k4_=>?_))
   . refine Vs 23 O (zr9 1 tr87 O O iL)
   refine Vs 2 O (zqb 54 O (fun k5_=>?_) (fun k5_=>?_))
   .
    refine Vs 3 O ?_;have hv:0<=t.n/\t.n<vs.length:=tD;refine zri 1000 1 t.n.toNat tO dc O O O (fun x dK dL dM dg dy dh dl=>?_);obtain rfl:=dl;refine zqQ 1000 tR22 ts142 O dh tO (t.n.toNat) tO O ?_;have dN:xu vs t.n=decide (x.kind=0):=by unfold xu;rw[dg]
    refine Vs 7 O (V.bool O (fun k6_=>?_) (fun k6_=>?_))
    . refine Vs 9 O (zr9 1 tr87 O O iL)
    refine Vs 2 O (zoS () j2 j3 Jg 0 O O)
   refine Vs 14 O (zoS () j2 j3 Jg 0 O O)
  refine Vs 7 O (V.bool O (fun k3_=>?_) (fun k3_=>?_))
  . refine Vs 9 O (zr9 1 tr87 O O iL)
  refine Vs 2 O (zoS () j2 j3 Jg 0 O O)
 rintro u dz;rw[dz,ztK]at hC;refine Vs 11 O (zrl (σ:=Nat) [0,2,65,66] [] [] O (fun e i=>(67,.int .i64 i)::e) (fun e i=>e) (fun i=>i<=t.kids.length/\formedL vs inp (t.kids.take i)=true) (fun i=>t.kids.length - i) 0 j2 j3 j1 j1 j1 ⟨zt6 _,by simp[formedL]⟩ ?_);rintro i ⟨hi,hY⟩;refine Vs 6 O (zoE O (fun dA=>?_) (fun dA=>?_))
 .
  refine Vs 6 O (zri 2000 1 i tO hk O O O (fun k dO dQ dR dm da dr dt=>?_));obtain⟨dB,rfl,db⟩:=dt.get;obtain⟨dC,dD,rfl⟩:=db.form;refine zqQ 2000 tR68 ts70 O dr tO _ rfl O (Vs 1 O (V.alloc 10 tz70 O O (fun b10=>?_)));refine Vs 8 O (zr2 call87 O (fun w hI=>ih k da _ D w (Tr1 hI.k1 dc) (RTm.put (Tr1 hI.k1 db))) (zqh O (fun w hI=>zpS O j6) (Vs 2 O (V.bool O (fun hb=>?_) (fun hb=>?_)))))
  . refine Vs 11 O (zr9 1 tr87 O O (by rw[hC,zbJ da tD]))
  refine Va 7 O tO (V.back (i+1) j2 j3 ⟨tO,by rw[zaI dm,hY];simpa using hb⟩ tO 0 O O)
 obtain rfl:i=t.kids.length:=tO;rw[zsW]at hY;refine Vs 11 O (zr9 1 tr87 O O tD)
end Go.Proofs.YtckdhgbepmpgiaaGreat
namespace Go.GL
section
variable {n:Fm} {ty:TypeId} {ps:String}
theorem zrJ (i j:Nat) {xs:Array Operand} (hf:∀ args w,(callFunc f args).run P w=.ok (.enter f args) w) (hi:ops[i]?=some ⟨some d,.call ⟨.value x,xs,ts⟩,ty,ps,aft,g⟩) (hr:Region.ready .any ops listed=[i]) (hn:(Nat.blt d n,gd ops env g,qG env xs.toList,ev env x,xX (Hs.map (·.1)))=(true,some true,some vs,some (.func (.func f) fs.toArray cs.toArray),true)) (hB:Bs.drop j=B0)
  (hc:∀ w,VI Bs H w->Calls P f (fs++vs++cs).toArray w (Ret fun r w'=>r=v/\Ext w w')) (h:VD P n Q ks ops Hs B0 L fuel (listed.setIfInBounds i true) ((d,v)::env) ((d,none)::A) H Bs):VD P n Q ks ops Hs B0 L (fuel+1) listed env A H Bs:=by
 simp only[Prod.mk.injEq]at hn;subst hB;refine fun hH hA w hI=>zra i hi hr hn.1 hn.2.1 (.inr ⟨f,_,zpn hf hn.2.2.2.1 (yo hn.2.2.1),hc w hI⟩) ?_;rintro _ w' ⟨rfl,hk⟩;exact⟨((hI.ext hk).drop j).pick hH hn.2.2.2.2,h hH hA.none w' (hI.ext hk)⟩
end
end Go.GL
namespace Go.Proofs.YtckdhgbepmpgiaaGreat
open Go.GL
abbrev Rg:=Int × Int
def okR (r:Rg):Bool:=decide (-1048576<=r.1/\r.2<=1048576)
def xz (r:Rg):Prop := -1048576<=r.1/\r.1<=r.2/\r.2<=1048576
def xk (x:Rg) (l:List Rg):Rg:=l.foldl (fun o r=>(min o.1 r.1,max o.2 r.2)) x
def jS (a b:Rg):Rg:=xk (a.1*b.1,a.1*b.1) [(a.1*b.2,a.1*b.2),(a.2*b.1,a.2*b.1),(a.2*b.2,a.2*b.2)]
theorem zas {x:Rg} {l:List Rg} {r:Rg} (h:l[i]?=some r):xk x (l.take (i+1))=(min (xk x (l.take i)).1 r.1,max (xk x (l.take i)).2 r.2):=by
 rw[ze h];simp[xk]
theorem zcC {x y:Int} (hx:-1048576<=x/\x<=1048576) (hy:-1048576<=y/\y<=1048576):-1099511627776<=x*y/\x*y<=1099511627776:=by
 have h1:=Int.natAbs_mul x y;have h2:x.natAbs*y.natAbs<=1048576*1048576:=zvS tO tO;omega
theorem zia (a b:Rg) (w:World):Calls prog 169 #[.agg #[.int .i64 a.1,.int .i64 a.2],.agg #[.int .i64 b.1,.int .i64 b.2]] w (Ret fun r w'=>r=.agg #[.int .i64 (min a.1 b.1),.int .i64 (max a.2 b.2)]/\Ext w w'):=by
 refine zqr func169 O ntmps169 O (V.inn (Vs 2 O (V.box 2 O O (fun b2=>?_))));refine V.box 3 O O (fun b3=>(V.alloc 4 tz159 O O (fun b4=>?_)));refine Vs 14 O (zru [Value.int IntKind.i64 0,Value.int IntKind.i64 0] [(0,1),(1,1)] [(0,_),(1,_)] O O (fun _=>tK) (Vs 4 O (zp4 results169 tg159 ts159 O O O (fun w hI=>⟨_,rfl,rfl,hI.k0⟩))))
theorem zdh (a b:Int) (w:World) (ha:-1048576<=a/\a<=1048576) (hb:-1048576<=b/\b<=1048576):Calls prog 168 #[.int .i64 a,.int .i64 b] w (Ret fun r w'=>r=.int .i64 (a*b)/\Ext w w'):=by
 have:=zcC ha hb;refine zqr func168 O ntmps168 O (V.inn (Va 14 O tO (zr9 0 results168 O O rfl)))
theorem zh2 (a b:Rg) (w:World) (ha:xz a) (hb:xz b):Calls prog 167 #[.agg #[.int .i64 a.1,.int .i64 a.2],.agg #[.int .i64 b.1,.int .i64 b.2],.func (.func 168) #[] #[]] w (Ret fun r w'=>r=.agg #[.int .i64 (jS a b).1,.int .i64 (jS a b).2]/\Ext w w'):=by
 unfold xz at ha hb;obtain⟨es,hC⟩:∃ es:List Int,es=[a.1*b.2,a.2*b.1,a.2*b.2]:=⟨_,rfl⟩;have da:es.length=3:=tD;refine zqs func167 O ntmps167 O (V.inn (Vs 2 O (V.box 3 O O (fun b3=>?_))));refine V.box 4 O O (fun b4=>(V.alloc 6 tz159 O O (fun b6=>?_)));refine Vs 9 O (zrI call168 O (fun w hI=>zdh a.1 b.1 w tO tO) (Vs 7 O (zru [Value.int IntKind.i64 0,Value.int IntKind.i64 0] [(0,1),(1,1)] [(0,_),(1,_)] O O (fun _=>tK) (V.alloc 8 tz159 O O (fun b8=>?_)))));refine Vs 5 O (Vw [3,4,6,8] [] O (Vd [0,1,2,3,4,6,7,8,9,10,12,13,14,15,16,20] 0 tK O O O (zrJ 5 0 call168 O tK O O (fun w hI=>zdh a.1 b.2 w tO tO) (zrJ 11 0 call168 O tK O O (fun w hI=>zdh a.2 b.1 w tO tO) (zrJ 17 0 call168 O tK O O (fun w hI=>zdh a.2 b.2 w tO tO) (zrp 18 38 0 [(0,_),(1,_),(2,_)] tR27 ts3 tz3 tS O tK O O tK (fun b38=>?_)))))));refine Vd [19] 0 tK O O O (VD.done tK (Vs 2 O (zrl (σ:=Nat) [6,8,38,39] [6,38] [6,8] O (fun e k=>(40,.int .i64 k)::e) (fun e k=>(8,.own b8 [.int .i64 (xk (a.1*b.1,a.1*b.1) ((es.map (fun x=>(x,x))).take k)).1,.int .i64 (xk (a.1*b.1,a.1*b.1) ((es.map (fun x=>(x,x))).take k)).2] 159)::e) (fun k=>k<=3) (fun k=>3 - k) 0 j2 j3 j1 j1 j1 (zt6 _) ?_)));rintro k hk;refine Vs 6 O (zoE O (fun hY=>?_) (fun hY=>?_))
 .
  obtain⟨x,hx⟩:∃ x,es[k]?=some x:=j9;refine Vs 6 O (zqh O (fun w hI=>zph tR27 ts3 O O O tO) (zqh O (fun w hI=>R.load tg3 O (by rw[show 0+(k:Int).toNat*1=0+k by omega];exact(show Blk w b38 (es.map (.int .i64)) _ from by rw[hC];exact hI.at 38 O).cells k _ (by rw[zt8,hx];rfl))) ?_));refine Vs 7 O (zru [Value.int IntKind.i64 0,Value.int IntKind.i64 0] [(0,1),(1,1)] [(0,_),(1,_)] O O (fun _=>tK) (zr2 call169 O (fun w hI=>zia (xk (a.1*b.1,a.1*b.1) ((es.map (fun x=>(x,x))).take k)) (x,x) w) (Va 8 O tO (zrk 8 O (e':=.own b8 [.int .i64 (xk (a.1*b.1,a.1*b.1) ((es.map (fun x=>(x,x))).take (k+1))).1,.int .i64 (xk (a.1*b.1,a.1*b.1) ((es.map (fun x=>(x,x))).take (k+1))).2] 159) (by rw[zas (show (es.map (fun x=>(x,x)))[k]?=some (x,x) by rw[zt8,hx];rfl)]) ?_))));refine V.back (k+1) j2 j3 tO tO 0 O O
 obtain rfl:k=3:=tO;refine Vs 12 O (zp4 results167 tg159 ts159 O O O (fun w hI=>⟨_,rfl,by rw[hC];rfl,hI.k0⟩))
def at2 (l:List Rg) (i:Nat):Rg:=l[i]?.getD (0,0)
theorem zm1 {l:List Rg} {x:Rg} (h:l[i]?=some x):at2 l i=x:=by simp[at2,h]
def vat (vs:List Vr) (n:Int):Rg:=match vs[n.toNat]? with
 | some v=>(v.low,v.high)
 | none=>(0,0)
theorem zib {vs:List Vr} {n:Int} {v:Vr} (h:vs[n.toNat]?=some v):vat vs n=(v.low,v.high):=by simp[vat,h]
def zk (vs:List Vr) (op n:Int) (l:List Rg):Rg :=
 if op=0 then (n,n)
 else if op=24 then vat vs n
 else if op=6 then (-(at2 l 0).2,-(at2 l 0).1)
 else if op=8 then ((at2 l 0).1+(at2 l 1).1,(at2 l 0).2+(at2 l 1).2)
 else if op=9 then ((at2 l 0).1 - (at2 l 1).2,(at2 l 0).2 - (at2 l 1).1)
 else if op=10 then jS (at2 l 0) (at2 l 1)
 else if op=11 then (if 0<=(at2 l 0).1/\0<=(at2 l 1).1 then 0 else -(max (at2 l 0).2 (-(at2 l 0).1)),max (at2 l 0).2 (-(at2 l 0).1))
 else if op=12 then (if (at2 l 1).1<0 then min ((at2 l 1).1+1) 0 else 0,if 0<(at2 l 1).2 then max ((at2 l 1).2 - 1) 0 else 0)
 else if op=21 then (min (at2 l 0).1 (at2 l 1).1,min (at2 l 0).2 (at2 l 1).2)
 else if op=22 then (max (at2 l 0).1 (at2 l 1).1,max (at2 l 0).2 (at2 l 1).2)
 else if op=23\/op=25 then xk (at2 l 1) (l.drop 2)
 else (0,1)
structure NodeOk (vs:List Vr) (op n:Int) (l:List Rg):Prop where
 k0:op=0\/op=24->l.length=0
 k1:op=6\/op=7->l.length=1
 k2:8<=op/\op<=22->l.length=2
 k3:op=23\/op=25->2<=l.length/\l.length<=33
 good:∀ r ∈ l,xz r
 var:op=24->0<=n/\n<vs.length
 vars:∀ v ∈ vs,xz (v.low,v.high)
theorem jD {vs:List Vr} {op n:Int} {l:List Rg} (hl:l.length=k) (h1:zW op k=true) (h2:zS vs inp op n=true) (hg:∀ r ∈ l,xz r) (hv:∀ v ∈ vs,xz (v.low,v.high)):NodeOk vs op n l:=by
 have h3:(0<=zR op->(l.length:Int)=zR op)/\(¬ 0<=zR op->2<=l.length/\l.length<=33):=by
  unfold zW at h1;rw[hl];constructor
  . intro h;rw[zt2 h]at h1;exact of_decide_eq_true h1
  intro h;rw[zt1 h]at h1;exact(of_decide_eq_true h1).2
 unfold zR at h3;refine⟨fun h=>?_,fun h=>?_,fun h=>?_,fun h=>?_,hg,fun h=>?_,hv⟩
 . omega
 . omega
 . omega
 . omega
 unfold zS at h2
 grind
theorem zmn (vs:List Vr) (t:Tm) (ks:List Rg) (vv kv:Value) (cs:List Value) (Dv D Dk:Nat->Prop) (w:World) (dI:SlR 5 RVr Dv w vv vs) (ht:RTm D w t cs) (dm:SlR 2 xq Dk w kv ks) (hn:NodeOk vs t.op t.n ks):Calls prog 129 #[vv,.agg cs.toArray,kv] w (Ret fun r w'=>r=.agg #[.int .i64 (zk vs t.op t.n ks).1,.int .i64 (zk vs t.op t.n ks).2]/\Ext w w'):=by
 obtain⟨v,rfl,hk⟩:=ht.get;obtain⟨av,nv,rfl⟩:=dI.form;obtain⟨ak,nk,rfl⟩:=dm.form;have dN:=dm.max;have hg:=hn.good;unfold xz at hg;refine zqs func129 O ntmps129 O (V.inn (Vs 2 O (V.box 4 O O (fun b4=>?_))));refine V.alloc 6 tz159 O O (fun b6=>(Vs 16 O (zoE O (fun h0=>?_) (fun h0=>?_))))
 . refine Vs 6 O (zru [Value.int IntKind.i64 0,Value.int IntKind.i64 0] [(0,1),(1,1)] [(0,_),(1,_)] O O (fun _=>tK) (Vs 6 O (zp4 tr129 tg159 ts159 O O O (fun w hI=>⟨_,rfl,by simp[zk,h0],hI.k0⟩))))
 refine Vs 6 O (zoE O (fun dB=>?_) (fun dB=>?_))
 .
  have hv:=hn.var dB;refine zri 1000 0 t.n.toNat tO dI O O O (fun x dr dt du db dh hY dc=>?_);obtain rfl:=dc;refine Vs 1 O (Vw [4,6,1000] [13] O (Vd [0,1,2,6,7,8] 0 tK O O O (zqR 3 1000 tR22 ts142 O tK O hY tO (t.n.toNat) tO O (Vd [4,5] 0 tK O O O (zqR 9 1000 tR22 ts142 O tK O hY tO (t.n.toNat) tO O (Vd [10,11] 0 tK O O O (zrv 12 [Value.int IntKind.i64 0,Value.int IntKind.i64 0] [(0,1),(1,1)] [(0,_),(1,_)] O tK O O (fun _=>tK) (Vl 13 O tK O ?_))))))));refine VDx.done tK (Vs 4 O (zp4 tr129 tg159 ts159 O O O (fun w hI=>⟨_,rfl,by simp[zk,dB,zib db],hI.k0⟩)))
 refine Vs 6 O (zoE O (fun h6=>?_) (fun h6=>?_))
 .
  have hl:=hn.k1 (.inl h6);refine zri 2000 0 0 tO dm O O O (fun x dr dt du db dh hY dc=>?_);obtain rfl:=dc;have:=hg x dh;refine Vs 1 O (Vw [4,6,2000] [11] O (Vd [0,5] 0 tK O O O ?_));refine zqR 1 2000 tR203 ts159 O tK O hY tO _ rfl O (Vb [2,3,4] 0 tK O O O tO ?_);refine zqR 6 2000 tR203 ts159 O tK O hY tO _ rfl O (Vb [7,8,9] 0 tK O O O tO (zrv 10 [Value.int IntKind.i64 0,Value.int IntKind.i64 0] [(0,1),(1,1)] [(0,_),(1,_)] O tK O O (fun _=>tK) (Vl 11 O tK O (VDx.done tK (Vs 4 O (zp4 tr129 tg159 ts159 O O O (fun w hI=>⟨_,rfl,by simp[zk,at2,h6,db],hI.k0⟩)))))))
 refine Vs 6 O (zoE O (fun h8=>?_) (fun h8=>?_))
 .
  have hl:=hn.k2 tO;refine zri 3000 0 0 tO dm O O O (fun x dr dt du db dh hY dc=>?_);obtain rfl:=dc;refine zri 4000 0 1 tO dm O O O (fun y dw dx dy da dl hC dg=>?_);obtain rfl:=dg;have:=hg x dh;have:=hg y dl;refine Vs 1 O (Vw [4,6,3000,4000] [19] O (Vd [0,4,9,13] 0 tK O O O ?_));refine zqR 1 3000 tR203 ts159 O tK O hY tO _ rfl O (Vd [2,3] 0 tK O O O ?_);refine zqR 10 3000 tR203 ts159 O tK O hY tO _ rfl O (Vd [11,12] 0 tK O O O ?_);refine zqR 5 4000 tR203 ts159 O tK O hC tO _ rfl O (Vb [6,7,8] 0 tK O O O tO ?_);refine zqR 14 4000 tR203 ts159 O tK O hC tO _ rfl O (Vb [15,16,17] 0 tK O O O tO (zrv 18 [Value.int IntKind.i64 0,Value.int IntKind.i64 0] [(0,1),(1,1)] [(0,_),(1,_)] O tK O O (fun _=>tK) (Vl 19 O tK O (VDx.done tK (Vs 4 O (zp4 tr129 tg159 ts159 O O O (fun w hI=>⟨_,rfl,by simp[zk,at2,h8,db,da],hI.k0⟩)))))))
 refine Vs 6 O (zoE O (fun h9=>?_) (fun h9=>?_))
 .
  have hl:=hn.k2 tO;refine zri 5000 0 0 tO dm O O O (fun x dr dt du db dh hY dc=>?_);obtain rfl:=dc;refine zri 6000 0 1 tO dm O O O (fun y dw dx dy da dl hC dg=>?_);obtain rfl:=dg;have:=hg x dh;have:=hg y dl;refine Vs 1 O (Vw [4,6,5000,6000] [19] O (Vd [0,4,9,13] 0 tK O O O ?_));refine zqR 1 5000 tR203 ts159 O tK O hY tO _ rfl O (Vd [2,3] 0 tK O O O ?_);refine zqR 10 5000 tR203 ts159 O tK O hY tO _ rfl O (Vd [11,12] 0 tK O O O ?_);refine zqR 5 6000 tR203 ts159 O tK O hC tO _ rfl O (Vb [6,7,8] 0 tK O O O tO ?_);refine zqR 14 6000 tR203 ts159 O tK O hC tO _ rfl O (Vb [15,16,17] 0 tK O O O tO (zrv 18 [Value.int IntKind.i64 0,Value.int IntKind.i64 0] [(0,1),(1,1)] [(0,_),(1,_)] O tK O O (fun _=>tK) (Vl 19 O tK O (VDx.done tK (Vs 4 O (zp4 tr129 tg159 ts159 O O O (fun w hI=>⟨_,rfl,by simp[zk,at2,h9,db,da],hI.k0⟩)))))))
 refine Vs 6 O (zoE O (fun dC=>?_) (fun dC=>?_))
 .
  have hl:=hn.k2 tO;refine zri 7000 0 0 tO dm O O O (fun x dr dt du db dh hY dc=>?_);obtain rfl:=dc;refine zri 8000 0 1 tO dm O O O (fun y dw dx dy da dl hC dg=>?_);obtain rfl:=dg;refine Vs 1 O (Vw [4,6,7000,8000] [7] O (Vd [0,3] 0 tK O O O ?_));refine zqR 1 7000 tR203 ts159 O tK O hY tO _ rfl O (Vd [2] 0 tK O O O ?_);refine zqR 4 8000 tR203 ts159 O tK O hC tO _ rfl O (Vd [5] 0 tK O O O (zr3 6 0 call167 O tK O O (fun w hI=>zh2 x y w (hn.good x dh) (hn.good y dl)) (Vl 7 O tK O (VDx.done tK (Vs 4 O (zp4 tr129 tg159 ts159 O O O (fun w hI=>⟨_,rfl,by simp[zk,at2,dC,db,da],hI.k0⟩)))))))
 refine Vs 6 O (zoE O (fun dA=>?_) (fun dA=>?_))
 .
  have hl:=hn.k2 tO;refine zri 9000 0 0 tO dm O O O (fun x dr dt du db dh hY dc=>?_);obtain rfl:=dc;refine zri 10000 0 1 tO dm O O O (fun y dw dx dy da dl hC dg=>?_);obtain rfl:=dg;have:=hg x dh;have:=hg y dl;refine Vs 1 O (Vq tK (Vs 1 O ?_));refine zqT 9000 tR203 ts159 O hY tO _ rfl O (Vs 3 O ?_);refine zqT 9000 tR203 ts159 O hY tO _ rfl O (Va 11 O tO ?_);refine zqQ 9000 tR203 ts159 O hY tO _ rfl O (Vs 4 O (V.sp 117 O (fun p0=>?_) (fun p0=>?_)))
  .
   refine Vs 1 O ?_;refine zqQ 10000 tR203 ts159 O hC tO _ rfl O (Vs 6 O (zoE O (fun p1=>?_) (fun p1=>?_)))
   . refine Vs 3 O (zru [Value.int IntKind.i64 0,Value.int IntKind.i64 0] [(0,1),(1,1)] [(0,_),(1,_)] O O (fun _=>tK) (Vs 7 O Js))
   refine Va 7 O tO (zru [Value.int IntKind.i64 0,Value.int IntKind.i64 0] [(0,1),(1,1)] [(0,_),(1,_)] O O (fun _=>tK) (Vs 6 O Js))
  refine Va 16 O tO (zru [Value.int IntKind.i64 0,Value.int IntKind.i64 0] [(0,1),(1,1)] [(0,_),(1,_)] O O (fun _=>tK) (Vs 6 O (zp4 tr129 tg159 ts159 O O O (fun w hI=>⟨_,rfl,by simp[zk,at2,dA,db,da,p0],hI.k0⟩))))
 refine Vs 6 O (zoE O (fun dz=>?_) (fun dz=>?_))
 .
  have hl:=hn.k2 tO;refine zri 11000 0 1 tO dm O O O (fun y dw dx dy da dl hC dg=>?_);obtain rfl:=dg;have:=hg y dl;refine Vs 2 O (zru [Value.int IntKind.i64 0,Value.int IntKind.i64 0] [(0,1),(1,1)] [] O O (fun _=>tK) (V.alloc 8 tz159 O O (fun b8=>?_)));refine Vs 7 O ?_;refine zqQ 11000 tR203 ts159 O hC tO _ rfl O (Vs 5 O (zoE O (fun p0=>?_) (fun p0=>?_)))
  .
   refine Vs 2 O ?_;refine zqQ 11000 tR203 ts159 O hC tO _ rfl O (Va 12 O tO ?_);refine zqQ 11000 tR203 ts159 O hC tO _ rfl O (Vs 5 O (zoE O (fun p1=>?_) (fun p1=>?_)))
   .
    refine Vs 2 O ?_;refine zqQ 11000 tR203 ts159 O hC tO _ rfl O (Va 17 O tO iY)
   refine Vs 11 O iY
  refine Vs 6 O ?_;refine zqQ 11000 tR203 ts159 O hC tO _ rfl O (Vs 5 O (zoE O (fun p1=>?_) (fun p1=>?_)))
  .
   refine Vs 2 O ?_;refine zqQ 11000 tR203 ts159 O hC tO _ rfl O (Va 17 O tO iY)
  refine Vs 11 O iY
 refine Vs 6 O (zoE O (fun dD=>?_) (fun dD=>?_))
 .
  have hl:=hn.k2 tO;refine zri 12000 0 0 tO dm O O O (fun x dr dt du db dh hY dc=>?_);obtain rfl:=dc;refine zri 13000 0 1 tO dm O O O (fun y dw dx dy da dl hC dg=>?_);obtain rfl:=dg;have:=hg x dh;have:=hg y dl;refine Vs 1 O (Vw [4,6,12000,13000] [19] O (Vd [0,4,9,13] 0 tK O O O ?_));refine zqR 1 12000 tR203 ts159 O tK O hY tO _ rfl O (Vd [2,3] 0 tK O O O ?_);refine zqR 10 12000 tR203 ts159 O tK O hY tO _ rfl O (Vd [11,12] 0 tK O O O ?_);refine zqR 5 13000 tR203 ts159 O tK O hC tO _ rfl O (Vd [6,7,8] 0 tK O O O ?_);refine zqR 14 13000 tR203 ts159 O tK O hC tO _ rfl O (Vd [15,16,17] 0 tK O O O (zrv 18 [Value.int IntKind.i64 0,Value.int IntKind.i64 0] [(0,1),(1,1)] [(0,_),(1,_)] O tK O O (fun _=>tK) (Vl 19 O tK O (VDx.done tK (Vs 4 O (zp4 tr129 tg159 ts159 O O O (fun w hI=>⟨_,rfl,by simp[zk,at2,dD,db,da],hI.k0⟩)))))))
 refine Vs 6 O (zoE O (fun dE=>?_) (fun dE=>?_))
 .
  have hl:=hn.k2 tO;refine zri 14000 0 0 tO dm O O O (fun x dr dt du db dh hY dc=>?_);obtain rfl:=dc;refine zri 15000 0 1 tO dm O O O (fun y dw dx dy da dl hC dg=>?_);obtain rfl:=dg;have:=hg x dh;have:=hg y dl;refine Vs 1 O (Vw [4,6,14000,15000] [19] O (Vd [0,4,9,13] 0 tK O O O ?_));refine zqR 1 14000 tR203 ts159 O tK O hY tO _ rfl O (Vd [2,3] 0 tK O O O ?_);refine zqR 10 14000 tR203 ts159 O tK O hY tO _ rfl O (Vd [11,12] 0 tK O O O ?_);refine zqR 5 15000 tR203 ts159 O tK O hC tO _ rfl O (Vd [6,7,8] 0 tK O O O ?_);refine zqR 14 15000 tR203 ts159 O tK O hC tO _ rfl O (Vd [15,16,17] 0 tK O O O (zrv 18 [Value.int IntKind.i64 0,Value.int IntKind.i64 0] [(0,1),(1,1)] [(0,_),(1,_)] O tK O O (fun _=>tK) (Vl 19 O tK O (VDx.done tK (Vs 4 O (zp4 tr129 tg159 ts159 O O O (fun w hI=>⟨_,rfl,by simp[zk,at2,dE,db,da],hI.k0⟩)))))))
 refine Vs 7 O (zrm (σ:=Unit) [2,6] [6] [6] O (fun e u=>(200,.bool (decide (t.op=23\/t.op=25)))::e) (fun e u=>e) (fun u=>True) j1 j1 ?_ ?_)
 .
  refine zoE O (fun k1_=>?_) (fun k1_=>?_)
  . refine Vs 1 O (zoS () Uf j3 trivial 0 O O)
  refine Vs 4 O (zoS () Uf j3 trivial 0 O O)
 rintro u _;refine Vs 1 O (zoE O (fun p1=>?_) (fun p1=>?_))
 .
  have hl:=hn.k3 p1;refine zri 16000 0 1 tO dm O O O (fun y dw dx dy da dl hC dg=>?_);obtain rfl:=dg;refine Vs 3 O ?_;refine zqQ 16000 tR203 ts159 O hC tO _ rfl O ?_;have dJ:=dm.drop 2 tO;have dK:(ks.drop 2).length=ks.length - 2:=zuN;refine Vs 1 O (V.alloc 9 tz159 O O (fun b9=>?_));refine Vs 7 O (zqh O (fun w hI=>zpk tR203 ts159 O O tO) (Vs 5 O (zrl (σ:=Nat) [6,9,207,208] [6] [6,9] O (fun e k=>(209,.int .i64 k)::e) (fun e k=>(9,.own b9 [.int .i64 (xk y ((ks.drop 2).take k)).1,.int .i64 (xk y ((ks.drop 2).take k)).2] 159)::e) (fun k=>k<=ks.length - 2) (fun k=>ks.length - 2 - k) 0 j2 j3 j1 j1 j1 (zt6 _) ?_)));rintro k hk;refine Vs 6 O (zoE O (fun dL=>?_) (fun dL=>?_))
  .
   refine Vs 6 O (zri 17000 0 k tO dJ O O O (fun z dO dQ dR dF dM dG dH=>?_));obtain rfl:=dH;refine zqQ 17000 tR203 ts159 O dG tO _ rfl O (Vs 1 O (V.alloc 11 tz159 O O (fun b11=>?_)));refine Vs 6 O (zr2 call169 O (fun w hI=>zia (xk y ((ks.drop 2).take k)) z w) (Va 8 O tO (zrk 9 O (e':=.own b9 [.int .i64 (xk y ((ks.drop 2).take (k+1))).1,.int .i64 (xk y ((ks.drop 2).take (k+1))).2] 159) (by rw[zas dF]) (V.back (k+1) j2 j3 tO tO 0 O O))))
  obtain rfl:k=ks.length - 2:=tO;refine Vs 14 O (zp4 tr129 tg159 ts159 O O O (fun w hI=>⟨_,rfl,by rw[<- dK,zsW];simp[zm1 da,zk,h0,dB,h6,h8,h9,dC,dA,dz,dD,dE,p1],hI.k0⟩))
 refine Vs 5 O (zru [Value.int IntKind.i64 0,Value.int IntKind.i64 0] [(0,1),(1,1)] [(0,_),(1,_)] O O (fun _=>tK) (Vs 4 O (zp4 tr129 tg159 ts159 O O O (fun w hI=>⟨_,rfl,by simp[zk,h0,dB,h6,h8,h9,dC,dA,dz,dD,dE,p1],hI.k0⟩))))
end Go.Proofs.YtckdhgbepmpgiaaGreat
namespace Go.GL.Gr
def okE (n:Int) (e:Int × Int):Bool:=decide (0<=e.1/\e.1<n)&&decide (0<=e.2/\e.2<n)
def check (n:Int) (es:List (Int × Int)):Int:=if n<0 then 1 else if 4096<n\/1048576<es.length then 4 else if es.all (okE n) then 0 else 3
theorem all_take_succ {p:α->Bool} {x:α} (hx:l[k]?=some x) (h:(l.take k).all p=true) (hp:p x=true):(l.take (k+1)).all p=true:=by
 obtain⟨hk,rfl⟩:=zt5.1 hx;rw[zvD hk,List.all_append,h];simp[hp]
theorem all_false {p:α->Bool} {x:α} (hx:l[k]?=some x) (hp:p x=false):l.all p=false:=by
 grind
theorem check_zero {n:Int} {es:List (Int × Int)} (h:check n es=0):0<=n/\n<=4096/\es.length<=1048576/\es.all (okE n)=true:=by
 unfold check at h;split at h
 . cases h
 split at h
 . cases h
 split at h
 .
  rename_i h1 h2 h3;exact⟨tO,tO,tO,h3⟩
 cases h
section
variable [DecidableEq α]
def cstep (acc:List α) (x:α):List α:=if acc.getLast?=some x then acc else acc++[x]
def compactL (l:List α):List α:=l.foldl cstep []
theorem zdi (acc:List α) (x:α):(cstep acc x).getLast?=some x:=by
 unfold cstep;split
 . assumption
 simp
theorem zdj (l:List α) (x:α):compactL (l++[x])=cstep (compactL l) x:=by simp[compactL]
theorem compactL_take {x:α} (hx:l[k]?=some x):compactL (l.take (k+1))=cstep (compactL (l.take k)) x:=by
 obtain⟨hk,rfl⟩:=zt5.1 hx;rw[zvD hk,zdj]
theorem compactL_last {x:α} (hx:l[k]?=some x):(compactL (l.take (k+1))).getLast?=some x:=by
 rw[compactL_take hx,zdi]
theorem compactL_len (l:List α):(compactL l).length<=l.length:=by
 have:∀ (l acc:List α),(l.foldl cstep acc).length<=acc.length+l.length:=by
  intro l;induction l with
  | nil=>intro acc;simp
  | cons x r ih =>
   intro acc;have h1:=ih (cstep acc x);have h2:(cstep acc x).length<=acc.length+1:=by unfold cstep;split<;>simp
   simp only[zuw,ztk];omega
 simpa[compactL] using this l []
theorem compactL_mem (l:List α) (x:α):x ∈ compactL l ↔ x ∈ l:=by
 have:∀ (l acc:List α),x ∈ l.foldl cstep acc ↔ x ∈ acc\/x ∈ l:=by
  intro l;induction l with
  | nil=>intro acc;simp
  | cons y r ih =>
   intro acc;rw[zuw,ih]
   have h2:x ∈ cstep acc y ↔ x ∈ acc\/x=y:=by
    unfold cstep;split
    .
     rename_i h;constructor
     . exact .inl
     rintro (h' | rfl)
     . exact h'
     exact List.mem_of_getLast? h
    simp
   rw[h2];simp[or_assoc]
 simpa[compactL] using this l []
theorem compactL_strict {le:α->α->Prop} (hC:∀ a b,le a b->le b a->a=b) (h:l.Pairwise le):(compactL l).Pairwise (fun a b=>le a b/\a ≠ b):=by
 have:∀ (l acc:List α),acc.Pairwise (fun a b=>le a b/\a ≠ b)->(∀ a ∈ acc,∀ b ∈ l,le a b)->l.Pairwise le->(l.foldl cstep acc).Pairwise (fun a b=>le a b/\a ≠ b):=by
  intro l;induction l with
  | nil=>intro acc h1 _ _;exact h1
  | cons x r ih =>
   intro acc h1 h2 h3;rw[zvh]at h3;rw[zuw];refine ih _ ?_ ?_ h3.2
   .
    unfold cstep;split
    . exact h1
    rename_i hY;rw[zvg];refine⟨h1,zvk _ _,?_⟩;intro a ha b hb;rw[zt9]at hb;subst hb;refine⟨h2 a ha _ (zsV ..),?_⟩;rintro rfl;apply hY
    obtain⟨z,hz⟩:∃ z,acc.getLast?=some z:=by
     cases hacc:acc.getLast? with
     | none=>rw[List.getLast?_eq_none_iff]at hacc;subst hacc;simp at ha
     | some z=>exact⟨z,rfl⟩
    rw[hz];have da:=List.mem_of_getLast? hz;have db:=h2 z da a (zsV ..);by_cases e:a=z
    . rw[e]
    obtain⟨ini,rfl⟩:∃ ini,acc=ini++[z]:=by
     rw[List.getLast?_eq_some_iff]at hz;obtain⟨ys,h⟩:=hz;exact⟨ys,h⟩
    rw[zta,zt9]at ha;rcases ha with ha | ha
    . grind
    grind
   intro a ha b hb
   have:a ∈ acc\/a=x:=by
    unfold cstep at ha;split at ha
    . exact .inl ha
    simpa using ha
   rcases this with ha | rfl
   . exact h2 a ha b (zsU _ hb)
   exact h3.1 b hb
 exact this l [] List.Pairwise.nil tR h
end
def rowsOf (n:Nat) (s:List (Int × Int)):List (List Int):=(List.range n).map fun (a:Nat)=>(s.filter fun e=>decide (e.1=(a:Int))).map (·.2)
theorem rowsOf_len (n:Nat) (s:List (Int × Int)):(rowsOf n s).length=n:=by simp[rowsOf]
theorem rowsOf_nil (n:Nat):rowsOf n []=List.replicate n []:=by
 apply List.ext_getElem
 . simp[rowsOf]
 intro i h1 h2;simp[rowsOf]
theorem rowsOf_at {n:Nat} (ha:a<n):(rowsOf n s)[a]?=some ((s.filter fun e=>decide (e.1=(a:Int))).map (·.2)):=by
 simp[rowsOf,ha]
theorem zfo {n:Nat} {b:Int} (hr:(rowsOf n s)[a]?=some r):rowsOf n (s++[((a:Int),b)])=(rowsOf n s).set a (r++[b]):=by
 have ha:a<n:=by
  have:=(zt5.1 hr).1;rwa [rowsOf_len]at this
 rw[rowsOf_at ha]at hr;cases hr;apply zuj;intro i;by_cases hi:i<n
 .
  rw[rowsOf_at hi];by_cases hC:a=i
  .
   subst hC;rw[zuH (by rw[rowsOf_len];exact hi)];simp[]
  rw[zuG hC,rowsOf_at hi];have:¬ ((a:Int)=(i:Int)):=tO;simp[this]
 rw[ztf (by rw[rowsOf_len];omega),ztf (by rw[zuS,rowsOf_len];omega)]
theorem rowsOf_take {n:Nat} {b:Int} (hk:s[k]?=some ((a:Int),b)) (hr:(rowsOf n (s.take k))[a]?=some r):rowsOf n (s.take (k+1))=(rowsOf n (s.take k)).set a (r++[b]):=by
 obtain⟨hC,he⟩:=zt5.1 hk;rw[zvD hC,he];exact zfo hr
theorem rowsOf_mem {n:Nat} (hr:(rowsOf n s)[a]?=some r) (b:Int):b ∈ r ↔ ((a:Int),b) ∈ s:=by
 have ha:a<n:=by
  have:=(zt5.1 hr).1;rwa [rowsOf_len]at this
 rw[rowsOf_at ha]at hr;cases hr;simp only[zv6,zv2,decide_eq_true_eq];constructor
 . grind
 grind
theorem rowsOf_sorted {n:Nat} (hr:(rowsOf n s)[a]?=some r) (hs:s.Pairwise fun x y=>x.1<y.1\/x.1=y.1/\x.2<y.2):r.Pairwise (·<·):=by
 have ha:a<n:=by
  have:=(zt5.1 hr).1;rwa [rowsOf_len]at this
 rw[rowsOf_at ha]at hr;cases hr;rw[zvj,List.pairwise_filter];refine hs.imp ?_;intro x y h hx hy;simp only[decide_eq_true_eq]at hx hy;omega
end Go.GL.Gr
namespace Go.Proofs.YtckdhgbepmpgiaaGreat
open Go.GL
theorem zem (n:Nat) (hn:n<=1000000) (w:World):Calls prog 145 #[.int .i64 n] w (Ret fun v w'=>∃ b,v=.slice (some ⟨b,0,none⟩) n n/\w.heap.size<=b/\Blk w' b (List.replicate n (.int .i64 (-1))) 3/\Ext w w'):=by
 refine zqq func145 O ntmps145 O (Gs 8 O (G.mem O O (zpv tu27 Tryz.el3 O O tO tO (yL _ n O)) ?_));rintro _ w1 ⟨b,rfl,hb,dg,hB,hk⟩;refine Gs 12 O (G.loop (σ:=Nat) (fun k=>[(3,.slice (some ⟨b,0,none⟩) n n),(8,.int .i64 n),(9,.int .i64 k)]) (fun k=>fun w'=>k<=n/\w'.heap.size=w1.heap.size/\Blk w' b (List.replicate k (.int .i64 (-1))++List.replicate (n - k) (.int .i64 0)) 3/\Ext w w') (fun k=>n - k) 0 j2 ⟨zt6 _,rfl,by simpa using hB,hk⟩ ?_);rintro k w2 ⟨dh,db,hC,hY⟩;refine Gs 6 O (zqe O (fun dl=>?_) (fun dm=>?_))
 .
  refine Ga 14 O tO (zpt O (M.store ts3 O O O O hC tY) ?_);rintro w3 ⟨dr,da,dc⟩;refine Ga 7 O tO (G.back (k+1) j2 ⟨tO,tO,?_,hY.trans dc (fun q hq dt=>tO)⟩ tO);have e:n - k=(n - (k+1))+1:=tO;rw[e,zvo]at da;simpa[zvp,List.set_append] using da
 refine Gs 12 O (zoU results145 O ⟨_,rfl,b,rfl,tO,?_,hY⟩);have e:n=k:=tO;subst e;simpa using hC
theorem zic (n x:Int) (ev:Value) (w:World):Calls prog 174 #[.agg #[.int .i64 n,ev],.int .i64 x] w (Ret fun v w'=>v=.bool (decide (0<=x/\x<n))/\Ext w w'):=by
 refine zqr func174 O ntmps174 O (V.inn (Vs 2 O (V.box 2 O O (fun b2=>?_))));refine Vs 8 O (V.sp 7 O (fun k1_=>?_) (fun k1_=>?_))
 . refine Vs 9 O (zoV results174 O (fun w hI=>⟨_,rfl,by simp[k1_],hI.k0⟩))
 refine Vs 9 O (zoV results174 O (fun w hI=>⟨_,rfl,by simp[k1_],hI.k0⟩))
theorem zga (n:Int) (es:List (Int × Int)) (ev:Value) (D:Nat->Prop) (w:World) (db:SlR 2 xq D w ev es):Calls prog 142 #[.agg #[.int .i64 n,ev]] w (Ret fun v w'=>v=.int .i64 (Gr.check n es)/\Ext w w'):=by
 obtain⟨ao,cap,rfl⟩:=db.form;have dm:=db.max;refine zqq func142 O ntmps142 O (V.inn (Vs 2 O (V.box 1 O O (fun b1=>?_))));refine Vs 11 O (zoE O (fun hn=>?_) (fun hn=>?_))
 . refine Vs 7 O (zr9 0 tr142 O O (by simp[Gr.check,hn]))
 refine Vs 9 O (V.sp 11 O (fun h1=>?_) (fun h1=>?_))
 . refine Vs 15 O (zr9 0 tr142 O O (by simp[Gr.check,hn,h1]))
 refine Vs 7 O (zoE O (fun h2=>?_) (fun h2=>?_))
 .
  have dh:1048576<es.length:=tO;refine Vs 7 O (zr9 0 tr142 O O (by simp[Gr.check,hn,dh]))
 refine Vs 12 O (zrl (σ:=Nat) [1,18,19] [1] [1] O (fun e k=>(20,.int .i64 k)::e) (fun e k=>e) (fun k=>k<=es.length/\(es.take k).all (Gr.okE n)=true) (fun k=>es.length - k) 0 j2 j3 j1 j1 j1 JF ?_);rintro k ⟨dr,hC⟩;refine Vs 6 O (zoE O (fun dt=>?_) (fun du=>?_))
 .
  refine Vs 6 O (zri 1000 0 k tO db O O O (fun e dw dx dy hY dl dc dg=>?_));obtain rfl:=dg;refine zqQ 1000 tR124 ts169 O dc tO _ rfl O ?_
  have da:¬ (0<=e.1/\e.1<n/\0<=e.2/\e.2<n)->Gr.check n es=3:=fun h=>by
   have:es.all (Gr.okE n)=false:=Gr.all_false hY (by simp[Gr.okE];omega);simp[Gr.check,hn,h1,this];omega
  refine Vs 1 O (V.alloc 4 tz169 O O (fun b4=>?_));refine Vs 8 O (zr2 call174 O (fun w hI=>zic _ _ _ w) (zqh O (fun w hI=>zpS O j6) (Vs 1 O (V.sp 29 O (fun h3=>?_) (fun h3=>?_)))))
  . refine Vs 20 O (zr9 0 tr142 O O (by rw[da (by simp at h3;omega)]))
  refine Vs 3 O (zr2 call174 O (fun w hI=>zic _ _ _ w) (zqh O (fun w hI=>zpS O j6) (Vs 3 O (zoE O (fun h4=>?_) (fun h4=>?_)))))
  . refine Vs 11 O (zr9 0 tr142 O O (by rw[da (by simp at h4;omega)]))
  refine Va 7 O tO (V.back (k+1) j2 j3 ⟨tO,Gr.all_take_succ hY hC (by simp[Gr.okE]at *;omega)⟩ tZ 0 O O)
 obtain rfl:k=es.length:=tO;rw[zsW]at hC;refine Vs 11 O (zr9 0 tr142 O O (by simp[Gr.check,hn,h1,hC];omega))
theorem zh3 (a b:Int × Int) (w:World) (ha:-4611686018427387904<=a.1/\a.1<=4611686018427387903 /\ -4611686018427387904<=a.2/\a.2<=4611686018427387903) (hb:-4611686018427387904<=b.1/\b.1<=4611686018427387903 /\ -4611686018427387904<=b.2/\b.2<=4611686018427387903) :
  Calls prog 177 #[.agg #[.int .i64 a.1,.int .i64 a.2],.agg #[.int .i64 b.1,.int .i64 b.2]] w (Ret fun v w'=>v=.int .i64 (if a.1 ≠ b.1 then a.1 - b.1 else a.2 - b.2)/\Ext w w'):=by
 refine zqr func177 O ntmps177 O (V.inn (Vs 2 O (V.box 2 O O (fun b2=>?_))));refine V.box 3 O O (fun b3=>(Vs 13 O (zoE O (fun h=>?_) (fun h=>?_))))
 . refine Va 12 O tO (zr9 0 results177 O O tD)
 refine Va 13 O tO (zr9 0 results177 O O tD)
def qW (e:Int × Int):List Value:=[.int .i64 e.1,.int .i64 e.2]
theorem yB (e:Int × Int):(qW e).length=2:=rfl
theorem zb4 (e:Int × Int):∀ u ∈ qW e,u.oneCell'=true:=by simp[qW,Value.oneCell']
mutual
/-- The range of a term whose nodes all lie within the limit. -/
def rng (vs:List Vr):Tm->Option Rg
 | .mk op n ks=>(rngL vs ks).bind fun l=>if okR (zk vs op n l) then some (zk vs op n l) else none
def rngL (vs:List Vr):List Tm->Option (List Rg)
 | []=>some []
 | k::r=>(rng vs k).bind fun x=>(rngL vs r).map fun l=>x::l
end
section
variable {vs:List Vr}
theorem zbK (t:Tm):rng vs t=(rngL vs t.kids).bind fun l=>if okR (zk vs t.op t.n l) then some (zk vs t.op t.n l) else none:=by cases t;rw[rng];rfl
theorem zbL (a b:List Tm):rngL vs (a++b)=(rngL vs a).bind fun l=>(rngL vs b).map fun m=>l++m:=by
 induction a with
 | nil=>simp[rngL]
 | cons x r ih =>
  simp only[zu3,rngL,ih];cases rng vs x<;>cases rngL vs r<;>cases rngL vs b<;>simp
theorem zen {l:List Tm} {x:Tm} {m:List Rg} {r:Rg} (h:l[i]?=some x) (h1:rngL vs (l.take i)=some m) (h2:rng vs x=some r):rngL vs (l.take (i+1))=some (m++[r]):=by
 rw[ze h,zbL,h1];simp[rngL,h2]
theorem zeo {l:List Tm} {x:Tm} (h:l[i]?=some x) (h2:rng vs x=none):rngL vs l=none:=by
 rw[yH h,zbL];cases rngL vs (l.take i)<;>simp[rngL,h2]
theorem qz:∀ (l:List Tm) (m:List Rg),rngL vs l=some m->m.length=l.length
 | [],m,h=>by simp[rngL]at h;subst h;rfl
 | x::r,m,h=>by
  simp only[rngL,zvZ,zw3]at h;obtain⟨y,_,z,h2,rfl⟩:=h;simp[qz r z h2]
theorem jT:∀ (l:List Tm) (m:List Rg),rngL vs l=some m->∀ r ∈ m,∃ t ∈ l,rng vs t=some r
 | [],m,h,r,hr=>by simp[rngL]at h;subst h;simp at hr
 | x::l,m,h,r,hr=>by
  simp only[rngL,zvZ,zw3]at h;obtain⟨y,h1,z,h2,rfl⟩:=h;rcases zt7.1 hr with rfl | hr
  . grind
  obtain⟨t,h3,h4⟩:=jT l z h2 r hr
  grind
theorem zgb (x:Rg) (h:x.1<=x.2):∀ l:List Rg,(xk x l).1<=x.1/\x.2<=(xk x l).2:=by
 intro l;induction l generalizing x with
 | nil=>simp[xk]
 | cons y r ih =>
  have:=ih (min x.1 y.1,max x.2 y.2) tO;simp only[xk,zuw]at this ⊢;constructor<;>omega
theorem zid {l:List Rg} (h:i<l.length):at2 l i ∈ l:=by
 unfold at2;rw[zsR h];exact zuK h
theorem zkm {n:Int} (hv:∀ v ∈ vs,xz (v.low,v.high)) (hn:0<=n/\n<vs.length):xz (vat vs n):=by
 unfold vat;rw[zsR (show n.toNat<vs.length by omega)];exact hv _ (zuK _)
theorem zie {op n:Int} {l:List Rg} (h:NodeOk vs op n l):(zk vs op n l).1<=(zk vs op n l).2:=by
 have hg:∀ i,i<l.length->xz (at2 l i):=fun i hi=>h.good _ (zid hi);unfold xz at hg;unfold zk;split
 . omega
 split
 . rename_i h1 h2;exact(zkm h.vars (h.var h2)).2.1
 split
 . rename_i h1 h2 h3;have:=h.k1 (.inl h3);have:=hg 0 tO;dsimp only;omega
 split
 . have:=h.k2 tO;have:=hg 0 tO;have:=hg 1 tO;dsimp only;omega
 split
 . have:=h.k2 tO;have:=hg 0 tO;have:=hg 1 tO;dsimp only;omega
 split
 .
  have:=zgb ((at2 l 0).1*(at2 l 1).1,(at2 l 0).1*(at2 l 1).1) (Int.le_refl _) [((at2 l 0).1*(at2 l 1).2,(at2 l 0).1*(at2 l 1).2),((at2 l 0).2*(at2 l 1).1,(at2 l 0).2*(at2 l 1).1),((at2 l 0).2*(at2 l 1).2,(at2 l 0).2*(at2 l 1).2)];unfold jS;exact Int.le_trans this.1 this.2
 split
 . have:=h.k2 tO;have:=hg 0 tO;dsimp only;split<;>omega
 split
 . have:=h.k2 tO;have:=hg 1 tO;dsimp only;split<;>split<;>omega
 split
 . have:=h.k2 tO;have:=hg 0 tO;have:=hg 1 tO;dsimp only;omega
 split
 . have:=h.k2 tO;have:=hg 0 tO;have:=hg 1 tO;dsimp only;omega
 split
 .
  rename_i hk;have:=h.k3 hk;have h2:=hg 1 tO;have:=zgb (at2 l 1) h2.2.1 (l.drop 2);omega
 decide
theorem za1 (hv:∀ v ∈ vs,xz (v.low,v.high)) (t:Tm):zA vs inp t=true->∀ r,rng vs t=some r->xz r:=by
 induction t using zqB with
 | h t ih =>
  intro hf r hr;rw[yV,ztA,ztA]at hf;rw[zbK,zvZ]at hr;obtain⟨l,h1,h2⟩:=hr
  have hn:NodeOk vs t.op t.n l:=jD (qz _ _ h1) hf.1.1 hf.1.2 (fun x hx=>by
   obtain⟨k,hk,hC⟩:=jT _ _ h1 x hx
   exact ih k hk (zX hf.2 hk) x hC) hv
  have:=zie hn;split at h2
  .
   rename_i hY;cases h2;have:=of_decide_eq_true hY;exact⟨this.1,tO,this.2⟩
  cases h2
end
theorem zep (vs:List Vr) (inp:Bool) (vv:Value) (Dv:Nat->Prop) (dm:∀ v ∈ vs,xz (v.low,v.high)) (t:Tm):∀ (cs:List Value) (D:Nat->Prop) (w:World),SlR 5 RVr Dv w vv vs->RTm D w t cs->zA vs inp t=true->t.nodes<=1000000 ->
  Calls prog 89 #[vv,.agg cs.toArray] w (Ret fun r w'=>(∃ a b:Int,r=.tuple #[.agg #[.int .i64 a,.int .i64 b],.bool (rng vs t).isSome]/\∀ x,rng vs t=some x->(a,b)=x)/\Ext w w'):=by
 induction t using zqB with
 | h t ih =>
 intro cs D w dc ht hf dF;rw[yV,ztA,ztA]at hf;have dt:=zby t.kids;have dG:=t.nodes_eq;obtain⟨v,rfl,hk⟩:=ht.get;obtain⟨ao,cap,rfl⟩:=hk.form;obtain⟨av,nv,rfl⟩:=dc.form;refine zqr func89 O ntmps89 O (V.inn (Vs 2 O (V.box 3 O O (fun b3=>?_))));refine V.alloc 4 tz159 O O (fun b4=>(Vs 4 O (zqU 6 159 2 O (Vs 14 O (zrl (σ:=Nat × List Rg × Value) [0,3,4,13,14] [3,4] [3,4] O (fun e ⟨i,l,vk⟩=>(6,vk)::(15,.int .i64 i)::e) (fun e ⟨i,l,vk⟩=>(6,.row 159 2 vk l.length (l.flatMap qW))::e) (fun⟨i,l,vk⟩=>i<=t.kids.length/\rngL vs (t.kids.take i)=some l) (fun⟨i,l,vk⟩=>t.kids.length - i) (0,[],_) j2 j3 j1 j1 j1 ⟨zt6 _,by rw[zvE];rfl⟩ ?_)))));rintro⟨i,l,vk⟩ ⟨hi,hl⟩;refine Vs 6 O (zoE O (fun du=>?_) (fun du=>?_))
 .
  refine Vs 6 O (zri 1000 0 i tO hk O O O (fun k dH dI dJ hY da dg dh=>?_));obtain⟨dw,rfl,db⟩:=dh.get;obtain⟨dx,dy,rfl⟩:=db.form;refine zqQ 1000 tR68 ts70 O dg tO _ rfl O ?_;have dK:=xR hY;have dl:=qz _ _ hl;rw[ztl]at dl;refine Vs 1 O (V.alloc 8 tz70 O O (fun b8=>?_));refine Vs 7 O (zr4 call89 O (fun w hI=>(ih k da _ D w ip (RTm.put y7) (zX hf.2 da) tO)) ?_);rintro r w1 w2 dL dz ⟨ka,kb,rfl,hC⟩ dA;refine Vs 3 O (V.alloc 9 tz159 O O (fun b9=>?_));refine Vs 8 O (zqh O (fun w hI=>zpS O j6) (Vs 2 O (V.bool O (fun hb=>?_) (fun hb=>?_))))
  .
   have dB:rng vs k=none:=by cases h:rng vs k<;>simp[h]at hb ⊢
   have dr:rng vs t=none:=by rw[zbK,zeo hY dB];rfl
   refine Vs 2 O (zru [Value.int IntKind.i64 0,Value.int IntKind.i64 0] [(0,1),(1,1)] [] O O (fun _=>tK) (Vs 11 O (zp7 results89 tg159 ts159 O O O O (fun w hI=>⟨_,rfl,⟨0,0,tD,fun x hx=>tD⟩,hI.k1⟩))))
  obtain⟨x,hx⟩:∃ x,rng vs k=some x:=by cases h:rng vs k with
   | none=>simp[h]at hb
   | some x=>exact⟨x,rfl⟩
  have dC:=hC x hx;subst dC;refine Vs 5 O (zro 30 [(0,_)] tR203 ts159 tz159 tS O O tK (fun b30=>?_));refine zqV 6 30 underlying203 Tryz.el159 O tS O O tO tO (fun u6=>(Vs 4 O (zrk 6 O (e':=.row 159 2 u6 (l++[(ka,kb)]).length ((l++[(ka,kb)]).flatMap qW)) (by simp[qW]) (Va 4 O tO (V.back ⟨i+1,l++[(ka,kb)],u6⟩ j2 j3 ⟨tO,zen hY hl hx⟩ tD 1 O O)))))
 obtain rfl:i=t.kids.length:=tO;rw[zsW]at hl;have dl:=qz _ _ hl
 have hn:NodeOk vs t.op t.n l:=jD dl hf.1.1 hf.1.2 (fun x hx=>by
  obtain⟨k,hk,dD⟩:=jT _ _ hl x hx
  exact za1 dm k (zX hf.2 hk) x dD) dm
 have dE:rng vs t=if okR (zk vs t.op t.n l) then some (zk vs t.op t.n l) else none:=by rw[zbK,hl];rfl
 obtain⟨p,hp⟩:∃ p,p=zk vs t.op t.n l:=⟨_,rfl⟩;refine Vs 10 O (zr2 call129 O (fun w hI=>(by have h:=zmn vs t l _ vk _ Dv D (fun _=>True) w ip JT (zpL tO qW yB J4 (hI.at 6 O) (fun _ _=>trivial)) hn;rw[<- hp]at h;exact h)) ?_);rw[<- hp]at dE;have dM:(rng vs t).isSome=okR p:=tD
 have hC:∀ x,rng vs t=some x->(p.1,p.2)=x:=by
  grind
 refine V.alloc 11 tz159 O O (fun b11=>(Vs 4 O (Vw [3,11] [] O (Vd [0,1,2,3,4] 0 tK O O O (VD.sp 41 O (fun g1=>?_) (fun g1=>?_))))))
 .
  have ho:okR p=decide (p.2<=1048576):=by unfold okR;congr 1;simp;omega
  refine Vd [5,6,7,8] 0 tK O O O (Ve 9 0 O tK O O O (Vd [10] 0 tK O O O JV))
 have ho:okR p=false:=by unfold okR;exact zt4 tO
 refine Vd [5,6,7,8] 0 tK O O O (Ve 9 0 O tK O O O (Vd [10] 0 tK O O O JV))
theorem zdk (a b:Int) (w:World) (ha:-1048576<=a/\a<=1048576) (hb:-1048576<=b/\b<=1048576):Calls prog 183 #[.int .i64 a,.int .i64 b] w (Ret fun r w'=>r=.tuple #[.int .i64 (if a<0 then min (a+1) 0 else 0),.int .i64 (if 0<b then max (b - 1) 0 else 0)]/\Ext w w'):=by
 refine zqr func183 O ntmps183 O (V.inn (Vs 19 O (zoE O (fun p0=>?_) (fun p0=>?_))))
 .
  refine Va 3 O tO (zr2 tc114 O (fun w hI=>yl 0 (a+1) w) (Vs 10 O (zoE O (fun p1=>?_) (fun p1=>?_))))
  . refine Va 3 O tO YD
  refine Vs 11 O (zoY tr183 O O iS)
 refine Vs 9 O (zoE O (fun p1=>?_) (fun p1=>?_))
 . refine Va 3 O tO YD
 refine Vs 11 O (zoY tr183 O O iS)
theorem zif {l:List Rg} {a b:Int} (h:(l.map Prod.fst)[i]?=some a) (h2:(l.map Prod.snd)[i]?=some b):l[i]?=some (a,b):=by
 rw[zt8]at h h2;cases h3:l[i]? with
 | none=>simp[h3]at h
 | some x=>simp[h3]at h h2;rw[<- h,<- h2]
theorem zh4 (vs:List Vr) (t:Tm) (ks:List Rg) (vv lv hv:Value) (cs:List Value) (Dv D Dl Dh:Nat->Prop) (w:World) (dU:SlR 5 RVr Dv w vv vs) (ht:RTm D w t cs) (dm:SlR 1 zG Dl w lv (ks.map Prod.fst)) (dr:SlR 1 zG Dh w hv (ks.map Prod.snd)) (hn:NodeOk vs t.op t.n ks) :
  Calls prog 151 #[vv,.agg cs.toArray,lv,hv] w (Ret fun r w'=>(∃ a b:Int,r=.tuple #[.int .i64 a,.int .i64 b]/\okR (a,b)=okR (zk vs t.op t.n ks)/\(okR (a,b)=true->(a,b)=zk vs t.op t.n ks))/\Ext w w'):=by
 obtain⟨v,rfl,hk⟩:=ht.get;obtain⟨av,nv,rfl⟩:=dU.form;obtain⟨al,nl,rfl⟩:=dm.form;obtain⟨ah,nh,rfl⟩:=dr.form;have d5:=dm.max;have e1:(ks.map Prod.fst).length=ks.length:=ztb _;have e2:(ks.map Prod.snd).length=ks.length:=ztb _;have hg:∀ {i:Nat} {a b:Int},(ks.map Prod.fst)[i]?=some a->(ks.map Prod.snd)[i]?=some b->at2 ks i=(a,b) /\ -1048576<=a/\a<=b/\b<=1048576:=fun h1 h2=>⟨zm1 (zif h1 h2),hn.good _ (zsS (zif h1 h2))⟩
 have same:∀ {a b:Int} {w':World},Ext w w'->(a,b)=zk vs t.op t.n ks->∃ v,Ending.returned (.tuple #[.int .i64 a,.int .i64 b])=.returned v/\(∃ a b:Int,v=.tuple #[.int .i64 a,.int .i64 b]/\okR (a,b)=okR (zk vs t.op t.n ks)/\(okR (a,b)=true->(a,b)=zk vs t.op t.n ks))/\Ext w w' :=
  fun hk he=>⟨_,rfl,⟨_,_,rfl,tD,fun _=>he⟩,hk⟩
 refine zqt func151 O ntmps151 O (V.inn (Vs 2 O (V.box 5 O O (fun b5=>?_))));refine Vs 18 O (zoE O (fun h0=>?_) (fun h0=>?_))
 .
  refine Vs 7 O (V.sp 25 O (fun n0=>?_) (fun n0=>?_))
  . refine Vs 17 O Ja
  refine Vs 6 O (zoE O (fun n1=>?_) (fun n1=>?_))
  . refine Vs 10 O Ja
  refine Vs 3 O (Vq tK (Vs 11 O (zoY tr151 O O (fun w hI=>(same hI.k0 (by simp[zk,h0]))))))
 refine Vs 6 O (zoE O (fun dH=>?_) (fun dH=>?_))
 .
  have hv:=hn.var dH;refine zri 1000 0 t.n.toNat tO dU O O O (fun x d6 d7 d8 dN dW dI dO=>?_);obtain rfl:=dO;refine Vs 1 O (Vq tK (Vs 3 O (zqT 1000 tR22 ts142 O dI tO (t.n.toNat) tO O (Vs 5 O (zqT 1000 tR22 ts142 O dI tO (t.n.toNat) tO O (Vs 9 O (zoY tr151 O O (fun w hI=>(same hI.k0 (by simp[zk,dH,zib dN]))))))))))
 refine Vs 6 O (zoE O (fun h6=>?_) (fun h6=>?_))
 .
  have hl:=hn.k1 (.inl h6);refine zrj 2000 0 0 tO dm O O (fun p dC dD dh dw hY=>(zrj 3000 0 0 tO dr O O (fun r dE dF dl dx dg=>?_)));have x:=hg dh dl;refine Vs 1 O (Vq tK (Vs 1 O ?_));refine zqT 3000 tR27 ts3 O dg tO _ rfl O (Va 3 O tO ?_);refine zqT 2000 tR27 ts3 O hY tO _ rfl O (Va 9 O tO (zoY tr151 O O (fun w hI=>(same hI.k0 (by simp[zk,h6,x])))))
 refine Vs 6 O (zoE O (fun h8=>?_) (fun h8=>?_))
 .
  have hl:=hn.k2 tO;refine zrj 4000 0 0 tO dm O O (fun p dC dD dh dw hY=>(zrj 5000 0 1 tO dm O O (fun q dy dz da dt hC=>?_)));refine zrj 6000 0 0 tO dr O O (fun r dE dF dl dx dg=>(zrj 7000 0 1 tO dr O O (fun s dA dB db du dc=>?_)));have x:=hg dh dl;have y:=hg da db;refine Vs 1 O (Vq tK (Vs 1 O ?_));refine zqT 4000 tR27 ts3 O hY tO _ rfl O (Vs 2 O ?_);refine zqT 5000 tR27 ts3 O hC tO _ rfl O (Va 3 O tO ?_);refine zqT 6000 tR27 ts3 O dg tO _ rfl O (Vs 2 O ?_);refine zqT 7000 tR27 ts3 O dc tO _ rfl O (Va 9 O tO (zoY tr151 O O (fun w hI=>(same hI.k0 (by simp[zk,h8,x,y])))))
 refine Vs 6 O (zoE O (fun h9=>?_) (fun h9=>?_))
 .
  have hl:=hn.k2 tO;refine zrj 8000 0 0 tO dm O O (fun p dC dD dh dw hY=>(zrj 9000 0 1 tO dm O O (fun q dy dz da dt hC=>?_)));refine zrj 10000 0 0 tO dr O O (fun r dE dF dl dx dg=>(zrj 11000 0 1 tO dr O O (fun s dA dB db du dc=>?_)));have x:=hg dh dl;have y:=hg da db;refine Vs 1 O (Vq tK (Vs 1 O ?_));refine zqT 8000 tR27 ts3 O hY tO _ rfl O (Vs 2 O ?_);refine zqT 11000 tR27 ts3 O dc tO _ rfl O (Va 3 O tO ?_);refine zqT 10000 tR27 ts3 O dg tO _ rfl O (Vs 2 O ?_);refine zqT 9000 tR27 ts3 O hC tO _ rfl O (Va 9 O tO (zoY tr151 O O (fun w hI=>(same hI.k0 (by simp[zk,h9,x,y])))))
 refine Vs 6 O (zoE O (fun dJ=>?_) (fun dJ=>?_))
 .
  have hl:=hn.k2 tO;refine zrj 12000 0 0 tO dm O O (fun p dC dD dh dw hY=>(zrj 13000 0 1 tO dm O O (fun q dy dz da dt hC=>?_)));refine zrj 14000 0 0 tO dr O O (fun r dE dF dl dx dg=>(zrj 15000 0 1 tO dr O O (fun s dA dB db du dc=>?_)));have x:=hg dh dl;have y:=hg da db;have m1:=zcC (x:=p) (y:=q) tO tO;have m2:=zcC (x:=p) (y:=s) tO tO;have m3:=zcC (x:=r) (y:=q) tO tO;have m4:=zcC (x:=r) (y:=s) tO tO;refine Vs 1 O (Vq tK (Vs 1 O ?_));refine zqT 12000 tR27 ts3 O hY tO _ rfl O (Vs 2 O ?_);refine zqT 13000 tR27 ts3 O hC tO _ rfl O (Va 3 O tO ?_);refine zqT 12000 tR27 ts3 O hY tO _ rfl O (Vs 2 O ?_);refine zqT 15000 tR27 ts3 O dc tO _ rfl O (Va 3 O tO ?_);refine zqT 14000 tR27 ts3 O dg tO _ rfl O (Vs 2 O ?_);refine zqT 13000 tR27 ts3 O hC tO _ rfl O (Va 3 O tO ?_);refine zqT 14000 tR27 ts3 O dg tO _ rfl O (Vs 2 O ?_);refine zqT 15000 tR27 ts3 O dc tO _ rfl O (Va 12 O tO (zr2 tc114 O JA (Vs 2 O (zr2 tc114 O JA (zr2 tc114 O JA (Vs 2 O (zr2 tc113 O i7 (Vs 2 O (zr2 tc113 O i7 (zr2 tc113 O i7 (Vs 7 O (zoY tr151 O O (fun w hI=>(same hI.k0 (by simp[zk,dJ,x,y,jS,xk])))))))))))))))
 refine Vs 6 O (zoE O (fun dG=>?_) (fun dG=>?_))
 .
  have hl:=hn.k2 tO;refine zrj 16000 0 0 tO dm O O (fun p dC dD dh dw hY=>(zrj 17000 0 1 tO dm O O (fun q dy dz da dt hC=>?_)));refine zrj 18000 0 0 tO dr O O (fun r dE dF dl dx dg=>(zrj 19000 0 1 tO dr O O (fun s dA dB db du dc=>?_)));have x:=hg dh dl;have y:=hg da db;have hm:max (if p<0 then -p else p) (if r<0 then -r else r)=max r (-p):=tO;refine Vs 1 O (Vw [5,16000,17000,18000,19000] [] O (Vd [0,4] 0 tK O O O ?_));refine zqR 1 16000 tR27 ts3 O tK O hY tO _ rfl O (Vd [2] 0 tK O O O ?_);refine zqR 5 18000 tR27 ts3 O tK O dg tO _ rfl O (Vd [6] 0 tK O O O (zr3 3 0 call182 O tK O O (fun w hI=>zbH p w tO) (zr3 7 0 call182 O tK O O (fun w hI=>zbH r w tO) (zr3 8 0 tc113 O tK O O i7 ?_))));rw[hm];refine Vd [9] 0 tK O O O (VD.done tK (Vs 5 O ?_));refine zqQ 16000 tR27 ts3 O hY tO _ rfl O (Vs 3 O (V.sp 149 O (fun p0=>?_) (fun p0=>?_)))
  .
   refine Vs 1 O ?_;refine zqQ 17000 tR27 ts3 O hC tO _ rfl O (Vs 5 O (zoE O (fun p1=>?_) (fun p1=>?_)))
   . refine Vs 11 O UX
   refine Va 14 O tO UX
  refine Va 22 O tO (zoY tr151 O O (fun w hI=>(same hI.k0 (by simp[zk,dG,x,y,p0]))))
 refine Vs 6 O (zoE O (fun dK=>?_) (fun dK=>?_))
 .
  have hl:=hn.k2 tO;refine zrj 20000 0 1 tO dm O O (fun q dy dz da dt hC=>(zrj 21000 0 1 tO dr O O (fun s dA dB db du dc=>?_)));have y:=hg da db;refine Vs 1 O (Vw [5,20000,21000] [] O (Vd [0,3] 0 tK O O O ?_));refine zqR 1 20000 tR27 ts3 O tK O hC tO _ rfl O (Vd [2] 0 tK O O O ?_);refine zqR 4 21000 tR27 ts3 O tK O dc tO _ rfl O (Vd [5] 0 tK O O O (zr3 6 0 call183 O tK O O (fun w hI=>zdk q s w tO tO) (Vd [7,8,9,10] 0 tK O O O (VD.done tK (Vs 4 O (zoY tr151 O O (fun w hI=>(same hI.k0 (by simp[zk,dK,y])))))))))
 refine Vs 6 O (zoE O (fun dL=>?_) (fun dL=>?_))
 .
  have hl:=hn.k2 tO;refine zrj 22000 0 0 tO dm O O (fun p dC dD dh dw hY=>(zrj 23000 0 1 tO dm O O (fun q dy dz da dt hC=>?_)));refine zrj 24000 0 0 tO dr O O (fun r dE dF dl dx dg=>(zrj 25000 0 1 tO dr O O (fun s dA dB db du dc=>?_)));have x:=hg dh dl;have y:=hg da db;refine Vs 1 O (Vw [5,22000,23000,24000,25000] [] O (Vd [0,3,7,10] 0 tK O O O ?_));refine zqR 1 22000 tR27 ts3 O tK O hY tO _ rfl O (Vd [2] 0 tK O O O ?_);refine zqR 4 23000 tR27 ts3 O tK O hC tO _ rfl O (Vd [5] 0 tK O O O ?_);refine zqR 8 24000 tR27 ts3 O tK O dg tO _ rfl O (Vd [9] 0 tK O O O ?_);refine zqR 11 25000 tR27 ts3 O tK O dc tO _ rfl O (Vd [12] 0 tK O O O (zr3 6 0 tc114 O tK O O JA (zr3 13 0 tc114 O tK O O JA (Vd [14,15] 0 tK O O O (VD.done tK (Vs 4 O (zoY tr151 O O (fun w hI=>(same hI.k0 (by simp[zk,dL,x,y]))))))))))
 refine Vs 6 O (zoE O (fun dM=>?_) (fun dM=>?_))
 .
  have hl:=hn.k2 tO;refine zrj 26000 0 0 tO dm O O (fun p dC dD dh dw hY=>(zrj 27000 0 1 tO dm O O (fun q dy dz da dt hC=>?_)));refine zrj 28000 0 0 tO dr O O (fun r dE dF dl dx dg=>(zrj 29000 0 1 tO dr O O (fun s dA dB db du dc=>?_)));have x:=hg dh dl;have y:=hg da db;refine Vs 1 O (Vw [5,26000,27000,28000,29000] [] O (Vd [0,3,7,10] 0 tK O O O ?_));refine zqR 1 26000 tR27 ts3 O tK O hY tO _ rfl O (Vd [2] 0 tK O O O ?_);refine zqR 4 27000 tR27 ts3 O tK O hC tO _ rfl O (Vd [5] 0 tK O O O ?_);refine zqR 8 28000 tR27 ts3 O tK O dg tO _ rfl O (Vd [9] 0 tK O O O ?_);refine zqR 11 29000 tR27 ts3 O tK O dc tO _ rfl O (Vd [12] 0 tK O O O (zr3 6 0 tc113 O tK O O i7 (zr3 13 0 tc113 O tK O O i7 (Vd [14,15] 0 tK O O O (VD.done tK (Vs 4 O (zoY tr151 O O (fun w hI=>(same hI.k0 (by simp[zk,dM,x,y]))))))))))
 refine Vs 7 O (zrm (σ:=Unit) [2,3] [] [] O (fun e u=>(202,.bool (decide (t.op=23\/t.op=25)))::e) (fun e u=>e) (fun u=>True) j1 j1 ?_ ?_)
 .
  refine zoE O (fun k1_=>?_) (fun k1_=>?_)
  . refine Vs 1 O (zoS () Uf j3 trivial 0 O O)
  refine Vs 4 O (zoS () Uf j3 trivial 0 O O)
 rintro u _;refine Vs 1 O (zoE O (fun p1=>?_) (fun p1=>?_))
 .
  have hl:=hn.k3 p1;refine zrj 30000 0 1 tO dm O O (fun q dy dz da dt hC=>(zrj 31000 0 1 tO dr O O (fun s dA dB db du dc=>?_)));have y:=hg da db;refine Vs 1 O (Vq tK (Vs 1 O ?_));refine zqT 30000 tR27 ts3 O hC tO _ rfl O (Vs 2 O ?_);refine zqT 31000 tR27 ts3 O dc tO _ rfl O (Vs 12 O (zrl (σ:=Nat) [2,3] [] [] O (fun e k=>(15,.int .i64 (xk (q,s) ((ks.drop 2).take k)).1)::(16,.int .i64 (xk (q,s) ((ks.drop 2).take k)).2)::(17,.int .i64 (k+2:Nat))::e) (fun e k=>e) (fun k=>k+2<=ks.length) (fun k=>ks.length - k) 0 j2 j3 j1 j1 j1 tO ?_));rintro k d9;refine Vs 9 O (zoE O (fun dX=>?_) (fun dX=>?_))
  .
   refine zrj 32000 0 (k+2) tO dm O O (fun z eb ec dQ dY dR=>(zrj 33000 0 (k+2) tO dr O O (fun y ed ee dS dZ dT=>?_)));have dV:=zas (x:=(q,s)) (show (ks.drop 2)[k]?=some (z,y) by rw[zuz,zvG];exact zif dQ dS);refine Vs 4 O (Vw [32000,33000] [] O (Vd [0,1,2,6,7,8] 0 tK O O O ?_));refine zqR 3 32000 tR27 ts3 O tK O dR tO _ rfl O (Vd [4] 0 tK O O O ?_);refine zqR 9 33000 tR27 ts3 O tK O dT tO _ rfl O (Vd [10] 0 tK O O O (zr3 5 0 tc114 O tK O O JA (zr3 11 0 tc113 O tK O O i7 (Vd [12,13] 0 tK O O O (VD.done tK (Va 7 O tO (V.back (k+1) (Sub.cons (by rw[dV];rfl) (Sub.cons (by rw[dV];rfl) YO)) j3 tO tZ 0 O O)))))))
  obtain rfl:k=ks.length - 2:=tO;refine Vs 16 O (zoY tr151 O O (fun w hI=>(same hI.k0 (by rw[<- zuN,zsW];simp[zk,h0,dH,h6,h8,h9,dJ,dG,dK,dL,dM,p1,y]))))
 refine Vs 10 O (zoY tr151 O O (fun w hI=>(same hI.k0 (by simp[zk,h0,dH,h6,h8,h9,dJ,dG,dK,dL,dM,p1]))))
open Go.GL
def zdl (x:Int):List Value:=[.int .i64 x]
theorem xN (x:Int):(zdl x).length=1:=rfl
theorem qL (l:List Int):(l.flatMap zdl).length=l.length*1:=zQ xN l
theorem zob (l:List Int):l.map (Value.int .i64)=l.flatMap zdl:=zd6 l
theorem zfp (vs:List Vr) (inp:Bool) (vv:Value) (Dv:Nat->Prop) (dt:∀ v ∈ vs,xz (v.low,v.high)) (t:Tm):∀ (cs:List Value) (D:Nat->Prop) (w:World),SlR 5 RVr Dv w vv vs->RTm D w t cs->zA vs inp t=true->t.nodes<=1000000 ->
  Calls prog 111 #[vv,.agg cs.toArray] w (Ret fun r w'=>(∃ a b:Int,r=.tuple #[.int .i64 a,.int .i64 b,.bool (rng vs t).isSome]/\∀ x,rng vs t=some x->(a,b)=x)/\Ext w w'):=by
 induction t using zqB with
 | h t ih =>
 intro cs D w dc ht hf dG;rw[yV,ztA,ztA]at hf;have dx:=zby t.kids;have dH:=t.nodes_eq;obtain⟨v,rfl,hk⟩:=ht.get;obtain⟨ao,cap,rfl⟩:=hk.form;obtain⟨av,nv,rfl⟩:=dc.form;refine zqr func111 O ntmps111 O (V.inn (Vs 2 O (V.box 3 O O (fun b3=>?_))));refine Vs 7 O (zrt 15 tR27 ts3 O (fun b15=>?_));refine Vs 5 O (zrt 16 tR27 ts3 O (fun b16=>?_));refine Vs 10 O (zrl (σ:=Nat × List Rg × Value × Value) [0,3] [3] [3] O (fun e ⟨i,l,vl,vh⟩=>(7,vl)::(8,vh)::(9,.int .i64 i)::e) (fun e ⟨i,l,vl,vh⟩=>(15,.row 3 1 vl l.length ((l.map Prod.fst).map (Value.int .i64)))::(16,.row 3 1 vh l.length ((l.map Prod.snd).map (Value.int .i64)))::e) (fun⟨i,l,vl,vh⟩=>i<=t.kids.length/\rngL vs (t.kids.take i)=some l) (fun⟨i,l,vl,vh⟩=>t.kids.length - i) (0,[],_,_) j2 j3 j1 j1 j1 ⟨zt6 _,by rw[zvE];rfl⟩ ?_);rintro⟨i,l,vl,vh⟩ ⟨hi,hl⟩;refine Vs 10 O (zoE O (fun dy=>?_) (fun dy=>?_))
 .
  refine Vs 10 O (zri 1000 0 i tO hk O O O (fun k dI dJ dK hC hY dg dh=>?_));obtain⟨dz,rfl,da⟩:=dh.get;obtain⟨dA,dB,rfl⟩:=da.form;refine zqQ 1000 tR68 ts70 O dg tO _ rfl O ?_;have dL:=xR hC;have dl:=qz _ _ hl;rw[ztl]at dl;refine Vs 1 O (zr4 call111 O (fun w hI=>(ih k hY _ D w ip YF (zX hf.2 hY) tO)) ?_);rintro r w1 w2 dC dm ⟨ka,kb,rfl,db⟩ dr;refine Vs 13 O (zqh O (fun w hI=>zpS O j6) (Vs 2 O (V.bool O (fun hb=>?_) (fun hb=>?_))))
  .
   have dD:rng vs k=none:=by cases h:rng vs k<;>simp[h]at hb ⊢
   have du:rng vs t=none:=by rw[zbK,zeo hC dD];rfl
   refine Vs 14 O (zp1 results111 O O O (fun w hI=>⟨_,rfl,⟨0,0,tD,fun x hx=>tD⟩,hI.k1⟩))
  obtain⟨x,hx⟩:∃ x,rng vs k=some x:=by cases h:rng vs k with
   | none=>simp[h]at hb
   | some x=>exact⟨x,rfl⟩
  have dE:=db x hx;subst dE;refine Vs 6 O (zro 39 [(0,_)] tR27 ts3 tz3 tS O O tK (fun b39=>?_));refine zqV 15 39 tu27 Tryz.el3 O tS O O tO tO (fun u15=>(Vs 6 O (zro 43 [(0,_)] tR27 ts3 tz3 tS O O tK (fun b43=>?_))));refine zqV 16 43 tu27 Tryz.el3 O tS O O tO tO (fun u16=>(Vs 4 O (zrk 15 O (e':=.row 3 1 u15 (l++[(ka,kb)]).length (((l++[(ka,kb)]).map Prod.fst).map (Value.int .i64))) tR (zrk 16 O (e':=.row 3 1 u16 (l++[(ka,kb)]).length (((l++[(ka,kb)]).map Prod.snd).map (Value.int .i64))) tR (Va 5 O tO (V.back ⟨i+1,l++[(ka,kb)],u15,u16⟩ j2 j3 ⟨tO,zen hC hl hx⟩ tD 1 O O))))))
 obtain rfl:i=t.kids.length:=tO;rw[zsW]at hl;have dl:=qz _ _ hl
 have hn:NodeOk vs t.op t.n l:=jD dl hf.1.1 hf.1.2 (fun x hx=>by
  obtain⟨k,hk,dF⟩:=jT _ _ hl x hx
  exact za1 dt k (zX hf.2 hk) x dF) dt
 have dM:rng vs t=if okR (zk vs t.op t.n l) then some (zk vs t.op t.n l) else none:=by rw[zbK,hl];rfl
 refine Vs 11 O (zr4 call151 O (fun w hI=>(zh4 vs t l _ vl vh _ Dv D (fun _=>True) (fun _=>True) w ip JT (by have h:=zpK (R:=zG) (Value.int .i64) iA (hI.at 15 O) (fun _ _=>trivial);exact h) (by have h:=zpK (R:=zG) (Value.int .i64) iA (hI.at 16 O) (fun _ _=>trivial);exact h) hn)) ?_);rintro r w1 w2 dC dm ⟨a,c,rfl,dN,db⟩ dr;have dO:(rng vs t).isSome=okR (a,c):=tD
 have dw:∀ x,rng vs t=some x->(a,c)=x:=by
  grind
 refine Vs 14 O (V.sp 57 O (fun g1=>?_) (fun g1=>?_))
 .
  have ho:okR (a,c)=decide (c<=1048576):=by unfold okR;congr 1;simp;omega
  refine Vs 9 O UV
 have ho:okR (a,c)=false:=by unfold okR;exact zt4 tO
 refine Vs 9 O UV
def zD (vs:List Vr) (inp:Bool) (t:Tm):Int:=if zA vs inp t then (if (rng vs t).isSome then 0 else 3) else 1
theorem jE (vs:List Vr) (inp:Bool) (vv:Value) (cs:List Value) (Dv D:Nat->Prop) (w:World) (t:Tm) (dl:∀ v ∈ vs,xz (v.low,v.high)) (hY:SlR 5 RVr Dv w vv vs) (ht:RTm D w t cs) (dm:t.nodes<=1000000):Calls prog 63 #[vv,.agg cs.toArray,.bool inp] w (Ret fun r w'=>r=.int .i64 (zD vs inp t)/\Ext w w'):=by
 obtain⟨v,rfl,hk⟩:=ht.get;have hE:=Keep.refl (fun _=>False) w;refine zqs func63 O ntmps63 O (Gs 2 O (G.mem O O (M.box O O) ?_));rintro _ dw ⟨b,rfl,db,dr,hC,dc⟩;have dh:_<=b:=zsX hE.size (zvO db.symm);obtain⟨hE,hY,hk⟩:=Tr3 dc hE hY hk;refine Gs 7 O (zqm O tg70 ts70 hC.cells O (Gs 1 O (G.call O call110 (zel vs inp vv Dv t _ D _ hY (RTm.put hk)) ?_)));rintro _ wz1 ⟨rfl,dt⟩;obtain⟨hE,hY,hk,hC⟩:=Tr4 dt hE hY hk hC;refine zqg O O (zpS O j6) (Gs 2 O (G.bool O (fun hf=>?_) (fun hf=>?_)))
 .
  have da:zA vs inp t=false:=by simpa using hf
  refine Gs 7 O (zoU results63 O ⟨_,rfl,by rw[zD,da];rfl,hE⟩)
 have da:zA vs inp t=true:=by simpa using hf
 refine Gs 5 O (zqm O tg70 ts70 hC.cells O (G.call O call111 (zfp vs inp vv Dv dl t _ D _ hY (RTm.put hk) da dm) ?_));rintro _ wz2 ⟨⟨a,c,rfl,_⟩,du⟩;obtain⟨hE,hY,hk,hC⟩:=Tr4 du hE hY hk hC;refine Gs 13 O (zqg O O (zpS O j6) (Gs 2 O (G.bool O (fun ho=>?_) (fun ho=>?_))))
 .
  have dg:(rng vs t).isSome=false:=by simpa using ho
  refine Gs 7 O (zoU results63 O ⟨_,rfl,by rw[zD,da,dg];rfl,hE⟩)
 have dg:(rng vs t).isSome=true:=by simpa using ho
 refine Gs 8 O (zoU results63 O ⟨_,rfl,by rw[zD,da,dg];rfl,hE⟩)
theorem zbM (vs:List Vr) (inp:Bool) (vv:Value) (cs:List Value) (Dv D:Nat->Prop) (w:World) (t:Tm) (dx:∀ v ∈ vs,xz (v.low,v.high)) (hY:SlR 5 RVr Dv w vv vs) (ht:RTm D w t cs) (dy:t.nodes<=1000000):Calls prog 162 #[vv,.agg cs.toArray,.bool inp] w (Ret fun r w'=>r=.int .i64 (zD vs inp t)/\Ext w w'):=by
 obtain⟨v,rfl,hk⟩:=ht.get;have hE:=Keep.refl (fun _=>False) w;refine zqs func162 O ntmps162 O (Gs 2 O (G.mem O O (M.box O O) ?_));rintro _ dD ⟨b,rfl,dh,dz,hC,dl⟩;have du:_<=b:=zsX hE.size (zvO dh.symm);obtain⟨hE,hY,hk⟩:=Tr3 dl hE hY hk;refine Gs 7 O (zqm O tg70 ts70 hC.cells O (Gs 1 O (G.call O call87 (za0 vs inp vv Dv t _ D _ hY (RTm.put hk)) ?_)));rintro _ wz1 ⟨rfl,dA⟩;obtain⟨hE,hY,hk,hC⟩:=Tr4 dA hE hY hk hC;refine zqg O O (zpS O j6) (Gs 2 O (G.bool O (fun hf=>?_) (fun hf=>?_)))
 .
  have db:zA vs inp t=false:=by simpa using hf
  refine Gs 7 O (zoU results162 O ⟨_,rfl,by rw[zD,db];rfl,hE⟩)
 have db:zA vs inp t=true:=by simpa using hf
 refine Gs 6 O (zqm O tg70 ts70 hC.cells O (G.call O call89 (zep vs inp vv Dv dx t _ D _ hY (RTm.put hk) db dy) ?_));rintro _ wz2 ⟨⟨a,c,rfl,_⟩,dB⟩;obtain⟨hE,hY,hk,hC⟩:=Tr4 dB hE hY hk hC;refine Gs 3 O (G.mem O O (M.alloc (cs:=_) tz159 O) ?_);rintro _ wa3 ⟨o,rfl,dm,dC,dc,da⟩;refine zpt O (zpu ts159 O O O O tX dc tR) ?_;rintro dE ⟨_,dc,dg⟩;replace da:=da.trans dg (fun q hq h=>tO);have dr:b ≠ o:=by have:=hC.lt;omega
 have dw:_<=o:=zsX hE.size (zvO dm.symm);obtain⟨hE,hY,hk,hC⟩:=Tr4 da hE hY hk hC;refine Gs 6 O (zqg O O (zpS O j6) (Gs 2 O (G.bool O (fun ho=>?_) (fun ho=>?_))))
 .
  have dt:(rng vs t).isSome=false:=by simpa using ho
  refine Gs 7 O (zoU results162 O ⟨_,rfl,by rw[zD,db,dt];rfl,hE⟩)
 have dt:(rng vs t).isSome=true:=by simpa using ho
 refine Gs 8 O (zoU results162 O ⟨_,rfl,by rw[zD,db,dt];rfl,hE⟩)
end Go.Proofs.YtckdhgbepmpgiaaGreat
