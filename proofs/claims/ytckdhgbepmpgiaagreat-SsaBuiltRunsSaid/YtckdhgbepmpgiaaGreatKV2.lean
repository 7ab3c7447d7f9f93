/-
  Contracts and the mathematics that the proof needs. Nothing here is a claim.
-/
import Derived.Test.YtckdhgbepmpgiaaGreatKV1
theorem j2 {p:Prop}(h:p:=by exact Sub.of O):p:=h
theorem j3 {p:Prop}(h:p:=by exact Has.of O):p:=h
theorem j4 {p:Prop}(h:p:=by first | exact zx tO | exact zy tO | exact zk tO):p:=h
theorem j6 {p:Prop}(h:p:=by first | exact za | rfl):p:=h
theorem j9 {p:Prop}(h:p:=by exact fun _ _=>rfl):p:=h
theorem iE {p:Prop}(h:p:=by exact zpo tr128 O O (fun w hI=>⟨_,rfl,⟨_,_,rfl,by grind [zR]⟩,hI.k0⟩)):p:=h
theorem iL {p:Prop}(h:p:=by rw[hY,show zT vs inp t.op t.n=false by grind [zT]];rfl):p:=h
theorem iQ {p:Prop}(h:p:=by exact Tr1 hI.k0 db):p:=h
theorem iR {p:Prop}(h:p:=by exact fun w hI=>⟨_,rfl,tD,hI.k0⟩):p:=h
theorem iT {p:Prop}(h:p:=by exact Tr1 hI.k0 da):p:=h
theorem iV {p:Prop}(h:p:=by exact xr (by grind [zZ])):p:=h
theorem iX {p:Prop}(h:p:=by exact zpu tr129 tg159 ts159 O O O (fun w hI=>⟨_,rfl,by simp[zn,at2,dA,db,p0,p1],hI.k0⟩)):p:=h
theorem il {p:Prop}(h:p:=by exact Tr1 hI.k0 dg):p:=h
theorem im {p:Prop}(h:p:=by exact Tr1 hI.k0 dh):p:=h
theorem io {p:Prop}(h:p:=by exact xr (by unfold okB qG;grind)):p:=h
theorem i3 {p:Prop}(h:p:=by exact show ¬ s.act=4 by omega):p:=h
theorem i6 {p:Prop}(h:p:=by exact fun w hI=>zV _ _ w):p:=h
theorem i9 {p:Prop}(h:p:=by exact zrz 0 tr150 O O (by grind [zR])):p:=h
theorem y8 {p:Prop}(h:p:=by exact ⟨ztC _,rfl⟩):p:=h
theorem y9 {p:Prop}(h:p:=by unfold zb9;congr 1;grind):p:=h
theorem JA {p:Prop}(h:p:=by exact fun w hI=>zX _ _ w):p:=h
theorem JC {p:Prop}(h:p:=by exact xr (by unfold qG;grind)):p:=h
theorem JI {p:Prop}(h:p:=by exact RTm.put (Tr1 hI.k0 hk)):p:=h
theorem JK {p:Prop}(h:p:=by exact Tr1 hI.k0 dc):p:=h
theorem JR {p:Prop}(h:p:=by rw[yC];exact ztM _):p:=h
theorem JT {p:Prop}(h:p:=by exact VD.done tK (Vs 2 O (zpx results89 tg159 ts159 O O O O (fun w hI=>⟨_,rfl,⟨p.1,p.2,tD,hY⟩,hI.k0⟩)))):p:=h
theorem JV {p:Prop}(h:p:=by exact xr (by unfold kC;grind)):p:=h
theorem JX {p:Prop}(h:p:=by exact zpo tr151 O O (fun w hI=>⟨_,rfl,⟨_,_,rfl,by simp[zn,okR,h0];omega,fun h=>by cases h⟩,hI.k0⟩)):p:=h
theorem Je {p:Prop}(h:p:=by grind [zT]):p:=h
theorem Jn {p:Prop}(h:p:=by exact ⟨tO,tD⟩):p:=h
theorem Jo {p:Prop}(h:p:=by exact zpu tr129 tg159 ts159 O O O (fun w hI=>⟨_,rfl,by simp[zn,at2,dB,dc,db,p0,p1],hI.k0⟩)):p:=h
theorem Jp {p:Prop}(h:p:=by rw[zcy,ztA (fun h=>tO)]):p:=h
theorem Ju {p:Prop}(h:p:=by exact TgOk.none (hA.new h3)):p:=h
theorem J3 {p:Prop}(h:p:=by exact fun x _=>rfl):p:=h
theorem J7 {p:Prop}(h:p:=by exact xr (by unfold okB;grind)):p:=h
theorem UA {p:Prop}(h:p:=by exact zrz 0 results140 O O (by simp[yA, *])):p:=h
theorem UH {p:Prop}(h:p:=by exact fun q hq h=>by have h:q=g:=h;subst h;exact Wr.mk (hb.far _ rfl) da zor):p:=h
theorem UO {p:Prop}(h:p:=by exact ⟨(dc.drop j).pick dh h9,h _ O dh (TgOk.none (hA.res h3 h4)) w1 dc⟩):p:=h
theorem US {p:Prop}(h:p:=by exact zpr results111 O O O (fun w hI=>⟨_,rfl,⟨a,c,tD,dx⟩,hI.k1⟩)):p:=h
theorem UU {p:Prop}(h:p:=by exact zpo tr151 O O (fun w hI=>(same hI.k0 (by simp[zn,dH,x,y,p0,p1])))):p:=h
theorem Ub {p:Prop}(h:p:=by exact Sub.cons j4 j2):p:=h
theorem Uf {p:Prop}(h:p:=by exact Sub.cons (qg O tO) (Sub.cons rfl j2)):p:=h
theorem Ul {p:Prop}(h:p:=by exact Sub.cons iV j2):p:=h
theorem Uw {p:Prop}(h:p:=by exact Sub.cons io j2):p:=h
theorem U0 {p:Prop}(h:p:=by exact zrs tc113 O (fun w hI=>zV 0 (b - 1) w) (Vs 12 O (zpo tr183 O O iR))):p:=h
theorem U2 {p:Prop}(h:p:=by exact RTm.put iQ):p:=h
theorem YB {p:Prop}(h:p:=by exact Sub.cons rfl j2):p:=h
open Go.Proofs.Tryz
variable {α σ:Type} {P:Go.Program} {T:Go.GL.Tab} {Z:Go.GL.Szs} {Q:Go.Exit->Go.Act->Go.World->Prop} {ks:List Go.GL.Fr} {env E1 env':Go.GL.Env} {A A1:Go.GL.Tgs} {H H1 Hs:Go.GL.Hp} {Bs B0:Go.GL.zq} {ops:Array Go.Oper} {v z vy v':Go.Value} {w w0 w1 w2 w':Go.World} {b o kk m id fuel d by' B i c k q a W0:Nat} {cs xs rv zs fs vs cs':List Go.Value} {R:Go.GL.Rel α} {D:Nat->Prop} {ao:Option Go.Addr} {l r':List α} {t e:Go.TypeId} {e':Go.GL.HE} {rest:List Go.Oper} {L:List Nat} {listed:Array Bool} {aft:Array Go.Edge} {g:Option (Nat × Bool)} {parts:Array (Nat × Go.Operand)} {x y:Go.Operand} {p:Prop} {enc:α->Go.Value} {rows:List (List α)} {kl kc:Go.IntKind} {f:Go.FuncId} {ts:Array Go.TypeId} {Hn:α->Go.GL.Hp} {Φ:Go.Value->α->Prop} {p0 p1 p2 p3 p4:Go.World × (Nat->Prop)} {args:Array Go.Value} {ns ms:List Go.GL.Nd} {inp:Bool} {s:List (Int × Int)} {r:List Int}
namespace Go.GL
def zis (env:Env):List Nat->Option Env
 | []=>some []
 | k::r=>match get env k with
  | some v=>(match zis env r with
   | some l=>some ((k,v)::l)
   | none=>none)
  | none=>none
def zdm (H:Hp):List Nat->Option Hp
 | []=>some []
 | k::r=>match hget H k with
  | some v=>(match zdm H r with
   | some l=>some ((k,v)::l)
   | none=>none)
  | none=>none
def zit (A:Tgs):List Nat->Option Tgs
 | []=>some []
 | k::r=>match tgt A k with
  | some v=>(match zit A r with
   | some l=>some ((k,some v)::l)
   | none=>none)
  | none=>none
theorem zeu {H:Hp}:∀ {ks:List Nat} {H':Hp},zdm H ks=some H'->Has H' H
 | [],H',h=>by cases h;exact Has.nil
 | k::r,H',h=>by
  unfold zdm at h;split at h
  .
   rename_i v hv;split at h
   . rename_i l hl;cases h;exact Has.cons hv (zeu hl)
   cases h
  cases h
section
variable {n:Fm} {pos:Pos}
theorem V.fr (k j:Nat) {c:Value} (hn:(hget H k).isNone=true) (hp:Bs[j]?=some (w,fun _=>False)) (hc:Cells w b o (c::cs)) (h:V P n Q ks pos env A ((k,.fro b o (c::cs))::H) Bs):V P n Q ks pos env A H Bs :=
 V.fro k (by simpa using hn) (zto hp) (ztp _ _ (hc 0 c rfl)) (fun h=>h) hc h
theorem zrG (k j:Nat) {S:Nat->Prop} {c:Value} (hn:(hget H k).isNone=true) (hp:Bs[j]?=some (w,S)) (hS:¬ S b) (hc:Cells w b o (c::cs)) (h:V P n Q ks pos env A ((k,.fro b o (c::cs))::H) Bs):V P n Q ks pos env A H Bs :=
 V.fro k (by simpa using hn) (zto hp) (ztp _ _ (hc 0 c rfl)) hS hc h
theorem zrH {S:Nat->Prop} {cap:Nat} (k j i:Nat) (hi:i<l.length) (hl:SlR kk R D w (.slice ao m cap) l) (hn:(hget H k).isNone=true) (hp:Bs[j]?=some (w,S)) (hk:Nat.blt 0 kk=true) (hS:∀ b,D b->S b->False)
  (h:∀ x b o cs,l[i]?=some x->x ∈ l->ao=some ⟨b,o,none⟩->D b->R D w x cs->V P n Q ks pos env A ((k,.fro b (o+i*kk) cs)::H) Bs):V P n Q ks pos env A H Bs:=by
 obtain⟨x,hx⟩:∃ x,l[i]?=some x:=⟨_,ztn hi⟩;obtain⟨ao',cap',h1,h2,h3,h4⟩:=hl;cases h1;obtain⟨b,o,cs,h5,h6,h7,h8,h9⟩:=h4 i x hx;have h0:=h x b o cs hx (zto hx) h5 h6 h9
 match cs,h7 with
 | [],h7=>rw[<- h7]at hk;cases hk
 | c::cs,_=>exact zrG k j hn hp (hS b h6) h8 h0
theorem zrI {cap:Nat} (k j i:Nat) (hi:i<l.length) (hl:SlR kk R D w (.slice ao m cap) l) (hn:(hget H k).isNone=true) (hp:Bs[j]?=some (w,fun _=>False)) (hk:Nat.blt 0 kk=true)
  (h:∀ x b o cs,l[i]?=some x->x ∈ l->ao=some ⟨b,o,none⟩->R D w x cs->V P n Q ks pos env A ((k,.fro b (o+i*kk) cs)::H) Bs):V P n Q ks pos env A H Bs :=
 zrH k j i hi hl hn hp hk (fun _ _ h=>h) fun x b o cs h1 h2 h3 _ h5=>h x b o cs h1 h2 h3 h5
theorem zrJ {cap:Nat} {l:List Int} (k j i:Nat) (hi:i<l.length) (hl:SlR 1 zv D w (.slice ao m cap) l) (hn:(hget H k).isNone=true) (hp:Bs[j]?=some (w,fun _=>False))
  (h:∀ x b o,l[i]?=some x->x ∈ l->ao=some ⟨b,o,none⟩->V P n Q ks pos env A ((k,.fro b (o+i*1) [.int .i64 x])::H) Bs):V P n Q ks pos env A H Bs :=
 zrI k j i hi hl hn hp rfl fun x b o cs h1 h2 h3 h5=>by
  obtain rfl:cs=[.int .i64 x]:=h5;exact h x b o h1 h2 h3
theorem V.dat [Dt R] (k j:Nat) {S:Nat->Prop} (hn:(hget H k).isNone=true) (hp:Bs[j]?=some (w0,S)) (hk:Nat.blt 0 kk=true) (hd:SlR kk R D w0 v l) (hS:∀ b,D b->b<w0.heap.size->¬ S b)
  (h:V P n Q ks pos env A ((k,.dat (fun b=>D b/\b<w0.heap.size) (fun w=>SlR kk R (fun b=>D b/\b<w0.heap.size) w v l))::H) Bs):V P n Q ks pos env A H Bs :=
 fun hA w' hI=>h (hA.new (by simpa using hn)) w' (by
  have h1:=hI.dat k (p:=(w0,S)) (zto hp) (show 0<kk by simpa[Nat.blt_eq] using hk) hd hS
  exact h1)
theorem zdn:∀ {H:Hp} {k j:Nat},Nat.beq k j=false->hget (zih H k) j=hget H j
 | [],_,_,_=>rfl
 | (k1,e1)::r,k,j,h=>by
  simp only[zih];cases hb:Nat.beq k1 k with
  | true =>
   have:=ztu hb;subst this;simp only[hget,h,cond_false,cond_true]
  | false=>simp only[hget,cond_false];rw[zdn h]
theorem V.del (k:Nat) (hn:qA H k=none) (h:V P n Q ks pos env A (zih H k) Bs):V P n Q ks pos env A H Bs:=by
 refine fun hA w hI=>h (hA.heap (fun j b o hj=>?_)) w (hI.del k)
 have hY:Nat.beq k j=false:=by
  cases hb:Nat.beq k j with
  | true=>rw[<- ztu hb,hn]at hj;cases hj
  | false=>rfl
 unfold qA at hj ⊢;rw[zdn hY];exact hj
theorem zgu:∀ {H:Hp} {k:Nat} {e':HE},∀ y ∈ zih H k,y ∈ hset H k e'
 | [],_,_,_,h=>by cases h
 | (k1,e1)::r,k,e',y,h=>by
  simp only[zih]at h;simp only[hset];cases hb:Nat.beq k1 k with
  | true=>rw[hb]at h;exact ztq _ h
  | false =>
   rw[hb]at h;rcases ztD.1 h with rfl | h
   . grind
   exact ztq _ (zgu y h)
theorem zgv:∀ {H:Hp} {k:Nat} {e e':HE},hget H k=some e->(k,e') ∈ hset H k e'
 | [],_,_,_,h=>by cases h
 | (k1,e1)::r,k,e,e',h=>by
  simp only[hget]at h;simp only[hset];cases hb:Nat.beq k1 k with
  | true=>rw[ztu hb];exact ztr ..
  | false=>rw[hb]at h;exact ztq _ (zgv h)
theorem zrK [Dt R] (k k2:Nat) (enc:α->Value) (hR:∀ D w x,R D w x [enc x]) (hg:hget H k=some (.row t 1 v m (l.map enc))) (hn:(hget (zih H k) k2).isNone=true)
  (h:V P n Q ks pos env A ((k2,.dat (fun b=>v.ownBlock=some b) (fun w=>SlR 1 R (fun b=>v.ownBlock=some b) w v l))::zih H k) Bs):V P n Q ks pos env A H Bs:=by
 rw[zwF]at hn;refine fun hA w hI=>?_;have ho:w.ownsRow 0 t 1 v m (l.map enc):=hI.at k hg;have he:HE.holds w (.dat (fun b=>v.ownBlock=some b) (fun w=>SlR 1 R (fun b=>v.ownBlock=some b) w v l)):=⟨zqa enc (fun x _=>hR _ _ x) ho (fun g hg=>hg),fun q hq=>xp ho hq⟩;have hl:HE.loc (.dat (fun b=>v.ownBlock=some b) (fun w=>SlR 1 R (fun b=>v.ownBlock=some b) w v l)):=fun w w' T h1 h2 h3=>h1.keep Dt.s h2 (fun q hq _=>h3 q hq);have hF:=hI.freeze hg he hl (fun _ h=>h) (fun _ h=>h)
 have hY:TgOk A env (zih H k):=hA.heap (fun j b o hj=>by
  have da:Nat.beq k j=false:=by
   cases hb:Nat.beq k j with
   | true=>rw[<- ztu hb]at hj;simp[qA,hg]at hj
   | false=>rfl
  unfold qA at hj ⊢;rw[zdn da]
  exact hj)
 exact h (hY.new hn) w ((hI.del k).frz k2 he hl (fun _ h=>h) (fun b hb x hx=>hF.froz _ (zgv hg) x (zgu x hx) b hb))
theorem zrL (k:Nat) {e:HE} (hg:hget H k=some e) (he:e=e') (h:V P n Q ks pos env A (hset H k e') Bs):V P n Q ks pos env A H Bs:=by
 subst he;intro hA w hI
 have hh:∀ (H:Hp),hget H k=some e->hset H k e=H:=by
  intro H;induction H with
  | nil=>intro h;cases h
  | cons x r ih =>
   obtain⟨k',e'⟩:=x;intro h;simp only[hget]at h;simp only[hset];cases hb:Nat.beq k' k with
   | true=>rw[hb]at h;cases h;rfl
   | false=>rw[hb]at h;simp only[cond_false];rw[ih h]
 rw[hh H hg]at h;exact h hA w hI
theorem zrM (es hs ts:List Nat) (_hp:(zis env es,zdm H hs,zit A ts)=(some E1,some H1,some A1)) (env':Env->σ->Env) (H':Hp->σ->Hp) (I:σ->Prop) (μ:σ->Nat) {c:Code} (s₀:σ) (h₀:Sub (env' E1 s₀) env) (hH:Has (H' H1 s₀) H) (hu:∀ s,qd ((H' H1 s).map (·.1))=true)
  (hY:∀ s,A1.map (fun p=>zcJ (env' E1 s) p.1)=A1.map (fun p=>jc (H' H1 s) p.2)) (da:∀ s,A1.all (fun p=>(jc (H' H1 s) p.2).isSome)=true) (hI:I s₀)
  (h:∀ s,I s->V P n Q (.k (zmF n (env' E1) (fun s w=>I s/\VI Bs (H' H1 s) w) μ (μ s))::ks) (.c c) (env' E1 s) A1 (H' H1 s) Bs):V P n Q ks (.c (.loop c)) env A H Bs :=
 V.loop (env' E1) A1 (H' H1) I μ s₀ h₀ hH hu (fun s=>⟨hY s,da s⟩) hI h
theorem zrN (es hs ts:List Nat) (_hp:(zis env es,zdm H hs,zit A ts)=(some E1,some H1,some A1)) (env':Env->σ->Env) (H':Hp->σ->Hp) (I:σ->Prop) {c:Code}
  (hY:∀ s,A1.map (fun p=>zcJ (env' E1 s) p.1)=A1.map (fun p=>jc (H' H1 s) p.2)) (da:∀ s,A1.all (fun p=>(jc (H' H1 s) p.2).isSome)=true)
  (h:V P n Q (.k (zik n (env' E1) (fun s w=>I s/\VI Bs (H' H1 s) w))::ks) (.c c) env A H Bs) (hk:∀ s,I s->V P n Q ks (.e .normal) (env' E1 s) A1 (H' H1 s) Bs):V P n Q ks (.c c) env A H Bs :=
 V.cut (env' E1) A1 (H' H1) I (fun s=>⟨hY s,da s⟩) h hk
theorem zrO {l:List Oper} (hs L:List Nat) (hm:P.follows .mixedOrders=true) (hp:zdm H hs=some Hs) (h:VD P n Q ks l.toArray Hs Bs L l.length (Array.replicate l.length false) env A H Bs):V P n Q ks (.c (.region id l.toArray true)) env A H Bs:=zq5 Hs L hm (zeu hp) h
end
def zoR:List Value->List Value->Option (List Value)
 | [],l=>some l
 | u::us,l=>match zoR us l with
  | some r=>some (u::r)
  | none=>none
def zb8:List Value->Option (List Value)
 | []=>some []
 | v::r=>match zgt v with
  | some us=>(match zb8 r with
   | some l=>zoR us l
   | none=>none)
  | none=>none
def znS:Value->List Value
 | .agg ⟨l⟩=>l
 | v=>[v]
def zkE (places:List (Nat × Nat)):List Value->List (Nat × Value)->Option (List Value)
 | cs,[]=>some cs
 | cs,(i,v)::r=>match nth places i with
  | some (off,_)=>(match wrE (znS v) off cs with
   | some cs'=>zkE places cs' r
   | none=>none)
  | none=>none
section
variable {n:Fm} {pos:Pos}
variable {op:Op} {ty:TypeId} {ps:String}
theorem zrP (k:Nat) {len:Nat} (vs:List (Nat × Value)) (hu:∀ w,(underlying t).run P w=.ok (.slice e) w) (hs:∀ w,(sizeOf e).run P w=.ok kk w) (hz:∀ w,(zeroValue e).run P w=.ok z w)
  (hY:len*kk ≠ 0/\len*kk<=16777216) (hn:(Nat.blt d n,gd ops env g,(hget H k).isNone,parts.toList.map (fun p=>(p.1,ev env p.2)))=(true,some true,true,vs.map (fun p=>(p.1,some p.2)))) (_hcs:zb8 (vs.map (·.2))=some cs) (hf:Instr.fill (fun i=>some (i*kk,kk)) ((Array.range (len*kk)).map (z.cells[· % z.cells.size]!)) vs=some cs.toArray)
  (h:∀ b,V P n Q ks (.o ops rest) ((d,.slice (some ⟨b,0,none⟩) len len)::env) ((d,none)::A) ((k,.own b cs e)::H) Bs):V P n Q ks (.o ops (⟨some d,.buildSlice t len parts,ty,ps,aft,g⟩::rest)) env A H Bs:=by
 simp only[Prod.mk.injEq]at hn;exact zr9 k (u:=fun b=>.slice (some ⟨b,0,none⟩) len len) tD (fun _ _=>M.buildSlice vs hu hs hz hY hn.2.2.2 hf) h
theorem zrS (k:Nat) (enc:α->List Value) (hc:∀ x,(enc x).length=kk) (h1:∀ x,∀ u ∈ enc x,u.oneCell'=true) (hR:∀ D w x cs,R D w x cs->cs=enc x)
  (hu:P.underlying t=some (.slice e)) (he:(P.info? e).map (fun i=>(i.zero,i.size,i.bytes))=some (some z,kk,by')) (db:z.cells.size=kk) (dc:0<kk) (hn:(Nat.blt d n,gd ops env g,hget H k,ev env x,ev env y)=(true,some true,some (.row e kk v m xs),some v,some vy))
  (hY:∀ w,VI Bs H w->∃ D,SlR kk R D w vy l) (da:m+l.length<=9223372036854775807) (dg:(m+l.length)*by'<=140737488355328)
  (h:∀ u,V P n Q ks (.o ops rest) ((d,u)::env) ((d,none)::A) (hset H k (.row e kk u (m+l.length) (xs++l.flatMap enc))) Bs):V P n Q ks (.o ops (⟨some d,.call ⟨.builtin .append,#[x,y],#[t,t]⟩,ty,ps,aft,g⟩::rest)) env A H Bs:=by
 simp only[Prod.mk.injEq]at hn;obtain⟨h2,h3,h4,h5,h6⟩:=hn;intro hA w hI;obtain⟨D,hY⟩:=hY w hI;refine G.mem h2 h3 (zqh enc hc h1 (fun x cs=>hR D w x cs) hu he db dc h5 h6 hY (hI.at k h4) da dg) ?_;rintro u w' ⟨ho,hf,hk⟩;refine h u (TgOk.none (hA.res h4 ?_)) w' (hI.set h4 hk ho trivial (fun _ h=>h) (fun q hq=>⟨?_,xp ho hq⟩))
 . simp[qA,h4]
 rcases hf with hf | ⟨g',hf,dh⟩
 . exact .inl x9
 have hq:u.ownBlock=some q:=hq
 grind
theorem zrU (k:Nat) (hu:∀ w,(underlying t).run P w=.ok (.slice e) w) (hs:∀ w,(sizeOf e).run P w=.ok kk w) (hn:(Nat.blt d n,gd ops env g,(hget H k).isNone)=(true,some true,true))
  (h:∀ b,V P n Q ks (.o ops rest) ((d,.slice (some ⟨b,0,none⟩) 0 0)::env) ((d,none)::A) ((k,.row e kk (.slice (some ⟨b,0,none⟩) 0 0) 0 [])::H) Bs):V P n Q ks (.o ops (⟨some d,.buildSlice t 0 #[],ty,ps,aft,g⟩::rest)) env A H Bs:=by
 simp only[Prod.mk.injEq,zwF]at hn;refine fun hA w hI=>G.mem hn.1 hn.2.1 (zqf hu hs) ?_;rintro _ w' ⟨b,rfl,hb,hY,hB,hk⟩;refine h b (TgOk.none (hA.new hn.2.2)) w' (hI.new hk k ?_ trivial (fun _ h=>h) (fun q hq=>?_))
 .
  have:=zG (k:=kk) (n:=0) (cap:=0) hB (ztM _) tO tR;show w'.ownsRow 0 e kk _ 0 []
  grind
 have hq:some b=some q:=hq
 grind
theorem zrW {l:List Value} (zs:List Value) (places:List (Nat × Nat)) (vs:List (Nat × Value)) (hn:(Nat.blt d n,gd ops env g,parts.toList.map (fun p=>(p.1,ev env p.2)))=(true,some true,vs.map (fun p=>(p.1,some p.2)))) (_hl:zkE places zs vs=some l) (hb:∀ w,(Instr.build t vs.toArray).run P w=.ok (.agg l.toArray) w)
  (h:V P n Q ks (.o ops rest) ((d,.agg l.toArray)::env) ((d,none)::A) H Bs):V P n Q ks (.o ops (⟨some d,.build t parts,ty,ps,aft,g⟩::rest)) env A H Bs:=by
 simp only[Prod.mk.injEq]at hn;exact zqH tD (fun _ _=>R.build vs hn.2.2 hb) h
theorem zrZ (i:Nat) (hi:ops[i]?=some ⟨some d,op,ty,ps,aft,g⟩) (hc:zel ops [i] listed=true) (hn:(Nat.blt d n,gd ops env g)=(true,some true)) (hr:∀ w,yx P ⟨some d,op,ty,ps,aft,g⟩ env w v w)
  (h:VD P n Q ks ops Hs B0 L fuel (listed.setIfInBounds i true) ((d,v)::env) ((d,none)::A) H Bs):VD P n Q ks ops Hs B0 L (fuel+1) listed env A H Bs:=by
 simp only[Prod.mk.injEq]at hn;unfold zel at hc;rw[zu8]at hc;exact fun hH hA w hI=>zqU i hi hc.1 O hn.1 (.inl ⟨qf hn.2,fun w' nn a hY=>hr w' nn a hY⟩) (h hH hA.none w hI)
theorem zrX (i:Nat) {l:List Value} (zs:List Value) (places:List (Nat × Nat)) (vs:List (Nat × Value)) (hi:ops[i]?=some ⟨some d,.build t parts,ty,ps,aft,g⟩) (hc:zel ops [i] listed=true) (hn:(Nat.blt d n,gd ops env g,parts.toList.map (fun p=>(p.1,ev env p.2)))=(true,some true,vs.map (fun p=>(p.1,some p.2)))) (_hl:zkE places zs vs=some l) (hb:∀ w,(Instr.build t vs.toArray).run P w=.ok (.agg l.toArray) w)
  (h:VD P n Q ks ops Hs B0 L fuel (listed.setIfInBounds i true) ((d,.agg l.toArray)::env) ((d,none)::A) H Bs):VD P n Q ks ops Hs B0 L (fuel+1) listed env A H Bs:=by
 simp only[Prod.mk.injEq]at hn;exact zrZ i hi hc tD (fun _=>R.build vs hn.2.2 hb) h
theorem zrQ (i k j:Nat) {len:Nat} (vs:List (Nat × Value)) (hu:∀ w,(underlying t).run P w=.ok (.slice e) w) (hs:∀ w,(sizeOf e).run P w=.ok kk w) (hz:∀ w,(zeroValue e).run P w=.ok z w)
  (hY:len*kk ≠ 0/\len*kk<=16777216) (hi:ops[i]?=some ⟨some d,.buildSlice t len parts,ty,ps,aft,g⟩) (hr:Region.ready .any ops listed=[i]) (hn:(Nat.blt d n,gd ops env g,(hget H k).isNone,qd (Hs.map (·.1)),parts.toList.map (fun p=>(p.1,ev env p.2)),Bs.drop j)=(true,some true,true,true,vs.map (fun p=>(p.1,some p.2)),B0)) (_hcs:zb8 (vs.map (·.2))=some cs) (hf:Instr.fill (fun i=>some (i*kk,kk)) ((Array.range (len*kk)).map (z.cells[· % z.cells.size]!)) vs=some cs.toArray)
  (h:∀ b,VD P n Q ks ops Hs B0 L fuel (listed.setIfInBounds i true) ((d,.slice (some ⟨b,0,none⟩) len len)::env) ((d,none)::A) ((k,.own b cs e)::H) Bs):VD P n Q ks ops Hs B0 L (fuel+1) listed env A H Bs:=by
 simp only[Prod.mk.injEq]at hn;exact zra i k j (u:=fun b=>.slice (some ⟨b,0,none⟩) len len) hi hr tD hn.2.2.2.2.2 (fun _ _=>M.buildSlice vs hu hs hz hY hn.2.2.2.2.1 hf) h
theorem zro (k:Nat) (hn:hget H k=some (.row t kk v m xs)) (hm:0<m) (h:∀ b c,v=.slice (some ⟨b,0,none⟩) m c->m<=c->VD P n Q ks ops Hs B0 L fuel listed env A H Bs):VD P n Q ks ops Hs B0 L fuel listed env A H Bs:=by
 intro hH hA w hI;have ho:w.ownsRow 0 t kk v m xs:=hI.at k hn;rcases ho.2 with⟨_,hY⟩ | ⟨b,cap,cur,hv,_,_,hc,_⟩
 . omega
 exact h b cap hv hc hH hA w hI
theorem zrV (i k j:Nat) (hu:∀ w,(underlying t).run P w=.ok (.slice e) w) (hs:∀ w,(sizeOf e).run P w=.ok kk w) (hi:ops[i]?=some ⟨some d,.buildSlice t 0 #[],ty,ps,aft,g⟩) (hr:Region.ready .any ops listed=[i]) (hn:(Nat.blt d n,gd ops env g,(hget H k).isNone,qd (Hs.map (·.1)),Bs.drop j)=(true,some true,true,true,B0))
  (h:∀ b,VD P n Q ks ops Hs B0 L fuel (listed.setIfInBounds i true) ((d,.slice (some ⟨b,0,none⟩) 0 0)::env) ((d,none)::A) ((k,.row e kk (.slice (some ⟨b,0,none⟩) 0 0) 0 [])::H) Bs):VD P n Q ks ops Hs B0 L (fuel+1) listed env A H Bs:=by
 simp only[Prod.mk.injEq,zwF]at hn;obtain⟨h1,h2,h3,h4,rfl⟩:=hn;refine fun hH hA w hI=>zrA i hi hr h1 h2 (.inl (zqf hu hs)) ?_;rintro _ w' ⟨b,rfl,hb,db,hB,hk⟩
 have hY:VI Bs ((k,.row e kk (.slice (some ⟨b,0,none⟩) 0 0) 0 [])::H) w':=hI.new hk k (by
  have:=zG (k:=kk) (n:=0) (cap:=0) hB (ztM _) tO tR;show w'.ownsRow 0 e kk _ 0 []
  grind) trivial (fun _ h=>h) (fun q hq=>by
  have hq:some b=some q:=hq;cases hq
  omega)
 have da:Has Hs ((k,.row e kk (.slice (some ⟨b,0,none⟩) 0 0) 0 [])::H):=hH.new h3;exact⟨(hY.drop j).pick da h4,h b da Ju w' hY⟩
theorem zrT (i k j:Nat) (enc:α->List Value) (hc:∀ x,(enc x).length=kk) (h1:∀ x,∀ u ∈ enc x,u.oneCell'=true) (hR:∀ D w x cs,R D w x cs->cs=enc x)
  (hu:P.underlying t=some (.slice e)) (he:(P.info? e).map (fun i=>(i.zero,i.size,i.bytes))=some (some z,kk,by')) (dg:z.cells.size=kk) (dh:0<kk) (hi:ops[i]?=some ⟨some d,.call ⟨.builtin .append,#[x,y],#[t,t]⟩,ty,ps,aft,g⟩) (hr:Region.ready .any ops listed=[i]) (hB:Bs.drop j=B0)
  (hn:(Nat.blt d n,gd ops env g,hget H k,ev env x,ev env y,qd (Hs.map (·.1)),qr k (Hs.map (·.1)))=(true,some true,some (.row e kk v m xs),some v,some vy,true,true))
  (hY:∀ w,VI Bs H w->∃ D,SlR kk R D w vy l) (da:m+l.length<=9223372036854775807) (dl:(m+l.length)*by'<=140737488355328)
  (h:∀ u,VD P n Q ks ops Hs B0 L fuel (listed.setIfInBounds i true) ((d,u)::env) ((d,none)::A) (hset H k (.row e kk u (m+l.length) (xs++l.flatMap enc))) Bs):VD P n Q ks ops Hs B0 L (fuel+1) listed env A H Bs:=by
 simp only[Prod.mk.injEq]at hn;subst hB;obtain⟨h2,h3,h4,h5,h6,h8,h9⟩:=hn;intro hH hA w hI;obtain⟨D,hY⟩:=hY w hI;refine zrA i hi hr h2 h3 (.inl (zqh enc hc h1 (fun x cs=>hR D w x cs) hu he dg dh h5 h6 hY (hI.at k h4) da dl)) ?_;rintro u w' ⟨ho,hf,hk⟩
 have db:VI Bs (hset H k (.row e kk u (m+l.length) (xs++l.flatMap enc))) w':=hI.set h4 hk ho trivial (fun _ h=>h) (fun q hq=>⟨by
  rcases hf with hf | ⟨g',hf,dm⟩
  . exact .inl x9
  .
   have hq:u.ownBlock=some q:=hq
   rw[hf]at hq;cases hq;exact .inr dm,xp ho hq⟩)
 have dc:Has Hs (hset H k (.row e kk u (m+l.length) (xs++l.flatMap enc))):=hH.set h4 h9;exact⟨(db.drop j).pick dc h8,h u dc (TgOk.none (hA.res h4 (by simp[qA,h4]))) w' db⟩
end
section
variable {n:Fm} {A':Tgs}
theorem VD.one (hT:zqu P T) (hZ:zqv P Z) (i j:Nat) {op:Op} {ty:TypeId} {ps:String} {t:Option (Nat × Nat)} (hi:ops[i]?=some ⟨some d,op,ty,ps,aft,g⟩) (hr:Region.ready .any ops listed=[i]) (hn:(Nat.blt d n,gd ops env g,opV T Z env A H op,qd (Hs.map (·.1)))=(true,some true,some (none,v,t),true)) (hB:Bs.drop j=B0)
  (h:VD P n Q ks ops Hs B0 L fuel (listed.setIfInBounds i true) ((d,v)::env) ((d,t)::A) H Bs):VD P n Q ks ops Hs B0 L (fuel+1) listed env A H Bs:=by
 simp only[Prod.mk.injEq]at hn;subst hB;intro hH hA w hI;obtain⟨h1,h2⟩:=zcK (w:=w) (Bs:=Bs) hT hZ hn.2.2.1 hA;refine zrA i hi hr hn.1 hn.2.1 (R:=fun u w'=>u=v/\w'=w) (.inl ⟨v,w,?_,rfl,rfl⟩) ?_
 . exact fun nn a ha=>h2 hI trivial (some d) ty ps aft nn a ha
 rintro _ _ ⟨rfl,rfl⟩;exact⟨(hI.drop j).pick hH hn.2.2.2,h hH (h1 d) _ hI⟩
end
end Go.GL
namespace Go.Proofs
open Go.GL
def Tryz.szs:Szs:=[(3,0),(27,0),(26,3),(169,2),(24,0),(70,3),(36,1),(30,2),(22,0),(72,10),(34,0),(159,2),(68,0),(89,0),(28,0),(66,0),(88,4),(94,0),(4,0),(100,0),(45,3),(142,5),(56,0),(63,0),(47,2),(65,4),(23,0),(59,3),(117,3),(126,2),(67,0),(85,2),(57,0),(109,6),(9,0),(262,0),(52,0),(124,0),(193,3),(121,0),(120,0),(195,0)]
theorem Tryz.szsOk:zqv prog Tryz.szs :=
 zqz (show Szs.one _ 3 0 from⟨tg3,ts3⟩) <|
 zqz (show Szs.one _ 27 0 from⟨tg27,ts27⟩) <|
 zqz (show Szs.one _ 26 3 from⟨tg26,ts26⟩) <|
 zqz (show Szs.one _ 169 2 from⟨tg169,ts169⟩) <|
 zqz (show Szs.one _ 24 0 from⟨tg24,ts24⟩) <|
 zqz (show Szs.one _ 70 3 from⟨tg70,ts70⟩) <|
 zqz (show Szs.one _ 36 1 from⟨tg36,ts36⟩) <|
 zqz (show Szs.one _ 30 2 from⟨tg30,ts30⟩) <|
 zqz (show Szs.one _ 22 0 from⟨isAgg22,sizeOf22⟩) <|
 zqz (show Szs.one _ 72 10 from⟨isAgg72,ts72⟩) <|
 zqz (show Szs.one _ 34 0 from⟨tg34,ts34⟩) <|
 zqz (show Szs.one _ 159 2 from⟨tg159,ts159⟩) <|
 zqz (show Szs.one _ 68 0 from⟨isAgg68,sizeOf68⟩) <|
 zqz (show Szs.one _ 89 0 from⟨tg89,ts89⟩) <|
 zqz (show Szs.one _ 28 0 from⟨isAgg28,sizeOf28⟩) <|
 zqz (show Szs.one _ 66 0 from⟨isAgg66,sizeOf66⟩) <|
 zqz (show Szs.one _ 88 4 from⟨isAgg88,ts88⟩) <|
 zqz (show Szs.one _ 94 0 from⟨isAgg94,ts94⟩) <|
 zqz (show Szs.one _ 4 0 from⟨tg4,ts4⟩) <|
 zqz (show Szs.one _ 100 0 from⟨tg100,ts100⟩) <|
 zqz (show Szs.one _ 45 3 from⟨tg45,ts45⟩) <|
 zqz (show Szs.one _ 142 5 from⟨tg142,ts142⟩) <|
 zqz (show Szs.one _ 56 0 from⟨tg56,ts56⟩) <|
 zqz (show Szs.one _ 63 0 from⟨isAgg63,sizeOf63⟩) <|
 zqz (show Szs.one _ 47 2 from⟨tg47,ts47⟩) <|
 zqz (show Szs.one _ 65 4 from⟨isAgg65,ts65⟩) <|
 zqz (show Szs.one _ 23 0 from⟨isAgg23,sizeOf23⟩) <|
 zqz (show Szs.one _ 59 3 from⟨isAgg59,ts59⟩) <|
 zqz (show Szs.one _ 117 3 from⟨tg117,ts117⟩) <|
 zqz (show Szs.one _ 126 2 from⟨tg126,ts126⟩) <|
 zqz (show Szs.one _ 67 0 from⟨isAgg67,sizeOf67⟩) <|
 zqz (show Szs.one _ 85 2 from⟨isAgg85,ts85⟩) <|
 zqz (show Szs.one _ 57 0 from⟨isAgg57,sizeOf57⟩) <|
 zqz (show Szs.one _ 109 6 from⟨isAgg109,ts109⟩) <|
 zqz (show Szs.one _ 9 0 from⟨tg9,ts9⟩) <|
 zqz (show Szs.one _ 262 0 from⟨isAgg262,sizeOf262⟩) <|
 zqz (show Szs.one _ 52 0 from⟨isAgg52,sizeOf52⟩) <|
 zqz (show Szs.one _ 124 0 from⟨isAgg124,sizeOf124⟩) <|
 zqz (show Szs.one _ 193 3 from⟨isAgg193,sizeOf193⟩) <|
 zqz (show Szs.one _ 121 0 from⟨isAgg121,sizeOf121⟩) <|
 zqz (show Szs.one _ 120 0 from⟨isAgg120,ts120⟩) <|
 zqz (show Szs.one _ 195 0 from⟨isAgg195,sizeOf195⟩) <|
 zqx
end Go.Proofs
namespace Go.Proofs.YtckdhgbepmpgiaaGreat
open Go.GL
section
variable {n:Fm} {ks':List Fr} {pos pos':Pos} {A':Tgs} {H':Hp}
theorem Vs (k:Nat) (h:zer Tryz.tab Tryz.szs n k none ks pos env A H=some (none,ks',pos',env',A',H')) (hr:V prog n Q ks' pos' env' A' H' Bs):V prog n Q ks pos env A H Bs:=V.go Tryz.tabOk Tryz.szsOk k h hr
theorem Va (k:Nat) (h:zer Tryz.tab Tryz.szs n k none ks pos env A H=some (some p,ks',pos',env',A',H')) (hp:p) (hr:V prog n Q ks' pos' env' A' H' Bs):V prog n Q ks pos env A H Bs:=V.goA Tryz.tabOk Tryz.szsOk k h hp hr
theorem Vq {l:List Oper} (hB:Region.lexB .any l.toArray=true) (h:V prog n Q ks (.q l.toArray l) env A H Bs):V prog n Q ks (.c (.region id l.toArray true)) env A H Bs:=zq2 Tryz.mixed hB h
theorem Vw {l:List Oper} (hs L:List Nat) (hp:zdm H hs=some Hs) (h:VD prog n Q ks l.toArray Hs Bs L l.length (Array.replicate l.length false) env A H Bs):V prog n Q ks (.c (.region id l.toArray true)) env A H Bs:=zrO hs L Tryz.mixed hp h
theorem Vd (is:List Nat) (j:Nat) (hc:zdl ops L is listed=true) (hB:Bs.drop j=B0) (hv:zhp Tryz.tab Tryz.szs n ops Hs is none env A=some (none,env',A')) (hY:qd (Hs.map (·.1))=true) (h:VD prog n Q ks ops Hs B0 L fuel (zek is listed) env' A' H Bs):VD prog n Q ks ops Hs B0 L (addN is fuel) listed env A H Bs:=VD.ps Tryz.tabOk Tryz.szsOk is j hc hB hv hY h
theorem Vb (is:List Nat) (j:Nat) (hc:zdl ops L is listed=true) (hB:Bs.drop j=B0) (hv:zhp Tryz.tab Tryz.szs n ops Hs is none env A=some (some p,env',A')) (hY:qd (Hs.map (·.1))=true) (hp:p) (h:VD prog n Q ks ops Hs B0 L fuel (zek is listed) env' A' H Bs):VD prog n Q ks ops Hs B0 L (addN is fuel) listed env A H Bs:=zqZ Tryz.tabOk Tryz.szsOk is j hc hB hv hY hp h
theorem Ve (i j:Nat) {ty:TypeId} {ps:String} (hi:ops[i]?=some ⟨none,.store t x y,ty,ps,aft,g⟩) (hr:Region.ready .any ops listed=[i]) (hn:(gd ops env g,zaI Tryz.szs env A H t x y,qd (Hs.map (·.1)))=(some true,some H',true)) (hB:Bs.drop j=B0) (hY:Hs.map (fun x=>hget H' x.1)=Hs.map (fun x=>some x.2))
  (h:VD prog n Q ks ops Hs B0 L fuel (listed.setIfInBounds i true) env A H' Bs):VD prog n Q ks ops Hs B0 L (fuel+1) listed env A H Bs:=VD.st i j Tryz.szsOk hi hr hn hB hY h
theorem Vl (i:Nat) {ty:TypeId} {ps:String} (hi:ops[i]?=some ⟨none,.store t x y,ty,ps,aft,g⟩) (hr:Region.ready .any ops listed=[i]) (hn:(gd ops env g,zaI Tryz.szs env A H t x y,L.contains i)=(some true,some H',true))
  (h:VDx prog n Q ks ops (VI B0 Hs) L fuel (listed.setIfInBounds i true) env A H' Bs):VD prog n Q ks ops Hs B0 L (fuel+1) listed env A H Bs:=zrE i Tryz.szsOk hi hr hn h
theorem Vx {S:World->Prop} (is:List Nat) (hc:zel ops is listed=true) (hv:zhp Tryz.tab Tryz.szs n ops [] is none env A=some (none,env',A')) (h:VDx prog n Q ks ops S L fuel (zek is listed) env' A' H Bs):VDx prog n Q ks ops S L (addN is fuel) listed env A H Bs:=zqX Tryz.tabOk Tryz.szsOk is hc hv h
theorem Vo (i j:Nat) {op:Op} {ty:TypeId} {ps:String} {t:Option (Nat × Nat)} (hi:ops[i]?=some ⟨some d,op,ty,ps,aft,g⟩) (hr:Region.ready .any ops listed=[i]) (hn:(Nat.blt d n,gd ops env g,opV Tryz.tab Tryz.szs env A H op,qd (Hs.map (·.1)))=(true,some true,some (none,v,t),true)) (hB:Bs.drop j=B0)
  (h:VD prog n Q ks ops Hs B0 L fuel (listed.setIfInBounds i true) ((d,v)::env) ((d,t)::A) H Bs):VD prog n Q ks ops Hs B0 L (fuel+1) listed env A H Bs:=VD.one Tryz.tabOk Tryz.szsOk i j hi hr hn hB h
end
end Go.Proofs.YtckdhgbepmpgiaaGreat
namespace Go.GL
theorem Mat.put {eo:TypeId} {bo:Nat} (h:Mat enc e eo B w bo rv rows) (hB:B<=w.heap.size) (hv:rv[i]?=some v)
  (dc:w1.ownsRow 0 e 1 v' r'.length (r'.map enc)) (dm:v'.ownBlock=v.ownBlock\/∃ g,v'.ownBlock=some g/\w.heap.size<=g) (hk:Keep (fun q=>v.ownBlock=some q) w w1)
  (dr:zdh w1 bo (rv.set i v') eo w2):Mat enc e eo B w2 bo (rv.set i v') (rows.set i r'):=by
 obtain⟨dw,dt,dh⟩:=dr;have dx:=h.out.lt
 have da:∀ g,v'.ownBlock=some g->B<=g/\g ≠ bo/\(v.ownBlock=some g\/w.heap.size<=g):=by
  intro g hg;rcases dm with h1 | ⟨g',h1,h2⟩
  .
   rw[h1]at hg;have:=h.far i v g hv hg
   grind
  grind
 have hi:i<rv.length:=(ztB.1 hv).1;refine⟨dt,by simp[h.len],?_,?_,?_⟩
 .
  intro j u s hu hs;by_cases hY:i=j
  .
   subst hY;rw[zvk hi]at hu;rw[zvk tD]at hs;cases hu;cases hs;exact zj dc dh (fun g hg h=>tD)
  rw[zvj hY]at hu hs;have h1:=h.row j u s hu hs;have h2:=zj h1 hk (fun g hg du=>h.apart i j v u g hY hv hu du hg);exact zj h2 dh (fun g hg h'=>(h.far j u g hu hg).2 h')
 .
  intro j u g hu hg;by_cases hY:i=j
  .
   subst hY;rw[zvk hi]at hu;cases hu;exact⟨(da g hg).1,(da g hg).2.1⟩
  rw[zvj hY]at hu;exact h.far j u g hu hg
 intro j k u s g dg hu hs hg db;by_cases hY:i=j
 .
  subst hY;rw[zvk hi]at hu;rw[zvj dg]at hs;cases hu;rcases (da g hg).2.2 with h1 | h1
  . exact h.apart i k v s g dg hv hs h1 db
  have:=h.blk hs db;omega
 rw[zvj hY]at hu;by_cases dl:i=k
 .
  subst dl;rw[zvk hi]at hs;cases hs;rcases (da g db).2.2 with h1 | h1
  . exact h.apart i j v u g hY hv hu h1 hg
  have:=h.blk hu hg;omega
 rw[zvj dl]at hs;exact h.apart j k u s g dg hu hs hg db
open Go.RowKit
theorem zs1 (w:World) (S:Nat->Prop):VI [(w,S)] [] w where
 holds:=fun _ h=>tD
 loc:=fun _ h=>tD
 apart:=List.Pairwise.nil
 froz:=fun _ h=>tD
 low:=fun _ h=>tD
 base:=fun p hp=>by
  rw[ztF]at hp;subst hp;exact⟨Keep.refl _ _,fun _ h=>tD⟩
theorem VI.add {e:HE} (h:VI Bs H w) (k:Nat) (he:e.holds w) (hl:e.loc) (hz:∀ b,¬ e.fz b) (hS:∀ q,e.S q->q<w.heap.size/\(∀ p ∈ Bs,p.2 q\/p.1.heap.size<=q)/\∀ x ∈ H,¬ x.2.S q/\¬ x.2.fz q):VI Bs ((k,e)::H) w:=by
 refine⟨?_,?_,?_,?_,?_,?_⟩
 .
  intro x hx;rcases ztD.1 hx with rfl | hx
  . exact he
  exact h.holds x hx
 .
  intro x hx;rcases ztD.1 hx with rfl | hx
  . exact hl
  exact h.loc x hx
 . exact zvU.2 ⟨fun x hx q hq hs=>((hS q hq).2.2 x hx).1 hs,h.apart⟩
 .
  intro x hx y hy b hb;rcases ztD.1 hx with rfl | hx
  . grind
  rcases ztD.1 hy with rfl | hy
  . grind
  exact h.froz x hx y hy b hb
 .
  intro x hx q hq;rcases ztD.1 hx with rfl | hx
  . grind
  exact h.low x hx q hq
 intro p hp;refine⟨(h.base p hp).1,fun x hx q hq=>?_⟩;rcases ztD.1 hx with rfl | hx
 . grind
 exact(h.base p hp).2 x hx q hq
structure RowsOk {α:Type} (enc:α->Value) (e:TypeId) (w:World) (rv:List Value) (rows:List (List α)):Prop where
 len:rv.length=rows.length
 row:∀ (i:Nat) (v:Value) (r:List α),rv[i]?=some v->rows[i]?=some r->w.ownsRow 0 e 1 v r.length (r.map enc)
 apart:∀ (i j:Nat) (vi vj:Value) (g:Nat),i ≠ j->rv[i]?=some vi->rv[j]?=some vj->vi.ownBlock=some g->vj.ownBlock ≠ some g
section
theorem RowsOk.blk (h:RowsOk enc e w rv rows) {g:Nat} (hv:rv[i]?=some v) (hg:v.ownBlock=some g):g<w.heap.size:=by
 have hi:i<rows.length:=by rw[<- h.len];exact(ztB.1 hv).1
 exact xp (h.row i v _ hv (ztn hi)) hg
theorem RowsOk.keep {S:Nat->Prop} (h:RowsOk enc e w rv rows) (hk:Keep S w w1) (hS:∀ (i:Nat) v g,rv[i]?=some v->v.ownBlock=some g->¬ S g):RowsOk enc e w1 rv rows :=
 ⟨h.len,fun i v r hv hr=>zj (h.row i v r hv hr) hk (fun g hg=>hS i v g hv hg),h.apart⟩
theorem RowsOk.put (h:RowsOk enc e w rv rows) (hv:rv[i]?=some v) (da:w1.ownsRow 0 e 1 v' r'.length (r'.map enc)) (dt:v'.ownBlock=v.ownBlock\/∃ g,v'.ownBlock=some g/\w.heap.size<=g) (hk:Keep (fun q=>v.ownBlock=some q) w w1):RowsOk enc e w1 (rv.set i v') (rows.set i r'):=by
 have db:=(ztB.1 hv).1
 have dh:∀ (j:Nat) u g,i ≠ j->rv[j]?=some u->v'.ownBlock=some g->u.ownBlock ≠ some g:=by
  intro j u g hY hu hg dl;rcases dt with hf | ⟨g',hf,dm⟩
  . exact h.apart i j v u g hY hv hu (hf ▸ hg) dl
  rw[hf]at hg;cases hg;have:=h.blk hu dl;omega
 refine⟨by simp[h.len],fun j u r hu hr=>?_,fun a b va vb g dc ha hb hg=>?_⟩
 .
  by_cases hY:i=j
  .
   subst hY;rw[zvk db]at hu;rw[zvk tD]at hr;cases hu;cases hr;exact da
  rw[zvj hY]at hu hr;exact zj (h.row j u r hu hr) hk fun g hg hq=>h.apart i j v u g hY hv hu hq hg
 by_cases dg:i=a
 .
  subst dg;rw[zvk db]at ha;rw[zvj dc]at hb;cases ha;exact dh b vb g dc hb hg
 rw[zvj dg]at ha;by_cases dr:i=b
 .
  subst dr;rw[zvk db]at hb;cases hb;exact fun dm=>dh a va g dg ha dm hg
 rw[zvj dr]at hb;exact h.apart a b va vb g dc ha hb hg
end
abbrev RowsP {α:Type} (enc:α->Value) (e:TypeId) (rv:List Value) (rows:List (List α)):HE:=.res (fun q=>∃ (i:Nat) (v:Value),rv[i]?=some v/\v.ownBlock=some q) (fun w=>RowsOk enc e w rv rows)
theorem RowsP.loc:(RowsP enc e rv rows).loc:=fun _ _ _ h hk hT=>h.keep hk fun i v g hv hg=>hT g (h.blk hv hg) ⟨i,v,hv,hg⟩
theorem zri (h:Blk w b cs e) (hv:cs[i]?=some v):w.cell? ⟨b,0+(i:Int).toNat*1,none⟩=some v:=by
 have:=Blk.cells h i v hv
 grind
section
variable {n:Fm} {pos:Pos}
variable {op:Op} {ty:TypeId} {ps:String}
theorem zs3 (k:Nat) (e:HE) (he:e.holds w) (hl:e.loc) (hz:∀ b,¬ e.fz b) (hS:∀ q,e.S q->q<w.heap.size) (h:V P n Q ks pos env [] [(k,e)] [(w,e.S)]):G P n Q ks pos env w :=
 h TgOk.nil w ((zs1 w e.S).add k he hl hz fun q hq=>⟨hS q hq,fun p hp=>by rw[ztF]at hp;subst hp;exact .inl hq,fun x hx=>tD⟩)
theorem zs4 (k:Nat) {e:HE} (hn:(hget H k,qA H k)=(some e,none)) (he:∀ w,VI Bs H w->e'.holds w) (hl:e'.loc) (hz:∀ b,¬ e'.fz b) (hS:∀ q,e'.S q->e.S q) (h:V P n Q ks pos env A (hset H k e') Bs):V P n Q ks pos env A H Bs:=by
 simp only[Prod.mk.injEq]at hn;exact fun hA w hI=>h (hA.res hn.1 hn.2) w (hI.set hn.1 ix (he w hI) hl hz fun q hq=>⟨.inl (hS q hq),hI.low _ (zm hn.1) q (hS q hq)⟩)
theorem V.as (k:Nat) (hn:hget H k=some (.own b cs t)) (hA:A.all (fun p=>match p.2 with | some (j,_)=>!Nat.beq k j | none=>true)=true) (he:∀ w,Blk w b cs t->e'.holds w) (hl:e'.loc) (hz:∀ b,¬ e'.fz b) (hS:∀ q,e'.S q->q=b) (h:V P n Q ks pos env A (hset H k e') Bs):V P n Q ks pos env A H Bs:=by
 refine fun hY w hI=>h ?_ w (hI.set hn ix (he w (hI.at k hn)) hl hz fun q hq=>⟨.inl (hS q hq),hI.low _ (zm hn) q (hS q hq)⟩);intro s j off hs;obtain⟨b',o,h1,h2⟩:=hY s j off hs
 have da:Nat.beq k j=false:=by
  have:∀ (A:Tgs),A.all (fun p=>match p.2 with | some (j,_)=>!Nat.beq k j | none=>true)=true->tgt A s=some (j,off)->Nat.beq k j=false:=by
   intro A;induction A with
   | nil=>intro _ h;cases h
   | cons p r ih =>
    obtain⟨s0,gg⟩:=p;intro h3 h4;rw[List.all_cons,zu8]at h3;simp only[tgt]at h4;cases hb:Nat.beq s0 s with
    | true =>
     rw[hb]at h4;simp only[cond_true]at h4;subst h4;simpa using h3.1
    | false=>rw[hb]at h4;exact ih h3.2 h4
  exact this A hA hs
 refine⟨b',o,?_,h2⟩;unfold qA at h1 ⊢;rw[jS hn,da];exact h1
theorem zs5 (i:Nat) (hi:ops[i]?=some ⟨some d,op,ty,ps,aft,g⟩) (hc:(Region.noSelect ops&&Region.free .any ops listed i&&(Region.ready .any ops listed).contains i&&L.all (qZ .any ops i)&&!L.contains i)=true) (hn:(Nat.blt d n,gd ops env g)=(true,some true)) (j:Nat) (hB:Bs.drop j=B0) (hu:qd (Hs.map (·.1))=true) (hr:∀ w,VI B0 Hs w->yx P ⟨some d,op,ty,ps,aft,g⟩ env w v w)
  (h:VD P n Q ks ops Hs B0 L fuel (listed.setIfInBounds i true) ((d,v)::env) ((d,none)::A) H Bs):VD P n Q ks ops Hs B0 L (fuel+1) listed env A H Bs:=by
 simp only[Prod.mk.injEq]at hn;subst hB;exact fun hH hA w hI=>zqt i hi hc O hn.1 ((hI.drop j).pick hH hu) (.inl ⟨qf hn.2,hr⟩) (h hH hA.none w hI)
theorem zs6 (i:Nat) {S:World->Prop} {op:Op} {R:World->Prop} (hi:ops[i]?=some ⟨none,op,ty,ps,aft,g⟩) (hr:Region.ready .any ops listed=[i]) (hg:gd ops env g=some true) (hL:L.contains i=true) (hm:xY P ⟨none,op,ty,ps,aft,g⟩ env w R)
  (h:∀ w',R w'->WD P n ops Q S L fuel (listed.setIfInBounds i true) env w'):WD P n ops Q S L (fuel+1) listed env w:=by
 intro a ha;refine⟨fun h0=>tD,fun k hk=>?_⟩;rw[hr]at hk;have:k=i:=tD;subst this;unfold wpOp;simp only[hi];rw[zty (qf hg a ha)];refine .inl ?_;obtain⟨w',hY,hR⟩:=hm;unfold Oper.wp;rw[hY n a ha,Oper.upon_skip];exact⟨fun hc _=>absurd tD hc,h w' hR _ ha.put0⟩
theorem zs7 (ia k kb j i:Nat) {r:List α} {xx:α} {tb:TypeId}
  (hu:P.underlying t=some (.slice e)) (he:(P.info? e).map (fun i=>(i.zero,i.size,i.bytes))=some (some z,1,by')) (dl:z.cells.size=1)
  (hi:ops[ia]?=some ⟨some d,.call ⟨.builtin .append,#[x,y],#[t,t]⟩,ty,ps,aft,g⟩) (hr:Region.ready .any ops listed=[ia]) (hB:Bs.drop j=B0)
  (hn:(Nat.blt d n,gd ops env g,hget H k,qA H k,hget H kb,ev env x,ev env y,Go.GL.one (enc xx),qd (Hs.map (·.1)),qr k (Hs.map (·.1)))=(true,some true,some (RowsP enc e rv rows),none,some (.own b [enc xx] tb),some v,some (.slice (some ⟨b,0,none⟩) 1 c),true,true,true))
  (hv:rv[i]?=some v) (hY:rows[i]?=some r) (hb:r.length+1<=9223372036854775807/\(r.length+1)*by'<=140737488355328)
  (h:∀ u,Go.GL.one u=true->VD P n Q ks ops Hs B0 L fuel (listed.setIfInBounds ia true) ((d,u)::env) ((d,none)::A) (hset H k (RowsP enc e (rv.set i u) (rows.set i (r++[xx])))) Bs):VD P n Q ks ops Hs B0 L (fuel+1) listed env A H Bs:=by
 simp only[Prod.mk.injEq]at hn;subst hB;obtain⟨h1,h2,h3,h4,h5,h6,h7,h8,h9,dm⟩:=hn;intro hH hA w hI;have hM:RowsOk enc e w rv rows:=hI.at k h3;have dr:=(ztB.1 hv).1;refine zrA ia hi hr h1 h2 (.inl (M.append (news:=[enc xx]) hu he dl Nat.one_pos h6 h7 (hM.row i v r hv hY) O (Cells.add (Blk.cells (hI.at kb h5))) (fun u hu=>by rw[ztF]at hu;rw[hu];exact(xU h8).1) hb.1 hb.2)) ?_;rintro u w1 ⟨ho,hf,da,_⟩;have db:=hM.put hv (r':=r++[xx]) tD hf da
 have dc:VI Bs (hset H k (RowsP enc e (rv.set i u) (rows.set i (r++[xx])))) w1:=hI.set h3 (da.mono fun q _ hq=>⟨i,v,hv,hq⟩) db RowsP.loc (fun _ h=>h) fun q hq=>by
  refine⟨?_,?_⟩
  .
   obtain⟨j,vj,hj,hq⟩:=hq;by_cases dg:i=j
   .
    subst dg;rw[zvk dr]at hj;cases hj;rcases hf with hf | ⟨g',hf,dt⟩
    . exact .inl ⟨i,v,hv,hf ▸ hq⟩
    grind
   rw[zvj dg]at hj;exact .inl ⟨j,vj,hj,hq⟩
  obtain⟨j,vj,hj,hq⟩:=hq;exact db.blk hj hq
 have dh:Has Hs (hset H k (RowsP enc e (rv.set i u) (rows.set i (r++[xx])))):=hH.set h3 dm;obtain⟨au,cu,rfl,_,_⟩:=xv ho;exact UO
theorem zs8 (is k j:Nat) {ts:TypeId} (da:∀ w,(sizeOf ts).run P w=.ok 1 w) (hi:ops[is]?=some ⟨none,.store ts x y,ty,ps,aft,g⟩) (hr:Region.ready .any ops listed=[is])
  (hn:(gd ops env g,hget H k,ev env x,ev env y,L.contains is)=(some true,some (.own b cs e),some (.pointer (some ⟨b,o,none⟩)),some v,true)) (h1:Go.GL.one v=true) (hj:o=j) (hl:j<cs.length)
  (h:VDx P n Q ks ops (VI B0 Hs) L fuel (listed.setIfInBounds is true) env A (hset H k (.own b (cs.set j v) e)) Bs):VD P n Q ks ops Hs B0 L (fuel+1) listed env A H Bs:=by
 simp only[Prod.mk.injEq]at hn;subst hj;obtain⟨h2,h3,h4,h5,h6⟩:=hn;intro hH hA w hI;have hB:Blk w b cs e:=hI.at k h3;obtain⟨c1,c2⟩:=xU h1;refine zs6 is hi hr h2 h6 (M.store da h4 h5 c1 c2 hB hl) ?_;rintro w2 ⟨_,hY,db⟩;exact h (hA.set h3) w2 (hI.set h3 db hY trivial (fun _ h=>h) fun q hq=>⟨.inl hq,by have hq:q=b:=hq;rw[hq];exact hY.lt⟩)
theorem VI.row (k:Nat) (hI:VI Bs H w) (hm:m<=9223372036854775807) (hl:zs.length=m*kk) (hN:New w zs e b w'):VI Bs ((k,.row e kk (.slice (some ⟨b,0,none⟩) m m) m zs)::H) w':=by
 obtain⟨h1,h2,h3,h4⟩:=hN;refine hI.new h4 k ?_ trivial (fun _ h=>h) (fun q hq=>?_)
 .
  have:=zG (k:=kk) (n:=m) (cap:=m) h3 (ztM _) hm hl;rw[<- hl,zts]at this;exact this
 have hq:some b=some q:=hq
 grind
theorem zpX (i k j:Nat) (hu:P.underlying t=some (.slice e)) (he:(P.info? e).map (fun i=>(i.zero,i.size,i.bytes))=some (some z,kk,by'))
  (hi:ops[i]?=some ⟨some d,.makeSlice t x y,ty,ps,aft,g⟩) (hr:Region.ready .any ops listed=[i]) (hn:(Nat.blt d n,gd ops env g,(hget H k).isNone,ev env x,ev env y,qd (Hs.map (·.1)))=(true,some true,true,some (.int kl (m:Int)),some (.int kc (m:Int)),true)) (hB:Bs.drop j=B0)
  (hb:by'*m<=281474976710656) (hm:m<=9223372036854775807) (hz:madeCells z.cells (m*kk)=zs.toArray) (hl:zs.length=m*kk)
  (h:∀ b,VD P n Q ks ops Hs B0 L fuel (listed.setIfInBounds i true) ((d,.slice (some ⟨b,0,none⟩) m m)::env) ((d,none)::A) ((k,.row e kk (.slice (some ⟨b,0,none⟩) m m) m zs)::H) Bs):VD P n Q ks ops Hs B0 L (fuel+1) listed env A H Bs:=by
 simp only[Prod.mk.injEq,zwF]at hn;subst hB;obtain⟨h1,h2,h3,h4,h5,h6⟩:=hn;intro hH hA w hI;refine zrA i hi hr h1 h2 (.inl (zpV hu he h4 h5 hb hm hz)) ?_;rintro _ w1 ⟨b,rfl,hN⟩;have hY:=hI.row k hm hl hN;have da:Has Hs ((k,.row e kk (.slice (some ⟨b,0,none⟩) m m) m zs)::H):=hH.new h3;exact⟨(hY.drop j).pick da h6,h b da Ju w1 hY⟩
theorem zs9 (i i2 k k2 j:Nat) {t2 e2:TypeId} {kk2 by2 m2 d2:Nat} {z2:Value} {x2 y2:Operand} {kl2 kc2:IntKind} {zs2:List Value} {ty2:TypeId} {ps2:String} {aft2:Array Edge}
  (hu:P.underlying t=some (.slice e)) (he:(P.info? e).map (fun i=>(i.zero,i.size,i.bytes))=some (some z,kk,by')) (dg:P.underlying t2=some (.slice e2)) (dh:(P.info? e2).map (fun i=>(i.zero,i.size,i.bytes))=some (some z2,kk2,by2))
  (hi:(ops[i]?,ops[i2]?)=(some ⟨some d,.makeSlice t x y,ty,ps,aft,none⟩,some ⟨some d2,.makeSlice t2 x2 y2,ty2,ps2,aft2,none⟩)) (hr:Region.ready .any ops listed=[i,i2])
  (hn:(Nat.blt d n,Nat.blt d2 n,(hget H k).isNone,(hget H k2).isNone)=(true,true,true,true)) (db:qd (Hs.map (·.1))=true) (hB:Bs.drop j=B0)
  (hv:(ev env x,ev env y,ev env x2,ev env y2)=(some (.int kl (m:Int)),some (.int kc (m:Int)),some (.int kl2 (m2:Int)),some (.int kc2 (m2:Int))))
  (hb:by'*m<=281474976710656/\m<=9223372036854775807/\by2*m2<=281474976710656/\m2<=9223372036854775807) (hz:madeCells z.cells (m*kk)=zs.toArray) (dl:madeCells z2.cells (m2*kk2)=zs2.toArray) (hl:zs.length=m*kk/\zs2.length=m2*kk2)
  (h:∀ b,VD P n Q ks ops Hs B0 L fuel (listed.setIfInBounds i true) ((d,.slice (some ⟨b,0,none⟩) m m)::env) ((d,none)::A) ((k,.row e kk (.slice (some ⟨b,0,none⟩) m m) m zs)::H) Bs)
  (h2:∀ b,VD P n Q ks ops Hs B0 L fuel (listed.setIfInBounds i2 true) ((d2,.slice (some ⟨b,0,none⟩) m2 m2)::env) ((d2,none)::A) ((k2,.row e2 kk2 (.slice (some ⟨b,0,none⟩) m2 m2) m2 zs2)::H) Bs):VD P n Q ks ops Hs B0 L (fuel+1) listed env A H Bs:=by
 simp only[Prod.mk.injEq,zwF]at hi hn hv;subst hB;obtain⟨dm,dr⟩:=hi;obtain⟨dt,du,hk,dc⟩:=hn;obtain⟨g1,g2,g3,g4⟩:=hb;intro hH hA w hI;refine zq7 i i2 (R:=fun r w'=>∃ b,r=.slice (some ⟨b,0,none⟩) m m/\New w zs e b w') (Rj:=fun r w'=>∃ b,r=.slice (some ⟨b,0,none⟩) m2 m2/\New w zs2 e2 b w') dm dr hr O O dt O O du (.inl (zpV hu he hv.1 hv.2.1 g1 g2 hz)) (.inl (zpV dg dh hv.2.2.1 hv.2.2.2 g3 g4 dl)) ?_ ?_
 .
  rintro _ w1 ⟨b,rfl,hN⟩;have hY:=hI.row k g2 hl.1 hN;have da:Has Hs ((k,.row e kk (.slice (some ⟨b,0,none⟩) m m) m zs)::H):=hH.new hk;exact⟨fun _=>(hY.drop j).pick da db,h b da (TgOk.none (hA.new hk)) w1 hY⟩
 rintro _ w1 ⟨b,rfl,hN⟩;have hY:=hI.row k2 g4 hl.2 hN;have da:Has Hs ((k2,.row e2 kk2 (.slice (some ⟨b,0,none⟩) m2 m2) m2 zs2)::H):=hH.new dc;exact⟨fun _=>(hY.drop j).pick da db,h2 b da (TgOk.none (hA.new dc)) w1 hY⟩
theorem zsa (is k:Nat) {tl:TypeId} (q:Nat) (hs:∀ w,(sizeOf tl).run P w=.ok 1 w) (hi:ops[is]?=some ⟨none,.store tl x y,ty,ps,aft,g⟩) (hr:Region.ready .any ops listed=[is])
  (hn:(gd ops env g,hget H k,qA H k,ev env x,ev env y,Go.GL.one v,L.contains is)=(some true,some (.row t 1 (.slice (some ⟨b,0,none⟩) m c) m xs),none,some (.pointer (some ⟨b,o,none⟩)),some v,true,true)) (hj:o=q) (hl:q<xs.length)
  (h:VDx P n Q ks ops (VI B0 Hs) L fuel (listed.setIfInBounds is true) env A (hset H k (.row t 1 (.slice (some ⟨b,0,none⟩) m c) m (xs.set q v))) Bs):VD P n Q ks ops Hs B0 L (fuel+1) listed env A H Bs:=by
 simp only[Prod.mk.injEq]at hn;subst hj;obtain⟨h2,h3,ha,h4,h5,h1,h6⟩:=hn;intro hH hA w hI;have ho:w.ownsRow 0 t 1 (.slice (some ⟨b,0,none⟩) m c) m xs:=hI.at k h3;obtain⟨sp,hB,hc,da,db⟩:=xw ho;have dg:xs.length=m:=by have:=ho.1;omega
 obtain⟨c1,c2⟩:=xU h1;refine zs6 is hi hr h2 h6 (M.store hs h4 h5 c1 c2 hB tO) ?_;rintro w2 ⟨_,hY,dc⟩;refine h (hA.res h3 ha) w2 (hI.set h3 (dc.mono Ja) ?_ trivial (fun _ h=>h) fun q hq=>⟨.inl hq,by have hq:some b=some q:=hq;cases hq;exact hY.lt⟩);have:=zG (k:=1) (n:=m) (cap:=c) hY hc da tD;rw[zw3 _ _ hl,zwy,zwb tD,zwc tD]at this;exact this
theorem zsb {xs:Array Operand} (hf:∀ args w,(callFunc f args).run P w=.ok (.enter f args) w) (hn:(Nat.blt d n,gd ops env g,qM env xs.toList,ev env x)=(true,some true,some vs,some (.func (.func f) fs.toArray cs.toArray)))
  (hc:∀ w,VI Bs H w->Calls P f (fs++vs++cs).toArray w (Ret fun r w'=>r=v/\Ext w w')) (h:V P n Q ks (.o ops rest) ((d,v)::env) ((d,none)::A) H Bs):V P n Q ks (.o ops (⟨some d,.call ⟨.value x,xs,ts⟩,ty,ps,aft,g⟩::rest)) env A H Bs:=by
 refine fun hA w hI=>zpO hn hf (hc w hI) ?_;rintro _ w' ⟨rfl,hk⟩;exact h hA.none w' (hI.ext hk)
end
open Go.RowKit
def zfH (k:Nat):List Nat->Bool
 | []=>false
 | j::r=>cond (Nat.beq j k) true (zfH k r)
def yB (ks:List Nat):Hp->Hp
 | []=>[]
 | x::r=>cond (zfH x.1 ks) (yB ks r) (x::yB ks r)
theorem yu {ks:List Nat}:∀ {H:Hp} {x:Nat × HE},x ∈ yB ks H->x ∈ H/\zfH x.1 ks=false
 | y::r,x,h=>by
  simp only[yB]at h;cases hb:zfH y.1 ks with
  | true =>
   rw[hb]at h;have h:x ∈ yB ks r:=h;exact⟨ztq _ (yu h).1,(yu h).2⟩
  | false =>
   rw[hb]at h;rcases ztD.1 h with rfl | h
   . grind
   exact⟨ztq _ (yu h).1,(yu h).2⟩
theorem hdels_sub {ks:List Nat}:∀ {H:Hp},(yB ks H).Sublist H
 | []=>List.Sublist.refl _
 | y::r=>by
  simp only[yB];cases zfH y.1 ks with
  | true=>exact hdels_sub.trans (List.sublist_cons_self ..)
  | false=>exact hdels_sub.cons_cons _
theorem zkF (h:H.Pairwise (fun x y=>∀ q,x.2.S q->¬ y.2.S q)):∀ x ∈ H,∀ y ∈ H,x ≠ y->∀ q,x.2.S q->¬ y.2.S q:=by
 induction H with
 | nil=>intro x hx;cases hx
 | cons z r ih =>
  rw[zvU]at h;intro x hx y hy hY q hq hs;rcases ztD.1 hx with h1 | h1
  . grind
  grind
def InS (H:Hp) (ks:List Nat) (q:Nat):Prop:=∃ y ∈ H,zfH y.1 ks=true/\y.2.S q
structure Hands (H:Hp) (ks:List Nat) (Hn:Hp) (w w':World):Prop where
 keep:Keep (InS H ks) w w'
 ok:∀ x ∈ Hn,x.2.holds w'/\x.2.loc/\(∀ b,¬ x.2.fz b)/\∀ q,x.2.S q->(InS H ks q\/w.heap.size<=q)/\q<w'.heap.size
 apart:Hn.Pairwise (fun x y=>∀ q,x.2.S q->¬ y.2.S q)
theorem VI.hands {Hn:Hp} {ks:List Nat} (h:VI Bs H w) (hh:Hands H ks Hn w w'):VI Bs (Hn++yB ks H) w':=by
 have hY:∀ x ∈ yB ks H,∀ q,InS H ks q->¬ x.2.S q:=by
  rintro x hx q ⟨y,hy,hk,hq⟩ hs;obtain⟨h1,h2⟩:=yu hx;exact zkF h.apart x h1 y hy (fun e=>tD) q hs hq
 have db:∀ x ∈ yB ks H,∀ b,x.2.fz b->¬ InS H ks b:=by
  rintro x hx b hb ⟨y,hy,hk,hq⟩;exact h.froz x (yu hx).1 y hy b hb hq
 have dc:∀ x ∈ yB ks H,∀ q,x.2.S q->q<w.heap.size:=fun x hx q hq=>h.low x (yu hx).1 q hq
 have da:∀ x ∈ yB ks H,∀ y ∈ Hn,∀ q,y.2.S q->¬ x.2.S q:=fun x hx y hy q hq hs=>by
  rcases ((hh.ok y hy).2.2.2 q hq).1 with h1 | h1
  . grind
  grind
 refine⟨?_,?_,?_,?_,?_,?_⟩
 .
  intro x hx;rcases ztG.1 hx with hx | hx
  . exact(hh.ok x hx).1
  have h1:=(yu hx).1;exact HE.keep (e:=x.2) (h.holds x h1) (h.loc x h1) hh.keep (fun q hq hi=>hY x hx q hi hq) (db x hx)
 .
  intro x hx;rcases ztG.1 hx with hx | hx
  . exact(hh.ok x hx).2.1
  exact h.loc x (yu hx).1
 . exact zvT.2 ⟨hh.apart,h.apart.sublist hdels_sub,fun x hx y hy q hq=>da y hy x hx q hq⟩
 .
  intro x hx y hy b hb hs;rcases ztG.1 hx with hx | hx
  . exact(hh.ok x hx).2.2.1 b hb
  rcases ztG.1 hy with hy | hy
  .
   rcases ((hh.ok y hy).2.2.2 b hs).1 with h1 | h1
   . grind
   have:=zr7 (h.holds x (yu hx).1) hb;omega
  exact h.froz x (yu hx).1 y (yu hy).1 b hb hs
 .
  intro x hx q hq;rcases ztG.1 hx with hx | hx
  . exact((hh.ok x hx).2.2.2 q hq).2
  exact zws (dc x hx q hq) hh.keep.size
 intro p hp;obtain⟨h1,h2⟩:=h.base p hp;refine⟨h1.trans hh.keep fun q hq hi=>?_,fun x hx q hq=>?_⟩
 .
  obtain⟨y,hy,_,hs⟩:=hi
  grind
 rcases ztG.1 hx with hx | hx
 .
  rcases ((hh.ok x hx).2.2.2 q hq).1 with⟨y,hy,_,hs⟩ | h3
  . grind
  exact .inr (ztt h1.size h3)
 exact h2 x (yu hx).1 q hq
theorem zsd (hh:∀ x ∈ H,x.2.holds w/\x.2.loc/\(∀ b,¬ x.2.fz b)/\∀ q,x.2.S q->q<w.heap.size) (hY:H.Pairwise (fun x y=>∀ q,x.2.S q->¬ y.2.S q)):VI [(w,HS H)] H w :=
 ⟨fun x hx=>(hh x hx).1,fun x hx=>(hh x hx).2.1,hY,fun x hx _ _ b hb _=>(hh x hx).2.2.1 b hb,fun x hx=>(hh x hx).2.2.2,fun p hp=>by
  rw[ztF]at hp;subst hp
  exact⟨Keep.refl _ _,fun x hx q hq=>.inl ⟨x,hx,hq⟩⟩⟩
section
variable {n:Fm} {pos:Pos}
variable {ty:TypeId} {ps:String}
theorem zse (H:Hp) (hh:∀ x ∈ H,x.2.holds w/\x.2.loc/\(∀ b,¬ x.2.fz b)/\∀ q,x.2.S q->q<w.heap.size) (hY:H.Pairwise (fun x y=>∀ q,x.2.S q->¬ y.2.S q)) (h:V P n Q ks pos env [] H [(w,HS H)]):G P n Q ks pos env w:=h TgOk.nil w (zsd hh hY)
theorem zsf (kk:List Nat) {xs:Array Operand} (A1:Tgs) (hf:∀ args w,(callFunc f args).run P w=.ok (.enter f args) w) (hn:(Nat.blt d n,gd ops env g,qM env xs.toList)=(true,some true,some vs))
  (hY:∀ r x,A1.map (fun p=>zcJ ((d,r)::env) p.1)=A1.map (fun p=>jc (Hn x++yB kk H) p.2)) (da:∀ x,A1.all (fun p=>(jc (Hn x++yB kk H) p.2).isSome)=true)
  (hc:∀ w,VI Bs H w->Calls P f vs.toArray w (Ret fun r w'=>∃ x,Φ r x/\Hands H kk (Hn x) w w'))
  (h:∀ r x,Φ r x->V P n Q ks (.o ops rest) ((d,r)::env) A1 (Hn x++yB kk H) Bs):V P n Q ks (.o ops (⟨some d,.call ⟨.value (.func f),xs,ts⟩,ty,ps,aft,g⟩::rest)) env A H Bs:=by
 refine fun hA w hI=>G.call hn hf (hc w hI) ?_;rintro r w' ⟨x,hP,hh⟩;exact h r x hP (TgOk.of (hY r x) (da x)) w' (hI.hands hh)
theorem zsg {op:Array Oper} (i j:Nat) (kk:List Nat) {xs:Array Operand} (A1:Tgs) (hf:∀ args w,(callFunc f args).run P w=.ok (.enter f args) w) (hi:op[i]?=some ⟨some d,.call ⟨.value (.func f),xs,ts⟩,ty,ps,aft,g⟩) (hr:Region.ready .any op listed=[i]) (hn:(Nat.blt d n,gd op env g,qM env xs.toList,qd (Hs.map (·.1)))=(true,some true,some vs,true)) (hB:Bs.drop j=B0)
  (hY:∀ x,Hs.map (fun y=>hget (Hn x++yB kk H) y.1)=Hs.map (fun y=>some y.2))
  (db:∀ r x,A1.map (fun p=>zcJ ((d,r)::env) p.1)=A1.map (fun p=>jc (Hn x++yB kk H) p.2)) (dc:∀ x,A1.all (fun p=>(jc (Hn x++yB kk H) p.2).isSome)=true)
  (hc:∀ w,VI Bs H w->Calls P f vs.toArray w (Ret fun r w'=>∃ x,Φ r x/\Hands H kk (Hn x) w w'))
  (h:∀ r x,Φ r x->VD P n Q ks op Hs B0 L fuel (listed.setIfInBounds i true) ((d,r)::env) A1 (Hn x++yB kk H) Bs):VD P n Q ks op Hs B0 L (fuel+1) listed env A H Bs:=by
 simp only[Prod.mk.injEq]at hn;subst hB;intro hH hA w hI;refine zrA i hi hr hn.1 hn.2.1 (.inr ⟨f,_,F.call hf (yr hn.2.2.1),hc w hI⟩) ?_;rintro r w' ⟨x,hP,hh⟩;have da:=hI.hands hh;exact⟨(da.drop j).pick (Has.of (hY x)) hn.2.2.2,h r x hP (Has.of (hY x)) (TgOk.of (db r x) (dc x)) w' da⟩
end
theorem VI.k4 (h:VI (p0::p1::p2::p3::p4::Bs) H w):Keep p4.2 p4.1 w:=(h.base p4 tR).1
theorem VI.k5 {p5:World × (Nat->Prop)} (h:VI (p0::p1::p2::p3::p4::p5::Bs) H w):Keep p5.2 p5.1 w:=(h.base p5 tR).1
theorem SlR.atD {n cap:Nat} (h:SlR k R D w (.slice ao n cap) l) {x:α} (hx:l[i]?=some x):∃ b o cs,ao=some ⟨b,o,none⟩/\D b/\Cells w b (o+i*k) cs/\R D w x cs:=by
 obtain⟨ao',cap',h1,h2,h3,h4⟩:=h
 grind
theorem zsj {dst:Option Tmp} {ty:TypeId} {pos:String} {len:Nat} {kd:IntKind} {i:Int} (hu:∀ w,(underlying t).run P w=.ok (.array len e) w) (hs:∀ w,(sizeOf e).run P w=.ok 1 w) (hY:∀ w,(isAgg e).run P w=.ok false w) (hx:ev env x=some (.agg cs.toArray)) (hy:ev env y=some (.int kd i)) (h0:0<=i/\i<len) (hv:cs[i.toNat]?=some v) :
  yx P ⟨dst,.index t x y,ty,pos,aft,g⟩ env w v w:=by
 intro n a ha;simp[execOp,ha.eval hx,ha.eval hy,Instr.index,asIntOf,hu,hs,h0,part,hY,hv]
theorem zbx {e:HE} {E:α->HE} (hg:hget H k=some e) (hE:∀ x,(E x).loc/\∀ b,¬ (E x).fz b) (h:Calls P f args w (Ret fun r w'=>∃ x,Φ r x/\(E x).holds w'/\Keep e.S w w'/\∀ q,(E x).S q->(e.S q\/w.heap.size<=q)/\q<w'.heap.size)):Calls P f args w (Ret fun r w'=>∃ x,Φ r x/\Hands H [k] [(k,E x)] w w'):=by
 refine Calls.mono h ?_;rintro e' w' ⟨r,rfl,x,h1,h2,h3,h4⟩;have hY:∀ q,e.S q->InS H [k] q:=fun q hq=>⟨(k,e),zm hg,by simp[zfH,],hq⟩;refine⟨r,rfl,x,h1,h3.mono fun q _ hq=>hY q hq,fun y hy=>?_,zvX _ _⟩;rw[ztF]at hy;subst hy;exact⟨h2,(hE x).1,(hE x).2,fun q hq=>⟨(h4 q hq).1.imp (hY q) id,(h4 q hq).2⟩⟩
theorem VI.inS {e:HE} {S:Nat->Prop} (hI:VI Bs H w) (j k:Nat) (hb:Bs[j]?=some (w0,S)) (hg:hget H k=some e) (hq:e.S q):(S q\/w0.heap.size<=q)/\q<w.heap.size :=
 ⟨(hI.base _ (zto hb)).2 _ (zm hg) q hq,hI.low _ (zm hg) q hq⟩
theorem VI.offD {e:HE} {S:Nat->Prop} (hI:VI Bs H w) (j k:Nat) (hb:Bs[j]?=some (w0,S)) (hg:hget H k=some e) (hq:q<w0.heap.size) (hS:¬ S q):¬ e.S q:=fun h=>(hI.inS j k hb hg h).1.elim hS (fun h=>tO)
theorem VI.hsE (hI:VI Bs H w) (j:Nat) (hb:Bs[j]?=some (w0,fun _=>False)) (hs:HS H q):w0.heap.size<=q:=by
 obtain⟨x,hx,hq⟩:=hs;exact((hI.base _ (zto hb)).2 x hx q hq).elim False.elim id
end Go.GL
namespace Go.Proofs.YtckdhgbepmpgiaaGreat
open Go.GL
def EqD (D:Nat->Prop) (w w':World):Prop:=∀ b,D b->b<w.heap.size/\w'.heap[b]?=w.heap[b]?
theorem EqD.refl (h:∀ b,D b->b<w.heap.size):EqD D w w:=fun b hb=>⟨h b hb,rfl⟩
theorem EqD.keep {S:Nat->Prop} (h:EqD D w w') (hk:Keep S w' w2) (hl:∀ b,D b->b<w'.heap.size) (hS:∀ b,D b->¬ S b):EqD D w w2:=fun b hb=>⟨(h b hb).1,(hk.block b (hl b hb) (hS b hb)).trans (h b hb).2⟩
theorem EqD.to (hR:ye R) (h:EqD D w w') (hs:SlR k R D w v l):SlR k R D w' v l:=hs.stable hR (fun _ h=>h) fun b hb _=>(h b hb).2
theorem EqD.back (hR:ye R) (h:EqD D w w') (hs:SlR k R D w' v l):SlR k R D w v l:=hs.stable hR (fun _ h=>h) fun b hb _=>(h b hb).2.symm
theorem EqD.lt (h:EqD D w w') (hb:D b):b<w'.heap.size:=by
 have h1:=(h b hb).2;have h2:=(h b hb).1;rw[ztX h2]at h1;exact(ztZ.1 h1).1
end Go.Proofs.YtckdhgbepmpgiaaGreat
namespace Go.GL
mutual
def Tm.nodes:Tm->Nat
 | .mk _ _ ks=>1+tnodes ks
def tnodes:List Tm->Nat
 | []=>0
 | k::r=>k.nodes+tnodes r
end
mutual
def Tm.depth:Tm->Nat
 | .mk _ _ ks=>tdepth ks+1
def tdepth:List Tm->Nat
 | []=>0
 | k::r=>max k.depth (tdepth r)
end
mutual
def St.nodes:St->Nat
 | .mk _ _ _ _ t f g _=>1+t.nodes+snodes f+snodes g
def snodes:List St->Nat
 | []=>0
 | s::r=>s.nodes+snodes r
end
mutual
def St.bulk:St->Nat
 | .mk _ _ _ _ t f g b=>1+t.nodes+b.length+sbulk f+sbulk g
def sbulk:List St->Nat
 | []=>0
 | s::r=>s.bulk+sbulk r
end
mutual
def St.size:St->Nat
 | .mk _ _ _ _ _ f g _=>1+ssize f+ssize g
def ssize:List St->Nat
 | []=>0
 | s::r=>s.size+ssize r
end
mutual
def St.depth:St->Nat
 | .mk _ _ _ _ _ f g _=>max (sdepth f+1) (sdepth g+1)
def sdepth:List St->Nat
 | []=>0
 | s::r=>max s.depth (sdepth r)
end
mutual
/-- Some term of a step is nested too deep. -/
def St.tdeep:St->Bool
 | .mk _ _ _ _ t f g _=>decide (12<t.depth) || stdeep f || stdeep g
def stdeep:List St->Bool
 | []=>false
 | s::r=>s.tdeep || stdeep r
end
theorem Tm.nodes_eq (t:Tm):t.nodes=1+tnodes t.kids:=by cases t;rfl
theorem Tm.depth_eq (t:Tm):t.depth=tdepth t.kids+1:=by cases t;rfl
theorem St.nodes_eq (s:St):s.nodes=1+s.term.nodes+snodes s.thn+snodes s.els:=by cases s;rfl
theorem St.bulk_eq (s:St):s.bulk=1+s.term.nodes+s.bounds.length+sbulk s.thn+sbulk s.els:=by cases s;rfl
theorem St.size_eq (s:St):s.size=1+ssize s.thn+ssize s.els:=by cases s;rfl
theorem St.depth_eq (s:St):s.depth=max (sdepth s.thn+1) (sdepth s.els+1):=by cases s;rfl
theorem St.tdeep_eq (s:St):s.tdeep=(decide (12<s.term.depth) || stdeep s.thn || stdeep s.els):=by cases s;rfl
theorem jd (a b:List Tm):tnodes (a++b)=tnodes a+tnodes b:=by
 induction a with
 | nil=>simp[tnodes]
 | cons x r ih=>simp[tnodes,ih,zwg]
theorem zdo (a b:List Tm):tdepth (a++b)=max (tdepth a) (tdepth b):=by
 induction a with
 | nil=>simp[tdepth]
 | cons x r ih=>simp[tdepth,ih,Nat.max_assoc]
theorem kN (a b:List St):snodes (a++b)=snodes a+snodes b:=by
 induction a with
 | nil=>simp[snodes]
 | cons x r ih=>simp[snodes,ih,zwg]
theorem qE (a b:List St):sbulk (a++b)=sbulk a+sbulk b:=by
 induction a with
 | nil=>simp[sbulk]
 | cons x r ih=>simp[sbulk,ih,zwg]
theorem zaJ (a b:List St):ssize (a++b)=ssize a+ssize b:=by
 induction a with
 | nil=>simp[ssize]
 | cons x r ih=>simp[ssize,ih,zwg]
theorem je (a b:List St):sdepth (a++b)=max (sdepth a) (sdepth b):=by
 induction a with
 | nil=>simp[sdepth]
 | cons x r ih=>simp[sdepth,ih,Nat.max_assoc]
theorem jf (a b:List St):stdeep (a++b)=(stdeep a || stdeep b):=by
 induction a with
 | nil=>simp[stdeep]
 | cons x r ih=>simp[stdeep,ih,Bool.or_assoc]
theorem ze {x:α} (h:l[i]?=some x):l.take (i+1)=l.take i++[x]:=by
 rw[zw9,h];rfl
theorem kw {l:List Tm} {x:Tm} (h:l[i]?=some x):tnodes (l.take (i+1))=tnodes (l.take i)+x.nodes:=by rw[ze h,jd];simp[tnodes]
theorem zby {l:List Tm} {x:Tm} (h:l[i]?=some x):tdepth (l.take (i+1))=max (tdepth (l.take i)) x.depth:=by rw[ze h,zdo];simp[tdepth]
theorem zbz {l:List St} {x:St} (h:l[i]?=some x):snodes (l.take (i+1))=snodes (l.take i)+x.nodes:=by rw[ze h,kN];simp[snodes]
theorem zhq {l:List St} {x:St} (h:l[i]?=some x):sbulk (l.take (i+1))=sbulk (l.take i)+x.bulk:=by rw[ze h,qE];simp[sbulk]
theorem zam {l:List St} {x:St} (h:l[i]?=some x):ssize (l.take (i+1))=ssize (l.take i)+x.size:=by rw[ze h,zaJ];simp[ssize]
theorem zbA {l:List St} {x:St} (h:l[i]?=some x):sdepth (l.take (i+1))=max (sdepth (l.take i)) x.depth:=by rw[ze h,je];simp[sdepth]
theorem zbB {l:List St} {x:St} (h:l[i]?=some x):stdeep (l.take (i+1))=(stdeep (l.take i) || x.tdeep):=by rw[ze h,jf];simp[stdeep]
theorem yP {x:α} (h:l[i]?=some x):l=l.take i++x::l.drop (i+1):=by
 obtain⟨h1,h2⟩:=ztB.1 h;rw[<- h2,List.getElem_cons_drop,zwa]
theorem kO {l:List St} {x:St} (h:x ∈ l):x.bulk<=sbulk l:=by
 obtain⟨i,hi⟩:=zvH.1 h;rw[yP hi,qE];simp[sbulk];omega
theorem xZ {l:List Tm} {x:Tm} (h:l[i]?=some x):tnodes l=tnodes (l.take i)+x.nodes+tnodes (l.drop (i+1)):=by
 conv=>lhs;rw[yP h]
 rw[jd];simp[tnodes,zwg]
theorem qF {l:List St} {x:St} (h:l[i]?=some x):snodes l=snodes (l.take i)+x.nodes+snodes (l.drop (i+1)):=by
 conv=>lhs;rw[yP h]
 rw[kN];simp[snodes,zwg]
theorem zfI {l:List St} {x:St} (h:l[i]?=some x):sbulk l=sbulk (l.take i)+x.bulk+sbulk (l.drop (i+1)):=by
 conv=>lhs;rw[yP h]
 rw[qE];simp[sbulk,zwg]
theorem qs {l:List St} {x:St} (h:l[i]?=some x):ssize l=ssize (l.take i)+x.size+ssize (l.drop (i+1)):=by
 conv=>lhs;rw[yP h]
 rw[zaJ];simp[ssize,zwg]
theorem zbC (l:List Tm):l.length<=tnodes l:=by
 induction l with
 | nil=>simp
 | cons x r ih=>have:=x.nodes_eq;simp[tnodes];omega
theorem zdp (l:List St):l.length<=snodes l:=by
 induction l with
 | nil=>simp
 | cons x r ih=>have:=x.nodes_eq;simp[snodes];omega
theorem zaK:∀ l:List St,snodes l<=sbulk l:=by
 intro l;induction l using zr3 with
 | h l ih =>
  have key:∀ r:List St,(∀ s ∈ r,snodes s.thn<=sbulk s.thn/\snodes s.els<=sbulk s.els)->snodes r<=sbulk r:=by
   intro r;induction r with
   | nil=>intro _;simp[snodes]
   | cons x r ih2 =>
    intro h;have h1:=h x (ztr ..);have h2:=ih2 (fun s hs=>h s (ztq _ hs));have h3:=x.nodes_eq;have h4:=x.bulk_eq;simp only[snodes,sbulk];omega
  exact key l ih
theorem zaL:∀ l:List St,ssize l<=snodes l:=by
 intro l;induction l using zr3 with
 | h l ih =>
  have key:∀ r:List St,(∀ s ∈ r,ssize s.thn<=snodes s.thn/\ssize s.els<=snodes s.els)->ssize r<=snodes r:=by
   intro r;induction r with
   | nil=>intro _;simp[ssize]
   | cons x r ih2 =>
    intro h;have h1:=h x (ztr ..);have h2:=ih2 (fun s hs=>h s (ztq _ hs));have h3:=x.nodes_eq;have h4:=x.size_eq;simp only[snodes,ssize];omega
  exact key l ih
theorem zan (l:List St):l.length<=ssize l:=by
 induction l with
 | nil=>simp
 | cons x r ih=>have:=x.size_eq;simp[ssize];omega
theorem zaM:∀ l:List Tm,tdepth l<=tnodes l:=by
 have key:∀ l:List Tm,(∀ k ∈ l,k.depth<=k.nodes)->tdepth l<=tnodes l:=by
  intro l;induction l with
  | nil=>intro _;simp[tdepth]
  | cons x r ih =>
   intro h;have h1:=h x (ztr ..);have h2:=ih (fun k hk=>h k (ztq _ hk));simp only[tdepth,tnodes];omega
 have all:∀ t:Tm,t.depth<=t.nodes:=by
  intro t;induction t using zr1 with
  | h t ih =>
   have:=key t.kids ih;rw[t.depth_eq,t.nodes_eq];omega
 exact fun l=>key l (fun k _=>all k)
theorem jE:∀ l:List St,sdepth l<=snodes l:=by
 intro l;induction l using zr3 with
 | h l ih =>
  have key:∀ r:List St,(∀ s ∈ r,sdepth s.thn<=snodes s.thn/\sdepth s.els<=snodes s.els)->sdepth r<=snodes r:=by
   intro r;induction r with
   | nil=>intro _;simp[sdepth]
   | cons x r ih2 =>
    intro h;have h1:=h x (ztr ..);have h2:=ih2 (fun s hs=>h s (ztq _ hs));have h3:=x.nodes_eq;have h4:=x.depth_eq;simp only[snodes,sdepth];omega
  exact key l ih
def zz:List Ht->Nat
 | []=>0
 | h::r=>h.term.nodes+zz r
theorem kP (a b:List Ht):zz (a++b)=zz a+zz b:=by
 induction a with
 | nil=>simp[zz]
 | cons x r ih=>simp[zz,ih,zwg]
theorem kz {l:List Ht} {x:Ht} (h:l[i]?=some x):zz (l.take (i+1))=zz (l.take i)+x.term.nodes:=by rw[ze h,kP];simp[zz]
theorem qa {l:List Ht} {x:Ht} (h:l[i]?=some x):zz l=zz (l.take i)+x.term.nodes+zz (l.drop (i+1)):=by
 conv=>lhs;rw[yP h]
 rw[kP];simp[zz,zwg]
def few (f:Fl) (vars nodes:Nat):Bool:=decide (f.vars.length<=vars/\f.hatches.length<=vars/\sbulk f.body+zz f.hatches<=nodes)
theorem zsk {a b:Nd} (h1:a.kind=b.kind) (h2:a.at_=b.at_) (h3:a.next=b.next) (h4:a.other=b.other):a=b:=by
 cases a;cases b;simp_all
mutual
/-- The number of nodes of a step. -/
def St.wid:St->Nat
 | .mk a _ _ _ _ f g _=>1+widL f+widL g+(if a=4 then 1 else 0)
def widL:List St->Nat
 | []=>0
 | s::r=>s.wid+widL r
end
theorem St.wid_eq (s:St):s.wid=1+widL s.thn+widL s.els+(if s.act=4 then 1 else 0):=by cases s;rfl
theorem zbD (a b:List St):widL (a++b)=widL a+widL b:=by
 induction a with
 | nil=>simp[widL]
 | cons x r ih=>simp[widL,ih,zwg]
theorem zbE {l:List St} {x:St} (h:l[i]?=some x):widL (l.take (i+1))=widL (l.take i)+x.wid:=by rw[ze h,zbD];simp[widL]
theorem zao {l:List St} {x:St} (h:l[i]?=some x):widL l=widL (l.take i)+x.wid+widL (l.drop (i+1)):=by
 conv=>lhs;rw[yP h]
 rw[zbD];simp[widL,zwg]
theorem xk:∀ l:List St,widL l<=2*ssize l:=by
 intro l;induction l using zr3 with
 | h l ih =>
  have key:∀ r:List St,(∀ s ∈ r,widL s.thn<=2*ssize s.thn/\widL s.els<=2*ssize s.els)->widL r<=2*ssize r:=by
   intro r;induction r with
   | nil=>intro _;simp[widL]
   | cons x r ih2 =>
    intro h;have h1:=h x (ztr ..);have h2:=ih2 (fun s hs=>h s (ztq _ hs));have h3:=x.wid_eq;have h4:=x.size_eq;have h5:(if x.act=4 then 1 else 0)<=1:=tD;simp only[widL,ssize];omega
  exact key l ih
mutual
def St.lay:St->Nat->Nat->Nat->List Nd
 | .mk a _ _ _ _ f g _,at_,node,e =>
  if a=3 then ⟨3,at_,if f.isEmpty then e else (node+1:Nat),if g.isEmpty then e else (node+1+widL f:Nat)⟩::(layL f (at_+1) (node+1) e++layL g (at_+1+ssize f) (node+1+widL f) e)
  else if a=4 then ⟨4,at_,(node+1:Nat),-1⟩::⟨5,at_,if f.isEmpty then (node+1:Nat) else (node+2:Nat),e⟩::layL f (at_+1) (node+2) (node+1)
  else [⟨2,at_,e,-1⟩]
def layL:List St->Nat->Nat->Nat->List Nd
 | [],_,_,_=>[]
 | s::r,at_,node,after=>s.lay at_ node (if r.isEmpty then after else node+s.wid)++layL r (at_+s.size) (node+s.wid) after
end
theorem St.lay_eq (s:St) (at_ node e:Nat):s.lay at_ node e =
  if s.act=3 then ⟨3,at_,if s.thn.isEmpty then e else (node+1:Nat),if s.els.isEmpty then e else (node+1+widL s.thn:Nat)⟩::(layL s.thn (at_+1) (node+1) e++layL s.els (at_+1+ssize s.thn) (node+1+widL s.thn) e)
  else if s.act=4 then ⟨4,at_,(node+1:Nat),-1⟩::⟨5,at_,if s.thn.isEmpty then (node+1:Nat) else (node+2:Nat),e⟩::layL s.thn (at_+1) (node+2) (node+1)
  else [⟨2,at_,e,-1⟩]:=by cases s;rw[St.lay];rfl
def zd (f:Fl):List Nd:=⟨0,-1,1,-1⟩::(layL f.body 0 1 (1+widL f.body)++[⟨1,-1,-1,-1⟩])
abbrev jg:=Nat × Bool
def jx (ns:List Nd) (to:Int) (e:jg):List Nd:=ns.modify e.1 fun x=>if e.2 then { x with other:=to } else { x with next:=to }
def zt (ns:List Nd) (to:Int) (es:List jg):List Nd:=es.foldl (fun ns e=>jx ns to e) ns
structure Bd where
 nodes:List Nd
 step:Nat
mutual
def St.one:St->Nat->Bd->Bd × List jg
 | .mk a _ _ _ _ f g _,at_,b =>
  if a=3 then
   let x:=listB f { nodes:=b.nodes++[⟨3,b.step,-1,-1⟩],step:=b.step+1 } [(at_,false)]
   let y:=listB g x.1 [(at_,true)]
   (y.1,x.2++y.2)
  else if a=4 then
   let x:=listB f { nodes:=jx (b.nodes++[⟨4,b.step,-1,-1⟩,⟨5,b.step,-1,-1⟩]) (at_+1:Nat) (at_,false),step:=b.step+1 } [(at_+1,false)]
   ({ x.1 with nodes:=zt x.1.nodes (at_+1:Nat) x.2 },[(at_+1,true)])
  else ({ nodes:=b.nodes++[⟨2,b.step,-1,-1⟩],step:=b.step+1 },[(at_,false)])
def listB:List St->Bd->List jg->Bd × List jg
 | [],b,ins=>(b,ins)
 | s::r,b,ins =>
  let x:=s.one b.nodes.length { b with nodes:=zt b.nodes b.nodes.length ins }
  listB r x.1 x.2
end
theorem St.one_eq (s:St) (at_:Nat) (b:Bd):s.one at_ b =
  if s.act=3 then
   ((listB s.els (listB s.thn { nodes:=b.nodes++[⟨3,b.step,-1,-1⟩],step:=b.step+1 } [(at_,false)]).1 [(at_,true)]).1,
    (listB s.thn { nodes:=b.nodes++[⟨3,b.step,-1,-1⟩],step:=b.step+1 } [(at_,false)]).2++(listB s.els (listB s.thn { nodes:=b.nodes++[⟨3,b.step,-1,-1⟩],step:=b.step+1 } [(at_,false)]).1 [(at_,true)]).2)
  else if s.act=4 then
   ({ (listB s.thn { nodes:=jx (b.nodes++[⟨4,b.step,-1,-1⟩,⟨5,b.step,-1,-1⟩]) (at_+1:Nat) (at_,false),step:=b.step+1 } [(at_+1,false)]).1 with
    nodes:=zt (listB s.thn { nodes:=jx (b.nodes++[⟨4,b.step,-1,-1⟩,⟨5,b.step,-1,-1⟩]) (at_+1:Nat) (at_,false),step:=b.step+1 } [(at_+1,false)]).1.nodes (at_+1:Nat)
     (listB s.thn { nodes:=jx (b.nodes++[⟨4,b.step,-1,-1⟩,⟨5,b.step,-1,-1⟩]) (at_+1:Nat) (at_,false),step:=b.step+1 } [(at_+1,false)]).2 },[(at_+1,true)])
  else ({ nodes:=b.nodes++[⟨2,b.step,-1,-1⟩],step:=b.step+1 },[(at_,false)]):=by cases s;rw[St.one];rfl
theorem zap (s:St) (r:List St) (b:Bd) (ins:List jg):listB (s::r) b ins=listB r (s.one b.nodes.length { b with nodes:=zt b.nodes b.nodes.length ins }).1 (s.one b.nodes.length { b with nodes:=zt b.nodes b.nodes.length ins }).2:=by rw[listB]
def zgw (f:Fl):List Nd :=
 zt (listB f.body { nodes:=[⟨0,-1,-1,-1⟩],step:=0 } [(0,false)]).1.nodes ((listB f.body { nodes:=[⟨0,-1,-1,-1⟩],step:=0 } [(0,false)]).1.nodes.length:Nat) (listB f.body { nodes:=[⟨0,-1,-1,-1⟩],step:=0 } [(0,false)]).2++[⟨1,-1,-1,-1⟩]
theorem yC (ns:List Nd) (to:Int) (e:jg):(jx ns to e).length=ns.length:=by simp[jx]
theorem zU (es:List jg):∀ (ns:List Nd) (to:Int),(zt ns to es).length=ns.length:=by
 induction es with
 | nil=>intro ns to;rfl
 | cons e r ih=>intro ns to;rw[zt,zv9,<- zt,ih,yC]
theorem xG (e:jg) (r:List jg) (ns:List Nd) (to:Int):zt ns to (e::r)=zt (jx ns to e) to r:=rfl
theorem kQ (a b:List jg) (ns:List Nd) (to:Int):zt ns to (a++b)=zt (zt ns to a) to b:=by simp[zt,]
theorem ziu (ns:List Nd) (to to':Int) (e e':jg) (h:to=to'\/e ≠ e'):jx (jx ns to e) to' e'=jx (jx ns to' e') to e:=by
 apply zuW;intro i;simp only[jx,zve];obtain⟨a,p⟩:=e;obtain⟨a',p'⟩:=e';dsimp only;by_cases h1:a=i<;>by_cases h2:a'=i<;>simp only[h1,h2,if_true,if_false]<;>cases ns[i]?<;>simp;rename_i x;cases p<;>cases p'<;>simp
 . grind
 grind
theorem zbF (es:List jg):∀ (ns:List Nd) (to to':Int) (e:jg),(to=to'\/e ∉ es)->zt (jx ns to' e) to es=jx (zt ns to es) to' e:=by
 induction es with
 | nil=>intro ns to to' e _;rfl
 | cons x r ih =>
  intro ns to to' e h;rw[xG,xG,<- ih _ _ _ _ (h.imp id (fun h hm=>h (ztq _ hm)))];congr 1;exact ziu _ _ _ _ _ (h.imp (fun h=>h.symm) (fun h he=>h tD))
theorem zfJ (es es':List jg) (ns:List Nd) (to:Int):zt (zt ns to es) to es'=zt (zt ns to es') to es:=by
 induction es generalizing ns with
 | nil=>rfl
 | cons e r ih =>
  rw[xG,ih,xG,zbF _ _ _ _ _ (.inl rfl)]
theorem zev {to:Int} {e:jg} (h:e.1<ns.length):jx (ns++ms) to e=jx ns to e++ms:=by
 apply zuW;intro i;simp only[jx,zve];by_cases h1:i<ns.length
 . rw[ztN h1,ztN tD,zve]
 rw[ztO tO,ztO tD];simp[show ¬ e.1=i by omega]
theorem zfK {es:List jg}:∀ {ns ms:List Nd} {to:Int},(∀ e ∈ es,e.1<ns.length)->zt (ns++ms) to es=zt ns to es++ms:=by
 induction es with
 | nil=>intro ns ms to _;rfl
 | cons e r ih =>
  intro ns ms to h;rw[xG,xG,zev (h e (ztr ..)),ih (fun x hx=>by rw[yC];exact h x Jq)]
theorem kR {x:Nd} {to:Int} {p:Bool} (hk:k=ns.length):jx (ns++[x]) to (k,p)=ns++[if p then { x with other:=to } else { x with next:=to }]:=by
 subst hk;apply zuW;intro i;simp only[jx,zve];by_cases h1:i<ns.length
 . rw[ztN h1,ztN h1];simp[show ¬ ns.length=i by omega]
 rw[ztO tO,ztO tO];by_cases h2:i=ns.length
 . grind
 rw[ztL tD,ztL tD];simp
theorem zdq {x:Nd} {to:Int} {p:Bool} (hk:k=ns.length):jx (ns++x::ms) to (k,p)=ns++(if p then { x with other:=to } else { x with next:=to })::ms:=by
 have:=zev (ns:=ns++[x]) (ms:=ms) (to:=to) (e:=(k,p)) tD;rw[zuE,zw6,kR hk]at this
 grind
mutual
def St.plainB:St->Bool
 | .mk a _ _ _ _ f g _=>(if a=3 then true else if a=4 then g.isEmpty else f.isEmpty&&g.isEmpty)&&plainL f&&plainL g
def plainL:List St->Bool
 | []=>true
 | s::r=>s.plainB&&plainL r
end
theorem St.plainB_eq (s:St):s.plainB=((if s.act=3 then true else if s.act=4 then s.els.isEmpty else s.thn.isEmpty&&s.els.isEmpty)&&plainL s.thn&&plainL s.els):=by cases s;rw[St.plainB];rfl
theorem yV {l:List St} (h:plainL l=true):∀ s ∈ l,s.plainB=true:=by
 induction l with
 | nil=>intro s hs;simp at hs
 | cons x r ih =>
  intro s hs;rw[plainL,zu8]at h;rcases ztD.1 hs with rfl | hs
  . exact h.1
  grind
theorem zbG {l:List St} (h:∀ s ∈ l,s.plainB=true):plainL l=true:=by
 induction l with
 | nil=>rfl
 | cons x r ih=>rw[plainL,h x (ztr ..),ih (fun s hs=>h s (ztq _ hs))];rfl
structure BOk (l:List St) (b:Bd) (ins:List jg) (c:Bd) (outs:List jg):Prop where
 len:c.nodes.length=b.nodes.length+widL l
 step:c.step=b.step+ssize l
 out:∀ e ∈ outs,e ∈ ins\/b.nodes.length<=e.1
 lt:∀ e ∈ outs,e.1<c.nodes.length
 lay:∀ after:Nat,zt c.nodes after outs=zt b.nodes (if l.isEmpty then after else b.nodes.length:Nat) ins++layL l b.step b.nodes.length after
structure OOk (s:St) (b:Bd) (c:Bd) (outs:List jg):Prop where
 len:c.nodes.length=b.nodes.length+s.wid
 step:c.step=b.step+s.size
 out:∀ e ∈ outs,b.nodes.length<=e.1
 lt:∀ e ∈ outs,e.1<c.nodes.length
 lay:∀ after:Nat,zt c.nodes after outs=b.nodes++s.lay b.step b.nodes.length after
theorem zew (s:St) (hp:s.plainB=true) (h1:∀ (b:Bd) (ins:List jg),(∀ e ∈ ins,e.1<b.nodes.length)->BOk s.thn b ins (listB s.thn b ins).1 (listB s.thn b ins).2)
  (h2:∀ (b:Bd) (ins:List jg),(∀ e ∈ ins,e.1<b.nodes.length)->BOk s.els b ins (listB s.els b ins).1 (listB s.els b ins).2) (b:Bd):OOk s b (s.one b.nodes.length b).1 (s.one b.nodes.length b).2:=by
 rw[s.plainB_eq,zu8,zu8]at hp;have hw:=s.wid_eq;have hz:=s.size_eq;rw[s.one_eq];by_cases a3:s.act=3
 .
  rw[ztx i3]at hw;simp only[zty a3];have H1:=h1 { nodes:=b.nodes++[⟨3,b.step,-1,-1⟩],step:=b.step+1 } [(b.nodes.length,false)] tR;generalize hx:listB s.thn { nodes:=b.nodes++[⟨3,b.step,-1,-1⟩],step:=b.step+1 } [(b.nodes.length,false)]=x at H1;obtain⟨len1,jz,out1,lt1,lay1⟩:=H1;simp only[ztv,ztI]at len1 jz out1 lay1;have H2:=h2 x.1 [(b.nodes.length,true)] tD;generalize hy:listB s.els x.1 [(b.nodes.length,true)]=y at H2;obtain⟨len2,step2,out2,lt2,lay2⟩:=H2;refine⟨tO,tO,?_,?_,?_⟩
  . grind
  . grind
  intro after
  have hY:(b.nodes.length,true) ∉ x.2:=by
   grind
  rw[kQ,zfJ,lay2,zfK (by intro e he;rw[zU];exact lt1 e he)];rw[show ∀ (t:Int),zt x.1.nodes t [(b.nodes.length,true)]=jx x.1.nodes t (b.nodes.length,true) from fun _=>rfl];rw[zbF _ _ _ _ _ (.inr hY),lay1];rw[show ∀ (t:Int) (ns:List Nd),zt ns t [(b.nodes.length,false)]=jx ns t (b.nodes.length,false) from fun _ _=>rfl];rw[kR rfl,zuE,zw6,zdq rfl,s.lay_eq,zty a3];rw[zuE,zuH,jz,len1];simp only[if_true,zuc,if_false];congr 2;apply zsk<;>dsimp only
  . split<;>rfl
  rw[apply_ite Nat.cast]
 by_cases a4:s.act=4
 .
  rw[zty a4]at hw;rw[ztx a3,zty a4]at hp;have da:s.els=[]:=by simpa using hp.1.1
  rw[da]at hw hz;simp only[widL,ssize]at hw hz;simp only[ztx a3,zty a4];have db:jx (b.nodes++[⟨4,b.step,-1,-1⟩,⟨5,b.step,-1,-1⟩]) (b.nodes.length+1:Nat) (b.nodes.length,false)=b.nodes++[⟨4,b.step,(b.nodes.length+1:Nat),-1⟩,⟨5,b.step,-1,-1⟩]:=by rw[zdq rfl];rfl
  rw[db];have H1:=h1 { nodes:=b.nodes++[⟨4,b.step,(b.nodes.length+1:Nat),-1⟩,⟨5,b.step,-1,-1⟩],step:=b.step+1 } [(b.nodes.length+1,false)] tR;generalize hx:listB s.thn { nodes:=b.nodes++[⟨4,b.step,(b.nodes.length+1:Nat),-1⟩,⟨5,b.step,-1,-1⟩],step:=b.step+1 } [(b.nodes.length+1,false)]=x at H1;obtain⟨len1,jz,out1,lt1,lay1⟩:=H1;simp only[ztv,ztQ,List.length_nil]at len1 jz out1 lay1;refine⟨by rw[zU];omega,by dsimp only;omega,?_,?_,?_⟩
  .
   intro e he;rw[ztF.1 he];dsimp only;omega
  .
   intro e he;rw[ztF.1 he,zU];dsimp only;omega
  intro after;dsimp only;rw[lay1];simp only[show ∀ (t:Int) (ns:List Nd) (q:Bool),zt ns t [(b.nodes.length+1,q)]=jx ns t (b.nodes.length+1,q) from fun _ _ _=>rfl];rw[show ∀ (x y:Nd),b.nodes++[x,y]=(b.nodes++[x])++[y] from fun x y=>tR];rw[kR tR];rw[zuE (b.nodes++[_]),zw6,zdq tR,s.lay_eq,ztx a3,zty a4,zuE,zw6];simp only[if_true,zuc,if_false];congr 3;apply zsk<;>dsimp only;rw[apply_ite Nat.cast]
 rw[ztx a4]at hw;rw[ztx a3,ztx a4,zu8,zvp,zvp]at hp;rw[hp.1.1.1,hp.1.1.2]at hw hz;simp only[widL,ssize]at hw hz;simp only[ztx a3,ztx a4];refine⟨tX,by dsimp only;omega,?_,?_,?_⟩
 . intro e he;rw[ztF.1 he];exact ztM _
 . intro e he;rw[ztF.1 he];simp
 intro after;dsimp only;rw[show ∀ (t:Int) (ns:List Nd),zt ns t [(b.nodes.length,false)]=jx ns t (b.nodes.length,false) from fun _ _=>rfl];rw[kR rfl,s.lay_eq,ztx a3,ztx a4];rfl
theorem xH (l:List St):plainL l=true->∀ (b:Bd) (ins:List jg),(∀ e ∈ ins,e.1<b.nodes.length)->BOk l b ins (listB l b ins).1 (listB l b ins).2:=by
 induction l using zr3 with
 | h l ih =>
 intro hp
 have key:∀ r:List St,(∀ x ∈ r,x ∈ l)->∀ (b:Bd) (ins:List jg),(∀ e ∈ ins,e.1<b.nodes.length)->BOk r b ins (listB r b ins).1 (listB r b ins).2:=by
  intro r;induction r with
  | nil =>
   intro _ b ins hi;rw[listB];exact⟨by simp[widL],by simp[ssize],fun e he=>.inl he,hi,fun after=>by simp[layL]⟩
  | cons s r ihr =>
   intro hm b ins hi;have hs:=yV hp s (hm s (ztr ..));have hY:=hs;rw[s.plainB_eq,zu8,zu8]at hY;have H:=zew s hs (fun b ins h=>(ih s (hm s (ztr ..))).1 hY.1.2 b ins h) (fun b ins h=>(ih s (hm s (ztr ..))).2 hY.2 b ins h) { b with nodes:=zt b.nodes b.nodes.length ins };rw[zap];dsimp only at H;rw[zU]at H;generalize s.one b.nodes.length { b with nodes:=zt b.nodes b.nodes.length ins }=x at H;obtain⟨len1,jz,out1,lt1,lay1⟩:=H;simp only[zU]at len1 jz out1 lt1 lay1;have H2:=ihr (fun y hy=>hm y iq) x.1 x.2 lt1;generalize listB r x.1 x.2=y at H2;obtain⟨len2,step2,out2,lt2,lay2⟩:=H2;refine⟨by simp only[widL];omega,by simp only[ssize];omega,?_,lt2,?_⟩
   .
    intro e he;rcases out2 e he with h | h
    . exact .inr (out1 e h)
    exact .inr tO
   intro after;rw[lay2,lay1,layL,zuE,len1,jz];simp only[List.isEmpty_cons,zuc,if_false]
 exact key l (fun x h=>h)
theorem zkG (f:Fl) (hp:plainL f.body=true):zgw f=zd f:=by
 have H:=xH f.body hp { nodes:=[⟨0,-1,-1,-1⟩],step:=0 } [(0,false)] tR;unfold zgw zd;generalize listB f.body { nodes:=[⟨0,-1,-1,-1⟩],step:=0 } [(0,false)]=x at H ⊢;obtain⟨len1,jz,out1,lt1,lay1⟩:=H;simp only[ztI]at len1 lay1;rw[lay1,len1];rw[show ∀ (t:Int) (ns:List Nd),zt ns t [((0:Nat),false)]=jx ns t (0,false) from fun _ _=>rfl];have h1:∀ t:Int,jx [⟨0,-1,-1,-1⟩] t (0,false)=[⟨0,-1,t,-1⟩]:=fun t=>rfl;rw[h1]
 have h2:((if f.body.isEmpty then 1+widL f.body else 1:Nat):Int)=1:=by
  split
  .
   rename_i h;have:f.body=[]:=tD;rw[this];rfl
  rfl
 rw[h2];rfl
theorem zB (l:List St):plainL l=true->∀ at_ node after,(layL l at_ node after).length=widL l:=by
 intro hp at_ node after;have H:=xH l hp { nodes:=List.replicate node ⟨0,0,0,0⟩,step:=at_ } [] tR;have h1:=H.lay after;have h2:=congrArg List.length h1;rw[zU,H.len]at h2;simp[zt]at h2;omega
theorem yD (f:Fl) (hp:plainL f.body=true):(zd f).length=widL f.body+2:=by
 simp[zd,zB _ hp]
structure Nums (ns:List Nd) (a n:Nat):Prop where
 range:∀ x ∈ ns,(a:Int)<=x.at_/\x.at_<(a+n:Nat)
 ord:ns.Pairwise fun x y=>x.at_<=y.at_
 all:∀ k,k<n->∃ x ∈ ns,x.at_=(a+k:Nat)
theorem Nums.nil (a:Nat):Nums [] a 0:=⟨fun x h=>tD,List.Pairwise.nil,fun k h=>tO⟩
theorem Nums.append {n:Nat} (h:Nums ns a n) (h':Nums ms b m) (hb:b=a+n):Nums (ns++ms) a (n+m):=by
 subst hb;refine⟨fun x hx=>?_,?_,fun k hk=>?_⟩
 .
  rcases ztG.1 hx with hx | hx
  . have:=h.range x hx;omega
  have:=h'.range x hx;omega
 .
  rw[zvT];refine⟨h.ord,h'.ord,fun x hx y hy=>?_⟩;have:=h.range x hx;have:=h'.range y hy;omega
 by_cases hY:k<n
 .
  obtain⟨x,hx,e⟩:=h.all k hY
  grind
 obtain⟨x,hx,e⟩:=h'.all (k - n) tO
 grind
theorem Nums.cons {n:Nat} {x:Nd} (h:Nums ns (a+1) n) (hx:x.at_=a):Nums (x::ns) a (n+1):=by
 refine⟨fun y hy=>?_,?_,fun k hk=>?_⟩
 .
  rcases ztD.1 hy with rfl | hy
  . omega
  have:=h.range y hy;omega
 .
  rw[zvU];exact⟨fun y hy=>by have:=h.range y hy;omega,h.ord⟩
 by_cases hY:k=0
 . grind
 obtain⟨y,hy,e⟩:=h.all (k - 1) tO
 grind
theorem zsl {n:Nat} {x:Nd} (h:Nums ns a n) (hn:0<n) (hx:x.at_=a):Nums (x::ns) a n:=by
 refine⟨fun y hy=>?_,?_,fun k hk=>?_⟩
 .
  rcases ztD.1 hy with rfl | hy
  . omega
  exact h.range y hy
 .
  rw[zvU];exact⟨fun y hy=>by have:=h.range y hy;omega,h.ord⟩
 obtain⟨y,hy,e⟩:=h.all k hk
 grind
theorem jT (l:List St):plainL l=true->∀ a node after,Nums (layL l a node after) a (ssize l):=by
 induction l using zr3 with
 | h l ih =>
 intro hp
 have key:∀ r:List St,(∀ x ∈ r,x ∈ l)->∀ a node after,Nums (layL r a node after) a (ssize r):=by
  intro r;induction r with
  | nil=>intro _ a node after;exact Nums.nil a
  | cons s r ihr =>
   intro hm a node after;have hs:=yV hp s (hm s (ztr ..));rw[s.plainB_eq,zu8,zu8]at hs;have h1:=(ih s (hm s (ztr ..))).1 hs.1.2;have h2:=(ih s (hm s (ztr ..))).2 hs.2;rw[layL,ssize];refine Nums.append ?_ (ihr (fun y hy=>hm y iq) _ _ _) O;generalize (if r.isEmpty=true then after else node+s.wid)=e;have hz:=s.size_eq;rw[s.lay_eq];by_cases a3:s.act=3
   .
    rw[zty a3,show s.size=(ssize s.thn+ssize s.els)+1 by omega];exact Nums.cons (Nums.append (h1 _ _ _) (h2 _ _ _) O) O
   by_cases a4:s.act=4
   .
    rw[ztx a3,zty a4]at hs;rw[ztx a3,zty a4];have hY:s.els=[]:=tD;rw[hY]at hz;simp only[ssize]at hz;rw[show s.size=ssize s.thn+1 by omega];exact zsl (Nums.cons (h1 _ _ _) O) tO O
   rw[ztx a3,ztx a4,zu8,zvp,zvp]at hs;rw[ztx a3,ztx a4];rw[hs.1.1.1,hs.1.1.2]at hz;simp only[ssize]at hz;rw[show s.size=0+1 by omega];exact Nums.cons (Nums.nil _) O
 exact key l (fun x h=>h)
open Go.RowKit
def Wr (p:TypeId->Bool) (W0:Nat) (w:World) (k:Nat):Prop:=W0<=k/\∀ cs e,Blk w k cs e->p e=true
abbrev KT (p:TypeId->Bool) (W0:Nat) (w w':World):Prop:=Keep (Wr p W0 w) w w'
section
variable {p:TypeId->Bool} {w'':World}
theorem Blk.ty {e':TypeId} (h:Blk w b cs e) (h':Blk w b cs' e'):e=e'/\cs=cs':=by
 unfold Blk at h h'
 grind
theorem Blk.ne {e':TypeId} (h:Blk w a cs e) (h':Blk w b cs' e') (hY:e ≠ e'):a ≠ b:=by
 rintro rfl;exact hY (h.ty h').1
theorem Wr.mk (hW:W0<=k) (hb:Blk w k cs e) (hp:p e=true):Wr p W0 w k:=⟨hW,fun cs' e' h=>by rw[<- (hb.ty h).1];exact hp⟩
theorem KT.refl:KT p W0 w w:=Keep.refl _ _
theorem KT.trans (h:KT p W0 w w') (h':KT p W0 w' w''):KT p W0 w w'':=by
 refine Keep.trans h h' (fun k hk hT=>?_);by_cases hS:Wr p W0 w k
 . exact hS
 exfalso;apply hS;refine⟨hT.1,fun cs e h2=>hT.2 cs e ?_⟩;unfold Blk at h2 ⊢;rw[h.block k hk hS];exact h2
theorem zsm (h:Ext w w'):KT p W0 w w':=Keep.mono h (fun _ _ h=>h.elim)
theorem KT.ext' (h:KT p W0 w w') (h':Ext w' w''):KT p W0 w w'':=KT.trans h (zsm h')
theorem zsn (hb:Blk w b cs e) (hp:p e=true) (hW:W0<=b) (h:zdh w b cs' e w'):KT p W0 w w' :=
 h.2.2.mono (fun k _ (hk:k=b)=>by subst hk;exact Wr.mk hW hb hp)
theorem xe {n:Nat} (h:w.ownsRow 0 e k v n xs) {g:Nat} (hg:v.ownBlock=some g):∃ cs,Blk w g cs e:=by
 rcases h.2 with⟨rfl,_⟩ | ⟨g',cap,cur,rfl,_,h2,_⟩
 . simp[Value.ownBlock]at hg
 simp[Value.ownBlock]at hg;subst hg;exact⟨cur.toList,by unfold Blk;simpa using h2⟩
theorem KT.row {n:Nat} (ho:w.ownsRow 0 e k v n xs) (hp:p e=true) (hW:∀ g,v.ownBlock=some g->W0<=g) (h:Keep (fun k=>v.ownBlock=some k) w w'):KT p W0 w w' :=
 h.mono (fun g _ hg=>by obtain⟨cs,hb⟩:=xe ho hg;exact Wr.mk (hW g hg) hb hp)
theorem KT.new {S:Nat->Prop} (h:KT p W0 w w') (h':Keep S w' w'') (hS:∀ k,S k->w.heap.size<=k):KT p W0 w w'' :=
 Keep.trans h h' (fun k hk hT=>absurd (hS k hT) tO)
theorem zso (h:KT p W0 w w') (hW:w.heap.size<=W0):Ext w w':=Keep.mono h (fun k hk ⟨h1,_⟩=>tO)
theorem KT.blk (h:KT p W0 w w') (hb:Blk w b cs e) (hp:p e=false):Blk w' b cs e :=
 Keep.blk h hb (fun⟨_,h2⟩=>tD)
theorem KT.own (h:KT p W0 w w') {n:Nat} (ho:w.ownsRow 0 e k v n xs) (hp:p e=false):w'.ownsRow 0 e k v n xs :=
 zj ho h (fun g hg ⟨_,h2⟩=>by obtain⟨cs,hb⟩:=xe ho hg;have:=h2 _ _ hb;rw[hp]at this;cases this)
theorem KT.sl (h:KT p W0 w w') (hs:ye R) (hl:SlR k R D w v l) (hD:∀ q,D q->q<W0):SlR k R D w' v l :=
 hl.keep hs h (fun q hq _ ⟨h1,_⟩=>tD)
end
end Go.GL
namespace Go.Proofs
theorem Tryz.el3:(Tryz.prog.info? 3).map (fun i=>(i.zero,i.size,i.bytes))=some (some ((Value.int IntKind.i64 0)),1,8):=tK
theorem Tryz.el4:(Tryz.prog.info? 4).map (fun i=>(i.zero,i.size,i.bytes))=some (some ((Value.bool false)),1,1):=tK
theorem Tryz.el27:(Tryz.prog.info? 27).map (fun i=>(i.zero,i.size,i.bytes))=some (some ((Value.slice none 0 0)),1,24):=tK
theorem Tryz.el45:(Tryz.prog.info? 45).map (fun i=>(i.zero,i.size,i.bytes))=some (some ((Value.agg #[Value.slice none 0 0,Value.slice none 0 0,Value.slice none 0 0])),3,72):=tK
theorem Tryz.el59:(Tryz.prog.info? 59).map (fun i=>(i.zero,i.size,i.bytes))=some (some ((Value.agg #[Value.slice none 0 0,Value.slice none 0 0,Value.int IntKind.i64 0])),3,56):=tK
theorem Tryz.el65:(Tryz.prog.info? 65).map (fun i=>(i.zero,i.size,i.bytes))=some (some ((Value.agg #[Value.int IntKind.i64 0,Value.int IntKind.i64 0,Value.int IntKind.i64 0,Value.int IntKind.i64 0])),4,32):=tK
theorem Tryz.el72:(Tryz.prog.info? 72).map (fun i=>(i.zero,i.size,i.bytes))=some (some ((Value.agg #[Value.int IntKind.i64 0,Value.int IntKind.i64 0,Value.int IntKind.i64 0,Value.int IntKind.i64 0,Value.int IntKind.i64 0,Value.int IntKind.i64 0,Value.slice none 0 0,Value.slice none 0 0,Value.slice none 0 0,Value.slice none 0 0])),10,144):=tK
theorem Tryz.el85:(Tryz.prog.info? 85).map (fun i=>(i.zero,i.size,i.bytes))=some (some ((Value.agg #[Value.int IntKind.i64 0,Value.int IntKind.i64 0])),2,16):=tK
theorem Tryz.el88:(Tryz.prog.info? 88).map (fun i=>(i.zero,i.size,i.bytes))=some (some ((Value.agg #[Value.int IntKind.i64 0,Value.int IntKind.i64 0,Value.slice none 0 0,Value.slice none 0 0])),4,64):=tK
theorem Tryz.el120:(Tryz.prog.info? 120).map (fun i=>(i.zero,i.size,i.bytes))=some (some (Value.nilFunc),1,8):=tK
theorem Tryz.el142:(Tryz.prog.info? 142).map (fun i=>(i.zero,i.size,i.bytes))=some (some ((Value.agg #[Value.string { data:=#[] },Value.int IntKind.i64 0,Value.int IntKind.i64 0,Value.int IntKind.i64 0,Value.int IntKind.i64 0])),5,48):=tK
theorem Tryz.el159:(Tryz.prog.info? 159).map (fun i=>(i.zero,i.size,i.bytes))=some (some ((Value.agg #[Value.int IntKind.i64 0,Value.int IntKind.i64 0])),2,16):=tK
theorem Tryz.el169:(Tryz.prog.info? 169).map (fun i=>(i.zero,i.size,i.bytes))=some (some ((Value.agg #[Value.int IntKind.i64 0,Value.int IntKind.i64 0])),2,16):=tK
theorem Tryz.el240:(Tryz.prog.info? 240).map (fun i=>(i.zero,i.size,i.bytes))=some (some ((Value.agg #[Value.int IntKind.i64 0,Value.int IntKind.i64 0])),2,16):=tK
end Go.Proofs
namespace Go.GL
theorem zbH {α:Type} {f:α->Nat}:∀ {l:List α},(l.map f).Nodup->∀ {x y:α},x ∈ l->y ∈ l->f x=f y->x=y
 | [],_,_,_,hx,_,_=>tD
 | z::r,h,x,y,hx,hy,e=>by
  rw[zvx,zvQ]at h;rcases ztD.1 hx with h1 | h1
  . grind
  rcases ztD.1 hy with h2 | h2
  . grind
  exact zbH h.2 h1 h2 e
section
variable {n:Fm} {S:World->Prop}
theorem zmL {o:Oper} {R:Value->World->Prop} {K:Act->World->Prop} {Q':Exit->Act->World->Prop} {a:Act} (hi:ops[i]?=some o) (hg:o.guard=none) (hd:o.dst=some d) (ha:Ok n env a) (hm:Does P o env w R)
  (h:∀ v w',R v w'->K (a.put (some d) v) w'):wpOp P ops Q' i K a w:=by
 refine zbm hi hg ?_;unfold Oper.wp;rcases hm with⟨v,w',h1,h2⟩ | ⟨f,args,h1,h2⟩
 .
  rw[h1 n a ha,Oper.upon_value,hd]
  grind
 rw[h1 n a ha,Oper.upon_enter];refine h2.mono ?_;rintro e w' ⟨v,rfl,hR⟩;simp only[hd];exact h v w' hR
end
end Go.GL
namespace Go.Proofs.YtckdhgbepmpgiaaGreat
open Go.GL
variable {es:List jg}
def xV (x:Nd):List Value:=[.int .i64 x.kind,.int .i64 x.at_,.int .i64 x.next,.int .i64 x.other]
theorem zN (x:Nd):(xV x).length=4:=rfl
theorem jh (x:Nd):∀ u ∈ xV x,u.oneCell'=true:=by simp[xV,Value.oneCell']
def bty (e:TypeId):Bool:=e == 197 || e == 65
theorem zoS:bty 197=true:=tS
theorem zor:bty 65=true:=tS
structure BdS (W0 B:Nat) (w:World) (b:Bd) (v:Value):Prop where
 blk:Blk w B [v,.int .i64 b.step] 197
 row:w.ownsRow 0 65 4 v b.nodes.length (b.nodes.flatMap xV)
 low:W0<=B
 far:∀ g,v.ownBlock=some g->W0<=g
theorem BdS.ext {b:Bd} (h:BdS W0 B w b v) (hk:Ext w w'):BdS W0 B w' b v:=⟨hk.blk h.blk (fun h=>h),zj h.row hk (fun _ _ h=>h),h.low,h.far⟩
theorem BdS.ne {b:Bd} (h:BdS W0 B w b v) {g:Nat} (hg:v.ownBlock=some g):g ≠ B:=by
 obtain⟨cs,hb⟩:=xe h.row hg;exact hb.ne h.blk tS
def HC (B:Nat) (w:World) (e:jg) (x:Value):Prop:=∃ bb ab,x=.func (.func (if e.2 then 215 else 166)) #[] #[.pointer (some ⟨bb,0,none⟩),.pointer (some ⟨ab,0,none⟩)]/\Blk w bb [.pointer (some ⟨B,0,none⟩)] 195/\Blk w ab [.int .i64 e.1] 3
theorem HC.one {e:jg} {x:Value} (h:HC B w e x):x.oneCell'=true:=by obtain⟨_,_,rfl,_⟩:=h;rfl
theorem HC.ext {e:jg} {x:Value} (h:HC B w e x) (hk:Ext w w'):HC B w' e x:=by
 obtain⟨bb,ab,h1,h2,h3⟩:=h;exact⟨bb,ab,h1,hk.blk h2 (fun h=>h),hk.blk h3 (fun h=>h)⟩
theorem HC.kt {e:jg} {x:Value} (h:HC B w e x) (hk:KT bty W0 w w'):HC B w' e x:=by
 obtain⟨bb,ab,h1,h2,h3⟩:=h;exact⟨bb,ab,h1,hk.blk h2 tS,hk.blk h3 tS⟩
def Hung (B:Nat) (w:World) (v:Value) (es:List jg):Prop:=∃ xs:List Value,w.ownsRow 0 120 1 v es.length xs/\∀ (i:Nat) e x,es[i]?=some e->xs[i]?=some x->HC B w e x
theorem Hung.ext (h:Hung B w v es) (hk:Ext w w'):Hung B w' v es:=by
 obtain⟨xs,h1,h2⟩:=h;exact⟨xs,zj h1 hk (fun _ _ h=>h),fun i e x he hx=>(h2 i e x he hx).ext hk⟩
theorem Hung.kt (h:Hung B w v es) (hk:KT bty W0 w w'):Hung B w' v es:=by
 obtain⟨xs,h1,h2⟩:=h;exact⟨xs,hk.own h1 tS,fun i e x he hx=>(h2 i e x he hx).kt hk⟩
theorem Hung.form (h:Hung B w v es):∃ ao c,v=.slice ao es.length c/\es.length<=c:=by
 obtain⟨xs,h1,h2⟩:=h;rcases h1.2 with⟨rfl,h3⟩ | ⟨g,cap,cur,rfl,h3,h4,h5,h6⟩
 . grind
 grind
theorem Hung.at {n:Nat} (h:Hung B w (.slice ao n c) es) {e:jg} (he:es[i]?=some e):∃ g x,ao=some ⟨g,0,none⟩/\Cells w g (0+i*1) [x]/\HC B w e x:=by
 obtain⟨xs,h1,h2⟩:=h;have hi:=(ztB.1 he).1;have hY:=h1.1;obtain⟨x,hx⟩:∃ x,xs[i]?=some x:=iA;rcases h1.2 with⟨h3,h4⟩ | ⟨g,cap,cur,h3,_,h4,h5,h6,h7,h8⟩
 . omega
 cases h3;refine⟨g,x,rfl,?_,h2 i e x he hx⟩;intro j u hu;cases j with
 | zero =>
  simp at hu;subst hu;have hb:Blk w g cur.toList 120:=by unfold Blk;simpa using h4
  have:=hb.cells i x (by rw[<- h8,ztT]at hx;split at hx;exact hx;cases hx);simpa using this
 | succ j=>simp at hu
theorem zdr (B:Nat) (k:Nat) (w:World):Calls prog 126 #[.pointer (some ⟨B,0,none⟩),.int .i64 k] w (Ret fun r w'=>HC B w' (k,false) r/\Ext w w'):=by
 have hE:=Keep.refl (fun _=>False) w;refine zqR func126 O ntmps126 O (Gs 2 O (G.mem O O (M.box O O) ?_));rintro _ dw ⟨bb,rfl,da,dt,hY,db⟩;have dm:_<=bb:=ztt hE.size (zwr da.symm);replace hE:=Tr1 db hE;refine G.mem O O (M.box O O) ?_;rintro _ dx ⟨ab,rfl,dc,du,dg,dh⟩;have dl:bb ≠ ab:=tO;have dr:_<=ab:=ztt hE.size (zwr dc.symm);obtain⟨hE,hY⟩:=Tr2 dh hE hY;refine Gs 10 O (zpk results126 O ⟨_,rfl,⟨bb,ab,rfl,hY,dg⟩,hE⟩)
theorem zgx (B:Nat) (k:Nat) (w:World):Calls prog 204 #[.pointer (some ⟨B,0,none⟩),.int .i64 k] w (Ret fun r w'=>HC B w' (k,true) r/\Ext w w'):=by
 have hE:=Keep.refl (fun _=>False) w;refine zqR func204 O ntmps204 O (Gs 2 O (G.mem O O (M.box O O) ?_));rintro _ dw ⟨bb,rfl,da,dt,hY,db⟩;have dm:_<=bb:=ztt hE.size (zwr da.symm);replace hE:=Tr1 db hE;refine G.mem O O (M.box O O) ?_;rintro _ dx ⟨ab,rfl,dc,du,dg,dh⟩;have dl:bb ≠ ab:=tO;have dr:_<=ab:=ztt hE.size (zwr dc.symm);obtain⟨hE,hY⟩:=Tr2 dh hE hY;refine Gs 10 O (zpk results204 O ⟨_,rfl,⟨bb,ab,rfl,hY,dg⟩,hE⟩)
theorem zds (L:List Nd) (i:Nat) (hi:i<L.length) (sp:List Value) (to:Int) (p:Bool):(L.flatMap xV++sp).set (i*4+(if p then 3 else 2)) (.int .i64 to)=(jx L to (i,p)).flatMap xV++sp:=by
 have h1:=zdi (enc:=xV) zN hi (if p then { L[i] with other:=to } else { L[i] with next:=to }) sp
 have h2:jx L to (i,p)=L.set i (if p then { L[i] with other:=to } else { L[i] with next:=to }):=by
  apply zuW;intro j;simp only[jx,zve,zvi];by_cases hj:i=j
  . subst hj;simp[hi]
  grind
 rw[h2,<- h1];have h3:=zdi (enc:=xV) zN hi L[i] sp;rw[List.set_getElem_self]at h3
 have ht:((L.flatMap xV++sp).take (i*4)).length=i*4:=by
  have:=zQ zN L
  grind
 generalize (L.flatMap xV++sp).drop (i*4+4)=C at h3 ⊢;generalize (L.flatMap xV++sp).take (i*4)=A at h3 ht ⊢;rw[<- h3,zuE,zuE,zw4 _ _ tO,ht,zwk];cases p<;>rfl
theorem zkH (W0 B bb ab i:Nat) (to:Int) (b:Bd) (v:Value) (w:World) (hb:BdS W0 B w b v) (dg:Blk w bb [.pointer (some ⟨B,0,none⟩)] 195) (dh:Blk w ab [.int .i64 (i:Nat)] 3) (hi:i<b.nodes.length) :
  Calls prog 166 #[.int .i64 to,.pointer (some ⟨bb,0,none⟩),.pointer (some ⟨ab,0,none⟩)] w (Ret fun _ w'=>BdS W0 B w' { b with nodes:=jx b.nodes to (i,false) } v/\KT bty W0 w w'):=by
 obtain⟨g,cap,sp,rfl,_,dl,dm,da,dr⟩:=qC zN tS hb.row tD;have hB:=hb.blk;have du:=zQ zN b.nodes;have dw:(b.nodes.flatMap xV++sp).length=b.nodes.length*4+sp.length:=tD;have dt:=hb.ne rfl;have hset:=zds b.nodes i hi sp to false;refine zqS func166 O ntmps166 O (Dw (fun q=>Ext w q) [8] (fun wd1 hD _=>?_));refine WD.take 0 O tK O O O hD (fun w1 hY=>R.load isAgg195 O ((hY.blk dg (fun h=>h)).cells 0 _ O)) (Ds [1,2] tK O (WD.take 3 O tK O O O hD (fun w1 hY=>R.load tg34 O ((hY.blk hB (fun h=>h)).cells 0 _ O)) (WD.take 4 O tK O O O hD (fun w1 hY=>R.load tg3 O ((hY.blk dh (fun h=>h)).cells 0 _ O)) (Da [5,6,7] tK O tO (zpS 8 O tK O O (M.store ts3 O O O O (hD.blk da (fun h=>h)) tO) ?_)))));rintro wf ⟨_,db,dc⟩;refine⟨fun h=>absurd (ztF.2 O) h,?_⟩;rw[show 0+(i:Int).toNat*4+_=i*4+(if false then 3 else 2) by simp,hset]at db;have hK:KT bty W0 w wf:=Keep.trans (zsm hD) dc UH;refine G.done tK ?_ _;refine zpz results166 ⟨_,rfl,⟨dc.blk (hD.blk hB (fun h=>h)) (fun h=>dt h.symm),?_,hb.low,hb.far⟩,hK⟩;have h:=ja zN (k:=b.nodes.length) db tD JR dl dm;rw[zwc JR]at h;rw[yC];exact h
theorem ziv (W0 B bb ab i:Nat) (to:Int) (b:Bd) (v:Value) (w:World) (hb:BdS W0 B w b v) (dg:Blk w bb [.pointer (some ⟨B,0,none⟩)] 195) (dh:Blk w ab [.int .i64 (i:Nat)] 3) (hi:i<b.nodes.length) :
  Calls prog 215 #[.int .i64 to,.pointer (some ⟨bb,0,none⟩),.pointer (some ⟨ab,0,none⟩)] w (Ret fun _ w'=>BdS W0 B w' { b with nodes:=jx b.nodes to (i,true) } v/\KT bty W0 w w'):=by
 obtain⟨g,cap,sp,rfl,_,dl,dm,da,dr⟩:=qC zN tS hb.row tD;have hB:=hb.blk;have du:=zQ zN b.nodes;have dw:(b.nodes.flatMap xV++sp).length=b.nodes.length*4+sp.length:=tD;have dt:=hb.ne rfl;have hset:=zds b.nodes i hi sp to true;refine zqS func215 O ntmps215 O (Dw (fun q=>Ext w q) [8] (fun wd1 hD _=>?_));refine WD.take 0 O tK O O O hD (fun w1 hY=>R.load isAgg195 O ((hY.blk dg (fun h=>h)).cells 0 _ O)) (Ds [1,2] tK O (WD.take 3 O tK O O O hD (fun w1 hY=>R.load tg34 O ((hY.blk hB (fun h=>h)).cells 0 _ O)) (WD.take 4 O tK O O O hD (fun w1 hY=>R.load tg3 O ((hY.blk dh (fun h=>h)).cells 0 _ O)) (Da [5,6,7] tK O tO (zpS 8 O tK O O (M.store ts3 O O O O (hD.blk da (fun h=>h)) tO) ?_)))));rintro wf ⟨_,db,dc⟩;refine⟨fun h=>absurd (ztF.2 O) h,?_⟩;rw[show 0+(i:Int).toNat*4+_=i*4+(if true then 3 else 2) by simp,hset]at db;have hK:KT bty W0 w wf:=Keep.trans (zsm hD) dc UH;refine G.done tK ?_ _;refine zpz results215 ⟨_,rfl,⟨dc.blk (hD.blk hB (fun h=>h)) (fun h=>dt h.symm),?_,hb.low,hb.far⟩,hK⟩;have h:=ja zN (k:=b.nodes.length) db tD JR dl dm;rw[zwc JR]at h;rw[yC];exact h
theorem zgy (W0 B:Nat) (kind:Int) (b:Bd) (v:Value) (w:World) (hb:BdS W0 B w b v) (hW:W0<=w.heap.size) (dy:b.nodes.length<=100000) :
  Calls prog 203 #[.pointer (some ⟨B,0,none⟩),.int .i64 kind] w (Ret fun _ w'=>(∃ v',BdS W0 B w' { b with nodes:=b.nodes++[⟨kind,b.step,-1,-1⟩] } v')/\KT bty W0 w w'):=by
 have hB:=hb.blk;refine zqR func203 O ntmps203 O (Dw (fun q=>Blk q B [v,.int .i64 b.step] 197) [15] (fun wd hD _=>?_));have dc:=hb.ext hD;refine Ds [0,1,2,3] tK O (WD.take 4 O tK O O O dc.blk (fun w1 dg=>R.load tg34 O (dg.cells 0 _ O)) (Ds [5,6,7,8] tK O (WD.take 9 O tK O O O dc.blk (fun w1 dg=>R.load tg3 O (dg.cells 1 _ O)) (zq6 10 O tK O O O (fun w1=>R.build (v:=.agg #[.int .i64 kind,.int .i64 b.step,.int .i64 (-1),.int .i64 (-1)]) [(0,_),(1,_),(2,_),(3,_)] O (fun _=>tK)) (WD.mem 11 O tK O O O (M.buildSlice (cs:=xV ⟨kind,b.step,-1,-1⟩) [(0,_)] tR34 ts65 tz65 tS O tK) ?_)))));rintro _ w2 ⟨b2,rfl,dz,dA,dt,dl⟩;have hY:=dc.ext dl;refine⟨fun _=>hY.blk,?_⟩;refine WD.mem 12 O tK O O O (M.append tu34 Tryz.el65 O tS O O hY.row O (Cells.add dt.cells) (jh _) tO tO) ?_;rintro v' w3 ⟨da,du,dm,_⟩;have dh:=dm.blk hY.blk (fun h=>hY.ne h rfl);refine⟨fun _=>dh,?_⟩;refine Ds [13,14] tK O ?_;obtain⟨av,cv,rfl⟩:=zI da;refine zpS 15 O tK O O (M.store ts34 O O O O dh tR) ?_;rintro wf ⟨_,dw,dr⟩;refine⟨fun h=>absurd (ztF.2 O) h,?_⟩;have dx:=hD.size
 have db:∀ g,Value.ownBlock (.slice av (b.nodes.length+1) cv)=some g->W0<=g/\g ≠ B:=by
  intro g hg;rcases du with h | ⟨g',h1,h2⟩
  . exact⟨hb.far g tD,hY.ne tD⟩
  rw[h1]at hg;cases hg;have:=hY.blk.lt;omega
 refine G.done tK ?_ _;refine zpz results203 ⟨_,rfl,⟨.slice av (b.nodes.length+1) cv,dw,?_,hb.low,fun g hg=>(db g hg).1⟩,?_⟩
 .
  have h:=zj da dr (fun g hg h=>(db g hg).2 h)
  grind
 exact KT.trans (KT.trans (zsm (hD.ext dl)) (KT.row hY.row zor hY.far dm)) (dr.mono (fun q hq h=>by have h:q=B:=h;subst h;exact Wr.mk hb.low dh zoS))
theorem zfL (W0 B i:Nat) (p:Bool) (to:Int) (b:Bd) (v x:Value) (w:World) (hb:BdS W0 B w b v) (hx:HC B w (i,p) x) (hi:i<b.nodes.length) :
  ∃ f,∃ cs:List Value,x=.func (.func f) #[] cs.toArray/\(∀ args w,(callFunc f args).run prog w=.ok (.enter f args) w)/\Calls prog f (([]:List Value)++[Value.int .i64 to]++cs).toArray w (Ret fun _ w'=>BdS W0 B w' { b with nodes:=jx b.nodes to (i,p) } v/\KT bty W0 w w'):=by
 obtain⟨bb,ab,rfl,h1,h2⟩:=hx;cases p
 . exact⟨_,[_,_],rfl,call166,zkH W0 B bb ab i to b v w hb h1 h2 hi⟩
 exact⟨_,[_,_],rfl,call215,ziv W0 B bb ab i to b v w hb h1 h2 hi⟩
theorem BdS.bump {b:Bd} (h:BdS W0 B w b v) (hw:zdh w B [v,.int .i64 ((b.step:Int)+1)] 197 w'):BdS W0 B w' { b with step:=b.step+1 } v/\KT bty W0 w w' :=
 ⟨⟨hw.2.1,zj h.row hw.2.2 (fun _ hg he=>h.ne hg he),h.low,h.far⟩,zsn h.blk zoS h.low hw⟩
theorem Hung.lit {g:Nat} {x:Value} {e:jg} (hb:Blk w g [x] 120) (hx:HC B w e x):Hung B w (.slice (some ⟨g,0,none⟩) 1 1) [e] :=
 ⟨[x],zG (k:=1) (n:=1) (cap:=1) hb (ztM _) tS rfl,fun i e' x' he hY=>by
  grind⟩
theorem Hung.len (h:Hung B w v es):es.length<=9223372036854775807:=by
 obtain⟨xs,h1,_⟩:=h;obtain⟨_,_,_,h2,h3⟩:=xv h1;omega
theorem zkI (s:St) (h1:∀ b ins,(listB s.thn b ins).2.length<=max ins.length 1+widL s.thn) (h2:∀ b ins,(listB s.els b ins).2.length<=max ins.length 1+widL s.els) (a:Nat) (b:Bd):(s.one a b).2.length<=1+s.wid:=by
 rw[s.one_eq];have hw:=s.wid_eq;split
 .
  dsimp only;rw[ztv];have e1:=h1 { nodes:=b.nodes++[⟨3,b.step,-1,-1⟩],step:=b.step+1 } [(a,false)];have e2:=h2 (listB s.thn { nodes:=b.nodes++[⟨3,b.step,-1,-1⟩],step:=b.step+1 } [(a,false)]).1 [(a,true)];simp only[ztI]at e1 e2;omega
 split<;>simp
theorem zex (l:List St):∀ b ins,(listB l b ins).2.length<=max ins.length 1+widL l:=by
 induction l using zr3 with
 | h l ih =>
 have key:∀ r:List St,(∀ x ∈ r,x ∈ l)->∀ b ins,(listB r b ins).2.length<=max ins.length 1+widL r:=by
  intro r;induction r with
  | nil=>intro _ b ins;rw[listB];dsimp only;omega
  | cons s r ihr =>
   intro hm b ins;have h1:=zkI s (ih s (hm s (ztr ..))).1 (ih s (hm s (ztr ..))).2 b.nodes.length { b with nodes:=zt b.nodes b.nodes.length ins };rw[zap];have h2:=ihr (fun y hy=>hm y iq) (s.one b.nodes.length { b with nodes:=zt b.nodes b.nodes.length ins }).1 (s.one b.nodes.length { b with nodes:=zt b.nodes b.nodes.length ins }).2;simp only[widL];omega
 exact key l (fun x h=>h)
theorem kB {to:Int} {e:jg} (h:es[i]?=some e):zt ns to (es.take (i+1))=jx (zt ns to (es.take i)) to e:=by rw[ze h,kQ];rfl
def ziw (l:List St):Prop:=∀ (W0 B:Nat) (v vin:Value) (D:Nat->Prop) (w:World) (b:Bd) (nv:Value) (ins:List jg),SlR 10 RSt D w v l->(∀ q,D q->q<W0)->BdS W0 B w b nv->Hung B w vin ins->(∀ e ∈ ins,e.1<b.nodes.length)->W0<=w.heap.size ->
 plainL l=true->b.nodes.length+widL l<=100000->b.step+ssize l<=100000 ->
 Calls prog 125 #[.pointer (some ⟨B,0,none⟩),v,vin] w (Ret fun r w'=>(∃ nv',BdS W0 B w' (listB l b ins).1 nv')/\Hung B w' r (listB l b ins).2/\(r.ownBlock=vin.ownBlock\/∃ g,r.ownBlock=some g/\w.heap.size<=g)/\KT bty W0 w w')
theorem znT (s:St) (h1:ziw s.thn) (h2:ziw s.els) (W0 B:Nat) (cs:List Value) (D:Nat->Prop) (w:World) (b:Bd) (nv:Value) (hs:RSt D w s cs) (hD:∀ q,D q->q<W0) (hb:BdS W0 B w b nv) (hW:W0<=w.heap.size) (hp:s.plainB=true)
  (hn:b.nodes.length+s.wid<=100000) (fC:b.step+s.size<=100000) :
  Calls prog 165 #[.pointer (some ⟨B,0,none⟩),.agg cs.toArray,.int .i64 b.nodes.length] w (Ret fun r w'=>(∃ nv',BdS W0 B w' (s.one b.nodes.length b).1 nv')/\Hung B w' r (s.one b.nodes.length b).2/\(∃ g,r.ownBlock=some g/\w.heap.size<=g)/\KT bty W0 w w'):=by
 have fD:=hs.one;obtain⟨v1,v2,v3,v4,rfl,hk,ht,he,fE⟩:=hs.get;have hw:=s.wid_eq;have hz:=s.size_eq;have dt:=hp;rw[s.plainB_eq,zu8,zu8]at dt;have fF:=hW;refine zqS func165 O ntmps165 O (Gs 2 O (G.mem O O (M.box O O) ?_));rintro _ w1 ⟨c,rfl,hc,eN,dX,ek⟩;replace hb:=hb.ext ek;have dY:KT bty W0 w w1:=zsm ek;refine Gs 7 O (zqK O isAgg66 (dX.cells 0 _ O) (Gs 9 O (zp3 O (fun a3=>?_) (fun a3=>?_))))
 .
  rw[s.one_eq,zty a3];rw[ztx i3]at hw;refine Gs 3 O (G.call O call203 (zgy W0 B 3 b nv w1 hb tO tO) ?_);rintro _ w2 ⟨⟨nv2,hY⟩,dx⟩;have dE:=dY.trans dx;have dy:=dx.blk dX tS;refine Gs 7 O (zqK O tg3 (hY.blk.cells 1 (.int .i64 b.step) O) (Ga 3 O tO (zpT O (M.store ts3 O O O O hY.blk tR) ?_)));rintro w3 dZ;obtain⟨dg,dz⟩:=hY.bump dZ;have dF:=dE.trans dz;have dA:=dz.blk dy tS;refine Gs 3 O (Dw (fun q=>Blk q c [.int .i64 s.act,.int .i64 s.cost,.int .i64 s.var,.int .i64 s.n,.int .i64 s.term.op,.int .i64 s.term.n,v1,v2,v3,v4] 72) [] (fun w4 dB _=>?_));have dh:=dB.blk dA (fun h=>h);have dc:=dg.ext dB;have d5:=dF.ext' dB;refine Ds [0,1] tK O (WD.take 2 O tK O O O dh (fun w1 dG=>R.load tg24 O (dG.cells 7 _ O)) (Ds [3,4] tK O (WD.call 5 O tK O O O (F.call (vs:=[_,_]) call126 O) (zdr B b.nodes.length w4) ?_)));rintro x w5 ⟨hx,dC⟩;have dl:=dC.blk dh (fun h=>h);have d6:=dc.ext dC;have dQ:=d5.ext' dC;refine⟨fun _=>dl,?_⟩;have dm:=hx;obtain⟨bb,ab,rfl,_,_⟩:=hx;refine WD.mem 6 O tK O O O (M.buildSlice (cs:=[.func (.func 166) #[] #[.pointer (some ⟨bb,0,none⟩),.pointer (some ⟨ab,0,none⟩)]]) [(0,_)] tR198 ts120 tz120 tS O tK) ?_;rintro _ w6 ⟨g6,rfl,fG,fH,eO,du⟩;have da:=du.blk dl (fun h=>h);have d7:=d6.ext du;have dH:=dQ.ext' du;refine⟨fun _=>da,?_⟩;have eP:=Hung.lit eO (dm.ext du);have eQ:=dH.size;refine WD.call 7 O tK O O O (F.call (vs:=[_,_,_]) call125 O) (h1 W0 B _ _ D w6 _ _ _ (dH.sl zg ht hD) hD d7 eP tR tO dt.1.2 tD tD) ?_;rintro r7 w7 ⟨⟨nv7,dR⟩,em,eR,er⟩;have db:=er.blk da tS;have d8:=dH.trans er;refine⟨fun _=>db,?_⟩;have d9:=xH s.thn dt.1.2 { nodes:=b.nodes++[⟨3,b.step,-1,-1⟩],step:=b.step+1 } [(b.nodes.length,false)] tR;have ew:=zex s.thn { nodes:=b.nodes++[⟨3,b.step,-1,-1⟩],step:=b.step+1 } [(b.nodes.length,false)];simp only[ztI]at ew;generalize hX:listB s.thn { nodes:=b.nodes++[⟨3,b.step,-1,-1⟩],step:=b.step+1 } [(b.nodes.length,false)]=X at dR em d9 ew ⊢;have dI:=d9.len;have dD:=d9.step;simp only[ztv,ztI]at dI dD
  have fI:∃ g,r7.ownBlock=some g/\w.heap.size<=g:=by
   have:=dQ.size;rcases eR with h | ⟨g,h,h'⟩
   . exact⟨g6,by rw[h];rfl,tO⟩
   grind
  refine Ds [8] tK O (G.done tK ?_ _);refine Gs 2 O (Dw (fun q=>Blk q c [.int .i64 s.act,.int .i64 s.cost,.int .i64 s.var,.int .i64 s.n,.int .i64 s.term.op,.int .i64 s.term.n,v1,v2,v3,v4] 72) [] (fun x4 yk4 _=>?_));have yBc4:=yk4.blk db (fun h=>h);have yb4:=dR.ext yk4;have yu4:=em.ext yk4;have yE4:=d8.ext' yk4;refine Ds [0,1,2] tK O (WD.take 3 O tK O O O yBc4 (fun w1 dG=>R.load tg24 O (dG.cells 8 _ O)) (Ds [4,5] tK O (WD.call 6 O tK O O O (F.call (vs:=[_,_]) call204 O) (zgx B b.nodes.length x4) ?_)));rintro x x5 ⟨hx,yk5⟩;have yBc5:=yk5.blk yBc4 (fun h=>h);have yb5:=yb4.ext yk5;have yu5:=yu4.ext yk5;have yE5:=yE4.ext' yk5;refine⟨fun _=>yBc5,?_⟩;have dm:=hx;obtain⟨bb,ab,rfl,_,_⟩:=hx;refine WD.mem 7 O tK O O O (M.buildSlice (cs:=[.func (.func 215) #[] #[.pointer (some ⟨bb,0,none⟩),.pointer (some ⟨ab,0,none⟩)]]) [(0,_)] tR198 ts120 tz120 tS O tK) ?_;rintro _ x6 ⟨g6',rfl,yg6,ys6,yB6,yk6⟩;have yBc6:=yk6.blk yBc5 (fun h=>h);have yb6:=yb5.ext yk6;have yu6:=yu5.ext yk6;have yE6:=yE5.ext' yk6;refine⟨fun _=>yBc6,?_⟩;have zu6:=Hung.lit yB6 (dm.ext yk6);have ysz6:=yE6.size;refine WD.call 8 O tK O O O (F.call (vs:=[_,_,_]) call125 O) (h2 W0 B _ _ D x6 _ _ _ (yE6.sl zg he hD) hD yb6 zu6 tD tO dt.2 tO tO) ?_;rintro r8 x7 ⟨⟨nv8,yb7⟩,yu7,yf7,yK7⟩;have yBc7:=yK7.blk yBc6 tS;have yE7:=yE6.trans yK7;have zu7:=yu6.kt yK7;refine⟨fun _=>yBc7,?_⟩;have ez:=zex s.els X.1 [(b.nodes.length,true)];simp only[ztI]at ez;generalize listB s.els X.1 [(b.nodes.length,true)]=Y at yb7 yu7 ez ⊢;obtain⟨xs7,dS,eb⟩:=zu7;obtain⟨xs8,eA,dJ⟩:=yu7
  have eS:∀ u ∈ xs8,u.oneCell'=true:=by
   intro u hu;obtain⟨i,hi⟩:=zvH.1 hu;have eT:=(ztB.1 hi).1;have h8:=eA.1;exact(dJ i Y.2[i] u (ztn tO) hi).one
  refine WD.mem 9 O tK O O O (zr0 underlying198 Tryz.el120 O tS O O dS eA eS tO tO) ?_;rintro u x8 ⟨fJ,eU,yk8⟩
  have ec:∀ k,r7.ownBlock=some k->w.heap.size<=k:=by
   grind
  have yE8:KT bty W0 w x8:=yE7.new yk8 ec
  have dr:∀ k cs e,Blk x7 k cs e->e ≠ 120->Blk x8 k cs e:=fun k cs e hb eV=>yk8.blk hb (fun h=>by
   obtain⟨cs',dK⟩:=xe dS h
   exact eV (hb.ty dK).1)
  refine⟨fun _=>dr _ _ _ yBc7 tS,?_⟩;refine Ds [10] tK O (G.done tK ?_ _);refine Gs 4 O ?_
  refine zpk results165 O ⟨_,rfl,⟨nv8,dr _ _ _ yb7.blk tS,zj yb7.row yk8 (fun g hg h=>by
    obtain⟨cs',dK⟩:=xe dS h;obtain⟨cs2,hY⟩:=xe yb7.row hg
    exact absurd (hY.ty dK).1 tS),yb7.low,yb7.far⟩,⟨xs7++xs8,tD,?_⟩,?_,yE8⟩
  .
   have eC:∀ e x,HC B x7 e x->HC B x8 e x:=by
    rintro e x ⟨bb,ab,q1,q2,q3⟩;exact⟨bb,ab,q1,dr _ _ _ q2 tS,dr _ _ _ q3 tS⟩
   intro i e x dT dU;have fK:=dS.1;by_cases hi:i<X.2.length
   .
    rw[ztN hi]at dT;rw[ztN tO]at dU;exact eC _ _ (eb i e x dT dU)
   rw[ztO tO]at dT;rw[ztO tO,show i - xs7.length=i - X.2.length by omega]at dU;exact eC _ _ (dJ _ e x dT dU)
  rcases eU with h | ⟨g,h,h'⟩
  . grind
  have:=yE7.size
  grind
 rw[s.one_eq,ztx a3];refine Gs 6 O (zp3 O (fun a4=>?_) (fun a4=>?_))
 .
  rw[zty a4];rw[zty a4]at hw;rw[ztx a3,zty a4]at dt;refine Gs 3 O (G.call O call203 (zgy W0 B 4 b nv w1 hb tO tO) ?_);rintro _ w2 ⟨⟨nv2,hY⟩,dx⟩;have dE:=dY.trans dx;have dy:=dx.blk dX tS;refine Gs 5 O (G.call O call203 (zgy W0 B 5 _ nv2 w2 hY (by have:=dE.size;omega) tD) ?_);rintro _ w3 ⟨⟨nv3,dg⟩,dz⟩;have dF:=dE.trans dz;have dA:=dz.blk dy tS;dsimp only at dg;rw[zuE,zw6]at dg;refine Gs 7 O (zqK O tg3 (dg.blk.cells 1 (.int .i64 b.step) O) (Ga 3 O tO (zpT O (M.store ts3 O O O O dg.blk tR) ?_)));rintro w4 eW;obtain⟨dc,eD⟩:=dg.bump eW;dsimp only at dc;have d5:=dF.trans eD;have dh:=eD.blk dA tS;obtain⟨g,cap,sp,rfl,_,eX,eY,eE,eZ⟩:=qC zN tS dc.row tR;have dL:(b.nodes++[⟨4,b.step,-1,-1⟩,⟨5,b.step,-1,-1⟩]:List Nd).length=b.nodes.length+2:=tR;have fL:((b.nodes++[⟨4,b.step,-1,-1⟩,⟨5,b.step,-1,-1⟩]:List Nd).flatMap xV++sp).length=(b.nodes.length+2)*4+sp.length:=by rw[ztv,zQ zN,dL]
  have hset:=zds (b.nodes++[⟨4,b.step,-1,-1⟩,⟨5,b.step,-1,-1⟩]) b.nodes.length tO sp (b.nodes.length+1:Nat) false;refine Gs 7 O (zqK O tg34 (dc.blk.cells 0 _ O) (Ga 3 O tO (zqG O O (zpH tR34 ts65 O O O tX) (Gs 1 O (zpT O (M.store ts3 O O O O eE tD) ?_)))));rintro w5 ⟨_,eF,eG⟩;have e5:0+(b.nodes.length:Int).toNat*4+2=b.nodes.length*4+(if false then 3 else 2):=tR;have dM:Blk w5 g (((b.nodes++[⟨4,b.step,-1,-1⟩,⟨5,b.step,-1,-1⟩]:List Nd).flatMap xV++sp).set (0+(b.nodes.length:Int).toNat*4+2) (.int .i64 (b.nodes.length+1:Nat))) 65:=eF;rw[e5,hset]at dM;have eH:KT bty W0 w4 w5:=zsn eE zor (dc.far _ rfl) ⟨‹_›,eF,eG⟩;have dQ:=d5.trans eH;have dl:=eH.blk dh tS;have fb:=dc.ne rfl
  have d6:BdS W0 B w5 { nodes:=jx (b.nodes++[⟨4,b.step,-1,-1⟩,⟨5,b.step,-1,-1⟩]) (b.nodes.length+1:Nat) (b.nodes.length,false),step:=b.step+1 } (.slice (some ⟨g,0,none⟩) (b.nodes++[⟨4,b.step,-1,-1⟩,⟨5,b.step,-1,-1⟩]:List Nd).length cap):=by
   refine⟨eG.blk dc.blk (fun h=>fb h.symm),?_,dc.low,dc.far⟩;have h:=ja zN (k:=(b.nodes++[⟨4,b.step,-1,-1⟩,⟨5,b.step,-1,-1⟩]:List Nd).length) dM tD JR eX eY;rw[zwc JR]at h;dsimp only;rw[yC];exact h
  refine Gs 4 O (Dw (fun q=>Blk q c [.int .i64 s.act,.int .i64 s.cost,.int .i64 s.var,.int .i64 s.n,.int .i64 s.term.op,.int .i64 s.term.n,v1,v2,v3,v4] 72) [] (fun w6 du _=>?_));have da:=du.blk dl (fun h=>h);have d7:=d6.ext du;have dH:=dQ.ext' du;refine Ds [0,1] tK O (WD.take 2 O tK O O O da (fun w1 dG=>R.load tg24 O (dG.cells 7 _ O)) (Da [3,4,5,10] tK O tO (WD.call 6 O tK O O O (F.call (vs:=[_,_]) call126 O) (zdr B (b.nodes.length+1) w6) ?_)));rintro x w7 ⟨hx,ed⟩;have db:=ed.blk da (fun h=>h);have dR:=d7.ext ed;have d8:=dH.ext' ed;refine⟨fun _=>db,?_⟩;have dm:=hx;obtain⟨bb,ab,rfl,_,_⟩:=hx;refine WD.mem 7 O tK O O O (M.buildSlice (cs:=[.func (.func 166) #[] #[.pointer (some ⟨bb,0,none⟩),.pointer (some ⟨ab,0,none⟩)]]) [(0,_)] tR198 ts120 tz120 tS O tK) ?_;rintro _ w8 ⟨g8,rfl,fM,fN,fe,dV⟩;have dN:=dV.blk db (fun h=>h);have fg:=dR.ext dV;have ee:=d8.ext' dV;refine⟨fun _=>dN,?_⟩;have fm:=Hung.lit fe (dm.ext dV);have fp:=ee.size;refine WD.call 8 O tK O O O (F.call (vs:=[_,_,_]) call125 O) (h1 W0 B _ _ D w8 _ _ _ (ee.sl zg ht hD) hD fg fm (by intro e he;rw[ztF.1 he];dsimp only;rw[yC,dL];omega) tO dt.1.2 (by dsimp only;rw[yC,dL];omega) tD) ?_;rintro r9 w9 ⟨⟨nv9,eI⟩,dW,fO,eJ⟩;have ef:=eJ.blk dN tS;have fq:=ee.trans eJ;refine⟨fun _=>ef,?_⟩;have eh:=xH s.thn dt.1.2 { nodes:=jx (b.nodes++[⟨4,b.step,-1,-1⟩,⟨5,b.step,-1,-1⟩]) (b.nodes.length+1:Nat) (b.nodes.length,false),step:=b.step+1 } [(b.nodes.length+1,false)] (by intro e he;rw[ztF.1 he];dsimp only;rw[yC,dL];omega);generalize hX:listB s.thn { nodes:=jx (b.nodes++[⟨4,b.step,-1,-1⟩,⟨5,b.step,-1,-1⟩]) (b.nodes.length+1:Nat) (b.nodes.length,false),step:=b.step+1 } [(b.nodes.length+1,false)]=X at eI dW eh ⊢;obtain⟨a9,c9,rfl,_⟩:=dW.form;have dw:=eh.len;have ei:=eh.lt;have ft:=dW.len;dsimp only at dw;rw[yC,dL]at dw;refine Ds [9] tK O (G.done tK ?_ _);refine Gs 1 O (zpf (σ:=Unit) (fun u=>[(0,.pointer (some ⟨B,0,none⟩)),(2,.int .i64 b.nodes.length)]) (fun u=>fun w'=>(∃ nv',BdS W0 B w' { X.1 with nodes:=zt X.1.nodes (b.nodes.length+1:Nat) X.2 } nv')/\KT bty W0 w w') ?_ ?_)
  .
   refine Gs 1 O (G.loop (σ:=Nat) (fun j=>[(0,.pointer (some ⟨B,0,none⟩)),(2,.int .i64 b.nodes.length),(71,.slice a9 X.2.length c9),(72,.int .i64 X.2.length),(73,.int .i64 j)]) (fun j=>fun w'=>j<=X.2.length/\(∃ nv',BdS W0 B w' { X.1 with nodes:=zt X.1.nodes (b.nodes.length+1:Nat) (X.2.take j) } nv')/\Hung B w' (.slice a9 X.2.length c9) X.2/\KT bty W0 w w') (fun j=>X.2.length - j) 0 j2 ⟨ztC _,⟨_,eI⟩,dW,fq⟩ ?_);rintro j y1 ⟨hj,⟨nvj,ej⟩,eK,eL⟩;refine Gs 6 O (zp3 O (fun eT=>?_) (fun fP=>?_))
   .
    obtain⟨e,he⟩:∃ e,X.2[j]?=some e:=iA;obtain⟨ge,x,rfl,fu,fw⟩:=eK.at he;obtain⟨ie,pe⟩:=e;obtain⟨f,fcs,rfl,fy,dO⟩:=zfL W0 B ie pe (b.nodes.length+1:Nat) _ _ x y1 ej fw (by dsimp only;rw[zU];exact ei _ (zto he));refine Ga 7 O tO (zqK O isAgg120 (fu 0 _ O) (Ga 7 O tO (zpO O fy dO ?_)));rintro _ y2 ⟨dK,eM⟩;refine Ga 7 O tO (G.back (j+1) j2 ⟨tO,⟨nvj,by rw[kB he];exact dK⟩,eK.kt eM,eL.trans eM⟩ tO)
   have fA:j=X.2.length:=tO;subst fA;rw[zts]at ej;refine Gs 4 O (zph () j2 ⟨⟨nvj,ej⟩,eL⟩)
  rintro u y3 ⟨⟨nv3',yb3⟩,yE3⟩;refine Ga 6 O tO (G.call O call204 (zgx B (b.nodes.length+1) y3) ?_);rintro x y4 ⟨hx,yk4⟩;have dm:=hx;obtain⟨bb,ab,rfl,_,_⟩:=hx;refine G.mem O O (M.buildSlice (cs:=[.func (.func 215) #[] #[.pointer (some ⟨bb,0,none⟩),.pointer (some ⟨ab,0,none⟩)]]) [(0,_)] tR198 ts120 tz120 tS O tK) ?_;rintro _ y5 ⟨g5,rfl,yg5,ys5,yB5,yk5⟩;have:=yE3.size;have:=yk4.size;refine Gs 6 O (zpk results165 O ⟨_,rfl,⟨nv3',(yb3.ext yk4).ext yk5⟩,Hung.lit yB5 (dm.ext yk5),⟨g5,rfl,tO⟩,(yE3.ext' yk4).ext' yk5⟩)
 rw[ztx a4];rw[ztx a4]at hw;rw[ztx a3,ztx a4]at dt;refine Gs 6 O (G.call O call203 (zgy W0 B 2 b nv w1 hb tO tO) ?_);rintro _ w2 ⟨⟨nv2,hY⟩,dx⟩;have dE:=dY.trans dx;refine Gs 7 O (zqK O tg3 (hY.blk.cells 1 (.int .i64 b.step) O) (Ga 3 O tO (zpT O (M.store ts3 O O O O hY.blk tR) ?_)));rintro w3 dZ;obtain⟨dg,dz⟩:=hY.bump dZ;have dF:=dE.trans dz;refine Gs 6 O (G.call O call126 (zdr B b.nodes.length w3) ?_);rintro x w4 ⟨hx,dB⟩;have dm:=hx;obtain⟨bb,ab,rfl,_,_⟩:=hx;refine G.mem O O (M.buildSlice (cs:=[.func (.func 166) #[] #[.pointer (some ⟨bb,0,none⟩),.pointer (some ⟨ab,0,none⟩)]]) [(0,_)] tR198 ts120 tz120 tS O tK) ?_;rintro _ w5 ⟨g5,rfl,fQ,fR,fB,dC⟩;have:=dF.size;have:=dB.size;refine Gs 4 O (zpk results165 O ⟨_,rfl,⟨nv2,(dg.ext dB).ext dC⟩,Hung.lit fB (dm.ext dC),⟨g5,rfl,tO⟩,(dF.ext' dB).ext' dC⟩)
theorem zbI {x:α} (h:l[i]?=some x):l.drop i=x::l.drop (i+1):=by
 obtain⟨h1,h2⟩:=ztB.1 h;rw[<- h2,List.getElem_cons_drop]
theorem zmM (l:List St):ziw l:=by
 induction l using zr3 with
 | h l ih =>
 intro W0 B v vin D w b nv ins hl hD hb hu dF hW hp hn d8;obtain⟨av,cv,rfl⟩:=hl.form;have d9:=hl.max;refine zqS func125 O ntmps125 O (Gs 14 O (G.loop (σ:=Nat × Value) (fun⟨i,vi⟩=>[(0,.pointer (some ⟨B,0,none⟩)),(2,vi),(12,.slice av l.length cv),(13,.int .i64 l.length),(14,.int .i64 i)]) (fun⟨i,vi⟩=>fun w'=>i<=l.length/\(∃ b' nv' ins',BdS W0 B w' b' nv'/\Hung B w' vi ins'/\(∀ e ∈ ins',e.1<b'.nodes.length)/\listB (l.drop i) b' ins'=listB l b ins/\b'.nodes.length=b.nodes.length+widL (l.take i)/\b'.step=b.step+ssize (l.take i))/\(vi.ownBlock=vin.ownBlock\/∃ g,vi.ownBlock=some g/\w.heap.size<=g)/\KT bty W0 w w') (fun⟨i,vi⟩=>l.length - i) (0,vin) j2 ⟨ztC _,⟨b,nv,ins,hb,hu,dF,rfl,by simp[widL],by simp[ssize]⟩,.inl rfl,KT.refl⟩ ?_));rintro⟨i,vi⟩ w1 ⟨hi,⟨b1,nv1,ins1,db,dc,dt,dm,eb,ec⟩,dG,du⟩;refine Gs 6 O (zp3 O (fun dH=>?_) (fun ed=>?_))
 .
  obtain⟨s,he⟩:∃ x,l[i]?=some x:=iA;have hm:=zto he;have dI:=du.sl zg hl hD
  obtain⟨bq,oq,cq,dJ,ee,ef,dK,dB⟩:∃ b o cs,av=some ⟨b,o,none⟩/\D b/\cs.length=10/\Cells w1 b (o+i*10) cs/\RSt D w1 s cs:=by
   obtain⟨ao',cap',h1,h2,h3,h4⟩:=dI
   grind
  have hY:=dB.one;have dg:=yV hp s hm;have eh:=zao he;have ei:=qs he;obtain⟨v1,v2,v3,v4,rfl,q1,q2,q3,q4⟩:=dB.get;refine Gs 6 O (zqG O O (zpH tR24 ts72 O O dJ tO) (zqM O isAgg72 ts72 dK O (G.mem O O (M.alloc (cs:=_) tz72 O) ?_)));rintro _ w2 ⟨c,rfl,hc,ej,dw,dL⟩;refine zpT O (zpU ts72 O O O O hY dw tR) ?_;rintro w3 ⟨_,dM,dN⟩;have da:Ext w1 w3:=dL.trans dN (fun q hq h=>tO);have dO:=du.ext' da;replace db:=db.ext da;replace dc:=dc.ext da;obtain⟨an,cn,rfl,ek,_⟩:=xv db.row;obtain⟨a1,c1,rfl,_⟩:=dc.form;have dQ:=dc.len;have dx:Blk w3 c [.int .i64 s.act,.int .i64 s.cost,.int .i64 s.var,.int .i64 s.n,.int .i64 s.term.op,.int .i64 s.term.n,v1,v2,v3,v4] 72:=dM;refine Gs 7 O (zqK O tg34 (db.blk.cells 0 _ O) (Gs 13 O (G.loop (σ:=Nat) (fun j=>[(0,.pointer (some ⟨B,0,none⟩)),(8,.pointer (some ⟨c,0,none⟩)),(9,.int .i64 b1.nodes.length),(12,.slice av l.length cv),(13,.int .i64 l.length),(14,.int .i64 i),(23,.slice a1 ins1.length c1),(24,.int .i64 ins1.length),(25,.int .i64 j)]) (fun j=>fun w'=>j<=ins1.length/\BdS W0 B w' { b1 with nodes:=zt b1.nodes b1.nodes.length (ins1.take j) } (.slice an b1.nodes.length cn)/\Hung B w' (.slice a1 ins1.length c1) ins1/\Blk w' c [.int .i64 s.act,.int .i64 s.cost,.int .i64 s.var,.int .i64 s.n,.int .i64 s.term.op,.int .i64 s.term.n,v1,v2,v3,v4] 72/\KT bty W0 w3 w') (fun j=>ins1.length - j) 0 j2 ⟨ztC _,db,dc,dx,KT.refl⟩ ?_)));rintro j y1 ⟨hj,dy,dC,dD,dh⟩;have dE:=dO.trans dh;refine Gs 6 O (zp3 O (fun em=>?_) (fun er=>?_))
  .
   obtain⟨e,dz⟩:∃ e,ins1[j]?=some e:=iA;obtain⟨ge,x,rfl,dR,dS⟩:=dC.at dz;obtain⟨ie,pe⟩:=e;obtain⟨f,fcs,rfl,dT,dl⟩:=zfL W0 B ie pe (b1.nodes.length:Nat) _ _ x y1 dy dS (by dsimp only;rw[zU];exact dt _ (zto dz));refine Ga 7 O tO (zqK O isAgg120 (dR 0 _ O) (Gs 6 O (zpO O dT dl ?_)));rintro _ y2 ⟨dU,dA⟩;refine Ga 7 O tO (G.back (j+1) j2 ⟨tO,by rw[kB dz];exact dU,dC.kt dA,dA.blk dD tS,dh.trans dA⟩ tO)
  have dV:j=ins1.length:=tO;subst dV;rw[zts]at dy;have dW:=dE.size;have hY:=znT s (ih s hm).1 (ih s hm).2 W0 B _ D y1 { b1 with nodes:=zt b1.nodes b1.nodes.length ins1 } _ (RSt.put (s:=s) (dh.sl yN (q1.ext yN da) hD) (dh.sl zg (q2.ext zg da) hD) (dh.sl zg (q3.ext zg da) hD) (dh.sl zc (q4.ext zc da) hD)) hD dy tO dg (by dsimp only;rw[zU];omega) tD;have dr:=zew s dg (fun b ins h=>xH s.thn (by rw[s.plainB_eq,zu8,zu8]at dg;exact dg.1.2) b ins h) (fun b ins h=>xH s.els (by rw[s.plainB_eq,zu8,zu8]at dg;exact dg.2) b ins h) { b1 with nodes:=zt b1.nodes b1.nodes.length ins1 };simp only[zU]at hY dr;refine Gs 7 O (zqM O isAgg72 ts72 dD.cells O (Gs 1 O (G.call O call165 hY ?_)));rintro r y2 ⟨⟨nv2,dX⟩,dY,⟨g2,dZ,d5⟩,d6⟩;refine Ga 8 O tO (G.back (i+1,r) j2 ⟨tO,⟨_,nv2,_,dX,dY,dr.lt,?_,?_,?_⟩,.inr ⟨g2,dZ,tO⟩,dE.trans d6⟩ tD)
  . rw[<- dm,zbI he,zap]
  . have:=dr.len;dsimp only at this;rw[zU]at this;rw[zbE he];omega
  have:=dr.step;dsimp only at this;rw[zam he];omega
 have d7:i=l.length:=tO;subst d7;rw[zuP,listB]at dm;refine Gs 12 O (zpk results125 O ⟨_,rfl,⟨nv1,by rw[<- dm];exact db⟩,by rw[<- dm];exact dc,dG,du⟩)
end Go.Proofs.YtckdhgbepmpgiaaGreat
namespace Go.GL
theorem zx [Decidable p] (h:p):some (Value.bool true)=some (Value.bool (decide p)):=by rw[ztz h]
theorem zy [Decidable p] (h:¬ p):some (Value.bool false)=some (Value.bool (decide p)):=by rw[ztA h]
theorem zk {q:Prop} [Decidable q] [Decidable p] (h:q ↔ p):some (Value.bool (decide q))=some (Value.bool (decide p)):=by rw[ztP.2 h]
theorem xr {a b:Bool} (h:a=b):some (Value.bool a)=some (Value.bool b):=by rw[h]
end Go.GL
namespace Go.Proofs.YtckdhgbepmpgiaaGreat
open Go.GL
theorem zey (hc:Calls prog f args w (Ret fun r w'=>r=v/\Ext w w')):Calls prog f args w (Ret fun r w'=>∃ _:Unit,r=v/\Hands H [] [] w w'):=by
 refine hc.mono ?_;rintro _ w' ⟨_,rfl,rfl,hk⟩;exact⟨_,rfl,(),rfl,hk.mono fun q _ h=>h.elim,fun x hx=>tD,List.Pairwise.nil⟩
theorem zcM (l:List St):∀ (v:Value) (D:Nat->Prop) (w:World),SlR 10 RSt D w v l->ssize l<=1000000->Calls prog 56 #[v] w (Ret fun r w'=>r=.int .i64 (ssize l)/\Ext w w'):=by
 induction l using zr3 with
 | h l ih =>
 intro v D w hl dG;have dr:=zan l;obtain⟨ao,cap,rfl⟩:=hl.form;refine zqQ func56 O ntmps56 O (V.inn (Vs 17 O (zrM (σ:=Nat) [0] [] [] O (fun e i=>(3,.int .i64 (ssize (l.take i)))::(4,.int .i64 i)::e) (fun e i=>e) (fun i=>i<=l.length) (fun i=>l.length - i) 0 j2 j3 j1 j1 j1 (ztC _) ?_)));rintro i hi;refine Vs 9 O (zp4 O (fun dH=>?_) (fun dI=>?_))
 .
  refine zrI 1000 0 i tO hl O O O (fun s dJ dK dL hY da db dh=>?_);obtain⟨dt,du,dw,dx,rfl,dl,dc,dg,dm⟩:=dh.get;obtain⟨dy,dz,rfl⟩:=dl.form;obtain⟨dA,dB,rfl⟩:=dc.form;obtain⟨dC,dD,rfl⟩:=dg.form;obtain⟨dE,dF,rfl⟩:=dm.form;have dM:=qs hY;have dN:=s.size_eq;refine Vs 4 O (Vw [1000] [] O (Vb [0,1,2,3,9,10] 0 tK O O O tO ?_));refine zrh 4 1000 tR24 ts72 O tK O db tO _ rfl O (Vd [5,6] 0 tK O O O ?_);refine zrh 11 1000 tR24 ts72 O tK O db tO _ rfl O (Vd [12,13] 0 tK O O O (zrt 7 0 call56 O tK O O (fun w hI=>(ih s da).1 _ D w JK tO) (Vb [8] 0 tK O O O tO (zrt 14 0 call56 O tK O O (fun w hI=>(ih s da).2 _ D w il tO) (Vb [15,16] 0 tK O O O tO (VD.done tK (Va 7 O tO (V.back (i+1) (Sub.cons (qg O (by rw[zam hY];omega)) YB) j3 tO tO 0 O O))))))))
 obtain rfl:i=l.length:=tO;refine Vs 12 O (zrz 0 results56 O O tD)
theorem jF (t:Tm):∀ (cs:List Value) (D:Nat->Prop) (w:World),RTm D w t cs->t.nodes<=1000000->Calls prog 105 #[.agg cs.toArray] w (Ret fun r w'=>r=.int .i64 t.nodes/\Ext w w'):=by
 induction t using zr1 with
 | h t ih =>
 intro cs D w ht dt;have dh:=zbC t.kids;have du:=t.nodes_eq;obtain⟨v,rfl,hk⟩:=ht.get;obtain⟨ao,cap,rfl⟩:=hk.form;refine zqQ func105 O ntmps105 O (V.inn (Vs 2 O (V.box 1 O O (fun b1=>?_))));refine Vs 15 O (zrM (σ:=Nat) [1] [1] [1] O (fun e i=>(3,.int .i64 (1+tnodes (t.kids.take i):Nat))::(4,.int .i64 i)::e) (fun e i=>e) (fun i=>i<=t.kids.length) (fun i=>t.kids.length - i) 0 j2 j3 j1 j1 j1 (ztC _) ?_);rintro i hi;refine Vs 10 O (zp4 O (fun dw=>?_) (fun dx=>?_))
 .
  refine Vs 9 O (zrI 1000 0 i tO hk O O O (fun k dy dz dA hY db dc dg=>?_));obtain⟨dl,rfl,da⟩:=dg.get;obtain⟨dm,dr,rfl⟩:=da.form;refine zrg 1000 tR68 ts70 O dc tO _ rfl O ?_;have dB:=xZ hY;refine Vs 1 O (zrs call105 O (fun w hI=>ih k db _ D w (RTm.put iT) tO) (Va 10 O tO (V.back (i+1) (Sub.cons (qg O (by rw[kw hY];omega)) YB) j3 tO tO 0 O O)))
 obtain rfl:i=t.kids.length:=tO;refine Vs 12 O (zrz 0 results105 O O tD)
theorem jG (t:Tm):∀ (cs:List Value) (D:Nat->Prop) (w:World),RTm D w t cs->t.nodes<=1000000->Calls prog 106 #[.agg cs.toArray] w (Ret fun r w'=>r=.int .i64 t.depth/\Ext w w'):=by
 induction t using zr1 with
 | h t ih =>
 intro cs D w ht dt;have dh:=zbC t.kids;have du:=t.nodes_eq;obtain⟨v,rfl,hk⟩:=ht.get;obtain⟨ao,cap,rfl⟩:=hk.form;refine zqQ func106 O ntmps106 O (V.inn (Vs 2 O (V.box 1 O O (fun b1=>?_))));refine Vs 15 O (zrM (σ:=Nat) [1] [1] [1] O (fun e i=>(3,.int .i64 (tdepth (t.kids.take i):Nat))::(4,.int .i64 i)::e) (fun e i=>e) (fun i=>i<=t.kids.length) (fun i=>t.kids.length - i) 0 j2 j3 j1 j1 j1 (ztC _) ?_);rintro i hi;refine Vs 10 O (zp4 O (fun dw=>?_) (fun dx=>?_))
 .
  refine Vs 9 O (zrI 1000 0 i tO hk O O O (fun k dy dz dA hY db dc dg=>?_));obtain⟨dl,rfl,da⟩:=dg.get;obtain⟨dm,dr,rfl⟩:=da.form;refine zrg 1000 tR68 ts70 O dc tO _ rfl O ?_;have dB:=xZ hY;have dC:=zby hY;refine Vs 1 O (zrs call106 O (fun w hI=>ih k db _ D w (RTm.put iT) tO) (Vs 10 O (zp4 O (fun dD=>?_) (fun dE=>?_))))
  . refine Va 11 O tO (V.back (i+1) Uf j3 tO tO 0 O O)
  refine Va 8 O tO (V.back (i+1) Uf j3 tO tO 0 O O)
 obtain rfl:i=t.kids.length:=tO;have dF:=zaM t.kids;rw[zts];refine Va 13 O tO (zrz 0 results106 O O (by rw[t.depth_eq];rfl))
theorem zfM (l:List St):∀ (v:Value) (D:Nat->Prop) (w:World),SlR 10 RSt D w v l->snodes l<=1000000->Calls prog 104 #[v] w (Ret fun r w'=>r=.int .i64 (snodes l)/\Ext w w'):=by
 induction l using zr3 with
 | h l ih =>
 intro v D w hl dG;have dr:=zdp l;obtain⟨ao,cap,rfl⟩:=hl.form;refine zqQ func104 O ntmps104 O (V.inn (Vs 17 O (zrM (σ:=Nat) [0] [] [] O (fun e i=>(3,.int .i64 (snodes (l.take i)))::(4,.int .i64 i)::e) (fun e i=>e) (fun i=>i<=l.length) (fun i=>l.length - i) 0 j2 j3 j1 j1 j1 (ztC _) ?_)));rintro i hi;refine Vs 9 O (zp4 O (fun dH=>?_) (fun dI=>?_))
 .
  refine zrI 1000 0 i tO hl O O O (fun s dJ dK dL da db hY dl=>?_);obtain⟨dt,du,dw,dx,rfl,dc,dg,dh,dm⟩:=dl.get;obtain⟨dy,dz,rfl⟩:=dc.form;obtain⟨dA,dB,rfl⟩:=dg.form;obtain⟨dC,dD,rfl⟩:=dh.form;obtain⟨dE,dF,rfl⟩:=dm.form;have dM:=qF da;have dN:=s.nodes_eq;refine Vs 4 O (Vw [1000] [] O (Vb [0,1,2,3,9,10,16,17] 0 tK O O O tO ?_));refine zrh 4 1000 tR24 ts72 O tK O hY tO _ rfl O (Vd [5,6] 0 tK O O O ?_);refine zrh 11 1000 tR24 ts72 O tK O hY tO _ rfl O (Vd [12,13] 0 tK O O O ?_);refine zrh 18 1000 tR24 ts72 O tK O hY tO _ rfl O (Vd [19,20] 0 tK O O O (zrt 7 0 call105 O tK O O (fun w hI=>jF s.term _ D w (RTm.put JK) tO) (Vb [8] 0 tK O O O tO (zrt 14 0 call104 O tK O O (fun w hI=>(ih s db).1 _ D w il tO) (Vb [15] 0 tK O O O tO (zrt 21 0 call104 O tK O O (fun w hI=>(ih s db).2 _ D w im tO) ?_))))));refine Vb [22,23] 0 tK O O O tO (VD.done tK (Va 7 O tO (V.back (i+1) (Sub.cons (qg O (by rw[zbz da];omega)) YB) j3 tO tO 0 O O)))
 obtain rfl:i=l.length:=tO;refine Vs 12 O (zrz 0 results104 O O tD)
theorem zbJ (l:List St):∀ (v:Value) (D:Nat->Prop) (w:World),SlR 10 RSt D w v l->snodes l<=1000000->Calls prog 107 #[v] w (Ret fun r w'=>r=.int .i64 (sdepth l)/\Ext w w'):=by
 induction l using zr3 with
 | h l ih =>
 intro v D w hl dG;have dr:=zdp l;obtain⟨ao,cap,rfl⟩:=hl.form;refine zqQ func107 O ntmps107 O (V.inn (Vs 17 O (zrM (σ:=Nat) [0] [] [] O (fun e i=>(3,.int .i64 (sdepth (l.take i)))::(4,.int .i64 i)::e) (fun e i=>e) (fun i=>i<=l.length) (fun i=>l.length - i) 0 j2 j3 j1 j1 j1 (ztC _) ?_)));rintro i hi;refine Vs 9 O (zp4 O (fun dH=>?_) (fun dI=>?_))
 .
  refine zrI 1000 0 i tO hl O O O (fun s dJ dK dL hY da db dh=>?_);obtain⟨dt,du,dw,dx,rfl,dl,dc,dg,dm⟩:=dh.get;obtain⟨dy,dz,rfl⟩:=dl.form;obtain⟨dA,dB,rfl⟩:=dc.form;obtain⟨dC,dD,rfl⟩:=dg.form;obtain⟨dE,dF,rfl⟩:=dm.form;have dM:=qF hY;have dN:=s.nodes_eq;have dO:=zbA hY;have dQ:=s.depth_eq;have dR:=jE s.thn;have dS:=jE s.els;refine Vs 8 O ?_;refine zrg 1000 tR24 ts72 O db tO _ rfl O (Vs 2 O (zrs call107 O (fun w hI=>(ih s da).1 _ D w JK tO) (Va 8 O tO ?_)));refine zrg 1000 tR24 ts72 O db tO _ rfl O (Vs 2 O (zrs call107 O (fun w hI=>(ih s da).2 _ D w il tO) (Va 12 O tO (zp4 O (fun h1=>?_) (fun h1=>?_)))))
  .
   refine Vs 12 O (zp4 O (fun h2=>?_) (fun h2=>?_))
   . refine Va 11 O tO (V.back (i+1) Uf j3 tO tO 0 O O)
   refine Va 8 O tO (V.back (i+1) Uf j3 tO tO 0 O O)
  refine Vs 9 O (zp4 O (fun h2=>?_) (fun h2=>?_))
  . refine Va 11 O tO (V.back (i+1) Uf j3 tO tO 0 O O)
  refine Va 8 O tO (V.back (i+1) Uf j3 tO tO 0 O O)
 obtain rfl:i=l.length:=tO;refine Vs 12 O (zrz 0 results107 O O tD)
theorem zbK (l:List St):∀ (v:Value) (D:Nat->Prop) (w:World),SlR 10 RSt D w v l->snodes l<=1000000->Calls prog 108 #[v] w (Ret fun r w'=>r=.bool (stdeep l)/\Ext w w'):=by
 induction l using zr3 with
 | h l ih =>
 intro v D w hl dJ;have dt:=zdp l;obtain⟨ao,cap,rfl⟩:=hl.form;refine zqQ func108 O ntmps108 O (V.inn (Vs 12 O (zrM (σ:=Nat) [0] [] [] O (fun e i=>(3,.int .i64 i)::e) (fun e i=>e) (fun i=>i<=l.length/\stdeep (l.take i)=false) (fun i=>l.length - i) 0 j2 j3 j1 j1 j1 y8 ?_)));rintro i ⟨hi,dr⟩;refine Vs 9 O (zp4 O (fun dK=>?_) (fun dL=>?_))
 .
  refine zrI 1000 0 i tO hl O O O (fun s dM dN dO hY db da dl=>?_);obtain⟨du,dw,dx,dy,rfl,dc,dg,dh,dm⟩:=dl.get;obtain⟨dz,dA,rfl⟩:=dc.form;obtain⟨dB,dC,rfl⟩:=dg.form;obtain⟨dD,dE,rfl⟩:=dh.form;obtain⟨dF,dG,rfl⟩:=dm.form;have dQ:=qF hY;have dR:=s.nodes_eq;have dH:=zbB hY;rw[dr,zud,s.tdeep_eq]at dH
  have dI:(decide (12<s.term.depth) || stdeep s.thn || stdeep s.els)=true->stdeep l=true:=by
   intro h;rw[yP hY,jf];simp only[stdeep,s.tdeep_eq,h,Bool.true_or,Bool.or_true]
  refine Vs 8 O ?_;refine zrg 1000 tR24 ts72 O da tO _ rfl O (Vs 2 O (zrs call106 O (fun w hI=>jG s.term _ D w (RTm.put JK) tO) (Vs 2 O (V.sp 17 O (fun h1=>?_) (fun h1=>?_)))))
  . refine Vs 29 O (zrz 0 tr108 O O tD)
  have dS:decide (12<s.term.depth)=false:=ztA tO;refine Vs 2 O ?_;refine zrg 1000 tR24 ts72 O da tO _ rfl O (Vs 2 O (zrs call108 O (fun w hI=>(ih s db).1 _ D w il tO) (Vs 2 O (zqB 25 O (fun h2=>?_) (fun h2=>?_)))))
  . refine Vs 21 O (zrz 0 tr108 O O tD)
  refine Vs 2 O ?_;refine zrg 1000 tR24 ts72 O da tO _ rfl O (Vs 2 O (zrs call108 O (fun w hI=>(ih s db).2 _ D w im tO) (Vs 3 O (V.bool O (fun h3=>?_) (fun h3=>?_)))))
  . refine Vs 11 O (zrz 0 tr108 O O tD)
  refine Va 8 O tO (V.back (i+1) j2 j3 Jn tO 0 O O)
 obtain rfl:i=l.length:=tO;rw[zts]at dr;refine Vs 11 O (zrz 0 tr108 O O tD)
theorem zV (a b:Int) (w:World):Calls prog 113 #[.int .i64 a,.int .i64 b] w (Ret fun r w'=>r=.int .i64 (max a b)/\Ext w w'):=by
 refine zqR func113 O ntmps113 O (V.inn (Vs 13 O (zp4 O (fun k1_=>?_) (fun k1_=>?_))))
 . refine Vs 8 O (zrz 0 results113 O O tD)
 refine Vs 9 O (zrz 0 results113 O O tD)
theorem zX (a b:Int) (w:World):Calls prog 114 #[.int .i64 a,.int .i64 b] w (Ret fun r w'=>r=.int .i64 (min a b)/\Ext w w'):=by
 refine zqR func114 O ntmps114 O (V.inn (Vs 13 O (zp4 O (fun k1_=>?_) (fun k1_=>?_))))
 . refine Vs 8 O (zrz 0 results114 O O tD)
 refine Vs 9 O (zrz 0 results114 O O tD)
def yA (n low high:Int):Int:=if n<low then low else if high<n then high else n
theorem zaq (a b c:Int) (w:World):Calls prog 140 #[.int .i64 a,.int .i64 b,.int .i64 c] w (Ret fun r w'=>r=.int .i64 (yA a b c)/\Ext w w'):=by
 refine zqS func140 O ntmps140 O (V.inn (Vs 13 O (zp4 O (fun k1_=>?_) (fun k1_=>?_))))
 . refine Vs 8 O UA
 refine Vs 10 O (zp4 O (fun k2_=>?_) (fun k2_=>?_))
 . refine Vs 8 O UA
 refine Vs 9 O UA
theorem yv (p:Bool) (w:World):Calls prog 172 #[.bool p] w (Ret fun r w'=>r=.int .i64 (if p then 1 else 0)/\Ext w w'):=by
 refine zqQ func172 O ntmps172 O (V.inn (Vs 11 O (V.bool O (fun k1_=>?_) (fun k1_=>?_))))
 . refine Vs 7 O (zrz 0 results172 O O tD)
 refine Vs 8 O (zrz 0 results172 O O tD)
theorem zY (p:Bool) (w:World):Calls prog 131 #[.bool p] w (Ret fun r w'=>r=.int .i64 (if p then 1 else 0)/\Ext w w'):=by
 refine zqQ func131 O ntmps131 O (V.inn (Vs 11 O (V.bool O (fun k1_=>?_) (fun k1_=>?_))))
 . refine Vs 7 O (zrz 0 results131 O O tD)
 refine Vs 8 O (zrz 0 results131 O O tD)
theorem zbL (a:Int) (w:World) (ha:-4611686018427387904<=a):Calls prog 182 #[.int .i64 a] w (Ret fun r w'=>r=.int .i64 (if a<0 then -a else a)/\Ext w w'):=by
 refine zqQ func182 O ntmps182 O (V.inn (Vs 12 O (zp4 O (fun k1_=>?_) (fun k1_=>?_))))
 . refine Va 9 O tO (zrz 0 results182 O O tD)
 refine Vs 9 O (zrz 0 results182 O O tD)
theorem zez (a b c:Int) (w:World) (hY:b<=c):Calls prog 132 #[.int .i64 a,.int .i64 b,.int .i64 c] w (Ret fun r w'=>r=.int .i64 (yA a b c)/\Ext w w'):=by
 refine zqS func132 O ntmps132 O (V.inn (Vs 16 O (zrz 0 results132 O O (by congr 1;unfold yA;grind))))
theorem zbM (t:Tm):∀ (cs:List Value) (D:Nat->Prop) (w:World) (left:Int),RTm D w t cs -> -100000<=left->left<=1000000->Calls prog 58 #[.agg cs.toArray,.int .i64 left] w (Ret fun r w'=>(∃ m:Int,r=.int .i64 m/\((t.nodes:Int)<=left->m=left - t.nodes)/\(¬ (t.nodes:Int)<=left->m<0/\min left 0 - 1<=m))/\Ext w w'):=by
 induction t using zr1 with
 | h t ih =>
 intro cs D w left ht h1 h2;have dy:=t.nodes_eq;obtain⟨v,rfl,hk⟩:=ht.get;have dz:=hk.max;obtain⟨ao,cap,rfl⟩:=hk.form;refine zqR func58 O ntmps58 O (V.inn (Vs 2 O (V.box 2 O O (fun b2=>?_))));refine Va 17 O tO (zrM (σ:=Nat × Int) [2] [2] [2] O (fun e ⟨i,x⟩=>(1,.int .i64 x)::(5,.int .i64 i)::e) (fun e ⟨i,x⟩=>e) (fun⟨i,x⟩=>i<=t.kids.length/\((1+tnodes (t.kids.take i):Nat)<=left->x=left - (1+tnodes (t.kids.take i):Nat))/\(¬ ((1+tnodes (t.kids.take i):Nat):Int)<=left->x<0/\min left 0 - 1<=x)) (fun⟨i,x⟩=>t.kids.length - i) (0,left - 1) j2 j3 j1 j1 j1 ⟨ztC _,fun _=>rfl,fun h=>by simp[tnodes]at h;omega⟩ ?_);rintro⟨i,x⟩ ⟨hi,hy,hn⟩
 have hY:(i=t.kids.length\/x<0)->((t.nodes:Int)<=left->x=left - t.nodes)/\(¬ (t.nodes:Int)<=left->x<0/\min left 0 - 1<=x):=by
  intro h
  have dA:tnodes (t.kids.take i)<=tnodes t.kids:=by
   have:=jd (t.kids.take i) (t.kids.drop i);rw[zwa]at this;omega
  rcases h with h | h
  .
   rw[h,zts]at hy hn;constructor
   . intro h3;rw[hy tO];omega
   intro h3;exact hn tO
  constructor
  . intro h3;have:=hy tO;omega
  intro h3;by_cases h4:((1+tnodes (t.kids.take i):Nat):Int)<=left
  . have:=hy h4;omega
  exact hn h4
 refine Vs 9 O (V.sp 13 O (fun dl=>?_) (fun dl=>?_))
 .
  refine Vs 5 O (zp4 O (fun dm=>?_) (fun dm=>?_))
  .
   refine Vs 8 O (zrI 1000 0 i tO hk O O O (fun k dB dC dD db dc dg dh=>?_));obtain⟨dr,rfl,da⟩:=dh.get;obtain⟨dt,du,rfl⟩:=da.form;refine zrg 1000 tR68 ts70 O dg tO _ rfl O ?_;have dE:=kw db;refine Vs 2 O (zru call58 O (fun w hI=>ih k dc _ D w x (RTm.put iT) tO tO) ?_);rintro r w1 w2 dF dw ⟨m,rfl,dG,dH⟩ dx
   have g1:((1+tnodes (t.kids.take (i+1)):Nat):Int)<=left->m=left - (1+tnodes (t.kids.take (i+1)):Nat):=fun h3=>by
    omega
   have g2:¬ ((1+tnodes (t.kids.take (i+1)):Nat):Int)<=left->m<0/\min left 0 - 1<=m:=fun h3=>by
    omega
   refine Va 9 O tO (V.back ⟨i+1,m⟩ j2 j3 ⟨tO,g1,g2⟩ tD 1 O O)
  refine Vs 12 O (zpl results58 O (fun w hI=>⟨_,rfl,⟨x,rfl,hY (.inr tO)⟩,hI.k0⟩))
 refine Vs 18 O (zpl results58 O (fun w hI=>⟨_,rfl,⟨x,rfl,hY (.inl tO)⟩,hI.k0⟩))
theorem zeA (l:List St):∀ (v:Value) (D:Nat->Prop) (w:World) (left:Int),SlR 10 RSt D w v l -> -10<=left->left<=1000000->Calls prog 57 #[v,.int .i64 left] w (Ret fun r w'=>(∃ m:Int,r=.int .i64 m/\((sbulk l:Int)<=left->m=left - sbulk l)/\(¬ (sbulk l:Int)<=left->m<0/\min left (-1)<=m))/\Ext w w'):=by
 induction l using zr3 with
 | h l ih =>
 intro v D w left hl h1 h2;have dQ:=hl.max;obtain⟨ao,cap,rfl⟩:=hl.form;refine zqR func57 O ntmps57 O (V.inn (Vs 12 O (zrM (σ:=Nat × Int) [0] [] [] O (fun e ⟨i,x⟩=>(1,.int .i64 x)::(5,.int .i64 i)::e) (fun e ⟨i,x⟩=>e) (fun⟨i,x⟩=>i<=l.length/\((sbulk (l.take i):Int)<=left->x=left - sbulk (l.take i))/\(¬ (sbulk (l.take i):Int)<=left->x<0/\min left (-1)<=x)) (fun⟨i,x⟩=>l.length - i) (0,left) j2 j3 j1 j1 j1 ⟨ztC _,fun _=>by simp[sbulk],fun h=>by simp[sbulk]at h;omega⟩ ?_)));rintro⟨i,x⟩ ⟨hi,hy,hn⟩
 have da:(i=l.length\/x<0)->((sbulk l:Int)<=left->x=left - sbulk l)/\(¬ (sbulk l:Int)<=left->x<0/\min left (-1)<=x):=by
  intro h
  have dR:sbulk (l.take i)<=sbulk l:=by
   have:=qE (l.take i) (l.drop i);rw[zwa]at this;omega
  rcases h with h | h
  .
   rw[h,zts]at hy hn;exact⟨hy,hn⟩
  constructor
  . intro h3;have:=hy tO;omega
  intro h3;by_cases h4:(sbulk (l.take i):Int)<=left
  . have:=hy h4;omega
  exact hn h4
 refine Vs 8 O (V.sp 10 O (fun dy=>?_) (fun dy=>?_))
 .
  refine Vs 5 O (zp4 O (fun dz=>?_) (fun dz=>?_))
  .
   refine zrI 1000 0 i tO hl O O O (fun s dS dT dU db dc hY dt=>?_);obtain⟨dA,dB,dC,dD,rfl,dg,dh,dl,dm⟩:=dt.get;obtain⟨dE,dF,rfl⟩:=dg.form;obtain⟨dG,dH,rfl⟩:=dh.form;obtain⟨dI,dJ,rfl⟩:=dl.form;obtain⟨dK,dL,rfl⟩:=dm.form;have dV:=zhq db;have dW:=zfI db;have dX:=s.bulk_eq
   have dM:(sbulk (l.take i):Int)<=left/\x=left - sbulk (l.take i):=by
    omega
   have dY:=dm.max;refine Vs 8 O ?_;refine zrg 1000 tR24 ts72 O hY tO _ rfl O (Va 4 O tO (zru call58 O (fun w hI=>zbM s.term _ D w (x - 1) (RTm.put il) tO tO) ?_));rintro r w1 w2 du dr ⟨m1,rfl,dN,dZ⟩ dO;refine Vs 9 O ?_;refine zrg 1000 tR24 ts72 O hY tO _ rfl O (Vs 6 O (zp4 O (fun hb=>?_) (fun hb=>?_)))
   .
    have g1:(sbulk l:Int)<=left -> -1=left - (sbulk l:Int):=fun h3=>by
     omega
    refine Vs 12 O (zpl results57 O (fun w hI=>⟨_,rfl,⟨-1,rfl,g1,fun h3=>tO⟩,hI.k1⟩))
   have h5:(s.term.nodes:Int)<=x - 1:=by
    omega
   have hm:=dN h5;refine Vs 2 O (Vw [1000] [] O (Vd [0,1,5,6,10,11,12] 0 tK O O O ?_));refine zrh 2 1000 tR24 ts72 O tK O hY tO _ rfl O (Vd [3,4] 0 tK O O O ?_);refine zrh 7 1000 tR24 ts72 O tK O hY tO _ rfl O (Vd [8,9] 0 tK O O O ?_);refine zrh 13 1000 tR24 ts72 O tK O hY tO _ rfl O (Vb [14,15,16,17] 0 tK O O O tO (zrv 18 0 call57 O tK O O (fun w hI=>(ih s dc).1 _ D w (m1 - s.bounds.length) (Tr1 hI.k1 dh) tO tO) ?_));rintro r w1 w2 du dr ⟨m2,rfl,h6,h7⟩ dw;refine zrv 19 1 call57 O tK O O (fun w hI=>(ih s dc).2 _ D w m2 (Tr1 hI.k2 dl) tO tO) ?_;rintro r w1 w2 du dr ⟨m3,rfl,h8,h9⟩ dx
   have g1:(sbulk (l.take (i+1)):Int)<=left->m3=left - sbulk (l.take (i+1)):=fun h3=>by
    omega
   have g2:¬ (sbulk (l.take (i+1)):Int)<=left->m3<0/\min left (-1)<=m3:=fun h3=>by
    omega
   refine Vd [20] 2 tK O O O (VD.done tK (Va 7 O tO (V.back ⟨i+1,m3⟩ j2 j3 ⟨tO,g1,g2⟩ tD 3 O O)))
  refine Vs 12 O (zpl results57 O (fun w hI=>⟨_,rfl,⟨x,rfl,da (.inr tO)⟩,hI.k0⟩))
 refine Vs 18 O (zpl results57 O (fun w hI=>⟨_,rfl,⟨x,rfl,da (.inl tO)⟩,hI.k0⟩))
theorem zkJ (f:Fl) (a b:Int) (v1 v2 v3:Value) (D:Nat->Prop) (w:World) (h:RFl D w f v1 v2 v3) (hb:0<=b/\b<=1000000) (ha:a<=1000):Calls prog 28 #[.agg #[v1,v2,v3],.int .i64 a,.int .i64 b] w (Ret fun r w'=>r=.bool (decide ((f.vars.length:Int)<=a/\(f.hatches.length:Int)<=a/\((sbulk f.body+zz f.hatches:Nat):Int)<=b))/\Ext w w'):=by
 obtain⟨hv,hh,dh⟩:=h;obtain⟨a1,n1,rfl⟩:=hv.form;obtain⟨a2,n2,rfl⟩:=hh.form;obtain⟨a3,n3,rfl⟩:=dh.form;have dz:=hh.max;refine zqS func28 O ntmps28 O (V.inn (Vs 2 O (V.box 3 O O (fun b3=>?_))));refine Vs 12 O (V.sp 15 O (fun h1=>?_) (fun h1=>?_))
 . refine Vs 16 O (zpl results28 O iR)
 refine Vs 8 O (zp4 O (fun h2=>?_) (fun h2=>?_))
 . refine Vs 7 O (zpl results28 O iR)
 refine Vs 7 O (zru call57 O (fun w hI=>zeA f.body _ D w b im tO tO) ?_);rintro r w1 w2 dm da ⟨m,rfl,dA,dB⟩ dr;refine Vs 13 O (zrM (σ:=Nat × Int) [27,28] [] [] O (fun e ⟨i,x⟩=>(7,.int .i64 x)::(29,.int .i64 i)::e) (fun e ⟨i,x⟩=>e) (fun⟨i,x⟩=>i<=f.hatches.length/\(((sbulk f.body+zz (f.hatches.take i):Nat):Int)<=b->x=b - (sbulk f.body+zz (f.hatches.take i):Nat))/\(¬ ((sbulk f.body+zz (f.hatches.take i):Nat):Int)<=b->x<0 /\ -1 - (i:Int)<=x)) (fun⟨i,x⟩=>f.hatches.length - i) (0,m) j2 j3 j1 j1 j1 ⟨ztC _,fun h=>by simp[zz]at h ⊢;omega,fun h=>by simp[zz]at h ⊢;omega⟩ ?_);rintro⟨i,x⟩ ⟨hi,hy,hn⟩;refine Vs 6 O (zp4 O (fun dt=>?_) (fun dt=>?_))
 .
  refine Vs 6 O (zrI 1000 1 i tO hh O O O (fun e dC dD dE db du dc dg=>?_));obtain⟨dw,rfl,hY⟩:=dg;obtain⟨dx,dy,rfl⟩:=hY.form;refine zrg 1000 tR23 ts109 O dc tO _ rfl O ?_;have dF:=kz db;refine Vs 1 O (V.alloc 9 tz109 O O (fun b9=>?_));refine Vs 7 O (zru call58 O (fun w hI=>zbM e.term _ D w x (RTm.put (Tr1 hI.k1 hY)) tO tO) ?_);rintro r w1 w2 dm da ⟨m2,rfl,h6,h7⟩ dl
  have g1:((sbulk f.body+zz (f.hatches.take (i+1)):Nat):Int)<=b->m2=b - (sbulk f.body+zz (f.hatches.take (i+1)):Nat):=fun h3=>by
   omega
  have g2:¬ ((sbulk f.body+zz (f.hatches.take (i+1)):Nat):Int)<=b->m2<0 /\ -1 - ((i+1:Nat):Int)<=m2:=fun h3=>by
   omega
  refine Va 8 O tO (V.back ⟨i+1,m2⟩ j2 j3 ⟨tO,g1,g2⟩ tD 1 O O)
 obtain rfl:i=f.hatches.length:=tO;rw[zts]at hy hn
 have g:decide (x ≥ 0)=decide ((f.vars.length:Int)<=a/\(f.hatches.length:Int)<=a/\((sbulk f.body+zz f.hatches:Nat):Int)<=b):=by
  grind
 refine Vs 13 O (zpl results28 O (fun w hI=>⟨_,rfl,tD,hI.k1⟩))
def zR (op:Int):Int:=if op=0\/op=24 then 0 else if op=6\/op=7 then 1 else if 8<=op/\op<=22 then 2 else if op=23 then 3 else if op=25 then -2 else -1
theorem zhr (op:Int) (w:World):Calls prog 150 #[.int .i64 op] w (Ret fun r w'=>r=.int .i64 (zR op)/\Ext w w'):=by
 refine zqQ func150 O ntmps150 O (V.inn (Vs 19 O (zrN (σ:=Unit) [3] [] [] O (fun e u=>(4,.bool (decide (op=0\/op=24)))::e) (fun e u=>e) (fun u=>True) j1 j1 ?_ ?_)))
 .
  refine zp4 O (fun k1_=>?_) (fun k1_=>?_)
  . refine Vs 1 O (zpi () Ub j3 trivial 0 O O)
  refine Vs 4 O (zpi () Ub j3 trivial 0 O O)
 rintro u _;refine Vs 1 O (zp4 O (fun h4=>?_) (fun h4=>?_))
 . refine Vs 8 O i9
 refine Vs 7 O (zrN (σ:=Unit) [3] [] [] O (fun e u=>(7,.bool (decide (op=6\/op=7)))::e) (fun e u=>e) (fun u=>True) j1 j1 ?_ ?_)
 .
  refine zp4 O (fun k1_=>?_) (fun k1_=>?_)
  . refine Vs 1 O (zpi () Ub j3 trivial 0 O O)
  refine Vs 4 O (zpi () Ub j3 trivial 0 O O)
 rintro u _;refine Vs 1 O (zp4 O (fun h7=>?_) (fun h7=>?_))
 . refine Vs 8 O i9
 refine Vs 7 O (zrN (σ:=Unit) [3] [] [] O (fun e u=>(10,.bool (decide (8<=op/\op<=22)))::e) (fun e u=>e) (fun u=>True) j1 j1 ?_ ?_)
 .
  refine zp4 O (fun k1_=>?_) (fun k1_=>?_)
  . refine Vs 1 O (zpi () Ub j3 trivial 0 O O)
  refine Vs 6 O (zp4 O (fun k2_=>?_) (fun k2_=>?_))
  . refine Vs 1 O (zpi () Ub j3 trivial 0 O O)
  refine Vs 6 O (zp4 O (fun k3_=>?_) (fun k3_=>?_))
  . refine Vs 1 O (zpi () Ub j3 trivial 0 O O)
  refine Vs 6 O (zp4 O (fun k4_=>?_) (fun k4_=>?_))
  . refine Vs 1 O (zpi () Ub j3 trivial 0 O O)
  refine Vs 6 O (zp4 O (fun k5_=>?_) (fun k5_=>?_))
  . refine Vs 1 O (zpi () Ub j3 trivial 0 O O)
  refine Vs 6 O (zp4 O (fun k6_=>?_) (fun k6_=>?_))
  . refine Vs 1 O (zpi () Ub j3 trivial 0 O O)
  refine Vs 6 O (zp4 O (fun k7_=>?_) (fun k7_=>?_))
  . refine Vs 1 O (zpi () Ub j3 trivial 0 O O)
  refine Vs 6 O (zp4 O (fun k8_=>?_) (fun k8_=>?_))
  . refine Vs 1 O (zpi () Ub j3 trivial 0 O O)
  refine Vs 6 O (zp4 O (fun k9_=>?_) (fun k9_=>?_))
  . refine Vs 1 O (zpi () Ub j3 trivial 0 O O)
  refine Vs 6 O (zp4 O (fun k10_=>?_) (fun k10_=>?_))
  . refine Vs 1 O (zpi () Ub j3 trivial 0 O O)
  refine Vs 6 O (zp4 O (fun k11_=>?_) (fun k11_=>?_))
  . refine Vs 1 O (zpi () Ub j3 trivial 0 O O)
  refine Vs 6 O (zp4 O (fun k12_=>?_) (fun k12_=>?_))
  . refine Vs 1 O (zpi () Ub j3 trivial 0 O O)
  refine Vs 6 O (zp4 O (fun k13_=>?_) (fun k13_=>?_))
  . refine Vs 1 O (zpi () Ub j3 trivial 0 O O)
  refine Vs 6 O (zp4 O (fun k14_=>?_) (fun k14_=>?_))
  . refine Vs 1 O (zpi () Ub j3 trivial 0 O O)
  refine Vs 4 O (zpi () Ub j3 trivial 0 O O)
 rintro u _;refine Vs 1 O (zp4 O (fun hY=>?_) (fun hY=>?_))
 . refine Vs 8 O i9
 refine Vs 6 O (zp4 O (fun k1_=>?_) (fun k1_=>?_))
 . refine Vs 8 O i9
 refine Vs 6 O (zp4 O (fun k2_=>?_) (fun k2_=>?_))
 . refine Vs 8 O i9
 refine Vs 9 O i9
theorem zfN (op:Int) (w:World):Calls prog 128 #[.int .i64 op] w (Ret fun r w'=>(∃ a b:Int,r=.tuple #[.int .i64 a,.int .i64 b]/\(a<0 ↔ zR op=-1)/\(0<=zR op->a=zR op/\b=zR op)/\(zR op=-2->a=2/\b=33))/\Ext w w'):=by
 refine zqQ func128 O ntmps128 O (V.inn (Vs 13 O (V.sp 7 O (fun k1_=>?_) (fun k1_=>?_))))
 . refine Vs 16 O iE
 refine Vs 6 O (zp4 O (fun k2_=>?_) (fun k2_=>?_))
 . refine Vs 9 O iE
 refine Vs 5 O (V.sp 14 O (fun k3_=>?_) (fun k3_=>?_))
 . refine Vs 16 O iE
 refine Vs 6 O (zp4 O (fun k4_=>?_) (fun k4_=>?_))
 . refine Vs 9 O iE
 refine Vs 5 O (V.sp 21 O (fun k5_=>?_) (fun k5_=>?_))
 .
  refine Vs 6 O (zp4 O (fun k6_=>?_) (fun k6_=>?_))
  . refine Vs 9 O iE
  refine Vs 7 O (zp4 O (fun k7_=>?_) (fun k7_=>?_))
  . refine Vs 9 O iE
  refine Vs 7 O (zp4 O (fun k8_=>?_) (fun k8_=>?_))
  . refine Vs 9 O iE
  refine Vs 10 O iE
 refine Vs 14 O (zp4 O (fun k6_=>?_) (fun k6_=>?_))
 . refine Vs 9 O (zpo tr128 O O (fun w hI=>⟨_,rfl,⟨_,_,rfl,tO⟩,hI.k0⟩))
 refine Vs 7 O (zp4 O (fun k7_=>?_) (fun k7_=>?_))
 . refine Vs 9 O (zpo tr128 O O (fun w hI=>⟨_,rfl,⟨_,_,rfl,tO⟩,hI.k0⟩))
 refine Vs 10 O iE
@[irreducible] def kC (n:Int):Bool:=decide (97<=n/\n<=122)
@[irreducible] def qG (n:Int):Bool:=decide (48<=n/\n<=57\/n=46\/n=95)
def okB (i:Nat) (n:Int):Bool:=kC n || (decide (i ≠ 0)&&qG n)
@[irreducible] def zcy (s:ByteArray):Bool:=decide (1<=s.size/\s.size<=40/\∀ (i:Nat) (h:i<s.size),okB i (s[i].toNat:Int)=true)
theorem zaN (s:ByteArray) (w:World):Calls prog 61 #[.string s] w (Ret fun r w'=>r=.bool (zcy s)/\Ext w w'):=by
 refine zqQ func61 O ntmps61 O (V.inn (Vs 12 O (V.sp 10 O (fun h1=>?_) (fun h1=>?_))))
 . refine Vs 14 O (zrz 0 tr61 O O Jp)
 refine Vs 6 O (zp4 O (fun h2=>?_) (fun h2=>?_))
 . refine Vs 7 O (zrz 0 tr61 O O Jp)
 refine Vs 9 O (zrM (σ:=Nat) [0] [] [] O (fun e i=>(3,.int .i64 i)::e) (fun e i=>e) (fun i=>i<=s.size/\(∀ (j:Nat) (h:j<s.size),j<i->okB j (s[j].toNat:Int)=true)) (fun i=>s.size - i) 0 j2 j3 j1 j1 j1 ⟨ztC _,fun j _ h=>absurd h (zwz _)⟩ ?_);rintro i ⟨hi,da⟩;refine Vs 9 O (zp4 O (fun dc=>?_) (fun dc=>?_))
 .
  have db:i<s.size:=tO;refine Vs 8 O (zqH O (fun w hI=>zqm tu9 O O i O db) ?_);obtain⟨n,hn⟩:∃ n:Int,n=(s[i].toNat:Int):=Jm;rw[<- hn];refine Vs 4 O (zrN (σ:=Unit) [0,3,4] [] [] O (fun e u=>(5,.bool (kC n))::e) (fun e u=>e) (fun u=>True) j1 j1 ?_ ?_)
  .
   refine Vs 4 O (zqB 26 O (fun k1_=>?_) (fun k1_=>?_))
   . refine Vs 5 O (zpi () (Sub.cons JV j2) j3 trivial 0 O O)
   refine Vs 5 O (zpi () (Sub.cons JV j2) j3 trivial 0 O O)
  rintro u _;refine Vs 2 O (zrN (σ:=Unit) [0,3,5] [] [] O (fun e u=>(6,.bool (qG n))::e) (fun e u=>e) (fun u=>True) j1 j1 ?_ ?_)
  .
   refine Vs 4 O (zqB 32 O (fun k1_=>?_) (fun k1_=>?_))
   .
    refine Vs 4 O (zqB 36 O (fun k2_=>?_) (fun k2_=>?_))
    . refine Vs 9 O (zpi () (Sub.cons JC j2) j3 trivial 0 O O)
    refine Vs 4 O (zqB 40 O (fun k3_=>?_) (fun k3_=>?_))
    . refine Vs 5 O (zpi () (Sub.cons JC j2) j3 trivial 0 O O)
    refine Vs 5 O (zpi () (Sub.cons JC j2) j3 trivial 0 O O)
   refine Vs 8 O (zqB 40 O (fun k2_=>?_) (fun k2_=>?_))
   . refine Vs 5 O (zpi () (Sub.cons JC j2) j3 trivial 0 O O)
   refine Vs 5 O (zpi () (Sub.cons JC j2) j3 trivial 0 O O)
  rintro u _
  have hY:okB i n=true->∀ (j:Nat) (h:j<s.size),j<i+1->okB j (s[j].toNat:Int)=true:=by
   grind
  have dg:okB i n=false->zcy s=false:=by
   intro h0;rw[zcy,ztA]
   grind
  refine Vs 2 O (zrN (σ:=Unit) [0,3] [] [] O (fun e u=>(53,.bool (!okB i n))::e) (fun e u=>e) (fun u=>True) j1 j1 ?_ ?_)
  .
   refine Vs 2 O (zqH O (fun w hI=>zqi O j6) (Vs 1 O (zqB 46 O (fun k1_=>?_) (fun k1_=>?_))))
   .
    refine Vs 3 O (zqB 49 O (fun k2_=>?_) (fun k2_=>?_))
    . refine Vs 5 O (zpi () (Sub.cons J7 j2) j3 trivial 0 O O)
    refine Vs 1 O (zqH O (fun w hI=>zqi O j6) (Vs 3 O (zpi () (Sub.cons J7 j2) j3 trivial 0 O O)))
   refine Vs 8 O (zpi () (Sub.cons J7 j2) j3 trivial 0 O O)
  rintro u _;refine Vs 1 O (V.bool O (fun ho=>?_) (fun ho=>?_))
  . refine Vs 11 O (zrz 0 tr61 O O tD)
  refine Va 8 O tO (V.back (i+1) j2 j3 ⟨tO,hY tD⟩ tO 0 O O)
 refine Vs 11 O (zrz 0 tr61 O O (by rw[zcy,ztz ⟨tO,tO,fun j h=>da j h tO⟩]))
theorem kS (s:ByteArray) (w:World):Calls prog 157 #[.string s] w (Ret fun r w'=>r=.bool (zcy s)/\Ext w w'):=by
 refine zqQ func157 O ntmps157 O (V.inn (Vs 11 O (V.sp 8 O (fun h1=>?_) (fun h1=>?_))))
 .
  have dc:s.size=0:=by
   have:=congrArg List.length h1;rw[ByteArray.toList_eq]at this;simpa using this
  refine Vs 14 O (zrz 0 tr157 O O Jp)
 have dc:s.size ≠ 0:=by
  intro h;apply h1;have:s.toList.length=0:=by rw[ByteArray.toList_eq];simpa using h
  rw[zuT this,ByteArray.toList_eq]
 refine Vs 6 O (zp4 O (fun h2=>?_) (fun h2=>?_))
 . refine Vs 7 O (zrz 0 tr157 O O Jp)
 refine Vs 11 O (zrM (σ:=Nat) [0,14] [] [] O (fun e i=>(15,.int .i64 i)::e) (fun e i=>e) (fun i=>i<=s.size/\(∀ (j:Nat) (h:j<s.size),j<i->okB j (s[j].toNat:Int)=true)) (fun i=>s.size - i) 0 j2 j3 j1 j1 j1 ⟨ztC _,fun j _ h=>absurd h (zwz _)⟩ ?_);rintro i ⟨hi,da⟩;refine Vs 6 O (zp4 O (fun dg=>?_) (fun dg=>?_))
 .
  have db:i<s.size:=tO;refine Vs 14 O (zqH O (fun w hI=>zqm tu9 O O i O db) ?_);obtain⟨n,hn⟩:∃ n:Int,n=(s[i].toNat:Int):=Jm;rw[<- hn];refine Vs 4 O (zrN (σ:=Unit) [0,3,4,14,15] [] [] O (fun e u=>(5,.bool (kC n))::e) (fun e u=>e) (fun u=>True) j1 j1 ?_ ?_)
  .
   refine Vs 4 O (zqB 23 O (fun k1_=>?_) (fun k1_=>?_))
   . refine Vs 5 O (zpi () (Sub.cons JV j2) j3 trivial 0 O O)
   refine Vs 5 O (zpi () (Sub.cons JV j2) j3 trivial 0 O O)
  rintro u _
  have hY:okB i n=true->∀ (j:Nat) (h:j<s.size),j<i+1->okB j (s[j].toNat:Int)=true:=by
   grind
  have dh:okB i n=false->zcy s=false:=by
   intro h0;rw[zcy,ztA]
   grind
  refine Vs 2 O (zrN (σ:=Unit) [0,14,15] [] [] O (fun e u=>(48,.bool (!okB i n))::e) (fun e u=>e) (fun u=>True) j1 j1 ?_ ?_)
  .
   refine Vs 2 O (zqH O (fun w hI=>zqi O j6) (Vs 1 O (zqB 29 O (fun k1_=>?_) (fun k1_=>?_))))
   .
    refine Vs 3 O (zqB 32 O (fun k2_=>?_) (fun k2_=>?_))
    . refine Vs 17 O (zpi () Uw j3 trivial 0 O O)
    refine Vs 3 O (zqB 35 O (fun k3_=>?_) (fun k3_=>?_))
    .
     refine Vs 8 O (zqB 43 O (fun k4_=>?_) (fun k4_=>?_))
     . refine Vs 6 O (zpi () Uw j3 trivial 0 O O)
     refine Vs 6 O (zpi () Uw j3 trivial 0 O O)
    refine Vs 4 O (zqB 39 O (fun k4_=>?_) (fun k4_=>?_))
    .
     refine Vs 4 O (zqB 43 O (fun k5_=>?_) (fun k5_=>?_))
     . refine Vs 6 O (zpi () Uw j3 trivial 0 O O)
     refine Vs 6 O (zpi () Uw j3 trivial 0 O O)
    refine Vs 10 O (zpi () Uw j3 trivial 0 O O)
   refine Vs 20 O (zpi () Uw j3 trivial 0 O O)
  rintro u _;refine Vs 1 O (V.bool O (fun ho=>?_) (fun ho=>?_))
  . refine Vs 11 O (zrz 0 tr157 O O tD)
  refine Va 7 O tO (V.back (i+1) j2 j3 ⟨tO,hY tD⟩ tO 0 O O)
 refine Vs 11 O (zrz 0 tr157 O O (by rw[zcy,ztz ⟨tO,tO,fun j h=>da j h tO⟩]))
@[irreducible] def zb9 (low high:Int):Bool:=decide (low<=high /\ -1048576<=low/\high<=1048576)
theorem kT (a b:Int) (w:World):Calls prog 62 #[.int .i64 a,.int .i64 b] w (Ret fun r w'=>r=.bool (zb9 a b)/\Ext w w'):=by
 refine zqR func62 O ntmps62 O (V.inn (Vs 11 O (V.sp 8 O (fun k1_=>?_) (fun k1_=>?_))))
 .
  refine Vs 4 O (V.sp 12 O (fun k2_=>?_) (fun k2_=>?_))
  . refine Vs 7 O (zrz 0 results62 O O y9)
  refine Vs 7 O (zrz 0 results62 O O y9)
 refine Vs 11 O (zrz 0 results62 O O y9)
theorem qN (a b:Int) (w:World):Calls prog 88 #[.int .i64 a,.int .i64 b] w (Ret fun r w'=>r=.bool (zb9 a b)/\Ext w w'):=by
 refine zqR func88 O ntmps88 O (V.inn (Vs 11 O (V.sp 8 O (fun k1_=>?_) (fun k1_=>?_))))
 .
  refine Vs 4 O (V.sp 12 O (fun k2_=>?_) (fun k2_=>?_))
  . refine Vs 7 O (zrz 0 results88 O O y9)
  refine Vs 7 O (zrz 0 results88 O O y9)
 refine Vs 11 O (zrz 0 results88 O O y9)
def zZ (op:Int) (n:Nat):Bool:=if 0<=zR op then decide ((n:Int)=zR op) else decide (zR op=-2/\2<=n/\n<=33)
def xy (vs:List Vr) (n:Int):Bool:=match vs[n.toNat]? with
 | some v=>decide (v.kind=0)
 | none=>false
def zT (vs:List Vr) (inputs:Bool) (op n:Int):Bool:=if op=24 then decide (0<=n/\n<vs.length)&&!(inputs&&xy vs n) else decide (op=0\/n=0)
mutual
def zA (vs:List Vr) (inputs:Bool):Tm->Bool
 | .mk op n ks=>zZ op ks.length&&zT vs inputs op n&&formedL vs inputs ks
def formedL (vs:List Vr) (inputs:Bool):List Tm->Bool
 | []=>true
 | k::r=>zA vs inputs k&&formedL vs inputs r
end
section
variable {vs:List Vr}
theorem yW (t:Tm):zA vs inp t=(zZ t.op t.kids.length&&zT vs inp t.op t.n&&formedL vs inp t.kids):=by cases t;rw[zA];rfl
theorem ko (a b:List Tm):formedL vs inp (a++b)=(formedL vs inp a&&formedL vs inp b):=by
 induction a with
 | nil=>simp[formedL]
 | cons x r ih=>simp[formedL,ih,Bool.and_assoc]
theorem zaO {l:List Tm} {x:Tm} (h:l[i]?=some x):formedL vs inp (l.take (i+1))=(formedL vs inp (l.take i)&&zA vs inp x):=by rw[ze h,ko];simp[formedL]
theorem ya {l:List Tm} {x:Tm} (h:formedL vs inp l=true) (hx:x ∈ l):zA vs inp x=true:=by
 obtain⟨i,hi⟩:=zvH.1 hx;rw[yP hi,ko]at h;simp[formedL]at h;exact h.2.1
theorem zbN {l:List Tm} {x:Tm} (hx:x ∈ l) (h:zA vs inp x=false):formedL vs inp l=false:=by
 cases h1:formedL vs inp l with
 | false=>rfl
 | true=>rw[ya h1 hx]at h;cases h
theorem zcN {op:Int} {n:Nat} (h:zR op=-1\/(0<=zR op/\(n:Int) ≠ zR op)\/(zR op=-2/\(n<2\/33<n))):zZ op n=false:=by
 unfold zZ;split
 . exact ztA tO
 exact ztA tO
theorem jU (op:Int):zR op=0\/zR op=1\/zR op=2\/zR op=3\/zR op=-2\/zR op=-1:=by
 unfold zR;(repeat' split);all_goals omega
end
theorem zeB (vs:List Vr) (inp:Bool) (vv:Value) (Dv:Nat->Prop) (t:Tm):∀ (cs:List Value) (D:Nat->Prop) (w:World),SlR 5 RVr Dv w vv vs->RTm D w t cs->Calls prog 110 #[vv,.agg cs.toArray,.bool inp] w (Ret fun r w'=>r=.bool (zA vs inp t)/\Ext w w'):=by
 induction t using zr1 with
 | h t ih =>
 intro cs D w dg ht;obtain⟨v,rfl,hk⟩:=ht.get;have dC:=hk.max;obtain⟨ao,cap,rfl⟩:=hk.form;obtain⟨av,nv,rfl⟩:=dg.form;have hY:=yW (vs:=vs) (inp:=inp) t;have dD:=jU t.op;refine zqS func110 O ntmps110 O (V.inn (Vs 2 O (V.box 4 O O (fun b4=>?_))));refine Vs 7 O (zrs call150 O (fun w hI=>zhr t.op w) (Vs 5 O (zrN (σ:=Unit) [0,2,4] [4] [4] O (fun e u=>(40,.bool (!zZ t.op t.kids.length))::e) (fun e u=>e) (fun u=>True) j1 j1 ?_ ?_)))
 .
  refine Vs 4 O (zqB 14 O (fun k1_=>?_) (fun k1_=>?_))
  . refine Vs 27 O (zpi () Ul j3 trivial 0 O O)
  refine Vs 3 O (zqB 17 O (fun k2_=>?_) (fun k2_=>?_))
  .
   refine Vs 8 O (zqB 25 O (fun k3_=>?_) (fun k3_=>?_))
   . refine Vs 16 O (zpi () Ul j3 trivial 0 O O)
   refine Vs 3 O (zqB 28 O (fun k4_=>?_) (fun k4_=>?_))
   .
    refine Vs 5 O (zqB 33 O (fun k5_=>?_) (fun k5_=>?_))
    . refine Vs 8 O (zpi () Ul j3 trivial 0 O O)
    refine Vs 8 O (zpi () Ul j3 trivial 0 O O)
   refine Vs 13 O (zpi () Ul j3 trivial 0 O O)
  refine Vs 11 O (zqB 28 O (fun k3_=>?_) (fun k3_=>?_))
  .
   refine Vs 5 O (zqB 33 O (fun k4_=>?_) (fun k4_=>?_))
   . refine Vs 8 O (zpi () Ul j3 trivial 0 O O)
   refine Vs 8 O (zpi () Ul j3 trivial 0 O O)
  refine Vs 13 O (zpi () Ul j3 trivial 0 O O)
 rintro u _;refine Vs 1 O (V.bool O (fun hq=>?_) (fun hq=>?_))
 . refine Vs 7 O (zrz 0 tr110 O O tD)
 rw[show zZ t.op t.kids.length=true by grind,zui]at hY;refine Vs 10 O (zrN (σ:=Unit) [0,2,4] [4] [4] O (fun e u=>e) (fun e u=>e) (fun u=>zT vs inp t.op t.n=true) j1 j1 ?_ ?_)
 .
  refine V.bool O (fun k1_=>?_) (fun k1_=>?_)
  .
   refine Vs 6 O (zqB 47 O (fun k2_=>?_) (fun k2_=>?_))
   . refine Vs 29 O (zrz 0 tr110 O O iL)
   refine Vs 7 O (zqB 54 O (fun k3_=>?_) (fun k3_=>?_))
   . refine Vs 22 O (zrz 0 tr110 O O iL)
   refine Vs 2 O (zqB 56 O (fun k4_=>?_) (fun k4_=>?_))
   .
    refine Vs 3 O ?_;have hv:0<=t.n/\t.n<vs.length:=tD;refine zrI 1000 0 t.n.toNat tO dg O O O (fun x dE dF dG dh dw dl dm=>?_);obtain rfl:=dm;refine zrg 1000 tR22 ts142 O dl tO (t.n.toNat) tO O ?_;have dH:xy vs t.n=decide (x.kind=0):=by unfold xy;rw[dh]
    refine Vs 7 O (V.bool O (fun k5_=>?_) (fun k5_=>?_))
    . refine Vs 8 O (zrz 0 tr110 O O iL)
    refine Vs 1 O (zpi () j2 j3 Je 0 O O)
   refine Vs 13 O (zpi () j2 j3 Je 0 O O)
  refine Vs 6 O (zqB 69 O (fun k2_=>?_) (fun k2_=>?_))
  .
   refine Vs 6 O (V.bool O (fun k3_=>?_) (fun k3_=>?_))
   . refine Vs 8 O (zrz 0 tr110 O O iL)
   refine Vs 1 O (zpi () j2 j3 Je 0 O O)
  refine Vs 8 O (zpi () j2 j3 Je 0 O O)
 rintro u dx;rw[dx,zui]at hY;refine Vs 8 O (zrM (σ:=Nat) [0,2,4] [4] [4] O (fun e i=>(8,.int .i64 i)::e) (fun e i=>e) (fun i=>i<=t.kids.length/\formedL vs inp (t.kids.take i)=true) (fun i=>t.kids.length - i) 0 j2 j3 j1 j1 j1 ⟨ztC _,by simp[formedL]⟩ ?_);rintro i ⟨hi,da⟩;refine Vs 10 O (zp4 O (fun dy=>?_) (fun dy=>?_))
 .
  refine Vs 10 O (zrI 2000 0 i tO hk O O O (fun k dI dJ dK dr db dt du=>?_));obtain⟨dz,rfl,dc⟩:=du.get;obtain⟨dA,dB,rfl⟩:=dc.form;refine zrg 2000 tR68 ts70 O dt tO _ rfl O (Vs 2 O (zrs call110 O (fun w hI=>ih k db _ D w il (RTm.put JK)) (zqH O (fun w hI=>zqi O j6) (Vs 2 O (V.bool O (fun hb=>?_) (fun hb=>?_))))))
  . refine Vs 11 O (zrz 0 tr110 O O (by rw[hY,zbN db tD]))
  refine Va 8 O tO (V.back (i+1) j2 j3 ⟨tO,by rw[zaO dr,da];simpa using hb⟩ tO 0 O O)
 obtain rfl:i=t.kids.length:=tO;rw[zts]at da;refine Vs 11 O (zrz 0 tr110 O O tD)
theorem kU (vs:List Vr) (inp:Bool) (vv:Value) (Dv:Nat->Prop) (t:Tm):∀ (cs:List Value) (D:Nat->Prop) (w:World),SlR 5 RVr Dv w vv vs->RTm D w t cs->Calls prog 87 #[vv,.agg cs.toArray,.bool inp] w (Ret fun r w'=>r=.bool (zA vs inp t)/\Ext w w'):=by
 induction t using zr1 with
 | h t ih =>
 intro cs D w dg ht;have dw:=ht.one;obtain⟨v,rfl,hk⟩:=ht.get;have dF:=hk.max;obtain⟨ao,cap,rfl⟩:=hk.form;obtain⟨av,nv,rfl⟩:=dg.form;have hY:=yW (vs:=vs) (inp:=inp) t;have dG:=jU t.op;refine zqS func87 O ntmps87 O (V.inn (Vs 2 O (V.box 4 O O (fun b4=>?_))));refine Vs 7 O (zru call128 O (fun w hI=>zfN t.op w) ?_);rintro r w1 w2 dH dx ⟨la,mo,rfl,dI,dJ,dK⟩ dy;refine Vs 9 O (zrN (σ:=Unit) [0,2,4] [4] [4] O (fun e u=>(32,.bool (!zZ t.op t.kids.length))::e) (fun e u=>e) (fun u=>True) j1 j1 ?_ ?_)
 .
  refine Vs 4 O (zqB 19 O (fun k1_=>?_) (fun k1_=>?_))
  . refine Vs 14 O (zpi () Ul j3 trivial 0 O O)
  refine Vs 7 O (zqB 26 O (fun k2_=>?_) (fun k2_=>?_))
  . refine Vs 7 O (zpi () Ul j3 trivial 0 O O)
  refine Vs 7 O (zpi () Ul j3 trivial 0 O O)
 rintro u _;refine Vs 1 O (V.bool O (fun hq=>?_) (fun hq=>?_))
 . refine Vs 7 O (zrz 1 tr87 O O tD)
 rw[show zZ t.op t.kids.length=true by grind,zui]at hY;refine Vs 9 O (zrN (σ:=Unit) [0,2,4] [4] [4] O (fun e u=>e) (fun e u=>e) (fun u=>zT vs inp t.op t.n=true) j1 j1 ?_ ?_)
 .
  refine Vs 7 O (V.bool O (fun k1_=>?_) (fun k1_=>?_))
  . refine Vs 2 O (zpi () j2 j3 Je 0 O O)
  refine Vs 6 O (V.bool O (fun k2_=>?_) (fun k2_=>?_))
  .
   refine Vs 6 O (zqB 45 O (fun k3_=>?_) (fun k3_=>?_))
   . refine Vs 30 O (zrz 1 tr87 O O iL)
   refine Vs 7 O (zqB 52 O (fun k4_=>?_) (fun k4_=>?_))
   . refine Vs 23 O (zrz 1 tr87 O O iL)
   refine Vs 2 O (zqB 54 O (fun k5_=>?_) (fun k5_=>?_))
   .
    refine Vs 3 O ?_;have hv:0<=t.n/\t.n<vs.length:=tD;refine zrI 1000 1 t.n.toNat tO dg O O O (fun x dL dM dN dh dz dl dm=>?_);obtain rfl:=dm;refine zrg 1000 tR22 ts142 O dl tO (t.n.toNat) tO O ?_;have dO:xy vs t.n=decide (x.kind=0):=by unfold xy;rw[dh]
    refine Vs 7 O (V.bool O (fun k6_=>?_) (fun k6_=>?_))
    . refine Vs 9 O (zrz 1 tr87 O O iL)
    refine Vs 2 O (zpi () j2 j3 Je 0 O O)
   refine Vs 14 O (zpi () j2 j3 Je 0 O O)
  refine Vs 7 O (V.bool O (fun k3_=>?_) (fun k3_=>?_))
  . refine Vs 9 O (zrz 1 tr87 O O iL)
  refine Vs 2 O (zpi () j2 j3 Je 0 O O)
 rintro u dA;rw[dA,zui]at hY;refine Vs 11 O (zrM (σ:=Nat) [0,2,65,66] [] [] O (fun e i=>(67,.int .i64 i)::e) (fun e i=>e) (fun i=>i<=t.kids.length/\formedL vs inp (t.kids.take i)=true) (fun i=>t.kids.length - i) 0 j2 j3 j1 j1 j1 ⟨ztC _,by simp[formedL]⟩ ?_);rintro i ⟨hi,da⟩;refine Vs 6 O (zp4 O (fun dB=>?_) (fun dB=>?_))
 .
  refine Vs 6 O (zrI 2000 1 i tO hk O O O (fun k dQ dR dS dr db dt du=>?_));obtain⟨dC,rfl,dc⟩:=du.get;obtain⟨dD,dE,rfl⟩:=dc.form;refine zrg 2000 tR68 ts70 O dt tO _ rfl O (Vs 1 O (V.alloc 10 tz70 O O (fun b10=>?_)));refine Vs 8 O (zrs call87 O (fun w hI=>ih k db _ D w (Tr1 hI.k1 dg) (RTm.put (Tr1 hI.k1 dc))) (zqH O (fun w hI=>zqi O j6) (Vs 2 O (V.bool O (fun hb=>?_) (fun hb=>?_)))))
  . refine Vs 11 O (zrz 1 tr87 O O (by rw[hY,zbN db tD]))
  refine Va 7 O tO (V.back (i+1) j2 j3 ⟨tO,by rw[zaO dr,da];simpa using hb⟩ tO 0 O O)
 obtain rfl:i=t.kids.length:=tO;rw[zts]at da;refine Vs 11 O (zrz 1 tr87 O O tD)
end Go.Proofs.YtckdhgbepmpgiaaGreat
namespace Go.GL
section
variable {n:Fm} {ty:TypeId} {ps:String}
theorem zsc (i j:Nat) {xs:Array Operand} (hf:∀ args w,(callFunc f args).run P w=.ok (.enter f args) w) (hi:ops[i]?=some ⟨some d,.call ⟨.value x,xs,ts⟩,ty,ps,aft,g⟩) (hr:Region.ready .any ops listed=[i]) (hn:(Nat.blt d n,gd ops env g,qM env xs.toList,ev env x,qd (Hs.map (·.1)))=(true,some true,some vs,some (.func (.func f) fs.toArray cs.toArray),true)) (hB:Bs.drop j=B0)
  (hc:∀ w,VI Bs H w->Calls P f (fs++vs++cs).toArray w (Ret fun r w'=>r=v/\Ext w w')) (h:VD P n Q ks ops Hs B0 L fuel (listed.setIfInBounds i true) ((d,v)::env) ((d,none)::A) H Bs):VD P n Q ks ops Hs B0 L (fuel+1) listed env A H Bs:=by
 simp only[Prod.mk.injEq]at hn;subst hB;refine fun hH hA w hI=>zrA i hi hr hn.1 hn.2.1 (.inr ⟨f,_,zpN hf hn.2.2.2.1 (yr hn.2.2.1),hc w hI⟩) ?_;rintro _ w' ⟨rfl,hk⟩;exact⟨((hI.ext hk).drop j).pick hH hn.2.2.2.2,h hH hA.none w' (hI.ext hk)⟩
end
end Go.GL
namespace Go.Proofs.YtckdhgbepmpgiaaGreat
open Go.GL
abbrev Rg:=Int × Int
def okR (r:Rg):Bool:=decide (-1048576<=r.1/\r.2<=1048576)
def yT (r:Rg):Prop := -1048576<=r.1/\r.1<=r.2/\r.2<=1048576
def xl (x:Rg) (l:List Rg):Rg:=l.foldl (fun o r=>(min o.1 r.1,max o.2 r.2)) x
def jV (a b:Rg):Rg:=xl (a.1*b.1,a.1*b.1) [(a.1*b.2,a.1*b.2),(a.2*b.1,a.2*b.1),(a.2*b.2,a.2*b.2)]
theorem zar {x:Rg} {l:List Rg} {r:Rg} (h:l[i]?=some r):xl x (l.take (i+1))=(min (xl x (l.take i)).1 r.1,max (xl x (l.take i)).2 r.2):=by
 rw[ze h];simp[xl]
theorem zbO {x y:Int} (hx:-1048576<=x/\x<=1048576) (hy:-1048576<=y/\y<=1048576):-1099511627776<=x*y/\x*y<=1099511627776:=by
 have h1:=Int.natAbs_mul x y;have h2:x.natAbs*y.natAbs<=1048576*1048576:=zww tO tO;omega
theorem zix (a b:Rg) (w:World):Calls prog 169 #[.agg #[.int .i64 a.1,.int .i64 a.2],.agg #[.int .i64 b.1,.int .i64 b.2]] w (Ret fun r w'=>r=.agg #[.int .i64 (min a.1 b.1),.int .i64 (max a.2 b.2)]/\Ext w w'):=by
 refine zqR func169 O ntmps169 O (V.inn (Vs 2 O (V.box 2 O O (fun b2=>?_))));refine V.box 3 O O (fun b3=>(V.alloc 4 tz159 O O (fun b4=>?_)));refine Vs 14 O (zrW [Value.int IntKind.i64 0,Value.int IntKind.i64 0] [(0,1),(1,1)] [(0,_),(1,_)] O O (fun _=>tK) (Vs 4 O (zpu results169 tg159 ts159 O O O (fun w hI=>⟨_,rfl,rfl,hI.k0⟩))))
theorem zdt (a b:Int) (w:World) (ha:-1048576<=a/\a<=1048576) (hb:-1048576<=b/\b<=1048576):Calls prog 168 #[.int .i64 a,.int .i64 b] w (Ret fun r w'=>r=.int .i64 (a*b)/\Ext w w'):=by
 have:=zbO ha hb;refine zqR func168 O ntmps168 O (V.inn (Va 14 O tO (zrz 0 results168 O O rfl)))
theorem zhs (a b:Rg) (w:World) (ha:yT a) (hb:yT b):Calls prog 167 #[.agg #[.int .i64 a.1,.int .i64 a.2],.agg #[.int .i64 b.1,.int .i64 b.2],.func (.func 168) #[] #[]] w (Ret fun r w'=>r=.agg #[.int .i64 (jV a b).1,.int .i64 (jV a b).2]/\Ext w w'):=by
 unfold yT at ha hb;obtain⟨es,hY⟩:∃ es:List Int,es=[a.1*b.2,a.2*b.1,a.2*b.2]:=Jm;have db:es.length=3:=tD;refine zqS func167 O ntmps167 O (V.inn (Vs 2 O (V.box 3 O O (fun b3=>?_))));refine V.box 4 O O (fun b4=>(V.alloc 6 tz159 O O (fun b6=>?_)));refine Vs 9 O (zsb call168 O (fun w hI=>zdt a.1 b.1 w tO tO) (Vs 7 O (zrW [Value.int IntKind.i64 0,Value.int IntKind.i64 0] [(0,1),(1,1)] [(0,_),(1,_)] O O (fun _=>tK) (V.alloc 8 tz159 O O (fun b8=>?_)))));refine Vs 5 O (Vw [3,4,6,8] [] O (Vd [0,1,2,3,4,6,7,8,9,10,12,13,14,15,16,20] 0 tK O O O (zsc 5 0 call168 O tK O O (fun w hI=>zdt a.1 b.2 w tO tO) (zsc 11 0 call168 O tK O O (fun w hI=>zdt a.2 b.1 w tO tO) (zsc 17 0 call168 O tK O O (fun w hI=>zdt a.2 b.2 w tO tO) (zrQ 18 38 0 [(0,_),(1,_),(2,_)] tR27 ts3 tz3 tS O tK O O tK (fun b38=>?_)))))));refine Vd [19] 0 tK O O O (VD.done tK (Vs 2 O (zrM (σ:=Nat) [6,8,38,39] [6,38] [6,8] O (fun e k=>(40,.int .i64 k)::e) (fun e k=>(8,.own b8 [.int .i64 (xl (a.1*b.1,a.1*b.1) ((es.map (fun x=>(x,x))).take k)).1,.int .i64 (xl (a.1*b.1,a.1*b.1) ((es.map (fun x=>(x,x))).take k)).2] 159)::e) (fun k=>k<=3) (fun k=>3 - k) 0 j2 j3 j1 j1 j1 (ztC _) ?_)));rintro k hk;refine Vs 6 O (zp4 O (fun da=>?_) (fun da=>?_))
 .
  obtain⟨x,hx⟩:∃ x,es[k]?=some x:=iA;refine Vs 6 O (zqH O (fun w hI=>zpH tR27 ts3 O O O tO) (zqH O (fun w hI=>R.load tg3 O (by rw[show 0+(k:Int).toNat*1=0+k by omega];exact(show Blk w b38 (es.map (.int .i64)) _ from by rw[hY];exact hI.at 38 O).cells k _ (by rw[ztE,hx];rfl))) ?_));refine Vs 7 O (zrW [Value.int IntKind.i64 0,Value.int IntKind.i64 0] [(0,1),(1,1)] [(0,_),(1,_)] O O (fun _=>tK) (zrs call169 O (fun w hI=>zix (xl (a.1*b.1,a.1*b.1) ((es.map (fun x=>(x,x))).take k)) (x,x) w) (Va 8 O tO (zrL 8 O (e':=.own b8 [.int .i64 (xl (a.1*b.1,a.1*b.1) ((es.map (fun x=>(x,x))).take (k+1))).1,.int .i64 (xl (a.1*b.1,a.1*b.1) ((es.map (fun x=>(x,x))).take (k+1))).2] 159) (by rw[zar (show (es.map (fun x=>(x,x)))[k]?=some (x,x) by rw[ztE,hx];rfl)]) ?_))));refine V.back (k+1) j2 j3 tO tO 0 O O
 obtain rfl:k=3:=tO;refine Vs 12 O (zpu results167 tg159 ts159 O O O (fun w hI=>⟨_,rfl,by rw[hY];rfl,hI.k0⟩))
def at2 (l:List Rg) (i:Nat):Rg:=l[i]?.getD (0,0)
theorem zmp {l:List Rg} {x:Rg} (h:l[i]?=some x):at2 l i=x:=by simp[at2,h]
def vat (vs:List Vr) (n:Int):Rg:=match vs[n.toNat]? with
 | some v=>(v.low,v.high)
 | none=>(0,0)
theorem ziy {vs:List Vr} {n:Int} {v:Vr} (h:vs[n.toNat]?=some v):vat vs n=(v.low,v.high):=by simp[vat,h]
def zn (vs:List Vr) (op n:Int) (l:List Rg):Rg :=
 if op=0 then (n,n)
 else if op=24 then vat vs n
 else if op=6 then (-(at2 l 0).2,-(at2 l 0).1)
 else if op=8 then ((at2 l 0).1+(at2 l 1).1,(at2 l 0).2+(at2 l 1).2)
 else if op=9 then ((at2 l 0).1 - (at2 l 1).2,(at2 l 0).2 - (at2 l 1).1)
 else if op=10 then jV (at2 l 0) (at2 l 1)
 else if op=11 then (if 0<=(at2 l 0).1/\0<=(at2 l 1).1 then 0 else -(max (at2 l 0).2 (-(at2 l 0).1)),max (at2 l 0).2 (-(at2 l 0).1))
 else if op=12 then (if (at2 l 1).1<0 then min ((at2 l 1).1+1) 0 else 0,if 0<(at2 l 1).2 then max ((at2 l 1).2 - 1) 0 else 0)
 else if op=21 then (min (at2 l 0).1 (at2 l 1).1,min (at2 l 0).2 (at2 l 1).2)
 else if op=22 then (max (at2 l 0).1 (at2 l 1).1,max (at2 l 0).2 (at2 l 1).2)
 else if op=23\/op=25 then xl (at2 l 1) (l.drop 2)
 else (0,1)
structure NodeOk (vs:List Vr) (op n:Int) (l:List Rg):Prop where
 k0:op=0\/op=24->l.length=0
 k1:op=6\/op=7->l.length=1
 k2:8<=op/\op<=22->l.length=2
 k3:op=23\/op=25->2<=l.length/\l.length<=33
 good:∀ r ∈ l,yT r
 var:op=24->0<=n/\n<vs.length
 vars:∀ v ∈ vs,yT (v.low,v.high)
theorem jH {vs:List Vr} {op n:Int} {l:List Rg} (hl:l.length=k) (h1:zZ op k=true) (h2:zT vs inp op n=true) (hg:∀ r ∈ l,yT r) (hv:∀ v ∈ vs,yT (v.low,v.high)):NodeOk vs op n l:=by
 have h3:(0<=zR op->(l.length:Int)=zR op)/\(¬ 0<=zR op->2<=l.length/\l.length<=33):=by
  unfold zZ at h1;rw[hl];constructor
  . intro h;rw[zty h]at h1;exact of_decide_eq_true h1
  intro h;rw[ztx h]at h1;exact(of_decide_eq_true h1).2
 unfold zR at h3;refine⟨fun h=>?_,fun h=>?_,fun h=>?_,fun h=>?_,hg,fun h=>?_,hv⟩
 . omega
 . omega
 . omega
 . omega
 unfold zT at h2
 grind
theorem zmN (vs:List Vr) (t:Tm) (ks:List Rg) (vv kv:Value) (cs:List Value) (Dv D Dk:Nat->Prop) (w:World) (dJ:SlR 5 RVr Dv w vv vs) (ht:RTm D w t cs) (dr:SlR 2 xu Dk w kv ks) (hn:NodeOk vs t.op t.n ks):Calls prog 129 #[vv,.agg cs.toArray,kv] w (Ret fun r w'=>r=.agg #[.int .i64 (zn vs t.op t.n ks).1,.int .i64 (zn vs t.op t.n ks).2]/\Ext w w'):=by
 obtain⟨v,rfl,hk⟩:=ht.get;obtain⟨av,nv,rfl⟩:=dJ.form;obtain⟨ak,nk,rfl⟩:=dr.form;have dO:=dr.max;have hg:=hn.good;unfold yT at hg;refine zqS func129 O ntmps129 O (V.inn (Vs 2 O (V.box 4 O O (fun b4=>?_))));refine V.alloc 6 tz159 O O (fun b6=>(Vs 16 O (zp4 O (fun h0=>?_) (fun h0=>?_))))
 . refine Vs 6 O (zrW [Value.int IntKind.i64 0,Value.int IntKind.i64 0] [(0,1),(1,1)] [(0,_),(1,_)] O O (fun _=>tK) (Vs 6 O (zpu tr129 tg159 ts159 O O O (fun w hI=>⟨_,rfl,by simp[zn,h0],hI.k0⟩))))
 refine Vs 6 O (zp4 O (fun dC=>?_) (fun dC=>?_))
 .
  have hv:=hn.var dC;refine zrI 1000 0 t.n.toNat tO dJ O O O (fun x dt du dw dc dl da dg=>?_);obtain rfl:=dg;refine Vs 1 O (Vw [4,6,1000] [13] O (Vd [0,1,2,6,7,8] 0 tK O O O (zrh 3 1000 tR22 ts142 O tK O da tO (t.n.toNat) tO O (Vd [4,5] 0 tK O O O (zrh 9 1000 tR22 ts142 O tK O da tO (t.n.toNat) tO O (Vd [10,11] 0 tK O O O (zrX 12 [Value.int IntKind.i64 0,Value.int IntKind.i64 0] [(0,1),(1,1)] [(0,_),(1,_)] O tK O O (fun _=>tK) (Vl 13 O tK O ?_))))))));refine VDx.done tK (Vs 4 O (zpu tr129 tg159 ts159 O O O (fun w hI=>⟨_,rfl,by simp[zn,dC,ziy dc],hI.k0⟩)))
 refine Vs 6 O (zp4 O (fun h6=>?_) (fun h6=>?_))
 .
  have hl:=hn.k1 (.inl h6);refine zrI 2000 0 0 tO dr O O O (fun x dt du dw dc dl da dg=>?_);obtain rfl:=dg;have:=hg x dl;refine Vs 1 O (Vw [4,6,2000] [11] O (Vd [0,5] 0 tK O O O ?_));refine zrh 1 2000 tR203 ts159 O tK O da tO _ rfl O (Vb [2,3,4] 0 tK O O O tO ?_);refine zrh 6 2000 tR203 ts159 O tK O da tO _ rfl O (Vb [7,8,9] 0 tK O O O tO (zrX 10 [Value.int IntKind.i64 0,Value.int IntKind.i64 0] [(0,1),(1,1)] [(0,_),(1,_)] O tK O O (fun _=>tK) (Vl 11 O tK O (VDx.done tK (Vs 4 O (zpu tr129 tg159 ts159 O O O (fun w hI=>⟨_,rfl,by simp[zn,at2,h6,dc],hI.k0⟩)))))))
 refine Vs 6 O (zp4 O (fun h8=>?_) (fun h8=>?_))
 .
  have hl:=hn.k2 tO;refine zrI 3000 0 0 tO dr O O O (fun x dt du dw dc dl da dg=>?_);obtain rfl:=dg;refine zrI 4000 0 1 tO dr O O O (fun y dx dy dz db dm hY dh=>?_);obtain rfl:=dh;have:=hg x dl;have:=hg y dm;refine Vs 1 O (Vw [4,6,3000,4000] [19] O (Vd [0,4,9,13] 0 tK O O O ?_));refine zrh 1 3000 tR203 ts159 O tK O da tO _ rfl O (Vd [2,3] 0 tK O O O ?_);refine zrh 10 3000 tR203 ts159 O tK O da tO _ rfl O (Vd [11,12] 0 tK O O O ?_);refine zrh 5 4000 tR203 ts159 O tK O hY tO _ rfl O (Vb [6,7,8] 0 tK O O O tO ?_);refine zrh 14 4000 tR203 ts159 O tK O hY tO _ rfl O (Vb [15,16,17] 0 tK O O O tO (zrX 18 [Value.int IntKind.i64 0,Value.int IntKind.i64 0] [(0,1),(1,1)] [(0,_),(1,_)] O tK O O (fun _=>tK) (Vl 19 O tK O (VDx.done tK (Vs 4 O (zpu tr129 tg159 ts159 O O O (fun w hI=>⟨_,rfl,by simp[zn,at2,h8,dc,db],hI.k0⟩)))))))
 refine Vs 6 O (zp4 O (fun h9=>?_) (fun h9=>?_))
 .
  have hl:=hn.k2 tO;refine zrI 5000 0 0 tO dr O O O (fun x dt du dw dc dl da dg=>?_);obtain rfl:=dg;refine zrI 6000 0 1 tO dr O O O (fun y dx dy dz db dm hY dh=>?_);obtain rfl:=dh;have:=hg x dl;have:=hg y dm;refine Vs 1 O (Vw [4,6,5000,6000] [19] O (Vd [0,4,9,13] 0 tK O O O ?_));refine zrh 1 5000 tR203 ts159 O tK O da tO _ rfl O (Vd [2,3] 0 tK O O O ?_);refine zrh 10 5000 tR203 ts159 O tK O da tO _ rfl O (Vd [11,12] 0 tK O O O ?_);refine zrh 5 6000 tR203 ts159 O tK O hY tO _ rfl O (Vb [6,7,8] 0 tK O O O tO ?_);refine zrh 14 6000 tR203 ts159 O tK O hY tO _ rfl O (Vb [15,16,17] 0 tK O O O tO (zrX 18 [Value.int IntKind.i64 0,Value.int IntKind.i64 0] [(0,1),(1,1)] [(0,_),(1,_)] O tK O O (fun _=>tK) (Vl 19 O tK O (VDx.done tK (Vs 4 O (zpu tr129 tg159 ts159 O O O (fun w hI=>⟨_,rfl,by simp[zn,at2,h9,dc,db],hI.k0⟩)))))))
 refine Vs 6 O (zp4 O (fun dD=>?_) (fun dD=>?_))
 .
  have hl:=hn.k2 tO;refine zrI 7000 0 0 tO dr O O O (fun x dt du dw dc dl da dg=>?_);obtain rfl:=dg;refine zrI 8000 0 1 tO dr O O O (fun y dx dy dz db dm hY dh=>?_);obtain rfl:=dh;refine Vs 1 O (Vw [4,6,7000,8000] [7] O (Vd [0,3] 0 tK O O O ?_));refine zrh 1 7000 tR203 ts159 O tK O da tO _ rfl O (Vd [2] 0 tK O O O ?_);refine zrh 4 8000 tR203 ts159 O tK O hY tO _ rfl O (Vd [5] 0 tK O O O (zrt 6 0 call167 O tK O O (fun w hI=>zhs x y w (hn.good x dl) (hn.good y dm)) (Vl 7 O tK O (VDx.done tK (Vs 4 O (zpu tr129 tg159 ts159 O O O (fun w hI=>⟨_,rfl,by simp[zn,at2,dD,dc,db],hI.k0⟩)))))))
 refine Vs 6 O (zp4 O (fun dB=>?_) (fun dB=>?_))
 .
  have hl:=hn.k2 tO;refine zrI 9000 0 0 tO dr O O O (fun x dt du dw dc dl da dg=>?_);obtain rfl:=dg;refine zrI 10000 0 1 tO dr O O O (fun y dx dy dz db dm hY dh=>?_);obtain rfl:=dh;have:=hg x dl;have:=hg y dm;refine Vs 1 O (Vq tK (Vs 1 O ?_));refine zrj 9000 tR203 ts159 O da tO _ rfl O (Vs 3 O ?_);refine zrj 9000 tR203 ts159 O da tO _ rfl O (Va 11 O tO ?_);refine zrg 9000 tR203 ts159 O da tO _ rfl O (Vs 4 O (V.sp 117 O (fun p0=>?_) (fun p0=>?_)))
  .
   refine Vs 1 O ?_;refine zrg 10000 tR203 ts159 O hY tO _ rfl O (Vs 6 O (zp4 O (fun p1=>?_) (fun p1=>?_)))
   . refine Vs 3 O (zrW [Value.int IntKind.i64 0,Value.int IntKind.i64 0] [(0,1),(1,1)] [(0,_),(1,_)] O O (fun _=>tK) (Vs 7 O Jo))
   refine Va 7 O tO (zrW [Value.int IntKind.i64 0,Value.int IntKind.i64 0] [(0,1),(1,1)] [(0,_),(1,_)] O O (fun _=>tK) (Vs 6 O Jo))
  refine Va 16 O tO (zrW [Value.int IntKind.i64 0,Value.int IntKind.i64 0] [(0,1),(1,1)] [(0,_),(1,_)] O O (fun _=>tK) (Vs 6 O (zpu tr129 tg159 ts159 O O O (fun w hI=>⟨_,rfl,by simp[zn,at2,dB,dc,db,p0],hI.k0⟩))))
 refine Vs 6 O (zp4 O (fun dA=>?_) (fun dA=>?_))
 .
  have hl:=hn.k2 tO;refine zrI 11000 0 1 tO dr O O O (fun y dx dy dz db dm hY dh=>?_);obtain rfl:=dh;have:=hg y dm;refine Vs 2 O (zrW [Value.int IntKind.i64 0,Value.int IntKind.i64 0] [(0,1),(1,1)] [] O O (fun _=>tK) (V.alloc 8 tz159 O O (fun b8=>?_)));refine Vs 7 O ?_;refine zrg 11000 tR203 ts159 O hY tO _ rfl O (Vs 5 O (zp4 O (fun p0=>?_) (fun p0=>?_)))
  .
   refine Vs 2 O ?_;refine zrg 11000 tR203 ts159 O hY tO _ rfl O (Va 12 O tO ?_);refine zrg 11000 tR203 ts159 O hY tO _ rfl O (Vs 5 O (zp4 O (fun p1=>?_) (fun p1=>?_)))
   .
    refine Vs 2 O ?_;refine zrg 11000 tR203 ts159 O hY tO _ rfl O (Va 17 O tO iX)
   refine Vs 11 O iX
  refine Vs 6 O ?_;refine zrg 11000 tR203 ts159 O hY tO _ rfl O (Vs 5 O (zp4 O (fun p1=>?_) (fun p1=>?_)))
  .
   refine Vs 2 O ?_;refine zrg 11000 tR203 ts159 O hY tO _ rfl O (Va 17 O tO iX)
  refine Vs 11 O iX
 refine Vs 6 O (zp4 O (fun dE=>?_) (fun dE=>?_))
 .
  have hl:=hn.k2 tO;refine zrI 12000 0 0 tO dr O O O (fun x dt du dw dc dl da dg=>?_);obtain rfl:=dg;refine zrI 13000 0 1 tO dr O O O (fun y dx dy dz db dm hY dh=>?_);obtain rfl:=dh;have:=hg x dl;have:=hg y dm;refine Vs 1 O (Vw [4,6,12000,13000] [19] O (Vd [0,4,9,13] 0 tK O O O ?_));refine zrh 1 12000 tR203 ts159 O tK O da tO _ rfl O (Vd [2,3] 0 tK O O O ?_);refine zrh 10 12000 tR203 ts159 O tK O da tO _ rfl O (Vd [11,12] 0 tK O O O ?_);refine zrh 5 13000 tR203 ts159 O tK O hY tO _ rfl O (Vd [6,7,8] 0 tK O O O ?_);refine zrh 14 13000 tR203 ts159 O tK O hY tO _ rfl O (Vd [15,16,17] 0 tK O O O (zrX 18 [Value.int IntKind.i64 0,Value.int IntKind.i64 0] [(0,1),(1,1)] [(0,_),(1,_)] O tK O O (fun _=>tK) (Vl 19 O tK O (VDx.done tK (Vs 4 O (zpu tr129 tg159 ts159 O O O (fun w hI=>⟨_,rfl,by simp[zn,at2,dE,dc,db],hI.k0⟩)))))))
 refine Vs 6 O (zp4 O (fun dF=>?_) (fun dF=>?_))
 .
  have hl:=hn.k2 tO;refine zrI 14000 0 0 tO dr O O O (fun x dt du dw dc dl da dg=>?_);obtain rfl:=dg;refine zrI 15000 0 1 tO dr O O O (fun y dx dy dz db dm hY dh=>?_);obtain rfl:=dh;have:=hg x dl;have:=hg y dm;refine Vs 1 O (Vw [4,6,14000,15000] [19] O (Vd [0,4,9,13] 0 tK O O O ?_));refine zrh 1 14000 tR203 ts159 O tK O da tO _ rfl O (Vd [2,3] 0 tK O O O ?_);refine zrh 10 14000 tR203 ts159 O tK O da tO _ rfl O (Vd [11,12] 0 tK O O O ?_);refine zrh 5 15000 tR203 ts159 O tK O hY tO _ rfl O (Vd [6,7,8] 0 tK O O O ?_);refine zrh 14 15000 tR203 ts159 O tK O hY tO _ rfl O (Vd [15,16,17] 0 tK O O O (zrX 18 [Value.int IntKind.i64 0,Value.int IntKind.i64 0] [(0,1),(1,1)] [(0,_),(1,_)] O tK O O (fun _=>tK) (Vl 19 O tK O (VDx.done tK (Vs 4 O (zpu tr129 tg159 ts159 O O O (fun w hI=>⟨_,rfl,by simp[zn,at2,dF,dc,db],hI.k0⟩)))))))
 refine Vs 7 O (zrN (σ:=Unit) [2,6] [6] [6] O (fun e u=>(200,.bool (decide (t.op=23\/t.op=25)))::e) (fun e u=>e) (fun u=>True) j1 j1 ?_ ?_)
 .
  refine zp4 O (fun k1_=>?_) (fun k1_=>?_)
  . refine Vs 1 O (zpi () Ub j3 trivial 0 O O)
  refine Vs 4 O (zpi () Ub j3 trivial 0 O O)
 rintro u _;refine Vs 1 O (zp4 O (fun p1=>?_) (fun p1=>?_))
 .
  have hl:=hn.k3 p1;refine zrI 16000 0 1 tO dr O O O (fun y dx dy dz db dm hY dh=>?_);obtain rfl:=dh;refine Vs 3 O ?_;refine zrg 16000 tR203 ts159 O hY tO _ rfl O ?_;have dK:=dr.drop 2 tO;have dL:(ks.drop 2).length=ks.length - 2:=zvq;refine Vs 1 O (V.alloc 9 tz159 O O (fun b9=>?_));refine Vs 7 O (zqH O (fun w hI=>zpK tR203 ts159 O O tO) (Vs 5 O (zrM (σ:=Nat) [6,9,207,208] [6] [6,9] O (fun e k=>(209,.int .i64 k)::e) (fun e k=>(9,.own b9 [.int .i64 (xl y ((ks.drop 2).take k)).1,.int .i64 (xl y ((ks.drop 2).take k)).2] 159)::e) (fun k=>k<=ks.length - 2) (fun k=>ks.length - 2 - k) 0 j2 j3 j1 j1 j1 (ztC _) ?_)));rintro k hk;refine Vs 6 O (zp4 O (fun dM=>?_) (fun dM=>?_))
  .
   refine Vs 6 O (zrI 17000 0 k tO dK O O O (fun z dQ dR dS dG dN dH dI=>?_));obtain rfl:=dI;refine zrg 17000 tR203 ts159 O dH tO _ rfl O (Vs 1 O (V.alloc 11 tz159 O O (fun b11=>?_)));refine Vs 6 O (zrs call169 O (fun w hI=>zix (xl y ((ks.drop 2).take k)) z w) (Va 8 O tO (zrL 9 O (e':=.own b9 [.int .i64 (xl y ((ks.drop 2).take (k+1))).1,.int .i64 (xl y ((ks.drop 2).take (k+1))).2] 159) (by rw[zar dG]) (V.back (k+1) j2 j3 tO tO 0 O O))))
  obtain rfl:k=ks.length - 2:=tO;refine Vs 14 O (zpu tr129 tg159 ts159 O O O (fun w hI=>⟨_,rfl,by rw[<- dL,zts];simp[zmp db,zn,h0,dC,h6,h8,h9,dD,dB,dA,dE,dF,p1],hI.k0⟩))
 refine Vs 5 O (zrW [Value.int IntKind.i64 0,Value.int IntKind.i64 0] [(0,1),(1,1)] [(0,_),(1,_)] O O (fun _=>tK) (Vs 4 O (zpu tr129 tg159 ts159 O O O (fun w hI=>⟨_,rfl,by simp[zn,h0,dC,h6,h8,h9,dD,dB,dA,dE,dF,p1],hI.k0⟩))))
end Go.Proofs.YtckdhgbepmpgiaaGreat
namespace Go.GL.Gr
def okE (n:Int) (e:Int × Int):Bool:=decide (0<=e.1/\e.1<n)&&decide (0<=e.2/\e.2<n)
def check (n:Int) (es:List (Int × Int)):Int:=if n<0 then 1 else if 4096<n\/1048576<es.length then 4 else if es.all (okE n) then 0 else 3
theorem all_take_succ {p:α->Bool} {x:α} (hx:l[k]?=some x) (h:(l.take k).all p=true) (hp:p x=true):(l.take (k+1)).all p=true:=by
 obtain⟨hk,rfl⟩:=ztB.1 hx;rw[zwe hk,zuA,h];simp[hp]
theorem all_false {p:α->Bool} {x:α} (hx:l[k]?=some x) (hp:p x=false):l.all p=false:=by
 grind
theorem check_zero {n:Int} {es:List (Int × Int)} (h:check n es=0):0<=n/\n<=4096/\es.length<=1048576/\es.all (okE n)=true:=by
 unfold check at h;split at h
 . cases h
 split at h
 . cases h
 split at h
 .
  rename_i h1 h2 h3;exact⟨tO,tO,tO,h3⟩
 cases h
section
variable [DecidableEq α]
def cstep (acc:List α) (x:α):List α:=if acc.getLast?=some x then acc else acc++[x]
def compactL (l:List α):List α:=l.foldl cstep []
theorem zdu (acc:List α) (x:α):(cstep acc x).getLast?=some x:=by
 unfold cstep;split
 . assumption
 simp
theorem zdv (l:List α) (x:α):compactL (l++[x])=cstep (compactL l) x:=by simp[compactL]
theorem compactL_take {x:α} (hx:l[k]?=some x):compactL (l.take (k+1))=cstep (compactL (l.take k)) x:=by
 obtain⟨hk,rfl⟩:=ztB.1 hx;rw[zwe hk,zdv]
theorem compactL_last {x:α} (hx:l[k]?=some x):(compactL (l.take (k+1))).getLast?=some x:=by
 rw[compactL_take hx,zdu]
theorem compactL_len (l:List α):(compactL l).length<=l.length:=by
 have:∀ (l acc:List α),(l.foldl cstep acc).length<=acc.length+l.length:=by
  intro l;induction l with
  | nil=>intro acc;simp
  | cons x r ih =>
   intro acc;have h1:=ih (cstep acc x);have h2:(cstep acc x).length<=acc.length+1:=by unfold cstep;split<;>simp
   simp only[zv9,ztQ];omega
 simpa[compactL] using this l []
theorem compactL_mem (l:List α) (x:α):x ∈ compactL l ↔ x ∈ l:=by
 have:∀ (l acc:List α),x ∈ l.foldl cstep acc ↔ x ∈ acc\/x ∈ l:=by
  intro l;induction l with
  | nil=>intro acc;simp
  | cons y r ih =>
   intro acc;rw[zv9,ih]
   have h2:x ∈ cstep acc y ↔ x ∈ acc\/x=y:=by
    unfold cstep;split
    .
     rename_i h;constructor
     . exact .inl
     rintro (h' | rfl)
     . exact h'
     exact List.mem_of_getLast? h
    simp
   rw[h2];simp[or_assoc]
 simpa[compactL] using this l []
theorem compactL_strict {le:α->α->Prop} (hY:∀ a b,le a b->le b a->a=b) (h:l.Pairwise le):(compactL l).Pairwise (fun a b=>le a b/\a ≠ b):=by
 have:∀ (l acc:List α),acc.Pairwise (fun a b=>le a b/\a ≠ b)->(∀ a ∈ acc,∀ b ∈ l,le a b)->l.Pairwise le->(l.foldl cstep acc).Pairwise (fun a b=>le a b/\a ≠ b):=by
  intro l;induction l with
  | nil=>intro acc h1 _ _;exact h1
  | cons x r ih =>
   intro acc h1 h2 h3;rw[zvU]at h3;rw[zv9];refine ih _ ?_ ?_ h3.2
   .
    unfold cstep;split
    . exact h1
    rename_i da;rw[zvT];refine⟨h1,zvX _ _,?_⟩;intro a ha b hb;rw[ztF]at hb;subst hb;refine⟨h2 a ha _ (ztr ..),?_⟩;rintro rfl;apply da
    obtain⟨z,hz⟩:∃ z,acc.getLast?=some z:=by
     cases hacc:acc.getLast? with
     | none=>rw[List.getLast?_eq_none_iff]at hacc;subst hacc;simp at ha
     | some z=>exact⟨z,rfl⟩
    rw[hz];have db:=List.mem_of_getLast? hz;have dc:=h2 z db a (ztr ..);by_cases e:a=z
    . rw[e]
    obtain⟨ini,rfl⟩:∃ ini,acc=ini++[z]:=by
     rw[List.getLast?_eq_some_iff]at hz;obtain⟨ys,h⟩:=hz;exact⟨ys,h⟩
    rw[ztG,ztF]at ha;rcases ha with ha | ha
    . grind
    grind
   intro a ha b hb
   have:a ∈ acc\/a=x:=by
    unfold cstep at ha;split at ha
    . exact .inl ha
    simpa using ha
   rcases this with ha | rfl
   . exact h2 a ha b (ztq _ hb)
   exact h3.1 b hb
 exact this l [] List.Pairwise.nil tR h
end
def rowsOf (n:Nat) (s:List (Int × Int)):List (List Int):=(List.range n).map fun (a:Nat)=>(s.filter fun e=>decide (e.1=(a:Int))).map (·.2)
theorem rowsOf_len (n:Nat) (s:List (Int × Int)):(rowsOf n s).length=n:=by simp[rowsOf]
theorem rowsOf_nil (n:Nat):rowsOf n []=List.replicate n []:=by
 apply List.ext_getElem
 . simp[rowsOf]
 intro i h1 h2;simp[rowsOf]
theorem rowsOf_at {n:Nat} (ha:a<n):(rowsOf n s)[a]?=some ((s.filter fun e=>decide (e.1=(a:Int))).map (·.2)):=by
 simp[rowsOf,ha]
theorem zfO {n:Nat} {b:Int} (hr:(rowsOf n s)[a]?=some r):rowsOf n (s++[((a:Int),b)])=(rowsOf n s).set a (r++[b]):=by
 have ha:a<n:=by
  have:=(ztB.1 hr).1;rwa [rowsOf_len]at this
 rw[rowsOf_at ha]at hr;cases hr;apply zuW;intro i;by_cases hi:i<n
 .
  rw[rowsOf_at hi];by_cases hY:a=i
  .
   subst hY;rw[zvk (by rw[rowsOf_len];exact hi)];simp[]
  rw[zvj hY,rowsOf_at hi];have:¬ ((a:Int)=(i:Int)):=tO;simp[this]
 rw[ztL (by rw[rowsOf_len];omega),ztL (by rw[zvu,rowsOf_len];omega)]
theorem rowsOf_take {n:Nat} {b:Int} (hk:s[k]?=some ((a:Int),b)) (hr:(rowsOf n (s.take k))[a]?=some r):rowsOf n (s.take (k+1))=(rowsOf n (s.take k)).set a (r++[b]):=by
 obtain⟨hY,he⟩:=ztB.1 hk;rw[zwe hY,he];exact zfO hr
theorem rowsOf_mem {n:Nat} (hr:(rowsOf n s)[a]?=some r) (b:Int):b ∈ r ↔ ((a:Int),b) ∈ s:=by
 have ha:a<n:=by
  have:=(ztB.1 hr).1;rwa [rowsOf_len]at this
 rw[rowsOf_at ha]at hr;cases hr;simp only[zvI,zvE,decide_eq_true_eq];constructor
 . grind
 grind
theorem rowsOf_sorted {n:Nat} (hr:(rowsOf n s)[a]?=some r) (hs:s.Pairwise fun x y=>x.1<y.1\/x.1=y.1/\x.2<y.2):r.Pairwise (·<·):=by
 have ha:a<n:=by
  have:=(ztB.1 hr).1;rwa [rowsOf_len]at this
 rw[rowsOf_at ha]at hr;cases hr;rw[zvW,List.pairwise_filter];refine hs.imp ?_;intro x y h hx hy;simp only[decide_eq_true_eq]at hx hy;omega
end Go.GL.Gr
namespace Go.Proofs.YtckdhgbepmpgiaaGreat
open Go.GL
theorem zeC (n:Nat) (hn:n<=1000000) (w:World):Calls prog 145 #[.int .i64 n] w (Ret fun v w'=>∃ b,v=.slice (some ⟨b,0,none⟩) n n/\w.heap.size<=b/\Blk w' b (List.replicate n (.int .i64 (-1))) 3/\Ext w w'):=by
 refine zqQ func145 O ntmps145 O (Gs 8 O (G.mem O O (zpV tu27 Tryz.el3 O O tO tO (xj _ n O)) ?_));rintro _ w1 ⟨b,rfl,hb,dh,hB,hk⟩;refine Gs 12 O (G.loop (σ:=Nat) (fun k=>[(3,.slice (some ⟨b,0,none⟩) n n),(8,.int .i64 n),(9,.int .i64 k)]) (fun k=>fun w'=>k<=n/\w'.heap.size=w1.heap.size/\Blk w' b (List.replicate k (.int .i64 (-1))++List.replicate (n - k) (.int .i64 0)) 3/\Ext w w') (fun k=>n - k) 0 j2 ⟨ztC _,rfl,by simpa using hB,hk⟩ ?_);rintro k w2 ⟨dl,dc,hY,da⟩;refine Gs 6 O (zqE O (fun dm=>?_) (fun dr=>?_))
 .
  refine Ga 14 O tO (zpT O (M.store ts3 O O O O hY tX) ?_);rintro w3 ⟨dt,db,dg⟩;refine Ga 7 O tO (G.back (k+1) j2 ⟨tO,tO,?_,da.trans dg (fun q hq du=>tO)⟩ tO);have e:n - k=(n - (k+1))+1:=tO;rw[e,zw1]at db;simpa[List.replicate_succ',List.set_append] using db
 refine Gs 12 O (zpk results145 O ⟨_,rfl,b,rfl,tO,?_,da⟩);have e:n=k:=tO;subst e;simpa using hY
theorem ziz (n x:Int) (ev:Value) (w:World):Calls prog 174 #[.agg #[.int .i64 n,ev],.int .i64 x] w (Ret fun v w'=>v=.bool (decide (0<=x/\x<n))/\Ext w w'):=by
 refine zqR func174 O ntmps174 O (V.inn (Vs 2 O (V.box 2 O O (fun b2=>?_))));refine Vs 8 O (V.sp 7 O (fun k1_=>?_) (fun k1_=>?_))
 . refine Vs 9 O (zpl results174 O (fun w hI=>⟨_,rfl,by simp[k1_],hI.k0⟩))
 refine Vs 9 O (zpl results174 O (fun w hI=>⟨_,rfl,by simp[k1_],hI.k0⟩))
theorem zgz (n:Int) (es:List (Int × Int)) (ev:Value) (D:Nat->Prop) (w:World) (dc:SlR 2 xu D w ev es):Calls prog 142 #[.agg #[.int .i64 n,ev]] w (Ret fun v w'=>v=.int .i64 (Gr.check n es)/\Ext w w'):=by
 obtain⟨ao,cap,rfl⟩:=dc.form;have dr:=dc.max;refine zqQ func142 O ntmps142 O (V.inn (Vs 2 O (V.box 1 O O (fun b1=>?_))));refine Vs 11 O (zp4 O (fun hn=>?_) (fun hn=>?_))
 . refine Vs 7 O (zrz 0 tr142 O O (by simp[Gr.check,hn]))
 refine Vs 9 O (V.sp 11 O (fun h1=>?_) (fun h1=>?_))
 . refine Vs 15 O (zrz 0 tr142 O O (by simp[Gr.check,hn,h1]))
 refine Vs 7 O (zp4 O (fun h2=>?_) (fun h2=>?_))
 .
  have dl:1048576<es.length:=tO;refine Vs 7 O (zrz 0 tr142 O O (by simp[Gr.check,hn,dl]))
 refine Vs 12 O (zrM (σ:=Nat) [1,18,19] [1] [1] O (fun e k=>(20,.int .i64 k)::e) (fun e k=>e) (fun k=>k<=es.length/\(es.take k).all (Gr.okE n)=true) (fun k=>es.length - k) 0 j2 j3 j1 j1 j1 y8 ?_);rintro k ⟨dt,hY⟩;refine Vs 6 O (zp4 O (fun du=>?_) (fun dw=>?_))
 .
  refine Vs 6 O (zrI 1000 0 k tO dc O O O (fun e dx dy dz da dm dg dh=>?_));obtain rfl:=dh;refine zrg 1000 tR124 ts169 O dg tO _ rfl O ?_
  have db:¬ (0<=e.1/\e.1<n/\0<=e.2/\e.2<n)->Gr.check n es=3:=fun h=>by
   have:es.all (Gr.okE n)=false:=Gr.all_false da (by simp[Gr.okE];omega);simp[Gr.check,hn,h1,this];omega
  refine Vs 1 O (V.alloc 4 tz169 O O (fun b4=>?_));refine Vs 8 O (zrs call174 O (fun w hI=>ziz _ _ _ w) (zqH O (fun w hI=>zqi O j6) (Vs 1 O (V.sp 29 O (fun h3=>?_) (fun h3=>?_)))))
  . refine Vs 20 O (zrz 0 tr142 O O (by rw[db (by simp at h3;omega)]))
  refine Vs 3 O (zrs call174 O (fun w hI=>ziz _ _ _ w) (zqH O (fun w hI=>zqi O j6) (Vs 3 O (zp4 O (fun h4=>?_) (fun h4=>?_)))))
  . refine Vs 11 O (zrz 0 tr142 O O (by rw[db (by simp at h4;omega)]))
  refine Va 7 O tO (V.back (k+1) j2 j3 ⟨tO,Gr.all_take_succ da hY (by simp[Gr.okE]at *;omega)⟩ tZ 0 O O)
 obtain rfl:k=es.length:=tO;rw[zts]at hY;refine Vs 11 O (zrz 0 tr142 O O (by simp[Gr.check,hn,h1,hY];omega))
theorem zht (a b:Int × Int) (w:World) (ha:-4611686018427387904<=a.1/\a.1<=4611686018427387903 /\ -4611686018427387904<=a.2/\a.2<=4611686018427387903) (hb:-4611686018427387904<=b.1/\b.1<=4611686018427387903 /\ -4611686018427387904<=b.2/\b.2<=4611686018427387903) :
  Calls prog 177 #[.agg #[.int .i64 a.1,.int .i64 a.2],.agg #[.int .i64 b.1,.int .i64 b.2]] w (Ret fun v w'=>v=.int .i64 (if a.1 ≠ b.1 then a.1 - b.1 else a.2 - b.2)/\Ext w w'):=by
 refine zqR func177 O ntmps177 O (V.inn (Vs 2 O (V.box 2 O O (fun b2=>?_))));refine V.box 3 O O (fun b3=>(Vs 13 O (zp4 O (fun h=>?_) (fun h=>?_))))
 . refine Va 12 O tO (zrz 0 results177 O O tD)
 refine Va 13 O tO (zrz 0 results177 O O tD)
def qY (e:Int × Int):List Value:=[.int .i64 e.1,.int .i64 e.2]
theorem yE (e:Int × Int):(qY e).length=2:=rfl
theorem zba (e:Int × Int):∀ u ∈ qY e,u.oneCell'=true:=by simp[qY,Value.oneCell']
mutual
/-- The range of a term whose nodes all lie within the limit. -/
def rng (vs:List Vr):Tm->Option Rg
 | .mk op n ks=>(rngL vs ks).bind fun l=>if okR (zn vs op n l) then some (zn vs op n l) else none
def rngL (vs:List Vr):List Tm->Option (List Rg)
 | []=>some []
 | k::r=>(rng vs k).bind fun x=>(rngL vs r).map fun l=>x::l
end
section
variable {vs:List Vr}
theorem zbP (t:Tm):rng vs t=(rngL vs t.kids).bind fun l=>if okR (zn vs t.op t.n l) then some (zn vs t.op t.n l) else none:=by cases t;rw[rng];rfl
theorem zbQ (a b:List Tm):rngL vs (a++b)=(rngL vs a).bind fun l=>(rngL vs b).map fun m=>l++m:=by
 induction a with
 | nil=>simp[rngL]
 | cons x r ih =>
  simp only[zuH,rngL,ih];cases rng vs x<;>cases rngL vs r<;>cases rngL vs b<;>simp
theorem zeD {l:List Tm} {x:Tm} {m:List Rg} {r:Rg} (h:l[i]?=some x) (h1:rngL vs (l.take i)=some m) (h2:rng vs x=some r):rngL vs (l.take (i+1))=some (m++[r]):=by
 rw[ze h,zbQ,h1];simp[rngL,h2]
theorem zeE {l:List Tm} {x:Tm} (h:l[i]?=some x) (h2:rng vs x=none):rngL vs l=none:=by
 rw[yP h,zbQ];cases rngL vs (l.take i)<;>simp[rngL,h2]
theorem qH:∀ (l:List Tm) (m:List Rg),rngL vs l=some m->m.length=l.length
 | [],m,h=>by simp[rngL]at h;subst h;rfl
 | x::r,m,h=>by
  simp only[rngL,zwD,zwI]at h;obtain⟨y,_,z,h2,rfl⟩:=h;simp[qH r z h2]
theorem jW:∀ (l:List Tm) (m:List Rg),rngL vs l=some m->∀ r ∈ m,∃ t ∈ l,rng vs t=some r
 | [],m,h,r,hr=>by simp[rngL]at h;subst h;simp at hr
 | x::l,m,h,r,hr=>by
  simp only[rngL,zwD,zwI]at h;obtain⟨y,h1,z,h2,rfl⟩:=h;rcases ztD.1 hr with rfl | hr
  . grind
  obtain⟨t,h3,h4⟩:=jW l z h2 r hr
  grind
theorem zgA (x:Rg) (h:x.1<=x.2):∀ l:List Rg,(xl x l).1<=x.1/\x.2<=(xl x l).2:=by
 intro l;induction l generalizing x with
 | nil=>simp[xl]
 | cons y r ih =>
  have:=ih (min x.1 y.1,max x.2 y.2) tO;simp only[xl,zv9]at this ⊢;constructor<;>omega
theorem ziA {l:List Rg} (h:i<l.length):at2 l i ∈ l:=by
 unfold at2;rw[ztn h];exact zvn h
theorem zkK {n:Int} (hv:∀ v ∈ vs,yT (v.low,v.high)) (hn:0<=n/\n<vs.length):yT (vat vs n):=by
 unfold vat;rw[ztn (show n.toNat<vs.length by omega)];exact hv _ (zvn _)
theorem ziB {op n:Int} {l:List Rg} (h:NodeOk vs op n l):(zn vs op n l).1<=(zn vs op n l).2:=by
 have hg:∀ i,i<l.length->yT (at2 l i):=fun i hi=>h.good _ (ziA hi);unfold yT at hg;unfold zn;split
 . omega
 split
 . rename_i h1 h2;exact(zkK h.vars (h.var h2)).2.1
 split
 . rename_i h1 h2 h3;have:=h.k1 (.inl h3);have:=hg 0 tO;dsimp only;omega
 split
 . have:=h.k2 tO;have:=hg 0 tO;have:=hg 1 tO;dsimp only;omega
 split
 . have:=h.k2 tO;have:=hg 0 tO;have:=hg 1 tO;dsimp only;omega
 split
 .
  have:=zgA ((at2 l 0).1*(at2 l 1).1,(at2 l 0).1*(at2 l 1).1) (zuo _) [((at2 l 0).1*(at2 l 1).2,(at2 l 0).1*(at2 l 1).2),((at2 l 0).2*(at2 l 1).1,(at2 l 0).2*(at2 l 1).1),((at2 l 0).2*(at2 l 1).2,(at2 l 0).2*(at2 l 1).2)];unfold jV;exact Int.le_trans this.1 this.2
 split
 . have:=h.k2 tO;have:=hg 0 tO;dsimp only;split<;>omega
 split
 . have:=h.k2 tO;have:=hg 1 tO;dsimp only;split<;>split<;>omega
 split
 . have:=h.k2 tO;have:=hg 0 tO;have:=hg 1 tO;dsimp only;omega
 split
 . have:=h.k2 tO;have:=hg 0 tO;have:=hg 1 tO;dsimp only;omega
 split
 .
  rename_i hk;have:=h.k3 hk;have h2:=hg 1 tO;have:=zgA (at2 l 1) h2.2.1 (l.drop 2);omega
 decide
theorem kV (hv:∀ v ∈ vs,yT (v.low,v.high)) (t:Tm):zA vs inp t=true->∀ r,rng vs t=some r->yT r:=by
 induction t using zr1 with
 | h t ih =>
  intro hf r hr;rw[yW,zu8,zu8]at hf;rw[zbP,zwD]at hr;obtain⟨l,h1,h2⟩:=hr
  have hn:NodeOk vs t.op t.n l:=jH (qH _ _ h1) hf.1.1 hf.1.2 (fun x hx=>by
   obtain⟨k,hk,hY⟩:=jW _ _ h1 x hx
   exact ih k hk (ya hf.2 hk) x hY) hv
  have:=ziB hn;split at h2
  .
   rename_i da;cases h2;have:=of_decide_eq_true da;exact⟨this.1,tO,this.2⟩
  cases h2
end
theorem zeF (vs:List Vr) (inp:Bool) (vv:Value) (Dv:Nat->Prop) (dr:∀ v ∈ vs,yT (v.low,v.high)) (t:Tm):∀ (cs:List Value) (D:Nat->Prop) (w:World),SlR 5 RVr Dv w vv vs->RTm D w t cs->zA vs inp t=true->t.nodes<=1000000 ->
  Calls prog 89 #[vv,.agg cs.toArray] w (Ret fun r w'=>(∃ a b:Int,r=.tuple #[.agg #[.int .i64 a,.int .i64 b],.bool (rng vs t).isSome]/\∀ x,rng vs t=some x->(a,b)=x)/\Ext w w'):=by
 induction t using zr1 with
 | h t ih =>
 intro cs D w dg ht hf dG;rw[yW,zu8,zu8]at hf;have du:=zbC t.kids;have dH:=t.nodes_eq;obtain⟨v,rfl,hk⟩:=ht.get;obtain⟨ao,cap,rfl⟩:=hk.form;obtain⟨av,nv,rfl⟩:=dg.form;refine zqR func89 O ntmps89 O (V.inn (Vs 2 O (V.box 3 O O (fun b3=>?_))));refine V.alloc 4 tz159 O O (fun b4=>(Vs 4 O (zrk 6 159 2 O (Vs 14 O (zrM (σ:=Nat × List Rg × Value) [0,3,4,13,14] [3,4] [3,4] O (fun e ⟨i,l,vk⟩=>(6,vk)::(15,.int .i64 i)::e) (fun e ⟨i,l,vk⟩=>(6,.row 159 2 vk l.length (l.flatMap qY))::e) (fun⟨i,l,vk⟩=>i<=t.kids.length/\rngL vs (t.kids.take i)=some l) (fun⟨i,l,vk⟩=>t.kids.length - i) (0,[],_) j2 j3 j1 j1 j1 ⟨ztC _,by rw[zwf];rfl⟩ ?_)))));rintro⟨i,l,vk⟩ ⟨hi,hl⟩;refine Vs 6 O (zp4 O (fun dw=>?_) (fun dw=>?_))
 .
  refine Vs 6 O (zrI 1000 0 i tO hk O O O (fun k dI dJ dK da db dh dl=>?_));obtain⟨dx,rfl,dc⟩:=dl.get;obtain⟨dy,dz,rfl⟩:=dc.form;refine zrg 1000 tR68 ts70 O dh tO _ rfl O ?_;have dL:=xZ da;have dm:=qH _ _ hl;rw[ztR]at dm;refine Vs 1 O (V.alloc 8 tz70 O O (fun b8=>?_));refine Vs 7 O (zru call89 O (fun w hI=>(ih k db _ D w il (RTm.put JK) (ya hf.2 db) tO)) ?_);rintro r w1 w2 dM dA ⟨ka,kb,rfl,hY⟩ dB;refine Vs 3 O (V.alloc 9 tz159 O O (fun b9=>?_));refine Vs 8 O (zqH O (fun w hI=>zqi O j6) (Vs 2 O (V.bool O (fun hb=>?_) (fun hb=>?_))))
  .
   have dC:rng vs k=none:=by cases h:rng vs k<;>simp[h]at hb ⊢
   have dt:rng vs t=none:=by rw[zbP,zeE da dC];rfl
   refine Vs 2 O (zrW [Value.int IntKind.i64 0,Value.int IntKind.i64 0] [(0,1),(1,1)] [] O O (fun _=>tK) (Vs 11 O (zpx results89 tg159 ts159 O O O O (fun w hI=>⟨_,rfl,⟨0,0,tD,fun x hx=>tD⟩,hI.k1⟩))))
  obtain⟨x,hx⟩:∃ x,rng vs k=some x:=by cases h:rng vs k with
   | none=>simp[h]at hb
   | some x=>exact⟨x,rfl⟩
  have dD:=hY x hx;subst dD;refine Vs 5 O (zrP 30 [(0,_)] tR203 ts159 tz159 tS O O tK (fun b30=>?_));refine zrl 6 30 underlying203 Tryz.el159 O tS O O tO tO (fun u6=>(Vs 4 O (zrL 6 O (e':=.row 159 2 u6 (l++[(ka,kb)]).length ((l++[(ka,kb)]).flatMap qY)) (by simp[qY]) (Va 4 O tO (V.back ⟨i+1,l++[(ka,kb)],u6⟩ j2 j3 ⟨tO,zeD da hl hx⟩ tD 1 O O)))))
 obtain rfl:i=t.kids.length:=tO;rw[zts]at hl;have dm:=qH _ _ hl
 have hn:NodeOk vs t.op t.n l:=jH dm hf.1.1 hf.1.2 (fun x hx=>by
  obtain⟨k,hk,dE⟩:=jW _ _ hl x hx
  exact kV dr k (ya hf.2 hk) x dE) dr
 have dF:rng vs t=if okR (zn vs t.op t.n l) then some (zn vs t.op t.n l) else none:=by rw[zbP,hl];rfl
 obtain⟨p,hp⟩:∃ p,p=zn vs t.op t.n l:=Jm;refine Vs 10 O (zrs call129 O (fun w hI=>(by have h:=zmN vs t l _ vk _ Dv D (fun _=>True) w il JI (zqb tO qY yE J3 (hI.at 6 O) (fun _ _=>trivial)) hn;rw[<- hp]at h;exact h)) ?_);rw[<- hp]at dF;have dN:(rng vs t).isSome=okR p:=tD
 have hY:∀ x,rng vs t=some x->(p.1,p.2)=x:=by
  grind
 refine V.alloc 11 tz159 O O (fun b11=>(Vs 4 O (Vw [3,11] [] O (Vd [0,1,2,3,4] 0 tK O O O (VD.sp 41 O (fun g1=>?_) (fun g1=>?_))))))
 .
  have ho:okR p=decide (p.2<=1048576):=by unfold okR;congr 1;simp;omega
  refine Vd [5,6,7,8] 0 tK O O O (Ve 9 0 O tK O O O (Vd [10] 0 tK O O O JT))
 have ho:okR p=false:=by unfold okR;exact ztA tO
 refine Vd [5,6,7,8] 0 tK O O O (Ve 9 0 O tK O O O (Vd [10] 0 tK O O O JT))
theorem zdw (a b:Int) (w:World) (ha:-1048576<=a/\a<=1048576) (hb:-1048576<=b/\b<=1048576):Calls prog 183 #[.int .i64 a,.int .i64 b] w (Ret fun r w'=>r=.tuple #[.int .i64 (if a<0 then min (a+1) 0 else 0),.int .i64 (if 0<b then max (b - 1) 0 else 0)]/\Ext w w'):=by
 refine zqR func183 O ntmps183 O (V.inn (Vs 19 O (zp4 O (fun p0=>?_) (fun p0=>?_))))
 .
  refine Va 3 O tO (zrs tc114 O (fun w hI=>zX 0 (a+1) w) (Vs 10 O (zp4 O (fun p1=>?_) (fun p1=>?_))))
  . refine Va 3 O tO U0
  refine Vs 11 O (zpo tr183 O O iR)
 refine Vs 9 O (zp4 O (fun p1=>?_) (fun p1=>?_))
 . refine Va 3 O tO U0
 refine Vs 11 O (zpo tr183 O O iR)
theorem ziC {l:List Rg} {a b:Int} (h:(l.map Prod.fst)[i]?=some a) (h2:(l.map Prod.snd)[i]?=some b):l[i]?=some (a,b):=by
 rw[ztE]at h h2;cases h3:l[i]? with
 | none=>simp[h3]at h
 | some x=>simp[h3]at h h2;rw[<- h,<- h2]
theorem zhu (vs:List Vr) (t:Tm) (ks:List Rg) (vv lv hv:Value) (cs:List Value) (Dv D Dl Dh:Nat->Prop) (w:World) (dV:SlR 5 RVr Dv w vv vs) (ht:RTm D w t cs) (dr:SlR 1 zv Dl w lv (ks.map Prod.fst)) (dt:SlR 1 zv Dh w hv (ks.map Prod.snd)) (hn:NodeOk vs t.op t.n ks) :
  Calls prog 151 #[vv,.agg cs.toArray,lv,hv] w (Ret fun r w'=>(∃ a b:Int,r=.tuple #[.int .i64 a,.int .i64 b]/\okR (a,b)=okR (zn vs t.op t.n ks)/\(okR (a,b)=true->(a,b)=zn vs t.op t.n ks))/\Ext w w'):=by
 obtain⟨v,rfl,hk⟩:=ht.get;obtain⟨av,nv,rfl⟩:=dV.form;obtain⟨al,nl,rfl⟩:=dr.form;obtain⟨ah,nh,rfl⟩:=dt.form;have d6:=dr.max;have e1:(ks.map Prod.fst).length=ks.length:=ztH _;have e2:(ks.map Prod.snd).length=ks.length:=ztH _;have hg:∀ {i:Nat} {a b:Int},(ks.map Prod.fst)[i]?=some a->(ks.map Prod.snd)[i]?=some b->at2 ks i=(a,b) /\ -1048576<=a/\a<=b/\b<=1048576:=fun h1 h2=>⟨zmp (ziC h1 h2),hn.good _ (zto (ziC h1 h2))⟩
 have same:∀ {a b:Int} {w':World},Ext w w'->(a,b)=zn vs t.op t.n ks->∃ v,Ending.returned (.tuple #[.int .i64 a,.int .i64 b])=.returned v/\(∃ a b:Int,v=.tuple #[.int .i64 a,.int .i64 b]/\okR (a,b)=okR (zn vs t.op t.n ks)/\(okR (a,b)=true->(a,b)=zn vs t.op t.n ks))/\Ext w w' :=
  fun hk he=>⟨_,rfl,⟨_,_,rfl,tD,fun _=>he⟩,hk⟩
 refine zqT func151 O ntmps151 O (V.inn (Vs 2 O (V.box 5 O O (fun b5=>?_))));refine Vs 18 O (zp4 O (fun h0=>?_) (fun h0=>?_))
 .
  refine Vs 7 O (V.sp 25 O (fun n0=>?_) (fun n0=>?_))
  . refine Vs 17 O JX
  refine Vs 6 O (zp4 O (fun n1=>?_) (fun n1=>?_))
  . refine Vs 10 O JX
  refine Vs 3 O (Vq tK (Vs 11 O (zpo tr151 O O (fun w hI=>(same hI.k0 (by simp[zn,h0]))))))
 refine Vs 6 O (zp4 O (fun dI=>?_) (fun dI=>?_))
 .
  have hv:=hn.var dI;refine zrI 1000 0 t.n.toNat tO dV O O O (fun x d7 d8 d9 dO dX dJ dQ=>?_);obtain rfl:=dQ;refine Vs 1 O (Vq tK (Vs 3 O (zrj 1000 tR22 ts142 O dJ tO (t.n.toNat) tO O (Vs 5 O (zrj 1000 tR22 ts142 O dJ tO (t.n.toNat) tO O (Vs 9 O (zpo tr151 O O (fun w hI=>(same hI.k0 (by simp[zn,dI,ziy dO]))))))))))
 refine Vs 6 O (zp4 O (fun h6=>?_) (fun h6=>?_))
 .
  have hl:=hn.k1 (.inl h6);refine zrJ 2000 0 0 tO dr O O (fun p dD dE dl dx da=>(zrJ 3000 0 0 tO dt O O (fun r dF dG dm dy dh=>?_)));have x:=hg dl dm;refine Vs 1 O (Vq tK (Vs 1 O ?_));refine zrj 3000 tR27 ts3 O dh tO _ rfl O (Va 3 O tO ?_);refine zrj 2000 tR27 ts3 O da tO _ rfl O (Va 9 O tO (zpo tr151 O O (fun w hI=>(same hI.k0 (by simp[zn,h6,x])))))
 refine Vs 6 O (zp4 O (fun h8=>?_) (fun h8=>?_))
 .
  have hl:=hn.k2 tO;refine zrJ 4000 0 0 tO dr O O (fun p dD dE dl dx da=>(zrJ 5000 0 1 tO dr O O (fun q dz dA db du hY=>?_)));refine zrJ 6000 0 0 tO dt O O (fun r dF dG dm dy dh=>(zrJ 7000 0 1 tO dt O O (fun s dB dC dc dw dg=>?_)));have x:=hg dl dm;have y:=hg db dc;refine Vs 1 O (Vq tK (Vs 1 O ?_));refine zrj 4000 tR27 ts3 O da tO _ rfl O (Vs 2 O ?_);refine zrj 5000 tR27 ts3 O hY tO _ rfl O (Va 3 O tO ?_);refine zrj 6000 tR27 ts3 O dh tO _ rfl O (Vs 2 O ?_);refine zrj 7000 tR27 ts3 O dg tO _ rfl O (Va 9 O tO (zpo tr151 O O (fun w hI=>(same hI.k0 (by simp[zn,h8,x,y])))))
 refine Vs 6 O (zp4 O (fun h9=>?_) (fun h9=>?_))
 .
  have hl:=hn.k2 tO;refine zrJ 8000 0 0 tO dr O O (fun p dD dE dl dx da=>(zrJ 9000 0 1 tO dr O O (fun q dz dA db du hY=>?_)));refine zrJ 10000 0 0 tO dt O O (fun r dF dG dm dy dh=>(zrJ 11000 0 1 tO dt O O (fun s dB dC dc dw dg=>?_)));have x:=hg dl dm;have y:=hg db dc;refine Vs 1 O (Vq tK (Vs 1 O ?_));refine zrj 8000 tR27 ts3 O da tO _ rfl O (Vs 2 O ?_);refine zrj 11000 tR27 ts3 O dg tO _ rfl O (Va 3 O tO ?_);refine zrj 10000 tR27 ts3 O dh tO _ rfl O (Vs 2 O ?_);refine zrj 9000 tR27 ts3 O hY tO _ rfl O (Va 9 O tO (zpo tr151 O O (fun w hI=>(same hI.k0 (by simp[zn,h9,x,y])))))
 refine Vs 6 O (zp4 O (fun dK=>?_) (fun dK=>?_))
 .
  have hl:=hn.k2 tO;refine zrJ 12000 0 0 tO dr O O (fun p dD dE dl dx da=>(zrJ 13000 0 1 tO dr O O (fun q dz dA db du hY=>?_)));refine zrJ 14000 0 0 tO dt O O (fun r dF dG dm dy dh=>(zrJ 15000 0 1 tO dt O O (fun s dB dC dc dw dg=>?_)));have x:=hg dl dm;have y:=hg db dc;have m1:=zbO (x:=p) (y:=q) tO tO;have m2:=zbO (x:=p) (y:=s) tO tO;have m3:=zbO (x:=r) (y:=q) tO tO;have m4:=zbO (x:=r) (y:=s) tO tO;refine Vs 1 O (Vq tK (Vs 1 O ?_));refine zrj 12000 tR27 ts3 O da tO _ rfl O (Vs 2 O ?_);refine zrj 13000 tR27 ts3 O hY tO _ rfl O (Va 3 O tO ?_);refine zrj 12000 tR27 ts3 O da tO _ rfl O (Vs 2 O ?_);refine zrj 15000 tR27 ts3 O dg tO _ rfl O (Va 3 O tO ?_);refine zrj 14000 tR27 ts3 O dh tO _ rfl O (Vs 2 O ?_);refine zrj 13000 tR27 ts3 O hY tO _ rfl O (Va 3 O tO ?_);refine zrj 14000 tR27 ts3 O dh tO _ rfl O (Vs 2 O ?_);refine zrj 15000 tR27 ts3 O dg tO _ rfl O (Va 12 O tO (zrs tc114 O JA (Vs 2 O (zrs tc114 O JA (zrs tc114 O JA (Vs 2 O (zrs tc113 O i6 (Vs 2 O (zrs tc113 O i6 (zrs tc113 O i6 (Vs 7 O (zpo tr151 O O (fun w hI=>(same hI.k0 (by simp[zn,dK,x,y,jV,xl])))))))))))))))
 refine Vs 6 O (zp4 O (fun dH=>?_) (fun dH=>?_))
 .
  have hl:=hn.k2 tO;refine zrJ 16000 0 0 tO dr O O (fun p dD dE dl dx da=>(zrJ 17000 0 1 tO dr O O (fun q dz dA db du hY=>?_)));refine zrJ 18000 0 0 tO dt O O (fun r dF dG dm dy dh=>(zrJ 19000 0 1 tO dt O O (fun s dB dC dc dw dg=>?_)));have x:=hg dl dm;have y:=hg db dc;have hm:max (if p<0 then -p else p) (if r<0 then -r else r)=max r (-p):=tO;refine Vs 1 O (Vw [5,16000,17000,18000,19000] [] O (Vd [0,4] 0 tK O O O ?_));refine zrh 1 16000 tR27 ts3 O tK O da tO _ rfl O (Vd [2] 0 tK O O O ?_);refine zrh 5 18000 tR27 ts3 O tK O dh tO _ rfl O (Vd [6] 0 tK O O O (zrt 3 0 call182 O tK O O (fun w hI=>zbL p w tO) (zrt 7 0 call182 O tK O O (fun w hI=>zbL r w tO) (zrt 8 0 tc113 O tK O O i6 ?_))));rw[hm];refine Vd [9] 0 tK O O O (VD.done tK (Vs 5 O ?_));refine zrg 16000 tR27 ts3 O da tO _ rfl O (Vs 3 O (V.sp 149 O (fun p0=>?_) (fun p0=>?_)))
  .
   refine Vs 1 O ?_;refine zrg 17000 tR27 ts3 O hY tO _ rfl O (Vs 5 O (zp4 O (fun p1=>?_) (fun p1=>?_)))
   . refine Vs 11 O UU
   refine Va 14 O tO UU
  refine Va 22 O tO (zpo tr151 O O (fun w hI=>(same hI.k0 (by simp[zn,dH,x,y,p0]))))
 refine Vs 6 O (zp4 O (fun dL=>?_) (fun dL=>?_))
 .
  have hl:=hn.k2 tO;refine zrJ 20000 0 1 tO dr O O (fun q dz dA db du hY=>(zrJ 21000 0 1 tO dt O O (fun s dB dC dc dw dg=>?_)));have y:=hg db dc;refine Vs 1 O (Vw [5,20000,21000] [] O (Vd [0,3] 0 tK O O O ?_));refine zrh 1 20000 tR27 ts3 O tK O hY tO _ rfl O (Vd [2] 0 tK O O O ?_);refine zrh 4 21000 tR27 ts3 O tK O dg tO _ rfl O (Vd [5] 0 tK O O O (zrt 6 0 call183 O tK O O (fun w hI=>zdw q s w tO tO) (Vd [7,8,9,10] 0 tK O O O (VD.done tK (Vs 4 O (zpo tr151 O O (fun w hI=>(same hI.k0 (by simp[zn,dL,y])))))))))
 refine Vs 6 O (zp4 O (fun dM=>?_) (fun dM=>?_))
 .
  have hl:=hn.k2 tO;refine zrJ 22000 0 0 tO dr O O (fun p dD dE dl dx da=>(zrJ 23000 0 1 tO dr O O (fun q dz dA db du hY=>?_)));refine zrJ 24000 0 0 tO dt O O (fun r dF dG dm dy dh=>(zrJ 25000 0 1 tO dt O O (fun s dB dC dc dw dg=>?_)));have x:=hg dl dm;have y:=hg db dc;refine Vs 1 O (Vw [5,22000,23000,24000,25000] [] O (Vd [0,3,7,10] 0 tK O O O ?_));refine zrh 1 22000 tR27 ts3 O tK O da tO _ rfl O (Vd [2] 0 tK O O O ?_);refine zrh 4 23000 tR27 ts3 O tK O hY tO _ rfl O (Vd [5] 0 tK O O O ?_);refine zrh 8 24000 tR27 ts3 O tK O dh tO _ rfl O (Vd [9] 0 tK O O O ?_);refine zrh 11 25000 tR27 ts3 O tK O dg tO _ rfl O (Vd [12] 0 tK O O O (zrt 6 0 tc114 O tK O O JA (zrt 13 0 tc114 O tK O O JA (Vd [14,15] 0 tK O O O (VD.done tK (Vs 4 O (zpo tr151 O O (fun w hI=>(same hI.k0 (by simp[zn,dM,x,y]))))))))))
 refine Vs 6 O (zp4 O (fun dN=>?_) (fun dN=>?_))
 .
  have hl:=hn.k2 tO;refine zrJ 26000 0 0 tO dr O O (fun p dD dE dl dx da=>(zrJ 27000 0 1 tO dr O O (fun q dz dA db du hY=>?_)));refine zrJ 28000 0 0 tO dt O O (fun r dF dG dm dy dh=>(zrJ 29000 0 1 tO dt O O (fun s dB dC dc dw dg=>?_)));have x:=hg dl dm;have y:=hg db dc;refine Vs 1 O (Vw [5,26000,27000,28000,29000] [] O (Vd [0,3,7,10] 0 tK O O O ?_));refine zrh 1 26000 tR27 ts3 O tK O da tO _ rfl O (Vd [2] 0 tK O O O ?_);refine zrh 4 27000 tR27 ts3 O tK O hY tO _ rfl O (Vd [5] 0 tK O O O ?_);refine zrh 8 28000 tR27 ts3 O tK O dh tO _ rfl O (Vd [9] 0 tK O O O ?_);refine zrh 11 29000 tR27 ts3 O tK O dg tO _ rfl O (Vd [12] 0 tK O O O (zrt 6 0 tc113 O tK O O i6 (zrt 13 0 tc113 O tK O O i6 (Vd [14,15] 0 tK O O O (VD.done tK (Vs 4 O (zpo tr151 O O (fun w hI=>(same hI.k0 (by simp[zn,dN,x,y]))))))))))
 refine Vs 7 O (zrN (σ:=Unit) [2,3] [] [] O (fun e u=>(202,.bool (decide (t.op=23\/t.op=25)))::e) (fun e u=>e) (fun u=>True) j1 j1 ?_ ?_)
 .
  refine zp4 O (fun k1_=>?_) (fun k1_=>?_)
  . refine Vs 1 O (zpi () Ub j3 trivial 0 O O)
  refine Vs 4 O (zpi () Ub j3 trivial 0 O O)
 rintro u _;refine Vs 1 O (zp4 O (fun p1=>?_) (fun p1=>?_))
 .
  have hl:=hn.k3 p1;refine zrJ 30000 0 1 tO dr O O (fun q dz dA db du hY=>(zrJ 31000 0 1 tO dt O O (fun s dB dC dc dw dg=>?_)));have y:=hg db dc;refine Vs 1 O (Vq tK (Vs 1 O ?_));refine zrj 30000 tR27 ts3 O hY tO _ rfl O (Vs 2 O ?_);refine zrj 31000 tR27 ts3 O dg tO _ rfl O (Vs 12 O (zrM (σ:=Nat) [2,3] [] [] O (fun e k=>(15,.int .i64 (xl (q,s) ((ks.drop 2).take k)).1)::(16,.int .i64 (xl (q,s) ((ks.drop 2).take k)).2)::(17,.int .i64 (k+2:Nat))::e) (fun e k=>e) (fun k=>k+2<=ks.length) (fun k=>ks.length - k) 0 j2 j3 j1 j1 j1 tO ?_));rintro k eb;refine Vs 9 O (zp4 O (fun dY=>?_) (fun dY=>?_))
  .
   refine zrJ 32000 0 (k+2) tO dr O O (fun z ec ed dR dZ dS=>(zrJ 33000 0 (k+2) tO dt O O (fun y ee ef dT d5 dU=>?_)));have dW:=zar (x:=(q,s)) (show (ks.drop 2)[k]?=some (z,y) by rw[zvc,zwh];exact ziC dR dT);refine Vs 4 O (Vw [32000,33000] [] O (Vd [0,1,2,6,7,8] 0 tK O O O ?_));refine zrh 3 32000 tR27 ts3 O tK O dS tO _ rfl O (Vd [4] 0 tK O O O ?_);refine zrh 9 33000 tR27 ts3 O tK O dU tO _ rfl O (Vd [10] 0 tK O O O (zrt 5 0 tc114 O tK O O JA (zrt 11 0 tc113 O tK O O i6 (Vd [12,13] 0 tK O O O (VD.done tK (Va 7 O tO (V.back (k+1) (Sub.cons (by rw[dW];rfl) (Sub.cons (by rw[dW];rfl) YB)) j3 tO tZ 0 O O)))))))
  obtain rfl:k=ks.length - 2:=tO;refine Vs 16 O (zpo tr151 O O (fun w hI=>(same hI.k0 (by rw[<- zvq,zts];simp[zn,h0,dI,h6,h8,h9,dK,dH,dL,dM,dN,p1,y]))))
 refine Vs 10 O (zpo tr151 O O (fun w hI=>(same hI.k0 (by simp[zn,h0,dI,h6,h8,h9,dK,dH,dL,dM,dN,p1]))))
open Go.GL
def zdx (x:Int):List Value:=[.int .i64 x]
theorem xW (x:Int):(zdx x).length=1:=rfl
theorem qP (l:List Int):(l.flatMap zdx).length=l.length*1:=zQ xW l
theorem zoB (l:List Int):l.map (Value.int .i64)=l.flatMap zdx:=zb3 l
theorem zfP (vs:List Vr) (inp:Bool) (vv:Value) (Dv:Nat->Prop) (du:∀ v ∈ vs,yT (v.low,v.high)) (t:Tm):∀ (cs:List Value) (D:Nat->Prop) (w:World),SlR 5 RVr Dv w vv vs->RTm D w t cs->zA vs inp t=true->t.nodes<=1000000 ->
  Calls prog 111 #[vv,.agg cs.toArray] w (Ret fun r w'=>(∃ a b:Int,r=.tuple #[.int .i64 a,.int .i64 b,.bool (rng vs t).isSome]/\∀ x,rng vs t=some x->(a,b)=x)/\Ext w w'):=by
 induction t using zr1 with
 | h t ih =>
 intro cs D w dg ht hf dH;rw[yW,zu8,zu8]at hf;have dy:=zbC t.kids;have dI:=t.nodes_eq;obtain⟨v,rfl,hk⟩:=ht.get;obtain⟨ao,cap,rfl⟩:=hk.form;obtain⟨av,nv,rfl⟩:=dg.form;refine zqR func111 O ntmps111 O (V.inn (Vs 2 O (V.box 3 O O (fun b3=>?_))));refine Vs 7 O (zrU 15 tR27 ts3 O (fun b15=>?_));refine Vs 5 O (zrU 16 tR27 ts3 O (fun b16=>?_));refine Vs 10 O (zrM (σ:=Nat × List Rg × Value × Value) [0,3] [3] [3] O (fun e ⟨i,l,vl,vh⟩=>(7,vl)::(8,vh)::(9,.int .i64 i)::e) (fun e ⟨i,l,vl,vh⟩=>(15,.row 3 1 vl l.length ((l.map Prod.fst).map (Value.int .i64)))::(16,.row 3 1 vh l.length ((l.map Prod.snd).map (Value.int .i64)))::e) (fun⟨i,l,vl,vh⟩=>i<=t.kids.length/\rngL vs (t.kids.take i)=some l) (fun⟨i,l,vl,vh⟩=>t.kids.length - i) (0,[],_,_) j2 j3 j1 j1 j1 ⟨ztC _,by rw[zwf];rfl⟩ ?_);rintro⟨i,l,vl,vh⟩ ⟨hi,hl⟩;refine Vs 10 O (zp4 O (fun dz=>?_) (fun dz=>?_))
 .
  refine Vs 10 O (zrI 1000 0 i tO hk O O O (fun k dJ dK dL hY da dh dl=>?_));obtain⟨dA,rfl,db⟩:=dl.get;obtain⟨dB,dC,rfl⟩:=db.form;refine zrg 1000 tR68 ts70 O dh tO _ rfl O ?_;have dM:=xZ hY;have dm:=qH _ _ hl;rw[ztR]at dm;refine Vs 1 O (zru call111 O (fun w hI=>(ih k da _ D w il U2 (ya hf.2 da) tO)) ?_);rintro r w1 w2 dD dr ⟨ka,kb,rfl,dc⟩ dt;refine Vs 13 O (zqH O (fun w hI=>zqi O j6) (Vs 2 O (V.bool O (fun hb=>?_) (fun hb=>?_))))
  .
   have dE:rng vs k=none:=by cases h:rng vs k<;>simp[h]at hb ⊢
   have dw:rng vs t=none:=by rw[zbP,zeE hY dE];rfl
   refine Vs 14 O (zpr results111 O O O (fun w hI=>⟨_,rfl,⟨0,0,tD,fun x hx=>tD⟩,hI.k1⟩))
  obtain⟨x,hx⟩:∃ x,rng vs k=some x:=by cases h:rng vs k with
   | none=>simp[h]at hb
   | some x=>exact⟨x,rfl⟩
  have dF:=dc x hx;subst dF;refine Vs 6 O (zrP 39 [(0,_)] tR27 ts3 tz3 tS O O tK (fun b39=>?_));refine zrl 15 39 tu27 Tryz.el3 O tS O O tO tO (fun u15=>(Vs 6 O (zrP 43 [(0,_)] tR27 ts3 tz3 tS O O tK (fun b43=>?_))));refine zrl 16 43 tu27 Tryz.el3 O tS O O tO tO (fun u16=>(Vs 4 O (zrL 15 O (e':=.row 3 1 u15 (l++[(ka,kb)]).length (((l++[(ka,kb)]).map Prod.fst).map (Value.int .i64))) tR (zrL 16 O (e':=.row 3 1 u16 (l++[(ka,kb)]).length (((l++[(ka,kb)]).map Prod.snd).map (Value.int .i64))) tR (Va 5 O tO (V.back ⟨i+1,l++[(ka,kb)],u15,u16⟩ j2 j3 ⟨tO,zeD hY hl hx⟩ tD 1 O O))))))
 obtain rfl:i=t.kids.length:=tO;rw[zts]at hl;have dm:=qH _ _ hl
 have hn:NodeOk vs t.op t.n l:=jH dm hf.1.1 hf.1.2 (fun x hx=>by
  obtain⟨k,hk,dG⟩:=jW _ _ hl x hx
  exact kV du k (ya hf.2 hk) x dG) du
 have dN:rng vs t=if okR (zn vs t.op t.n l) then some (zn vs t.op t.n l) else none:=by rw[zbP,hl];rfl
 refine Vs 11 O (zru call151 O (fun w hI=>(zhu vs t l _ vl vh _ Dv D (fun _=>True) (fun _=>True) w il JI (by have h:=zqa (R:=zv) (Value.int .i64) j9 (hI.at 15 O) (fun _ _=>trivial);exact h) (by have h:=zqa (R:=zv) (Value.int .i64) j9 (hI.at 16 O) (fun _ _=>trivial);exact h) hn)) ?_);rintro r w1 w2 dD dr ⟨a,c,rfl,dO,dc⟩ dt;have dQ:(rng vs t).isSome=okR (a,c):=tD
 have dx:∀ x,rng vs t=some x->(a,c)=x:=by
  grind
 refine Vs 14 O (V.sp 57 O (fun g1=>?_) (fun g1=>?_))
 .
  have ho:okR (a,c)=decide (c<=1048576):=by unfold okR;congr 1;simp;omega
  refine Vs 9 O US
 have ho:okR (a,c)=false:=by unfold okR;exact ztA tO
 refine Vs 9 O US
end Go.Proofs.YtckdhgbepmpgiaaGreat
