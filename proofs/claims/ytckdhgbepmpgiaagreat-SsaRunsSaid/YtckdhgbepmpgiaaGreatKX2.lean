/-
  Contracts and the mathematics that the proof needs. Nothing here is a claim.
-/
import Derived.Test.YtckdhgbepmpgiaaGreatKX1
namespace Go.Proofs
open Go.GL
def Tryz.szs:Szs:=[(3,0),(27,0),(26,3),(169,2),(24,0),(70,3),(36,1),(30,2),(22,0),(72,10),(34,0),(159,2),(68,0),(89,0),(28,0),(66,0),(88,4),(94,0),(4,0),(100,0),(45,3),(142,5),(56,0),(63,0),(47,2),(65,4),(23,0),(59,3),(117,3),(126,2),(67,0),(85,2),(57,0),(109,6),(9,0),(262,0),(52,0),(124,0),(193,3),(121,0),(120,0),(195,0)]
theorem Tryz.szsOk:zn2 Tryz.prog Tryz.szs :=
 zn6 (show Szs.one _ 3 0 from⟨tg3,ts3⟩) <|
 zn6 (show Szs.one _ 27 0 from⟨tg27,ts27⟩) <|
 zn6 (show Szs.one _ 26 3 from⟨tg26,ts26⟩) <|
 zn6 (show Szs.one _ 169 2 from⟨Tryz.isAgg169,Tryz.sizeOf169⟩) <|
 zn6 (show Szs.one _ 24 0 from⟨tg24,ts24⟩) <|
 zn6 (show Szs.one _ 70 3 from⟨tg70,ts70⟩) <|
 zn6 (show Szs.one _ 36 1 from⟨tg36,ts36⟩) <|
 zn6 (show Szs.one _ 30 2 from⟨Tryz.isAgg30,ts30⟩) <|
 zn6 (show Szs.one _ 22 0 from⟨tg22,Tryz.sizeOf22⟩) <|
 zn6 (show Szs.one _ 72 10 from⟨tg72,ts72⟩) <|
 zn6 (show Szs.one _ 34 0 from⟨tg34,ts34⟩) <|
 zn6 (show Szs.one _ 159 2 from⟨tg159,ts159⟩) <|
 zn6 (show Szs.one _ 68 0 from⟨tg68,Tryz.sizeOf68⟩) <|
 zn6 (show Szs.one _ 89 0 from⟨Tryz.isAgg89,ts89⟩) <|
 zn6 (show Szs.one _ 28 0 from⟨Tryz.isAgg28,Tryz.sizeOf28⟩) <|
 zn6 (show Szs.one _ 66 0 from⟨tg66,Tryz.sizeOf66⟩) <|
 zn6 (show Szs.one _ 88 4 from⟨Tryz.isAgg88,ts88⟩) <|
 zn6 (show Szs.one _ 94 0 from⟨Tryz.isAgg94,ts94⟩) <|
 zn6 (show Szs.one _ 4 0 from⟨tg4,ts4⟩) <|
 zn6 (show Szs.one _ 100 0 from⟨tg100,ts100⟩) <|
 zn6 (show Szs.one _ 45 3 from⟨tg45,ts45⟩) <|
 zn6 (show Szs.one _ 142 5 from⟨tg142,ts142⟩) <|
 zn6 (show Szs.one _ 56 0 from⟨Tryz.isAgg56,Tryz.sizeOf56⟩) <|
 zn6 (show Szs.one _ 63 0 from⟨Tryz.isAgg63,Tryz.sizeOf63⟩) <|
 zn6 (show Szs.one _ 47 2 from⟨tg47,ts47⟩) <|
 zn6 (show Szs.one _ 65 4 from⟨Tryz.isAgg65,ts65⟩) <|
 zn6 (show Szs.one _ 23 0 from⟨tg23,Tryz.sizeOf23⟩) <|
 zn6 (show Szs.one _ 59 3 from⟨Tryz.isAgg59,ts59⟩) <|
 zn6 (show Szs.one _ 117 3 from⟨tg117,ts117⟩) <|
 zn6 (show Szs.one _ 126 2 from⟨Tryz.isAgg126,Tryz.sizeOf126⟩) <|
 zn6 (show Szs.one _ 67 0 from⟨tg67,Tryz.sizeOf67⟩) <|
 zn6 (show Szs.one _ 85 2 from⟨Tryz.isAgg85,ts85⟩) <|
 zn6 (show Szs.one _ 57 0 from⟨Tryz.isAgg57,Tryz.sizeOf57⟩) <|
 zn6 (show Szs.one _ 109 6 from⟨tg109,ts109⟩) <|
 zn6 (show Szs.one _ 9 0 from⟨tg9,ts9⟩) <|
 zn6 (show Szs.one _ 262 0 from⟨Tryz.isAgg262,Tryz.sizeOf262⟩) <|
 zn6 (show Szs.one _ 52 0 from⟨Tryz.isAgg52,Tryz.sizeOf52⟩) <|
 zn6 (show Szs.one _ 124 0 from⟨Tryz.isAgg124,Tryz.sizeOf124⟩) <|
 zn6 (show Szs.one _ 193 3 from⟨Tryz.isAgg193,ts193⟩) <|
 zn6 (show Szs.one _ 121 0 from⟨Tryz.isAgg121,Tryz.sizeOf121⟩) <|
 zn6 (show Szs.one _ 120 0 from⟨Tryz.isAgg120,ts120⟩) <|
 zn6 (show Szs.one _ 195 0 from⟨Tryz.isAgg195,Tryz.sizeOf195⟩) <|
 zn4
end Go.Proofs
namespace Go.Proofs.YtckdhgbepmpgiaaGreat
open Go.GL
section
variable {n:Nat} {Q:Exit->Act->World->Prop} {ks ks':List Fr} {pos pos':Pos} {env env':Env} {A A':Tgs} {H H' Hs:Hp} {Bs B0:zF} {ops:Array Oper} {L:List Nat} {fuel:Nat} {listed:Array Bool} {v:Value}
theorem Vs (k:Nat) (h:zdp Tryz.tab Tryz.szs n k none ks pos env A H=some (none,ks',pos',env',A',H')) (hr:V Tryz.prog n Q ks' pos' env' A' H' Bs):V Tryz.prog n Q ks pos env A H Bs:=V.go Tryz.tabOk Tryz.szsOk k h hr
theorem Va (k:Nat) {p:Prop} (h:zdp Tryz.tab Tryz.szs n k none ks pos env A H=some (some p,ks',pos',env',A',H')) (hp:p) (hr:V Tryz.prog n Q ks' pos' env' A' H' Bs):V Tryz.prog n Q ks pos env A H Bs:=V.goA Tryz.tabOk Tryz.szsOk k h hp hr
theorem Vq {id:Nat} {l:List Oper} (hB:Region.lexB .any l.toArray=true) (h:V Tryz.prog n Q ks (.q l.toArray l) env A H Bs):V Tryz.prog n Q ks (.c (.region id l.toArray true)) env A H Bs:=zmE Tryz.mixed hB h
theorem Vw {id:Nat} {l:List Oper} (hs L:List Nat) (hp:zex H hs=some Hs) (h:VD Tryz.prog n Q ks l.toArray Hs Bs L l.length (Array.replicate l.length false) env A H Bs):V Tryz.prog n Q ks (.c (.region id l.toArray true)) env A H Bs:=zog hs L Tryz.mixed hp h
theorem Vd (is:List Nat) (j:Nat) (hc:zcF ops L is listed=true) (hB:Bs.drop j=B0) (hv:zfR Tryz.tab Tryz.szs n ops Hs is none env A=some (none,env',A')) (hY:qA (Hs.map (·.1))=true) (h:VD Tryz.prog n Q ks ops Hs B0 L fuel (zdk is listed) env' A' H Bs):VD Tryz.prog n Q ks ops Hs B0 L (addN is fuel) listed env A H Bs:=VD.ps Tryz.tabOk Tryz.szsOk is j hc hB hv hY h
theorem Vb (is:List Nat) (j:Nat) {p:Prop} (hc:zcF ops L is listed=true) (hB:Bs.drop j=B0) (hv:zfR Tryz.tab Tryz.szs n ops Hs is none env A=some (some p,env',A')) (hY:qA (Hs.map (·.1))=true) (hp:p) (h:VD Tryz.prog n Q ks ops Hs B0 L fuel (zdk is listed) env' A' H Bs):VD Tryz.prog n Q ks ops Hs B0 L (addN is fuel) listed env A H Bs:=znt Tryz.tabOk Tryz.szsOk is j hc hB hv hY hp h
theorem Ve (i j:Nat) {t:TypeId} {x y:Operand} {ty:TypeId} {ps:String} {aft:Array Edge} {g:Option (Nat × Bool)} (hi:ops[i]?=some ⟨none,.store t x y,ty,ps,aft,g⟩) (hr:Region.ready .any ops listed=[i]) (hn:(gd ops env g,zb9 Tryz.szs env A H t x y,qA (Hs.map (·.1)))=(some true,some H',true)) (hB:Bs.drop j=B0) (hY:Hs.map (fun x=>hget H' x.1)=Hs.map (fun x=>some x.2))
  (h:VD Tryz.prog n Q ks ops Hs B0 L fuel (listed.setIfInBounds i true) env A H' Bs):VD Tryz.prog n Q ks ops Hs B0 L (fuel+1) listed env A H Bs:=VD.st i j Tryz.szsOk hi hr hn hB hY h
theorem Vl (i:Nat) {t:TypeId} {x y:Operand} {ty:TypeId} {ps:String} {aft:Array Edge} {g:Option (Nat × Bool)} (hi:ops[i]?=some ⟨none,.store t x y,ty,ps,aft,g⟩) (hr:Region.ready .any ops listed=[i]) (hn:(gd ops env g,zb9 Tryz.szs env A H t x y,L.contains i)=(some true,some H',true))
  (h:VDx Tryz.prog n Q ks ops (VI B0 Hs) L fuel (listed.setIfInBounds i true) env A H' Bs):VD Tryz.prog n Q ks ops Hs B0 L (fuel+1) listed env A H Bs:=zo9 i Tryz.szsOk hi hr hn h
theorem Vx {S:World->Prop} (is:List Nat) (hc:zf6 ops is listed=true) (hv:zfR Tryz.tab Tryz.szs n ops [] is none env A=some (none,env',A')) (h:VDx Tryz.prog n Q ks ops S L fuel (zdk is listed) env' A' H Bs):VDx Tryz.prog n Q ks ops S L (addN is fuel) listed env A H Bs:=znr Tryz.tabOk Tryz.szsOk is hc hv h
end
end Go.Proofs.YtckdhgbepmpgiaaGreat
namespace Go.GL
open Go.RowKit
theorem zoo (w:World) (S:Nat->Prop):VI [(w,S)] [] w where
 holds:=fun _ h=>by cases h
 loc:=fun _ h=>by cases h
 apart:=List.Pairwise.nil
 froz:=fun _ h=>by cases h
 low:=fun _ h=>by cases h
 base:=fun p hp=>by
  rw[zpC]at hp
  subst hp
  exact⟨Keep.refl _ _,fun _ h=>by cases h⟩
theorem VI.add {Bs:zF} {H:Hp} {w:World} {e:HE} (h:VI Bs H w) (k:Nat) (he:e.holds w) (hl:e.loc) (hz:∀ b,¬ e.fz b) (hS:∀ q,e.S q->q<w.heap.size/\(∀ p ∈ Bs,p.2 q\/p.1.heap.size<=q)/\∀ x ∈ H,¬ x.2.S q/\¬ x.2.fz q):VI Bs ((k,e)::H) w:=by
 refine⟨?_,?_,?_,?_,?_,?_⟩
 .
  intro x hx
  rcases zpA.1 hx with rfl | hx
  . exact he
  exact h.holds x hx
 .
  intro x hx
  rcases zpA.1 hx with rfl | hx
  . exact hl
  exact h.loc x hx
 . exact zro.2 ⟨fun x hx q hq hs=>((hS q hq).2.2 x hx).1 hs,h.apart⟩
 .
  intro x hx y hy b hb
  rcases zpA.1 hx with rfl | hx
  . exact absurd hb (hz b)
  rcases zpA.1 hy with rfl | hy
  . exact fun hs=>((hS b hs).2.2 x hx).2 hb
  exact h.froz x hx y hy b hb
 .
  intro x hx q hq
  rcases zpA.1 hx with rfl | hx
  . exact(hS q hq).1
  exact h.low x hx q hq
 intro p hp
 refine⟨(h.base p hp).1,fun x hx q hq=>?_⟩
 rcases zpA.1 hx with rfl | hx
 . exact(hS q hq).2.1 p hp
 exact(h.base p hp).2 x hx q hq
structure RowsOk {α:Type} (enc:α->Value) (e:TypeId) (w:World) (rv:List Value) (rows:List (List α)):Prop where
 len:rv.length=rows.length
 row:∀ (i:Nat) (v:Value) (r:List α),rv[i]?=some v->rows[i]?=some r->w.ownsRow 0 e 1 v r.length (r.map enc)
 apart:∀ (i j:Nat) (vi vj:Value) (g:Nat),i ≠ j->rv[i]?=some vi->rv[j]?=some vj->vi.ownBlock=some g->vj.ownBlock ≠ some g
section
variable {α:Type} {enc:α->Value} {e:TypeId} {w w1:World} {rv:List Value} {rows:List (List α)}
theorem RowsOk.blk (h:RowsOk enc e w rv rows) {i:Nat} {v:Value} {g:Nat} (hv:rv[i]?=some v) (hg:v.ownBlock=some g):g<w.heap.size:=by
 have hi:i<rows.length:=by rw[<- h.len];exact(zpy.1 hv).1
 exact xB (h.row i v _ hv (zpk hi)) hg
theorem RowsOk.keep {S:Nat->Prop} (h:RowsOk enc e w rv rows) (hk:Keep S w w1) (hS:∀ (i:Nat) v g,rv[i]?=some v->v.ownBlock=some g->¬ S g):RowsOk enc e w1 rv rows :=
 ⟨h.len,fun i v r hv hr=>zm (h.row i v r hv hr) hk (fun g hg=>hS i v g hv hg),h.apart⟩
theorem RowsOk.put (h:RowsOk enc e w rv rows) {i:Nat} {v v':Value} {r':List α} (hv:rv[i]?=some v) (db:w1.ownsRow 0 e 1 v' r'.length (r'.map enc)) (dk:v'.ownBlock=v.ownBlock\/∃ g,v'.ownBlock=some g/\w.heap.size<=g) (hk:Keep (fun q=>v.ownBlock=some q) w w1):RowsOk enc e w1 (rv.set i v') (rows.set i r'):=by
 have da:=(zpy.1 hv).1
 have df:∀ (j:Nat) u g,i ≠ j->rv[j]?=some u->v'.ownBlock=some g->u.ownBlock ≠ some g:=by
  intro j u g hY hu hg dg
  rcases dk with hf | ⟨g',hf,dh⟩
  . exact h.apart i j v u g hY hv hu (hf ▸ hg) dg
  rw[hf]at hg;cases hg
  have:=h.blk hu dg
  omega
 refine⟨by simp[h.len],fun j u r hu hr=>?_,fun a b va vb g dc ha hb hg=>?_⟩
 .
  by_cases hY:i=j
  .
   subst hY
   rw[List.getElem?_set_self da]at hu
   rw[List.getElem?_set_self (by rw[<- h.len];exact da)]at hr
   cases hu;cases hr
   exact db
  rw[List.getElem?_set_ne hY]at hu hr
  exact zm (h.row j u r hu hr) hk fun g hg hq=>h.apart i j v u g hY hv hu hq hg
 by_cases de:i=a
 .
  subst de
  rw[List.getElem?_set_self da]at ha
  rw[List.getElem?_set_ne dc]at hb
  cases ha
  exact df b vb g dc hb hg
 rw[List.getElem?_set_ne de]at ha
 by_cases di:i=b
 .
  subst di
  rw[List.getElem?_set_self da]at hb
  cases hb
  exact fun dh=>df a va g de ha dh hg
 rw[List.getElem?_set_ne di]at hb
 exact h.apart a b va vb g dc ha hb hg
end
abbrev RowsP {α:Type} (enc:α->Value) (e:TypeId) (rv:List Value) (rows:List (List α)):HE:=.res (fun q=>∃ (i:Nat) (v:Value),rv[i]?=some v/\v.ownBlock=some q) (fun w=>RowsOk enc e w rv rows)
theorem RowsP.loc {α:Type} {enc:α->Value} {e:TypeId} {rv:List Value} {rows:List (List α)}:(RowsP enc e rv rows).loc:=fun _ _ _ h hk hT=>h.keep hk fun i v g hv hg=>hT g (h.blk hv hg) ⟨i,v,hv,hg⟩
theorem znP {w:World} {b:Nat} {cs:List Value} {e:TypeId} {i:Nat} {v:Value} (h:Blk w b cs e) (hv:cs[i]?=some v):w.cell? ⟨b,0+(i:Int).toNat*1,none⟩=some v:=by
 have:=Blk.cells h i v hv
 simpa using this
section
variable {P:Program} {T:Tab} {Z:Szs} {n:Nat} {Q:Exit->Act->World->Prop} {ks:List Fr} {pos:Pos} {env:Env} {A:Tgs} {H Hs:Hp} {Bs B0:zF} {ops:Array Oper} {rest:List Oper} {v:Value} {L:List Nat} {fuel:Nat} {listed:Array Bool}
variable {d:Nat} {op:Op} {ty:TypeId} {ps:String} {aft:Array Edge} {g:Option (Nat × Bool)}
theorem zop {w:World} (k:Nat) (e:HE) (he:e.holds w) (hl:e.loc) (hz:∀ b,¬ e.fz b) (hS:∀ q,e.S q->q<w.heap.size) (h:V P n Q ks pos env [] [(k,e)] [(w,e.S)]):G P n Q ks pos env w :=
 h TgOk.nil w ((zoo w e.S).add k he hl hz fun q hq=>⟨hS q hq,fun p hp=>by rw[zpC]at hp;subst hp;exact .inl hq,fun x hx=>by cases hx⟩)
theorem zoq (k:Nat) {e e':HE} (hn:(hget H k,qH H k)=(some e,none)) (he:∀ w,VI Bs H w->e'.holds w) (hl:e'.loc) (hz:∀ b,¬ e'.fz b) (hS:∀ q,e'.S q->e.S q) (h:V P n Q ks pos env A (yx H k e') Bs):V P n Q ks pos env A H Bs:=by
 simp only[Prod.mk.injEq]at hn
 exact fun hA w hI=>h (hA.res hn.1 hn.2) w (hI.set hn.1 (Keep.refl _ _) (he w hI) hl hz fun q hq=>⟨.inl (hS q hq),hI.low _ (zr hn.1) q (hS q hq)⟩)
theorem zor (i:Nat) (hi:ops[i]?=some ⟨some d,op,ty,ps,aft,g⟩) (hc:(Region.noSelect ops&&Region.free .any ops listed i&&(Region.ready .any ops listed).contains i&&L.all (jv .any ops i)&&!L.contains i)=true) (hn:(Nat.blt d n,gd ops env g)=(true,some true)) (j:Nat) (hB:Bs.drop j=B0) (hu:qA (Hs.map (·.1))=true) (hr:∀ w,VI B0 Hs w->yA P ⟨some d,op,ty,ps,aft,g⟩ env w v w)
  (h:VD P n Q ks ops Hs B0 L fuel (listed.setIfInBounds i true) ((d,v)::env) ((d,none)::A) H Bs):VD P n Q ks ops Hs B0 L (fuel+1) listed env A H Bs:=by
 simp only[Prod.mk.injEq]at hn
 subst hB
 exact fun hH hA w hI=>zn0 i hi hc O hn.1 ((hI.drop j).pick hH hu) (.inl ⟨qv hn.2,hr⟩) (h hH hA.none w hI)
theorem zos (i:Nat) {S:World->Prop} {Q:Exit->Act->World->Prop} {op:Op} {w:World} {R:World->Prop} (hi:ops[i]?=some ⟨none,op,ty,ps,aft,g⟩) (hr:Region.ready .any ops listed=[i]) (hg:gd ops env g=some true) (hL:L.contains i=true) (hm:xZ P ⟨none,op,ty,ps,aft,g⟩ env w R)
  (h:∀ w',R w'->WD P n ops Q S L fuel (listed.setIfInBounds i true) env w'):WD P n ops Q S L (fuel+1) listed env w:=by
 intro a ha
 refine⟨fun h0=>(by rw[hr]at h0;cases h0),fun k hk=>?_⟩
 rw[hr]at hk
 have:k=i:=by simpa using hk
 subst this
 unfold wpOp
 simp only[hi]
 rw[zpv (qv hg a ha)]
 refine .inl ?_
 obtain⟨w',hY,hR⟩:=hm
 unfold Oper.wp
 rw[hY n a ha,Oper.upon_skip]
 exact⟨fun hc _=>absurd (by simpa using hL) hc,h w' hR _ ha.put0⟩
theorem zot {α:Type} {enc:α->Value} (ia k kb j i:Nat) {t e:TypeId} {by':Nat} {z:Value} {x y:Operand} {b c:Nat} {rv:List Value} {rows:List (List α)} {r:List α} {xx:α} {tb:TypeId}
  (hu:P.underlying t=some (.slice e)) (he:(P.info? e).map (fun i=>(i.zero,i.size,i.bytes))=some (some z,1,by')) (dg:z.cells.size=1)
  (hi:ops[ia]?=some ⟨some d,.call ⟨.builtin .append,#[x,y],#[t,t]⟩,ty,ps,aft,g⟩) (hr:Region.ready .any ops listed=[ia]) (hB:Bs.drop j=B0)
  (hn:(Nat.blt d n,gd ops env g,hget H k,qH H k,hget H kb,ev env x,ev env y,Go.GL.one (enc xx),qA (Hs.map (·.1)),qn k (Hs.map (·.1)))=(true,some true,some (RowsP enc e rv rows),none,some (.own b [enc xx] tb),some v,some (.slice (some ⟨b,0,none⟩) 1 c),true,true,true))
  (hv:rv[i]?=some v) (hY:rows[i]?=some r) (hb:r.length+1<=9223372036854775807/\(r.length+1)*by'<=140737488355328)
  (h:∀ u,Go.GL.one u=true->VD P n Q ks ops Hs B0 L fuel (listed.setIfInBounds ia true) ((d,u)::env) ((d,none)::A) (yx H k (RowsP enc e (rv.set i u) (rows.set i (r++[xx])))) Bs):VD P n Q ks ops Hs B0 L (fuel+1) listed env A H Bs:=by
 simp only[Prod.mk.injEq]at hn
 subst hB
 obtain⟨h1,h2,h3,h4,h5,h6,h7,h8,h9,dh⟩:=hn
 intro hH hA w hI
 have hM:RowsOk enc e w rv rows:=hI.at k h3
 have di:=(zpy.1 hv).1
 refine zo6 ia hi hr h1 h2 (.inl (M.append (news:=[enc xx]) hu he dg Nat.one_pos h6 h7 (hM.row i v r hv hY) O (Cells.add (Blk.cells (hI.at kb h5))) (fun u hu=>by rw[zpC]at hu;rw[hu];exact(xQ h8).1) hb.1 hb.2)) ?_
 rintro u w1 ⟨ho,hf,da,_⟩
 have db:=hM.put hv (r':=r++[xx]) (by simpa using ho) hf da
 have dc:VI Bs (yx H k (RowsP enc e (rv.set i u) (rows.set i (r++[xx])))) w1:=hI.set h3 (da.mono fun q _ hq=>⟨i,v,hv,hq⟩) db RowsP.loc (fun _ h=>h) fun q hq=>by
  refine⟨?_,?_⟩
  .
   obtain⟨j,vj,hj,hq⟩:=hq
   by_cases de:i=j
   .
    subst de
    rw[List.getElem?_set_self di]at hj
    cases hj
    rcases hf with hf | ⟨g',hf,dk⟩
    . exact .inl ⟨i,v,hv,hf ▸ hq⟩
    rw[hf]at hq;cases hq;exact .inr dk
   rw[List.getElem?_set_ne de]at hj
   exact .inl ⟨j,vj,hj,hq⟩
  obtain⟨j,vj,hj,hq⟩:=hq
  exact db.blk hj hq
 have df:Has Hs (yx H k (RowsP enc e (rv.set i u) (rows.set i (r++[xx])))):=hH.set h3 dh
 obtain⟨au,cu,rfl,_,_⟩:=xC ho
 exact⟨(dc.drop j).pick df h9,h _ O df (TgOk.none (hA.res h3 h4)) w1 dc⟩
theorem zou (is k j:Nat) {ts:TypeId} {x y:Operand} {b o:Nat} {cs:List Value} {e:TypeId} (da:∀ w,(sizeOf ts).run P w=.ok 1 w) (hi:ops[is]?=some ⟨none,.store ts x y,ty,ps,aft,g⟩) (hr:Region.ready .any ops listed=[is])
  (hn:(gd ops env g,hget H k,ev env x,ev env y,L.contains is)=(some true,some (.own b cs e),some (.pointer (some ⟨b,o,none⟩)),some v,true)) (h1:Go.GL.one v=true) (hj:o=j) (hl:j<cs.length)
  (h:VDx P n Q ks ops (VI B0 Hs) L fuel (listed.setIfInBounds is true) env A (yx H k (.own b (cs.set j v) e)) Bs):VD P n Q ks ops Hs B0 L (fuel+1) listed env A H Bs:=by
 simp only[Prod.mk.injEq]at hn
 subst hj
 obtain⟨h2,h3,h4,h5,h6⟩:=hn
 intro hH hA w hI
 have hB:Blk w b cs e:=hI.at k h3
 obtain⟨c1,c2⟩:=xQ h1
 refine zos is hi hr h2 h6 (M.store da h4 h5 c1 c2 hB hl) ?_
 rintro w2 ⟨_,hY,db⟩
 exact h (hA.set h3) w2 (hI.set h3 db hY trivial (fun _ h=>h) fun q hq=>⟨.inl hq,by have hq:q=b:=hq;rw[hq];exact hY.lt⟩)
theorem VI.row {e:TypeId} {kk m b:Nat} {zs:List Value} {w w':World} (k:Nat) (hI:VI Bs H w) (hm:m<=9223372036854775807) (hl:zs.length=m*kk) (hN:New w zs e b w'):VI Bs ((k,.row e kk (.slice (some ⟨b,0,none⟩) m m) m zs)::H) w':=by
 obtain⟨h1,h2,h3,h4⟩:=hN
 refine hI.new h4 k ?_ trivial (fun _ h=>h) (fun q hq=>?_)
 .
  have:=ye (k:=kk) (n:=m) (cap:=m) h3 (zpJ _) hm hl
  rw[<- hl,zpp]at this
  exact this
 have hq:some b=some q:=hq
 cases hq
 omega
theorem zmA (i k j:Nat) {t e:TypeId} {kk by' m:Nat} {z:Value} {x y:Operand} {kl kc:IntKind} {zs:List Value} (hu:P.underlying t=some (.slice e)) (he:(P.info? e).map (fun i=>(i.zero,i.size,i.bytes))=some (some z,kk,by'))
  (hi:ops[i]?=some ⟨some d,.makeSlice t x y,ty,ps,aft,g⟩) (hr:Region.ready .any ops listed=[i]) (hn:(Nat.blt d n,gd ops env g,(hget H k).isNone,ev env x,ev env y,qA (Hs.map (·.1)))=(true,some true,true,some (.int kl (m:Int)),some (.int kc (m:Int)),true)) (hB:Bs.drop j=B0)
  (hb:by'*m<=281474976710656) (hm:m<=9223372036854775807) (hz:madeCells z.cells (m*kk)=zs.toArray) (hl:zs.length=m*kk)
  (h:∀ b,VD P n Q ks ops Hs B0 L fuel (listed.setIfInBounds i true) ((d,.slice (some ⟨b,0,none⟩) m m)::env) ((d,none)::A) ((k,.row e kk (.slice (some ⟨b,0,none⟩) m m) m zs)::H) Bs):VD P n Q ks ops Hs B0 L (fuel+1) listed env A H Bs:=by
 simp only[Prod.mk.injEq,zs7]at hn
 subst hB
 obtain⟨h1,h2,h3,h4,h5,h6⟩:=hn
 intro hH hA w hI
 refine zo6 i hi hr h1 h2 (.inl (zmy hu he h4 h5 hb hm hz)) ?_
 rintro _ w1 ⟨b,rfl,hN⟩
 have hY:=hI.row k hm hl hN
 have da:Has Hs ((k,.row e kk (.slice (some ⟨b,0,none⟩) m m) m zs)::H):=hH.new h3
 exact⟨(hY.drop j).pick da h6,h b da (TgOk.none (hA.new h3)) w1 hY⟩
theorem zov (i i2 k k2 j:Nat) {t e t2 e2:TypeId} {kk by' kk2 by2 m m2 d2:Nat} {z z2:Value} {x y x2 y2:Operand} {kl kc kl2 kc2:IntKind} {zs zs2:List Value} {ty2:TypeId} {ps2:String} {aft2:Array Edge}
  (hu:P.underlying t=some (.slice e)) (he:(P.info? e).map (fun i=>(i.zero,i.size,i.bytes))=some (some z,kk,by')) (de:P.underlying t2=some (.slice e2)) (df:(P.info? e2).map (fun i=>(i.zero,i.size,i.bytes))=some (some z2,kk2,by2))
  (hi:(ops[i]?,ops[i2]?)=(some ⟨some d,.makeSlice t x y,ty,ps,aft,none⟩,some ⟨some d2,.makeSlice t2 x2 y2,ty2,ps2,aft2,none⟩)) (hr:Region.ready .any ops listed=[i,i2])
  (hn:(Nat.blt d n,Nat.blt d2 n,(hget H k).isNone,(hget H k2).isNone)=(true,true,true,true)) (db:qA (Hs.map (·.1))=true) (hB:Bs.drop j=B0)
  (hv:(ev env x,ev env y,ev env x2,ev env y2)=(some (.int kl (m:Int)),some (.int kc (m:Int)),some (.int kl2 (m2:Int)),some (.int kc2 (m2:Int))))
  (hb:by'*m<=281474976710656/\m<=9223372036854775807/\by2*m2<=281474976710656/\m2<=9223372036854775807) (hz:madeCells z.cells (m*kk)=zs.toArray) (dg:madeCells z2.cells (m2*kk2)=zs2.toArray) (hl:zs.length=m*kk/\zs2.length=m2*kk2)
  (h:∀ b,VD P n Q ks ops Hs B0 L fuel (listed.setIfInBounds i true) ((d,.slice (some ⟨b,0,none⟩) m m)::env) ((d,none)::A) ((k,.row e kk (.slice (some ⟨b,0,none⟩) m m) m zs)::H) Bs)
  (h2:∀ b,VD P n Q ks ops Hs B0 L fuel (listed.setIfInBounds i2 true) ((d2,.slice (some ⟨b,0,none⟩) m2 m2)::env) ((d2,none)::A) ((k2,.row e2 kk2 (.slice (some ⟨b,0,none⟩) m2 m2) m2 zs2)::H) Bs):VD P n Q ks ops Hs B0 L (fuel+1) listed env A H Bs:=by
 simp only[Prod.mk.injEq,zs7]at hi hn hv
 subst hB
 obtain⟨dh,di⟩:=hi
 obtain⟨dk,dl,hk,dc⟩:=hn
 obtain⟨g1,g2,g3,g4⟩:=hb
 intro hH hA w hI
 refine zmJ i i2 (R:=fun r w'=>∃ b,r=.slice (some ⟨b,0,none⟩) m m/\New w zs e b w') (Rj:=fun r w'=>∃ b,r=.slice (some ⟨b,0,none⟩) m2 m2/\New w zs2 e2 b w') dh di hr O O dk O O dl (.inl (zmy hu he hv.1 hv.2.1 g1 g2 hz)) (.inl (zmy de df hv.2.2.1 hv.2.2.2 g3 g4 dg)) ?_ ?_
 .
  rintro _ w1 ⟨b,rfl,hN⟩
  have hY:=hI.row k g2 hl.1 hN
  have da:Has Hs ((k,.row e kk (.slice (some ⟨b,0,none⟩) m m) m zs)::H):=hH.new hk
  exact⟨fun _=>(hY.drop j).pick da db,h b da (TgOk.none (hA.new hk)) w1 hY⟩
 rintro _ w1 ⟨b,rfl,hN⟩
 have hY:=hI.row k2 g4 hl.2 hN
 have da:Has Hs ((k2,.row e2 kk2 (.slice (some ⟨b,0,none⟩) m2 m2) m2 zs2)::H):=hH.new dc
 exact⟨fun _=>(hY.drop j).pick da db,h2 b da (TgOk.none (hA.new dc)) w1 hY⟩
theorem zow (is k:Nat) {t tl:TypeId} {x y:Operand} {b o m c:Nat} {xs:List Value} (q:Nat) (hs:∀ w,(sizeOf tl).run P w=.ok 1 w) (hi:ops[is]?=some ⟨none,.store tl x y,ty,ps,aft,g⟩) (hr:Region.ready .any ops listed=[is])
  (hn:(gd ops env g,hget H k,qH H k,ev env x,ev env y,Go.GL.one v,L.contains is)=(some true,some (.row t 1 (.slice (some ⟨b,0,none⟩) m c) m xs),none,some (.pointer (some ⟨b,o,none⟩)),some v,true,true)) (hj:o=q) (hl:q<xs.length)
  (h:VDx P n Q ks ops (VI B0 Hs) L fuel (listed.setIfInBounds is true) env A (yx H k (.row t 1 (.slice (some ⟨b,0,none⟩) m c) m (xs.set q v))) Bs):VD P n Q ks ops Hs B0 L (fuel+1) listed env A H Bs:=by
 simp only[Prod.mk.injEq]at hn
 subst hj
 obtain⟨h2,h3,ha,h4,h5,h1,h6⟩:=hn
 intro hH hA w hI
 have ho:w.ownsRow 0 t 1 (.slice (some ⟨b,0,none⟩) m c) m xs:=hI.at k h3
 obtain⟨sp,hB,hc,da,db⟩:=jf ho
 have de:xs.length=m:=by have:=ho.1;omega
 obtain⟨c1,c2⟩:=xQ h1
 refine zos is hi hr h2 h6 (M.store hs h4 h5 c1 c2 hB (by rw[zps];omega)) ?_
 rintro w2 ⟨_,hY,dc⟩
 refine h (hA.res h3 ha) w2 (hI.set h3 (dc.mono (fun q _ hq=>by have hq:q=b:=hq;subst hq;exact rfl)) ?_ trivial (fun _ h=>h) fun q hq=>⟨.inl hq,by have hq:some b=some q:=hq;cases hq;exact hY.lt⟩)
 have:=ye (k:=1) (n:=m) (cap:=c) hY hc da (by rw[zr2];omega)
 rw[zrv _ _ hl,zrY,zrE (by rw[zr2];omega),zrF (by rw[zr2];omega)]at this
 exact this
end
open Go.RowKit
def zfS (k:Nat):List Nat->Bool
 | []=>false
 | j::r=>cond (Nat.beq j k) true (zfS k r)
def yS (ks:List Nat):Hp->Hp
 | []=>[]
 | x::r=>cond (zfS x.1 ks) (yS ks r) (x::yS ks r)
theorem ym {ks:List Nat}:∀ {H:Hp} {x:Nat × HE},x ∈ yS ks H->x ∈ H/\zfS x.1 ks=false
 | y::r,x,h=>by
  simp only[yS]at h
  cases hb:zfS y.1 ks with
  | true =>
   rw[hb]at h
   have h:x ∈ yS ks r:=h
   exact⟨zpn _ (ym h).1,(ym h).2⟩
  | false =>
   rw[hb]at h
   rcases zpA.1 h with rfl | h
   . exact⟨zpo ..,hb⟩
   exact⟨zpn _ (ym h).1,(ym h).2⟩
theorem hdels_sub {ks:List Nat}:∀ {H:Hp},(yS ks H).Sublist H
 | []=>List.Sublist.refl _
 | y::r=>by
  simp only[yS]
  cases zfS y.1 ks with
  | true=>exact hdels_sub.trans (List.sublist_cons_self ..)
  | false=>exact hdels_sub.cons_cons _
theorem zil {H:Hp} (h:H.Pairwise (fun x y=>∀ q,x.2.S q->¬ y.2.S q)):∀ x ∈ H,∀ y ∈ H,x ≠ y->∀ q,x.2.S q->¬ y.2.S q:=by
 induction H with
 | nil=>intro x hx;cases hx
 | cons z r ih =>
  rw[zro]at h
  intro x hx y hy hY q hq hs
  rcases zpA.1 hx with h1 | h1
  .
   rcases zpA.1 hy with h2 | h2
   . exact hY (h1.trans h2.symm)
   subst h1;exact h.1 y h2 q hq hs
  rcases zpA.1 hy with h2 | h2
  . subst h2;exact h.1 x h1 q hs hq
  exact ih h.2 x h1 y h2 hY q hq hs
def InS (H:Hp) (ks:List Nat) (q:Nat):Prop:=∃ y ∈ H,zfS y.1 ks=true/\y.2.S q
structure Hands (H:Hp) (ks:List Nat) (Hn:Hp) (w w':World):Prop where
 keep:Keep (InS H ks) w w'
 ok:∀ x ∈ Hn,x.2.holds w'/\x.2.loc/\(∀ b,¬ x.2.fz b)/\∀ q,x.2.S q->(InS H ks q\/w.heap.size<=q)/\q<w'.heap.size
 apart:Hn.Pairwise (fun x y=>∀ q,x.2.S q->¬ y.2.S q)
theorem VI.hands {Bs:zF} {H Hn:Hp} {ks:List Nat} {w w':World} (h:VI Bs H w) (hh:Hands H ks Hn w w'):VI Bs (Hn++yS ks H) w':=by
 have hY:∀ x ∈ yS ks H,∀ q,InS H ks q->¬ x.2.S q:=by
  rintro x hx q ⟨y,hy,hk,hq⟩ hs
  obtain⟨h1,h2⟩:=ym hx
  exact zil h.apart x h1 y hy (fun e=>by rw[e,hk]at h2;cases h2) q hs hq
 have db:∀ x ∈ yS ks H,∀ b,x.2.fz b->¬ InS H ks b:=by
  rintro x hx b hb ⟨y,hy,hk,hq⟩
  exact h.froz x (ym hx).1 y hy b hb hq
 have dc:∀ x ∈ yS ks H,∀ q,x.2.S q->q<w.heap.size:=fun x hx q hq=>h.low x (ym hx).1 q hq
 have da:∀ x ∈ yS ks H,∀ y ∈ Hn,∀ q,y.2.S q->¬ x.2.S q:=fun x hx y hy q hq hs=>by
  rcases ((hh.ok y hy).2.2.2 q hq).1 with h1 | h1
  . exact hY x hx q h1 hs
  have:=dc x hx q hs;omega
 refine⟨?_,?_,?_,?_,?_,?_⟩
 .
  intro x hx
  rcases zpD.1 hx with hx | hx
  . exact(hh.ok x hx).1
  have h1:=(ym hx).1
  exact HE.keep (e:=x.2) (h.holds x h1) (h.loc x h1) hh.keep (fun q hq hi=>hY x hx q hi hq) (db x hx)
 .
  intro x hx
  rcases zpD.1 hx with hx | hx
  . exact(hh.ok x hx).2.1
  exact h.loc x (ym hx).1
 . exact zrn.2 ⟨hh.apart,h.apart.sublist hdels_sub,fun x hx y hy q hq=>da y hy x hx q hq⟩
 .
  intro x hx y hy b hb hs
  rcases zpD.1 hx with hx | hx
  . exact(hh.ok x hx).2.2.1 b hb
  rcases zpD.1 hy with hy | hy
  .
   rcases ((hh.ok y hy).2.2.2 b hs).1 with h1 | h1
   . exact db x hx b hb h1
   have:=znD (h.holds x (ym hx).1) hb;omega
  exact h.froz x (ym hx).1 y (ym hy).1 b hb hs
 .
  intro x hx q hq
  rcases zpD.1 hx with hx | hx
  . exact((hh.ok x hx).2.2.2 q hq).2
  exact zrT (dc x hx q hq) hh.keep.size
 intro p hp
 obtain⟨h1,h2⟩:=h.base p hp
 refine⟨h1.trans hh.keep fun q hq hi=>?_,fun x hx q hq=>?_⟩
 .
  obtain⟨y,hy,_,hs⟩:=hi
  exact(h2 y hy q hs).resolve_right (by omega)
 rcases zpD.1 hx with hx | hx
 .
  rcases ((hh.ok x hx).2.2.2 q hq).1 with⟨y,hy,_,hs⟩ | h3
  . exact h2 y hy q hs
  exact .inr (zpq h1.size h3)
 exact h2 x (ym hx).1 q hq
theorem zox {H:Hp} {w:World} (hh:∀ x ∈ H,x.2.holds w/\x.2.loc/\(∀ b,¬ x.2.fz b)/\∀ q,x.2.S q->q<w.heap.size) (hY:H.Pairwise (fun x y=>∀ q,x.2.S q->¬ y.2.S q)):VI [(w,HS H)] H w :=
 ⟨fun x hx=>(hh x hx).1,fun x hx=>(hh x hx).2.1,hY,fun x hx _ _ b hb _=>(hh x hx).2.2.1 b hb,fun x hx=>(hh x hx).2.2.2,fun p hp=>by
  rw[zpC]at hp
  subst hp
  exact⟨Keep.refl _ _,fun x hx q hq=>.inl ⟨x,hx,hq⟩⟩⟩
section
variable {P:Program} {n:Nat} {Q:Exit->Act->World->Prop} {ks:List Fr} {pos:Pos} {env:Env} {A:Tgs} {H:Hp} {Bs:zF} {ops:Array Oper} {rest:List Oper} {v:Value}
variable {d:Nat} {ty:TypeId} {ps:String} {aft:Array Edge} {g:Option (Nat × Bool)}
theorem zoy {w:World} (H:Hp) (hh:∀ x ∈ H,x.2.holds w/\x.2.loc/\(∀ b,¬ x.2.fz b)/\∀ q,x.2.S q->q<w.heap.size) (hY:H.Pairwise (fun x y=>∀ q,x.2.S q->¬ y.2.S q)) (h:V P n Q ks pos env [] H [(w,HS H)]):G P n Q ks pos env w:=h TgOk.nil w (zox hh hY)
theorem zoz (kk:List Nat) {f:FuncId} {xs:Array Operand} {ts:Array TypeId} {vs:List Value} {α:Type} {Hn:α->Hp} {Φ:Value->α->Prop} (A1:Tgs) (hf:∀ args w,(callFunc f args).run P w=.ok (.enter f args) w) (hn:(Nat.blt d n,gd ops env g,jc env xs.toList)=(true,some true,some vs))
  (hY:∀ r x,A1.map (fun p=>zet ((d,r)::env) p.1)=A1.map (fun p=>jT (Hn x++yS kk H) p.2)) (da:∀ x,A1.all (fun p=>(jT (Hn x++yS kk H) p.2).isSome)=true)
  (hc:∀ w,VI Bs H w->Calls P f vs.toArray w (Ret fun r w'=>∃ x,Φ r x/\Hands H kk (Hn x) w w'))
  (h:∀ r x,Φ r x->V P n Q ks (.o ops rest) ((d,r)::env) A1 (Hn x++yS kk H) Bs):V P n Q ks (.o ops (⟨some d,.call ⟨.value (.func f),xs,ts⟩,ty,ps,aft,g⟩::rest)) env A H Bs:=by
 refine fun hA w hI=>G.call hn hf (hc w hI) ?_
 rintro r w' ⟨x,hP,hh⟩
 exact h r x hP (TgOk.of (hY r x) (da x)) w' (hI.hands hh)
theorem zoA {Hs:Hp} {B0:zF} {L:List Nat} {fuel:Nat} {listed:Array Bool} {op:Array Oper} (i j:Nat) (kk:List Nat) {f:FuncId} {xs:Array Operand} {ts:Array TypeId} {vs:List Value} {α:Type} {Hn:α->Hp} {Φ:Value->α->Prop} (A1:Tgs) (hf:∀ args w,(callFunc f args).run P w=.ok (.enter f args) w) (hi:op[i]?=some ⟨some d,.call ⟨.value (.func f),xs,ts⟩,ty,ps,aft,g⟩) (hr:Region.ready .any op listed=[i]) (hn:(Nat.blt d n,gd op env g,jc env xs.toList,qA (Hs.map (·.1)))=(true,some true,some vs,true)) (hB:Bs.drop j=B0)
  (hY:∀ x,Hs.map (fun y=>hget (Hn x++yS kk H) y.1)=Hs.map (fun y=>some y.2))
  (db:∀ r x,A1.map (fun p=>zet ((d,r)::env) p.1)=A1.map (fun p=>jT (Hn x++yS kk H) p.2)) (dc:∀ x,A1.all (fun p=>(jT (Hn x++yS kk H) p.2).isSome)=true)
  (hc:∀ w,VI Bs H w->Calls P f vs.toArray w (Ret fun r w'=>∃ x,Φ r x/\Hands H kk (Hn x) w w'))
  (h:∀ r x,Φ r x->VD P n Q ks op Hs B0 L fuel (listed.setIfInBounds i true) ((d,r)::env) A1 (Hn x++yS kk H) Bs):VD P n Q ks op Hs B0 L (fuel+1) listed env A H Bs:=by
 simp only[Prod.mk.injEq]at hn
 subst hB
 intro hH hA w hI
 refine zo6 i hi hr hn.1 hn.2.1 (.inr ⟨f,_,F.call hf (xd hn.2.2.1),hc w hI⟩) ?_
 rintro r w' ⟨x,hP,hh⟩
 have da:=hI.hands hh
 exact⟨(da.drop j).pick (Has.of (hY x)) hn.2.2.2,h r x hP (Has.of (hY x)) (TgOk.of (db r x) (dc x)) w' da⟩
end
theorem VI.k4 {Bs:zF} {H:Hp} {w:World} {p0 p1 p2 p3 p4:World × (Nat->Prop)} (h:VI (p0::p1::p2::p3::p4::Bs) H w):Keep p4.2 p4.1 w:=(h.base p4 (by simp)).1
theorem VI.k5 {Bs:zF} {H:Hp} {w:World} {p0 p1 p2 p3 p4 p5:World × (Nat->Prop)} (h:VI (p0::p1::p2::p3::p4::p5::Bs) H w):Keep p5.2 p5.1 w:=(h.base p5 (by simp)).1
theorem VI.k6 {Bs:zF} {H:Hp} {w:World} {p0 p1 p2 p3 p4 p5 p6:World × (Nat->Prop)} (h:VI (p0::p1::p2::p3::p4::p5::p6::Bs) H w):Keep p6.2 p6.1 w:=(h.base p6 (by simp)).1
theorem SlR.atD {α:Type} {k:Nat} {R:Rel α} {D:Nat->Prop} {w:World} {ao:Option Addr} {n cap:Nat} {l:List α} (h:SlR k R D w (.slice ao n cap) l) {i:Nat} {x:α} (hx:l[i]?=some x):∃ b o cs,ao=some ⟨b,o,none⟩/\D b/\Cells w b (o+i*k) cs/\R D w x cs:=by
 obtain⟨ao',cap',h1,h2,h3,h4⟩:=h
 cases h1
 obtain⟨b,o,cs,h5,h6,_,h8,h9⟩:=h4 i x hx
 exact⟨b,o,cs,h5,h6,h8,h9⟩
theorem zoB {P:Program} {env:Env} {w:World} {dst:Option Tmp} {ty:TypeId} {pos:String} {aft:Array Edge} {g:Option (Nat × Bool)} {t e:TypeId} {x y:Operand} {cs:List Value} {len:Nat} {kd:IntKind} {i:Int} {v:Value} (hu:∀ w,(underlying t).run P w=.ok (.array len e) w) (hs:∀ w,(sizeOf e).run P w=.ok 1 w) (hY:∀ w,(isAgg e).run P w=.ok false w) (hx:ev env x=some (.agg cs.toArray)) (hy:ev env y=some (.int kd i)) (h0:0<=i/\i<len) (hv:cs[i.toNat]?=some v) :
  yA P ⟨dst,.index t x y,ty,pos,aft,g⟩ env w v w:=by
 intro n a ha
 simp[execOp,ha.eval hx,ha.eval hy,Instr.index,asIntOf,hu,hs,h0,part,hY,hv]
open Go.RowKit
def Wr (p:TypeId->Bool) (W0:Nat) (w:World) (k:Nat):Prop:=W0<=k/\∀ cs e,Blk w k cs e->p e=true
abbrev KT (p:TypeId->Bool) (W0:Nat) (w w':World):Prop:=Keep (Wr p W0 w) w w'
section
variable {p:TypeId->Bool} {W0:Nat} {w w' w'':World}
theorem Blk.ty {b:Nat} {cs cs':List Value} {e e':TypeId} (h:Blk w b cs e) (h':Blk w b cs' e'):e=e'/\cs=cs':=by
 unfold Blk at h h'
 rw[h]at h'
 injection h' with h'
 injection h' with h1 h2
 exact⟨h2,List.toArray_inj h1⟩
theorem Blk.ne {a b:Nat} {cs cs':List Value} {e e':TypeId} (h:Blk w a cs e) (h':Blk w b cs' e') (hY:e ≠ e'):a ≠ b:=by
 rintro rfl
 exact hY (h.ty h').1
theorem Wr.mk {k:Nat} {cs:List Value} {e:TypeId} (hW:W0<=k) (hb:Blk w k cs e) (hp:p e=true):Wr p W0 w k:=⟨hW,fun cs' e' h=>by rw[<- (hb.ty h).1];exact hp⟩
theorem KT.refl:KT p W0 w w:=Keep.refl _ _
theorem KT.trans (h:KT p W0 w w') (h':KT p W0 w' w''):KT p W0 w w'':=by
 refine Keep.trans h h' (fun k hk hT=>?_)
 by_cases hS:Wr p W0 w k
 . exact hS
 exfalso
 apply hS
 refine⟨hT.1,fun cs e h2=>hT.2 cs e ?_⟩
 unfold Blk at h2 ⊢
 rw[h.block k hk hS];exact h2
theorem zoC (h:Ext w w'):KT p W0 w w':=Keep.mono h (fun _ _ h=>h.elim)
theorem KT.ext' (h:KT p W0 w w') (h':Ext w' w''):KT p W0 w w'':=KT.trans h (zoC h')
theorem zoE {b:Nat} {cs cs':List Value} {e:TypeId} (hb:Blk w b cs e) (hp:p e=true) (hW:W0<=b) (h:zev w b cs' e w'):KT p W0 w w' :=
 h.2.2.mono (fun k _ (hk:k=b)=>by subst hk;exact Wr.mk hW hb hp)
theorem yM {e:TypeId} {k:Nat} {v:Value} {n:Nat} {xs:List Value} (h:w.ownsRow 0 e k v n xs) {g:Nat} (hg:v.ownBlock=some g):∃ cs,Blk w g cs e:=by
 rcases h.2 with⟨rfl,_⟩ | ⟨g',cap,cur,rfl,_,h2,_⟩
 . simp[Value.ownBlock]at hg
 simp[Value.ownBlock]at hg
 subst hg
 exact⟨cur.toList,by unfold Blk;simpa using h2⟩
theorem KT.row {e:TypeId} {k:Nat} {v:Value} {n:Nat} {xs:List Value} (ho:w.ownsRow 0 e k v n xs) (hp:p e=true) (hW:∀ g,v.ownBlock=some g->W0<=g) (h:Keep (fun k=>v.ownBlock=some k) w w'):KT p W0 w w' :=
 h.mono (fun g _ hg=>by obtain⟨cs,hb⟩:=yM ho hg;exact Wr.mk (hW g hg) hb hp)
theorem KT.new {S:Nat->Prop} (h:KT p W0 w w') (h':Keep S w' w'') (hS:∀ k,S k->w.heap.size<=k):KT p W0 w w'' :=
 Keep.trans h h' (fun k hk hT=>absurd (hS k hT) (by omega))
theorem zoF (h:KT p W0 w w') (hW:w.heap.size<=W0):Ext w w':=Keep.mono h (fun k hk ⟨h1,_⟩=>by omega)
theorem KT.blk (h:KT p W0 w w') {b:Nat} {cs:List Value} {e:TypeId} (hb:Blk w b cs e) (hp:p e=false):Blk w' b cs e :=
 Keep.blk h hb (fun⟨_,h2⟩=>by have:=h2 _ _ hb;rw[hp]at this;cases this)
theorem KT.own (h:KT p W0 w w') {e:TypeId} {k:Nat} {v:Value} {n:Nat} {xs:List Value} (ho:w.ownsRow 0 e k v n xs) (hp:p e=false):w'.ownsRow 0 e k v n xs :=
 zm ho h (fun g hg ⟨_,h2⟩=>by obtain⟨cs,hb⟩:=yM ho hg;have:=h2 _ _ hb;rw[hp]at this;cases this)
theorem KT.sl (h:KT p W0 w w') {α:Type} {k:Nat} {R:Rel α} (hs:zR R) {D:Nat->Prop} {v:Value} {l:List α} (hl:SlR k R D w v l) (hD:∀ q,D q->q<W0):SlR k R D w' v l :=
 hl.keep hs h (fun q hq _ ⟨h1,_⟩=>by have:=hD q hq;omega)
abbrev Above (B:Nat) (w w':World):Prop:=Keep (fun k=>B<=k) w w'
theorem zoD {B:Nat} (h:Ext w w'):Above B w w':=Keep.mono h (fun _ _ h=>h.elim)
theorem Above.then {B:Nat} (h:Above B w w') (h':Above B w' w''):Above B w w'':=Keep.trans h h' (fun _ _ h=>h)
theorem Above.ext' {B:Nat} (h:Above B w w') (h':Ext w' w''):Above B w w'':=Keep.ext h h'
theorem zoG {B:Nat} {S:Nat->Prop} (h:Keep S w w') (hS:∀ k,S k->B<=k):Above B w w':=Keep.mono h (fun k _ hk=>hS k hk)
theorem Above.sl {B:Nat} (h:Above B w w') {α:Type} {k:Nat} {R:Rel α} (hs:zR R) {D:Nat->Prop} {v:Value} {l:List α} (hl:SlR k R D w v l) (hD:∀ q,D q->q<B):SlR k R D w' v l :=
 hl.keep hs h (fun q hq _ (h1:B<=q)=>by have:=hD q hq;omega)
end
open Go.RowKit
def OwnR {α:Type} (e:TypeId) (k:Nat) (R:Rel α) (D:Nat->Prop) (w:World) (v:Value) (l:List α):Prop :=
 ∃ xs:List Value,w.ownsRow 0 e k v l.length xs/\∀ (i:Nat) x,l[i]?=some x->R D w x ((xs.drop (i*k)).take k)
section
variable {α:Type} {e:TypeId} {k:Nat} {R:Rel α} {D:Nat->Prop} {w w':World} {v:Value} {l:List α}
theorem OwnR.nil:OwnR e k R D w (.slice none 0 0) ([]:List α):=⟨[],jS _ _ _,fun i x h=>by simp at h⟩
theorem OwnR.keep {S:Nat->Prop} (h:OwnR e k R D w v l) (hs:zR R) (hk:Keep S w w') (hD:∀ q,D q->q<w.heap.size->¬ S q) (hv:∀ g,v.ownBlock=some g->¬ S g):OwnR e k R D w' v l:=by
 obtain⟨xs,h1,h2⟩:=h
 exact⟨xs,zm h1 hk hv,fun i x hx=>hs D D w w' (fun _ h=>h) (fun b hb hY=>hk.block b hY (hD b hb hY)) x _ (h2 i x hx)⟩
theorem OwnR.lit {g:Nat} {cs:List Value} {x:α} (hb:Blk w g cs e) (hk:cs.length=k) (hx:R D w x cs):OwnR e k R D w (.slice (some ⟨g,0,none⟩) 1 1) [x]:=by
 refine⟨cs,?_,fun i y hy=>?_⟩
 .
  have:=ye (k:=k) (n:=1) (cap:=1) hb (zpJ _) (by decide) (by omega)
  rw[zrF (by omega)]at this
  exact this
 cases i with
 | zero=>simp at hy;subst hy;rw[zs4,List.drop_zero,zrF (by omega)];exact hx
 | succ i=>simp at hy
theorem zoH (hR:∀ x cs,R D w x cs->∀ u ∈ cs,u.oneCell'=true) {n:Nat} {xs:List Value} (h1:w.ownsRow 0 e k v n xs) (hn:n=l.length) (h2:∀ (i:Nat) x,l[i]?=some x->R D w x ((xs.drop (i*k)).take k)):∀ u ∈ xs,u.oneCell'=true:=by
 intro u hu
 obtain⟨q,hq⟩:=zre.1 hu
 have da:=(zpy.1 hq).1
 have hY:=h1.1
 have hk:0<k:=by
  rcases zrR k with rfl | h
  . rw[Nat.mul_zero]at hY;omega
  exact h
 have hi:q / k<l.length:=by rw[zrP hk,<- hn];omega
 have hd:q / k*k+q % k=q:=by rw[Nat.mul_comm];exact Nat.div_add_mod q k
 have hm:=zrV q hk
 refine hR _ _ (h2 (q / k) l[q / k] (zpk hi)) u ?_
 refine zre.2 ⟨q % k,?_⟩
 rw[zpQ,zpv hm,List.getElem?_drop,hd];exact hq
theorem OwnR.sl {D':Nat->Prop} (h:OwnR e k R D w v l) (hk:0<k) (hs:zR R) (hD:∀ q,D q->D' q) (hv:∀ g,v.ownBlock=some g->D' g):SlR k R D' w v l:=by
 obtain⟨xs,h1,h2⟩:=h
 obtain⟨ao,cap,rfl,hc,hm⟩:=xC h1
 refine⟨ao,cap,rfl,hc,hm,fun i x hx=>?_⟩
 have hi:=(zpy.1 hx).1
 have da:=h1.1
 obtain⟨a0,rfl⟩:∃ a0,ao=some a0:=by
  cases ao with
  | some a0=>exact⟨a0,rfl⟩
  | none =>
   rcases h1.2 with⟨_,h⟩ | ⟨g,cap,cur,h,_⟩
   . omega
   cases h
 obtain⟨e1,e2,hY⟩:=jx h1
 obtain⟨b0,o0,s0⟩:=a0
 simp only at e1 e2 hY
 subst e1;subst e2
 have h5:(i+1)*k<=l.length*k:=zrX _ hi
 rw[zs1]at h5
 refine⟨b0,0,_,rfl,hv b0 rfl,?_,?_,hs D D' w w hD (fun _ _ _=>rfl) x _ (h2 i x hx)⟩
 . rw[zpO,zqX];omega
 intro j u hj
 rw[zpQ]at hj
 split at hj
 .
  rw[List.getElem?_drop]at hj
  have:=hY _ _ hj
  rw[zs3]at this ⊢
  exact this
 cases hj
theorem OwnR.form (h:OwnR e k R D w v l):∃ ao c,v=.slice ao l.length c/\l.length<=c/\c<=9223372036854775807:=by
 obtain⟨xs,h1,_⟩:=h
 exact xC h1
end
section
variable {α:Type} {R:Rel α} {D:Nat->Prop} {P:Program} {env:Env} {w:World} {dst:Option Tmp} {ty:TypeId} {pos:String} {aft:Array Edge} {g:Option (Nat × Bool)} {l l':List α}
theorem zoI {t e:TypeId} {k by':Nat} {z:Value} {x y:Operand} {v vy:Value} (hu:P.underlying t=some (.slice e)) (he:(P.info? e).map (fun i=>(i.zero,i.size,i.bytes))=some (some z,k,by')) (de:z.cells.size=k) (hk:0<k)
  (hx:ev env x=some v) (hy:ev env y=some vy) (hs:zR R) (h1:∀ x cs,R D w x cs->∀ u ∈ cs,u.oneCell'=true) (hY:OwnR e k R D w v l) (df:OwnR e k R D w vy l') (hD:∀ q,D q->q<w.heap.size->v.ownBlock ≠ some q) (da:l.length+l'.length<=9223372036854775807) (dg:(l.length+l'.length)*by'<=140737488355328) :
  yH P ⟨dst,.call ⟨.builtin .append,#[x,y],#[t,t]⟩,ty,pos,aft,g⟩ env w (fun u w'=>OwnR e k R D w' u (l++l')/\(u.ownBlock=v.ownBlock\/∃ g,u.ownBlock=some g/\w.heap.size<=g)/\Keep (fun k=>v.ownBlock=some k) w w'):=by
 obtain⟨ys,q1,q2⟩:=df
 obtain⟨xs,q3,q4⟩:=hY
 obtain⟨u,w',hr,h5,h6,h7⟩:=znu (g:=g) (pos:=pos) (aft:=aft) (dst:=dst) (ty:=ty) hu he de hk hx hy q3 q1 (zoH h1 q1 rfl q2) da dg
 refine⟨u,w',hr,?_,h6,h7⟩
 refine⟨xs++ys,by rw[zps];exact h5,?_⟩
 have db:∀ x cs,R D w x cs->R D w' x cs:=fun x cs h=>hs D D w w' (fun _ h=>h) (fun b hb dc=>h7.block b dc (hD b hb dc)) x cs h
 intro i x hx
 have dh:=q3.1
 by_cases hi:i<l.length
 .
  rw[zpK hi]at hx
  have h5:(i+1)*k<=l.length*k:=zrX _ hi
  rw[zs1]at h5
  rw[zqC (by omega),zrE (by rw[zqX];omega)]
  exact db _ _ (q4 i x hx)
 rw[zpL (by omega)]at hx
 have h5:l.length*k<=i*k:=zrX _ (by omega)
 rw[List.drop_append,List.drop_eq_nil_of_le (by omega),zrk,dh,<- Nat.sub_mul]
 exact db _ _ (q2 _ x hx)
end
open Go.RowKit
section
variable {P:Program} {n:Nat} {Q:Exit->Act->World->Prop} {ks:List Fr} {pos:Pos} {env:Env} {A:Tgs} {H:Hp} {Bs:zF} {ops:Array Oper} {rest:List Oper} {v:Value}
variable {d:Nat} {op:Op} {ty:TypeId} {ps:String} {aft:Array Edge} {g:Option (Nat × Bool)}
theorem zoJ (k:Nat) {β:Type} {E:β->HE} {u:β->Value} (hn:(Nat.blt d n,gd ops env g,(hget H k).isNone)=(true,some true,true)) (hE:∀ x,(E x).loc/\∀ b,¬ (E x).fz b) (hm:∀ w,VI Bs H w->yH P ⟨some d,op,ty,ps,aft,g⟩ env w (fun r w'=>∃ x,r=u x/\(E x).holds w'/\Ext w w'/\∀ q,(E x).S q->w.heap.size<=q/\q<w'.heap.size))
  (h:∀ x,V P n Q ks (.o ops rest) ((d,u x)::env) ((d,none)::A) ((k,E x)::H) Bs):V P n Q ks (.o ops (⟨some d,op,ty,ps,aft,g⟩::rest)) env A H Bs:=by
 simp only[Prod.mk.injEq,zs7]at hn
 refine fun hA w hI=>zmr hn.1 hn.2.1 (hm w hI) ?_
 rintro _ w' ⟨x,rfl,hh,hk,hS⟩
 exact h x (TgOk.none (hA.new hn.2.2)) w' (hI.new hk k hh (hE x).1 (hE x).2 hS)
theorem zoK (k:Nat) {e e':HE} (hn:(gd ops env g,hget H k,qH H k)=(some true,some e,none)) (hl:e'.loc) (hz:∀ b,¬ e'.fz b) (hm:∀ w,VI Bs H w->xZ P ⟨none,op,ty,ps,aft,g⟩ env w (fun w'=>e'.holds w'/\Keep e.S w w'/\∀ q,e'.S q->(e.S q\/w.heap.size<=q)/\q<w'.heap.size))
  (h:V P n Q ks (.o ops rest) env A (yx H k e') Bs):V P n Q ks (.o ops (⟨none,op,ty,ps,aft,g⟩::rest)) env A H Bs:=by
 simp only[Prod.mk.injEq]at hn
 refine fun hA w hI=>zmw hn.1 (hm w hI) ?_
 rintro w' ⟨hh,hk,hS⟩
 exact h (hA.res hn.2.1 hn.2.2) w' (hI.set hn.2.1 hk hh hl hz hS)
abbrev DaP {α:Type} (R:Rel α) (F:Nat->Prop) (x:α) (cs:List Value):HE:=.res F (fun w=>R F w x cs)
theorem DaP.loc {α:Type} {R:Rel α} [h:StC R] {F:Nat->Prop} {x:α} {cs:List Value}:(DaP R F x cs).loc:=fun w w' _ hx hk hT=>h.s F F w w' (fun _ h=>h) (fun b hb hY=>hk.block b hY (hT b hY hb)) x cs hx
def OwH {α:Type} (e:TypeId) (kk:Nat) (R:Rel α) (F:Nat->Prop) (w:World) (v:Value) (l:List α):Prop:=OwnR e kk R F w v l/\∀ q,F q->q<w.heap.size/\v.ownBlock ≠ some q
abbrev OwP {α:Type} (e:TypeId) (kk:Nat) (R:Rel α) (F:Nat->Prop) (v:Value) (l:List α):HE:=.res (fun q=>v.ownBlock=some q\/F q) (fun w=>OwH e kk R F w v l)
section
variable {α:Type} {R:Rel α} [hs:StC R] {e:TypeId} {kk:Nat} {F G:Nat->Prop} {l:List α} {w w':World}
theorem OwP.loc:(OwP e kk R F v l).loc:=fun w w' T h hk hT =>
 ⟨h.1.keep hs.s hk (fun q hq hY=>hT q hY (.inr hq)) (fun g hg=>by
  obtain⟨xs,h1,_⟩:=h.1
  exact hT g (xB h1 hg) (.inl hg)),fun q hq=>⟨zrT (h.2 q hq).1 hk.size,(h.2 q hq).2⟩⟩
omit hs in
theorem OwH.nil:OwH e kk R (fun _=>False) w (.slice none 0 0) ([]:List α):=⟨OwnR.nil,fun _ h=>h.elim⟩
omit hs in
theorem OwH.form (h:OwH e kk R F w v l):∃ ao c,v=.slice ao l.length c/\l.length<=c/\c<=9223372036854775807:=h.1.form
theorem OwH.sl {D':Nat->Prop} (h:OwH e kk R F w v l) (hk:0<kk) (hD:∀ q,v.ownBlock=some q\/F q->D' q):SlR kk R D' w v l:=h.1.sl hk hs.s (fun q hq=>hD q (.inr hq)) (fun q hq=>hD q (.inl hq))
theorem OwnR.wide {F':Nat->Prop} (h:OwnR e kk R F w v l) (hF:∀ q,F q->F' q):OwnR e kk R F' w v l:=by
 obtain⟨xs,h1,h2⟩:=h
 exact⟨xs,h1,fun i x hx=>hs.s F F' w w hF (fun _ _ _=>rfl) x _ (h2 i x hx)⟩
theorem zoN (kks:List Nat) {β:Type} {Hn:β->Hp} {u:β->Value} (A1:Tgs) {ks:List Fr} (hn:(Nat.blt d n,gd ops env g)=(true,some true))
  (hY:∀ x,A1.map (fun p=>zet ((d,u x)::env) p.1)=A1.map (fun p=>jT (Hn x++yS kks H) p.2)) (da:∀ x,A1.all (fun p=>(jT (Hn x++yS kks H) p.2).isSome)=true)
  (hm:∀ w,VI Bs H w->yH P ⟨some d,op,ty,ps,aft,g⟩ env w (fun r w'=>∃ x,r=u x/\Hands H kks (Hn x) w w'))
  (h:∀ x,V P n Q ks (.o ops rest) ((d,u x)::env) A1 (Hn x++yS kks H) Bs):V P n Q ks (.o ops (⟨some d,op,ty,ps,aft,g⟩::rest)) env A H Bs:=by
 simp only[Prod.mk.injEq]at hn
 refine fun hA w hI=>zmr hn.1 hn.2 (hm w hI) ?_
 rintro _ w' ⟨x,rfl,hh⟩
 exact h x (TgOk.of (hY x) (da x)) w' (hI.hands hh)
theorem zoO {α:Type} {R:Rel α} [hs:StC R] {e:TypeId} {kk:Nat} {F G:Nat->Prop} {l:List α} {w:World} (k k2 kb:Nat) {t:TypeId} {by':Nat} {z:Value} {x y:Operand} {a:α} {b:Nat} {cs:List Value} (hI:VI Bs H w) (h1:hget H k=some (OwP e kk R F v l)) (h2:hget H k2=some (DaP R G a cs)) (h3:hget H kb=some (.own b cs e)) (de:Nat.beq k k2=false)
  (hu:P.underlying t=some (.slice e)) (he:(P.info? e).map (fun i=>(i.zero,i.size,i.bytes))=some (some z,kk,by')) (df:z.cells.size=kk) (hk:0<kk) (hx:ev env x=some v) (hy:ev env y=some (.slice (some ⟨b,0,none⟩) 1 1)) (hl:cs.length=kk) (ho:∀ (D:Nat->Prop) x cs,R D w x cs->∀ u ∈ cs,u.oneCell'=true) (da:l.length+1<=9223372036854775807) (dg:(l.length+1)*by'<=140737488355328) :
  yH P ⟨some d,.call ⟨.builtin .append,#[x,y],#[t,t]⟩,ty,ps,aft,g⟩ env w (fun r w'=>∃ u,r=u/\Hands H [k,k2] [(k,OwP e kk R (fun q=>F q\/G q) u (l++[a]))] w w'):=by
 have g1:OwH e kk R F w v l:=hI.at k h1
 have g2:R G w a cs:=hI.at k2 h2
 have g3:Blk w b cs e:=hI.at kb h3
 have dh:=za9 hI.apart h1 h2 de
 have di:∀ q,G q->q<w.heap.size:=fun q hq=>hI.low _ (zr h2) q hq
 have db:OwnR e kk R (fun q=>F q\/G q) w (.slice (some ⟨b,0,none⟩) 1 1) [a]:=OwnR.lit g3 hl (hs.s G _ w w (fun _ h=>.inr h) (fun _ _ _=>rfl) a cs g2)
 have hw:OwnR e kk R (fun q=>F q\/G q) w v l:=g1.1.wide (fun _ h=>.inl h)
 have hD:∀ q,(F q\/G q)->v.ownBlock ≠ some q:=fun q hq h=>hq.elim (fun hF=>(g1.2 q hF).2 h) (fun hG=>dh q (.inl h) hG)
 obtain⟨u,w',hr,h5,h6,h7⟩:=zoI (dst:=some d) (ty:=ty) (pos:=ps) (aft:=aft) (g:=g) hu he df hk hx hy hs.s (ho _) hw db (fun q hq _=>hD q hq) da dg
 refine⟨u,w',hr,u,rfl,?_⟩
 have i1:∀ q,(v.ownBlock=some q\/F q)->InS H [k,k2] q:=fun q hq=>⟨_,zr h1,by simp[zfS,],hq⟩
 have i2:∀ q,G q->InS H [k,k2] q:=fun q hq=>⟨_,zr h2,by simp only[zfS];rw[de];simp[],hq⟩
 have hY:∀ q,(F q\/G q)->q<w.heap.size:=fun q hq=>hq.elim (fun hF=>(g1.2 q hF).1) (di q)
 have dc:∀ q,u.ownBlock=some q->(v.ownBlock=some q\/w.heap.size<=q)/\q<w'.heap.size:=fun q hq=>by
  obtain⟨xs,hx,_⟩:=h5
  refine⟨?_,xB hx hq⟩
  rcases h6 with h6 | ⟨g',h6,dk⟩
  . exact .inl (h6 ▸ hq)
  rw[h6]at hq;cases hq;exact .inr dk
 refine⟨h7.mono fun q _ hq=>i1 q (.inl hq),fun x hx=>?_,zrq _ _⟩
 rw[zpC]at hx
 subst hx
 refine⟨⟨h5,fun q hq=>⟨zrT (hY q hq) h7.size,fun h=>?_⟩⟩,OwP.loc,fun _ h=>h,fun q hq=>?_⟩
 .
  rcases (dc q h).1 with h8 | h8
  . exact hD q hq h8
  have:=hY q hq;omega
 rcases hq with hq | hq | hq
 . exact⟨(dc q hq).1.imp (fun h=>i1 q (.inl h)) id,(dc q hq).2⟩
 . exact⟨.inl (i1 q (.inr hq)),zrT (hY q (.inl hq)) h7.size⟩
 exact⟨.inl (i2 q hq),zrT (hY q (.inr hq)) h7.size⟩
end
end
section
variable {P:Program} {n:Nat} {Q:Exit->Act->World->Prop} {ks:List Fr} {env:Env} {A:Tgs} {H Hs:Hp} {Bs B0:zF} {ops:Array Oper} {L:List Nat} {fuel:Nat} {listed:Array Bool}
theorem VD.skip (i j:Nat) {d:Nat} {op:Op} {ty:TypeId} {ps:String} {aft:Array Edge} {g:Option (Nat × Bool)} (hi:ops[i]?=some ⟨some d,op,ty,ps,aft,g⟩) (hr:Region.ready .any ops listed=[i]) (hn:(Nat.blt d n,gd ops env g,qA (Hs.map (·.1)))=(true,some false,true)) (hB:Bs.drop j=B0)
  (h:VD P n Q ks ops Hs B0 L fuel (listed.setIfInBounds i true) ((d,undef)::env) ((d,none)::A) H Bs):VD P n Q ks ops Hs B0 L (fuel+1) listed env A H Bs:=by
 simp only[Prod.mk.injEq]at hn
 subst hB
 refine fun hH hA w hI=>WD.skip i hi hr (qv hn.2.1) O hn.1 ((hI.drop j).pick hH hn.2.2) (h hH hA.none w hI)
end
section
variable {P:Program} {n:Nat} {Q:Exit->Act->World->Prop} {ks:List Fr} {pos:Pos} {env:Env} {A:Tgs} {H:Hp} {Bs:zF}
theorem zoP (k k2:Nat) {e e2 e':HE} (A1:Tgs) (hn:(hget H k,hget H k2)=(some e,some e2))
  (hY:A1.map (fun p=>zet env p.1)=A1.map (fun p=>jT ((k,e')::yS [k,k2] H) p.2)) (da:A1.all (fun p=>(jT ((k,e')::yS [k,k2] H) p.2).isSome)=true)
  (he:∀ w,VI Bs H w->e'.holds w) (hl:e'.loc) (hz:∀ b,¬ e'.fz b) (hS:∀ q,e'.S q->e.S q\/e2.S q) (h:V P n Q ks pos env A1 ((k,e')::yS [k,k2] H) Bs):V P n Q ks pos env A H Bs:=by
 simp only[Prod.mk.injEq]at hn
 refine fun _ w hI=>h (TgOk.of hY da) w (hI.hands (Hn:=[(k,e')]) ⟨Keep.refl _ _,fun x hx=>?_,zrq _ _⟩)
 rw[zpC]at hx
 subst hx
 have i1:∀ q,e.S q->InS H [k,k2] q:=fun q hq=>⟨_,zr hn.1,by simp[zfS,],hq⟩
 have i2:∀ q,e2.S q->InS H [k,k2] q:=fun q hq=>⟨_,zr hn.2,by simp[zfS,],hq⟩
 refine⟨he w hI,hl,hz,fun q hq=>?_⟩
 rcases hS q hq with h1 | h1
 . exact⟨.inl (i1 q h1),hI.low _ (zr hn.1) q h1⟩
 exact⟨.inl (i2 q h1),hI.low _ (zr hn.2) q h1⟩
theorem zoQ (k j:Nat) {w0:World} {S F:Nat->Prop} {p:World->Prop} (hn:(hget H k).isNone=true) (hp:Bs[j]?=some (w0,S)) (hl:(HE.dat F p).loc) (h0:p w0) (hF:∀ q,F q->q<w0.heap.size/\¬ S q) (h:V P n Q ks pos env A ((k,.dat F p)::H) Bs):V P n Q ks pos env A H Bs:=by
 refine fun hA w hI=>h (hA.new (by simpa using hn)) w ?_
 have hb:=hI.base _ (zpl hp)
 have hk:(HE.dat F p).holds w:=HE.keep (e:=.dat F p) ⟨h0,fun q hq=>(hF q hq).1⟩ hl hb.1 (fun q hq=>hq.elim) fun b hY=>(hF b hY).2
 have da:∀ x ∈ H,∀ b,F b->¬ x.2.S b:=fun x hx b hY hs=>by
  rcases hb.2 x hx b hs with h1 | h1
  . exact(hF b hY).2 h1
  have h1:w0.heap.size<=b:=h1
  have:=(hF b hY).1
  omega
 refine⟨?_,?_,?_,?_,?_,?_⟩
 .
  intro x hx
  rcases zpA.1 hx with rfl | hx
  . exact hk
  exact hI.holds x hx
 .
  intro x hx
  rcases zpA.1 hx with rfl | hx
  . exact hl
  exact hI.loc x hx
 . exact zro.2 ⟨fun x _ q hq=>hq.elim,hI.apart⟩
 .
  intro x hx y hy b hY hs
  rcases zpA.1 hy with rfl | hy
  . exact hs
  rcases zpA.1 hx with rfl | hx
  . exact da y hy b hY hs
  exact hI.froz x hx y hy b hY hs
 .
  intro x hx q hq
  rcases zpA.1 hx with rfl | hx
  . exact hq.elim
  exact hI.low x hx q hq
 intro q hq
 refine⟨(hI.base q hq).1,fun x hx b hY=>?_⟩
 rcases zpA.1 hx with rfl | hx
 . exact hY.elim
 exact(hI.base q hq).2 x hx b hY
end
theorem zfb {α:Type} {R:α->α->Prop} (hs:∀ x y,R x y->R y x):∀ {l:List α},l.Pairwise R->∀ {x y},x ∈ l->y ∈ l->x ≠ y->R x y
 | [],_,_,_,h,_,_=>by cases h
 | a::l,hp,x,y,hx,hy,hne=>by
  rw[zro]at hp
  rcases zpA.1 hx with e1 | h1
  .
   rcases zpA.1 hy with e2 | h2
   . exact absurd (e1.trans e2.symm) hne
   rw[e1];exact hp.1 y h2
  rcases zpA.1 hy with e2 | h2
  . rw[e2];exact hs _ _ (hp.1 x h1)
  exact zfb hs hp.2 h1 h2 hne
theorem VI.sep {Bs:zF} {H:Hp} {w:World} {k k2:Nat} {e e2:HE} (hI:VI Bs H w) (h1:hget H k=some e) (h2:hget H k2=some e2) (hY:k ≠ k2) {q:Nat} (hq:e.S q):¬ e2.S q :=
 zfb (R:=fun x y:Nat × HE=>∀ q,x.2.S q->¬ y.2.S q) (fun _ _ h q hy hx=>h q hx hy) hI.apart (zr h1) (zr h2) (fun e=>hY (congrArg Prod.fst e)) q hq
end Go.GL
namespace Go.Proofs
theorem Tryz.el3:(Tryz.prog.info? 3).map (fun i=>(i.zero,i.size,i.bytes))=some (some ((Value.int IntKind.i64 0)),1,8):=by kernel_rfl
theorem Tryz.el4:(Tryz.prog.info? 4).map (fun i=>(i.zero,i.size,i.bytes))=some (some ((Value.bool false)),1,1):=by kernel_rfl
theorem Tryz.el27:(Tryz.prog.info? 27).map (fun i=>(i.zero,i.size,i.bytes))=some (some ((Value.slice none 0 0)),1,24):=by kernel_rfl
theorem Tryz.el45:(Tryz.prog.info? 45).map (fun i=>(i.zero,i.size,i.bytes))=some (some ((Value.agg #[Value.slice none 0 0,Value.slice none 0 0,Value.slice none 0 0])),3,72):=by kernel_rfl
theorem Tryz.el65:(Tryz.prog.info? 65).map (fun i=>(i.zero,i.size,i.bytes))=some (some ((Value.agg #[Value.int IntKind.i64 0,Value.int IntKind.i64 0,Value.int IntKind.i64 0,Value.int IntKind.i64 0])),4,32):=by kernel_rfl
theorem Tryz.el72:(Tryz.prog.info? 72).map (fun i=>(i.zero,i.size,i.bytes))=some (some ((Value.agg #[Value.int IntKind.i64 0,Value.int IntKind.i64 0,Value.int IntKind.i64 0,Value.int IntKind.i64 0,Value.int IntKind.i64 0,Value.int IntKind.i64 0,Value.slice none 0 0,Value.slice none 0 0,Value.slice none 0 0,Value.slice none 0 0])),10,144):=by kernel_rfl
theorem Tryz.el120:(Tryz.prog.info? 120).map (fun i=>(i.zero,i.size,i.bytes))=some (some (Value.nilFunc),1,8):=by kernel_rfl
theorem Tryz.el142:(Tryz.prog.info? 142).map (fun i=>(i.zero,i.size,i.bytes))=some (some ((Value.agg #[Value.string { data:=#[] },Value.int IntKind.i64 0,Value.int IntKind.i64 0,Value.int IntKind.i64 0,Value.int IntKind.i64 0])),5,48):=by kernel_rfl
theorem Tryz.el159:(Tryz.prog.info? 159).map (fun i=>(i.zero,i.size,i.bytes))=some (some ((Value.agg #[Value.int IntKind.i64 0,Value.int IntKind.i64 0])),2,16):=by kernel_rfl
end Go.Proofs
namespace Go.GL
mutual
def Tm.nodes:Tm->Nat
 | .mk _ _ ks=>1+tnodes ks
def tnodes:List Tm->Nat
 | []=>0
 | k::r=>k.nodes+tnodes r
end
mutual
def Tm.depth:Tm->Nat
 | .mk _ _ ks=>tdepth ks+1
def tdepth:List Tm->Nat
 | []=>0
 | k::r=>max k.depth (tdepth r)
end
mutual
def St.nodes:St->Nat
 | .mk _ _ _ _ t f g _=>1+t.nodes+snodes f+snodes g
def snodes:List St->Nat
 | []=>0
 | s::r=>s.nodes+snodes r
end
mutual
def St.bulk:St->Nat
 | .mk _ _ _ _ t f g b=>1+t.nodes+b.length+sbulk f+sbulk g
def sbulk:List St->Nat
 | []=>0
 | s::r=>s.bulk+sbulk r
end
mutual
def St.size:St->Nat
 | .mk _ _ _ _ _ f g _=>1+ssize f+ssize g
def ssize:List St->Nat
 | []=>0
 | s::r=>s.size+ssize r
end
mutual
def St.depth:St->Nat
 | .mk _ _ _ _ _ f g _=>max (sdepth f+1) (sdepth g+1)
def sdepth:List St->Nat
 | []=>0
 | s::r=>max s.depth (sdepth r)
end
mutual
/-- Some term of a step is nested too deep. -/
def St.tdeep:St->Bool
 | .mk _ _ _ _ t f g _=>decide (12<t.depth) || stdeep f || stdeep g
def stdeep:List St->Bool
 | []=>false
 | s::r=>s.tdeep || stdeep r
end
theorem Tm.nodes_eq (t:Tm):t.nodes=1+tnodes t.kids:=by cases t;rfl
theorem Tm.depth_eq (t:Tm):t.depth=tdepth t.kids+1:=by cases t;rfl
theorem St.nodes_eq (s:St):s.nodes=1+s.term.nodes+snodes s.thn+snodes s.els:=by cases s;rfl
theorem St.bulk_eq (s:St):s.bulk=1+s.term.nodes+s.bounds.length+sbulk s.thn+sbulk s.els:=by cases s;rfl
theorem St.size_eq (s:St):s.size=1+ssize s.thn+ssize s.els:=by cases s;rfl
theorem St.depth_eq (s:St):s.depth=max (sdepth s.thn+1) (sdepth s.els+1):=by cases s;rfl
theorem St.tdeep_eq (s:St):s.tdeep=(decide (12<s.term.depth) || stdeep s.thn || stdeep s.els):=by cases s;rfl
theorem qI (a b:List Tm):tnodes (a++b)=tnodes a+tnodes b:=by
 induction a with
 | nil=>simp[tnodes]
 | cons x r ih=>simp[tnodes,ih,zrJ]
theorem zcI (a b:List Tm):tdepth (a++b)=max (tdepth a) (tdepth b):=by
 induction a with
 | nil=>simp[tdepth]
 | cons x r ih=>simp[tdepth,ih,Nat.max_assoc]
theorem kD (a b:List St):snodes (a++b)=snodes a+snodes b:=by
 induction a with
 | nil=>simp[snodes]
 | cons x r ih=>simp[snodes,ih,zrJ]
theorem qp (a b:List St):sbulk (a++b)=sbulk a+sbulk b:=by
 induction a with
 | nil=>simp[sbulk]
 | cons x r ih=>simp[sbulk,ih,zrJ]
theorem zau (a b:List St):ssize (a++b)=ssize a+ssize b:=by
 induction a with
 | nil=>simp[ssize]
 | cons x r ih=>simp[ssize,ih,zrJ]
theorem qJ (a b:List St):sdepth (a++b)=max (sdepth a) (sdepth b):=by
 induction a with
 | nil=>simp[sdepth]
 | cons x r ih=>simp[sdepth,ih,Nat.max_assoc]
theorem qK (a b:List St):stdeep (a++b)=(stdeep a || stdeep b):=by
 induction a with
 | nil=>simp[stdeep]
 | cons x r ih=>simp[stdeep,ih,Bool.or_assoc]
theorem ze {α:Type} {l:List α} {i:Nat} {x:α} (h:l[i]?=some x):l.take (i+1)=l.take i++[x]:=by
 rw[zrC,h];rfl
theorem jU {l:List Tm} {i:Nat} {x:Tm} (h:l[i]?=some x):tnodes (l.take (i+1))=tnodes (l.take i)+x.nodes:=by rw[ze h,qI];simp[tnodes]
theorem zbd {l:List Tm} {i:Nat} {x:Tm} (h:l[i]?=some x):tdepth (l.take (i+1))=max (tdepth (l.take i)) x.depth:=by rw[ze h,zcI];simp[tdepth]
theorem zbe {l:List St} {i:Nat} {x:St} (h:l[i]?=some x):snodes (l.take (i+1))=snodes (l.take i)+x.nodes:=by rw[ze h,kD];simp[snodes]
theorem zfT {l:List St} {i:Nat} {x:St} (h:l[i]?=some x):sbulk (l.take (i+1))=sbulk (l.take i)+x.bulk:=by rw[ze h,qp];simp[sbulk]
theorem jy {l:List St} {i:Nat} {x:St} (h:l[i]?=some x):ssize (l.take (i+1))=ssize (l.take i)+x.size:=by rw[ze h,zau];simp[ssize]
theorem zbf {l:List St} {i:Nat} {x:St} (h:l[i]?=some x):sdepth (l.take (i+1))=max (sdepth (l.take i)) x.depth:=by rw[ze h,qJ];simp[sdepth]
theorem zbg {l:List St} {i:Nat} {x:St} (h:l[i]?=some x):stdeep (l.take (i+1))=(stdeep (l.take i) || x.tdeep):=by rw[ze h,qK];simp[stdeep]
theorem yy {α:Type} {l:List α} {i:Nat} {x:α} (h:l[i]?=some x):l=l.take i++x::l.drop (i+1):=by
 obtain⟨h1,h2⟩:=zpy.1 h
 rw[<- h2,List.getElem_cons_drop,zrD]
theorem jg {l:List St} {x:St} (h:x ∈ l):x.bulk<=sbulk l:=by
 obtain⟨i,hi⟩:=zre.1 h
 rw[yy hi,qp];simp[sbulk];omega
theorem xF {l:List Tm} {i:Nat} {x:Tm} (h:l[i]?=some x):tnodes l=tnodes (l.take i)+x.nodes+tnodes (l.drop (i+1)):=by
 conv=>lhs;rw[yy h]
 rw[qI];simp[tnodes,zrJ]
theorem qq {l:List St} {i:Nat} {x:St} (h:l[i]?=some x):snodes l=snodes (l.take i)+x.nodes+snodes (l.drop (i+1)):=by
 conv=>lhs;rw[yy h]
 rw[kD];simp[snodes,zrJ]
theorem zey {l:List St} {i:Nat} {x:St} (h:l[i]?=some x):sbulk l=sbulk (l.take i)+x.bulk+sbulk (l.drop (i+1)):=by
 conv=>lhs;rw[yy h]
 rw[qp];simp[sbulk,zrJ]
theorem xm {l:List St} {i:Nat} {x:St} (h:l[i]?=some x):ssize l=ssize (l.take i)+x.size+ssize (l.drop (i+1)):=by
 conv=>lhs;rw[yy h]
 rw[zau];simp[ssize,zrJ]
theorem zbh (l:List Tm):l.length<=tnodes l:=by
 induction l with
 | nil=>simp
 | cons x r ih=>have:=x.nodes_eq;simp[tnodes];omega
theorem zcJ (l:List St):l.length<=snodes l:=by
 induction l with
 | nil=>simp
 | cons x r ih=>have:=x.nodes_eq;simp[snodes];omega
theorem zdu:∀ l:List St,snodes l<=sbulk l:=by
 intro l
 induction l using znx with
 | h l ih =>
  have key:∀ r:List St,(∀ s ∈ r,snodes s.thn<=sbulk s.thn/\snodes s.els<=sbulk s.els)->snodes r<=sbulk r:=by
   intro r
   induction r with
   | nil=>intro _;simp[snodes]
   | cons x r ih2 =>
    intro h
    have h1:=h x (zpo ..)
    have h2:=ih2 (fun s hs=>h s (zpn _ hs))
    have h3:=x.nodes_eq
    have h4:=x.bulk_eq
    simp only[snodes,sbulk];omega
  exact key l ih
theorem zdv:∀ l:List St,ssize l<=snodes l:=by
 intro l
 induction l using znx with
 | h l ih =>
  have key:∀ r:List St,(∀ s ∈ r,ssize s.thn<=snodes s.thn/\ssize s.els<=snodes s.els)->ssize r<=snodes r:=by
   intro r
   induction r with
   | nil=>intro _;simp[ssize]
   | cons x r ih2 =>
    intro h
    have h1:=h x (zpo ..)
    have h2:=ih2 (fun s hs=>h s (zpn _ hs))
    have h3:=x.nodes_eq
    have h4:=x.size_eq
    simp only[snodes,ssize];omega
  exact key l ih
theorem jz (l:List St):l.length<=ssize l:=by
 induction l with
 | nil=>simp
 | cons x r ih=>have:=x.size_eq;simp[ssize];omega
theorem zav:∀ l:List Tm,tdepth l<=tnodes l:=by
 have key:∀ l:List Tm,(∀ k ∈ l,k.depth<=k.nodes)->tdepth l<=tnodes l:=by
  intro l
  induction l with
  | nil=>intro _;simp[tdepth]
  | cons x r ih =>
   intro h
   have h1:=h x (zpo ..)
   have h2:=ih (fun k hk=>h k (zpn _ hk))
   simp only[tdepth,tnodes];omega
 have all:∀ t:Tm,t.depth<=t.nodes:=by
  intro t
  induction t using znv with
  | h t ih =>
   have:=key t.kids ih
   rw[t.depth_eq,t.nodes_eq];omega
 exact fun l=>key l (fun k _=>all k)
theorem jh:∀ l:List St,sdepth l<=snodes l:=by
 intro l
 induction l using znx with
 | h l ih =>
  have key:∀ r:List St,(∀ s ∈ r,sdepth s.thn<=snodes s.thn/\sdepth s.els<=snodes s.els)->sdepth r<=snodes r:=by
   intro r
   induction r with
   | nil=>intro _;simp[sdepth]
   | cons x r ih2 =>
    intro h
    have h1:=h x (zpo ..)
    have h2:=ih2 (fun s hs=>h s (zpn _ hs))
    have h3:=x.nodes_eq
    have h4:=x.depth_eq
    simp only[snodes,sdepth];omega
  exact key l ih
def zA:List Ht->Nat
 | []=>0
 | h::r=>h.term.nodes+zA r
theorem kE (a b:List Ht):zA (a++b)=zA a+zA b:=by
 induction a with
 | nil=>simp[zA]
 | cons x r ih=>simp[zA,ih,zrJ]
theorem jV {l:List Ht} {i:Nat} {x:Ht} (h:l[i]?=some x):zA (l.take (i+1))=zA (l.take i)+x.term.nodes:=by rw[ze h,kE];simp[zA]
theorem xG {l:List Ht} {i:Nat} {x:Ht} (h:l[i]?=some x):zA l=zA (l.take i)+x.term.nodes+zA (l.drop (i+1)):=by
 conv=>lhs;rw[yy h]
 rw[kE];simp[zA,zrJ]
end Go.GL
namespace Go.Proofs.YtckdhgbepmpgiaaGreat
open Go.GL
theorem jA (l:List St):∀ (v:Value) (D:Nat->Prop) (w:World),SlR 10 RSt D w v l->ssize l<=1000000->Calls Tryz.prog 56 #[v] w (Ret fun r w'=>r=.int .i64 (ssize l)/\Ext w w'):=by
 induction l using znx with
 | h l ih =>
 intro v D w hl dK
 have dr:=jz l
 obtain⟨ao,cap,rfl⟩:=hl.form
 refine znk Tryz.func56 O Tryz.ntmps56 O (Gs 17 O (G.loop (σ:=Nat) (fun i=>[(0,.slice ao l.length cap),(3,.int .i64 (ssize (l.take i))),(4,.int .i64 i)]) (fun i=>fun w'=>i<=l.length/\Ext w w') (fun i=>l.length - i) (0) (Sub.of O) (⟨zpz _,Keep.refl _ _⟩) ?_))
 rintro i w1 ⟨hi,dg⟩
 replace hl:=Tr1 dg hl
 refine Gs 9 O (zlF O (fun dL=>?_) (fun dM=>?_))
 .
  obtain⟨s,dc,dh⟩:=gE_ l (i) (by omega)
  obtain⟨dt,dN,dO,di,_,hY,dk⟩:=hl.at dc
  have du:=RSt.one dk
  obtain⟨dw,dx,dy,dz,rfl,de,da,db,df⟩:=dk.get
  obtain⟨dA,dB,rfl⟩:=de.form
  obtain⟨dC,dD,rfl⟩:=da.form
  obtain⟨dE,dF,rfl⟩:=db.form
  obtain⟨dG,dH,rfl⟩:=df.form
  have dm:dt<_:=zpm _ _ (hY 0 _ rfl)
  have dQ:=xm dc
  have dR:=s.size_eq
  refine Gs 4 O (Dw (fun q=>Ext w1 q) [] (fun wd1 hD _=>?_))
  refine Da [0,1,2,3] (by kernel_rfl) O (by omega) (zmI 4 O (by kernel_rfl) O O O (fun w1=>zmh tR24 ts72 O O di (by omega)) (Ds [5] (by kernel_rfl) O (WD.take 6 O (by kernel_rfl) O O O hD (fun w1 dl=>R.load tg24 O (dl.cells hY (fun h=>h) 7 _ O)) (Ds [9,10] (by kernel_rfl) O (zmI 11 O (by kernel_rfl) O O O (fun w1=>zmh tR24 ts72 O O di (by omega)) (Ds [12] (by kernel_rfl) O (WD.take 13 O (by kernel_rfl) O O O hD (fun w1 dl=>R.load tg24 O (dl.cells hY (fun h=>h) 8 _ O)) ?_)))))))
  refine WD.call 7 O (by kernel_rfl) O O O (F.call (vs:=[_]) tc56 O) ((ih s dh).1 _ D _ (da.ext zd hD) (by omega)) ?_
  rintro _ wz2 ⟨rfl,dI⟩
  replace hD:=hD.ext dI
  refine⟨fun _=>hD,?_⟩
  refine Da [8] (by kernel_rfl) O (by omega) (WD.call 14 O (by kernel_rfl) O O O (F.call (vs:=[_]) tc56 O) ((ih s dh).2 _ D _ (db.ext zd hD) (by omega)) ?_)
  rintro _ wz3 ⟨rfl,dJ⟩
  replace hD:=hD.ext dJ
  refine⟨fun _=>hD,?_⟩
  refine Da [15,16] (by kernel_rfl) O (by omega) (G.done (by kernel_rfl) ?_ _)
  obtain⟨hl,dg,hY,de,da,db,df⟩:=Tr7 hD hl dg hY de da db df
  refine Ga 7 O (by omega) (G.back (i+1) (Sub.cons O (Sub.cons (yC O (by rw[jy dc];omega)) (Sub.of O))) (⟨by omega,dg⟩) (by first | omega | (dsimp only;omega)))
 have:i=l.length:=by omega
 subst this
 refine Gs 12 O (zlV Tryz.results56 O ⟨_,rfl,by rw[zpp],dg⟩)
theorem ji (t:Tm):∀ (cs:List Value) (D:Nat->Prop) (w:World),RTm D w t cs->t.nodes<=1000000->Calls Tryz.prog 105 #[.agg cs.toArray] w (Ret fun r w'=>r=.int .i64 t.nodes/\Ext w w'):=by
 induction t using znv with
 | h t ih =>
 intro cs D w ht dC
 have dr:=zbh t.kids
 have dD:=t.nodes_eq
 obtain⟨v,rfl,hk⟩:=ht.get
 obtain⟨ao,cap,rfl⟩:=hk.form
 have hE:=Keep.refl (fun _=>False) w
 refine znk Tryz.func105 O Tryz.ntmps105 O (Gs 2 O (zmr O O (M.box O O) ?_))
 rintro _ dt ⟨b,rfl,dg,du,hY,dh⟩
 have dl:_<=b:=zpq hE.size (zrS dg.symm)
 obtain⟨hE,hk⟩:=Tr2 dh hE hk
 refine Gs 15 O (G.loop (σ:=Nat) (fun i=>[(1,.pointer (some ⟨b,0,none⟩)),(3,.int .i64 (1+tnodes (t.kids.take i):Nat)),(4,.int .i64 i)]) (fun i=>fun w'=>i<=t.kids.length/\Ext dt w') (fun i=>t.kids.length - i) (0) (Sub.of O) (⟨zpz _,Keep.refl _ _⟩) ?_)
 rintro i w1 ⟨hi,df⟩
 obtain⟨hE,hk,hY⟩:=Tr3 df hE hk hY
 refine Gs 5 O (zne O tg68 (hY.cells 2 _ O) (Gs 4 O (zlF O (fun dE=>?_) (fun dF=>?_))))
 .
  obtain⟨k,dc,di⟩:=gE_ t.kids (i) (by omega)
  obtain⟨dw,dG,dH,dk,_,da,de⟩:=hk.at dc
  have dx:=RTm.one de
  obtain⟨dy,rfl,db⟩:=de.get
  obtain⟨dz,dA,rfl⟩:=db.form
  have dm:dw<_:=zpm _ _ (da 0 _ rfl)
  have dI:=xF dc
  refine Gs 7 O (zne O tg68 (hY.cells 2 _ O) (Gs 1 O (zna O O (zmh tR68 ts70 O O dk (by omega)) (zng O tg70 ts70 da O (G.call O Tryz.call105 (ih k di _ D _ (RTm.put db) (by omega)) ?_)))))
  rintro _ wz1 ⟨rfl,dB⟩
  obtain⟨hE,hk,hY,df,da,db⟩:=Tr6 dB hE hk hY df da db
  refine Ga 10 O (by omega) (G.back (i+1) (Sub.cons O (Sub.cons (yC O (by rw[jU dc];omega)) (Sub.of O))) (⟨by omega,df⟩) (by first | omega | (dsimp only;omega)))
 have:i=t.kids.length:=by omega
 subst this
 refine Gs 12 O (zlV Tryz.results105 O ⟨_,rfl,by rw[zpp,t.nodes_eq],hE⟩)
theorem jj (t:Tm):∀ (cs:List Value) (D:Nat->Prop) (w:World),RTm D w t cs->t.nodes<=1000000->Calls Tryz.prog 106 #[.agg cs.toArray] w (Ret fun r w'=>r=.int .i64 t.depth/\Ext w w'):=by
 induction t using znv with
 | h t ih =>
 intro cs D w ht dD
 have dt:=zbh t.kids
 have dE:=t.nodes_eq
 obtain⟨v,rfl,hk⟩:=ht.get
 obtain⟨ao,cap,rfl⟩:=hk.form
 have hE:=Keep.refl (fun _=>False) w
 refine znk Tryz.func106 O Tryz.ntmps106 O (Gs 2 O (zmr O O (M.box O O) ?_))
 rintro _ du ⟨b,rfl,dg,dw,hY,dh⟩
 have dl:_<=b:=zpq hE.size (zrS dg.symm)
 obtain⟨hE,hk⟩:=Tr2 dh hE hk
 refine Gs 15 O (G.loop (σ:=Nat) (fun i=>[(1,.pointer (some ⟨b,0,none⟩)),(3,.int .i64 (tdepth (t.kids.take i):Nat)),(4,.int .i64 i)]) (fun i=>fun w'=>i<=t.kids.length/\Ext du w') (fun i=>t.kids.length - i) (0) (Sub.of O) (⟨zpz _,Keep.refl _ _⟩) ?_)
 rintro i w1 ⟨hi,de⟩
 obtain⟨hE,hk,hY⟩:=Tr3 de hE hk hY
 refine Gs 5 O (zne O tg68 (hY.cells 2 _ O) (Gs 4 O (zlF O (fun dF=>?_) (fun dG=>?_))))
 .
  obtain⟨k,dc,di⟩:=gE_ t.kids (i) (by omega)
  obtain⟨dx,dH,dI,dk,_,da,df⟩:=hk.at dc
  have dy:=RTm.one df
  obtain⟨dz,rfl,db⟩:=df.get
  obtain⟨dA,dB,rfl⟩:=db.form
  have dm:dx<_:=zpm _ _ (da 0 _ rfl)
  have dJ:=xF dc
  have dr:=zbd dc
  refine Gs 7 O (zne O tg68 (hY.cells 2 _ O) (Gs 1 O (zna O O (zmh tR68 ts70 O O dk (by omega)) (zng O tg70 ts70 da O (G.call O Tryz.call106 (ih k di _ D _ (RTm.put db) (by omega)) ?_)))))
  rintro _ wz1 ⟨rfl,dC⟩
  obtain⟨hE,hk,hY,de,da,db⟩:=Tr6 dC hE hk hY de da db
  refine Gs 10 O (zlF O (fun dK=>?_) (fun dL=>?_))
  . refine Ga 11 O (by omega) (G.back (i+1) (Sub.cons O (Sub.cons (yC O (by rw[dr];omega)) (Sub.of O))) (⟨by omega,de⟩) (by first | omega | (dsimp only;omega)))
  refine Ga 8 O (by omega) (G.back (i+1) (Sub.cons O (Sub.cons (yC O (by rw[dr];omega)) (Sub.of O))) (⟨by omega,de⟩) (by first | omega | (dsimp only;omega)))
 have:i=t.kids.length:=by omega
 subst this
 have dM:=zav t.kids
 rw[zpp]
 refine Ga 13 O (by omega) (zlV Tryz.results106 O ⟨_,rfl,by rw[t.depth_eq];rfl,hE⟩)
theorem zez (l:List St):∀ (v:Value) (D:Nat->Prop) (w:World),SlR 10 RSt D w v l->snodes l<=1000000->Calls Tryz.prog 104 #[v] w (Ret fun r w'=>r=.int .i64 (snodes l)/\Ext w w'):=by
 induction l using znx with
 | h l ih =>
 intro v D w hl dL
 have dr:=zcJ l
 obtain⟨ao,cap,rfl⟩:=hl.form
 refine znk Tryz.func104 O Tryz.ntmps104 O (Gs 17 O (G.loop (σ:=Nat) (fun i=>[(0,.slice ao l.length cap),(3,.int .i64 (snodes (l.take i))),(4,.int .i64 i)]) (fun i=>fun w'=>i<=l.length/\Ext w w') (fun i=>l.length - i) (0) (Sub.of O) (⟨zpz _,Keep.refl _ _⟩) ?_))
 rintro i w1 ⟨hi,dh⟩
 replace hl:=Tr1 dh hl
 refine Gs 9 O (zlF O (fun dM=>?_) (fun dN=>?_))
 .
  obtain⟨s,de,di⟩:=gE_ l (i) (by omega)
  obtain⟨dt,dO,dQ,df,_,hY,dk⟩:=hl.at de
  have du:=RSt.one dk
  obtain⟨dw,dx,dy,dz,rfl,da,db,dc,dg⟩:=dk.get
  obtain⟨dA,dB,rfl⟩:=da.form
  obtain⟨dC,dD,rfl⟩:=db.form
  obtain⟨dE,dF,rfl⟩:=dc.form
  obtain⟨dG,dH,rfl⟩:=dg.form
  have dm:dt<_:=zpm _ _ (hY 0 _ rfl)
  have dR:=qq de
  have dS:=s.nodes_eq
  refine Gs 4 O (Dw (fun q=>Ext w1 q) [] (fun wd1 hD _=>?_))
  refine Da [0,1,2,3] (by kernel_rfl) O (by omega) (zmI 4 O (by kernel_rfl) O O O (fun w1=>zmh tR24 ts72 O O df (by omega)) (Ds [5] (by kernel_rfl) O (WD.take 6 O (by kernel_rfl) O O O hD (fun w1 dl=>zmj tg70 ts70 O (by rfl) ((dl.cells hY (fun h=>h)).sub 4 3)) (Ds [9,10] (by kernel_rfl) O (zmI 11 O (by kernel_rfl) O O O (fun w1=>zmh tR24 ts72 O O df (by omega)) (Ds [12] (by kernel_rfl) O (WD.take 13 O (by kernel_rfl) O O O hD (fun w1 dl=>R.load tg24 O (dl.cells hY (fun h=>h) 7 _ O)) ?_)))))))
  refine Ds [16,17] (by kernel_rfl) O (zmI 18 O (by kernel_rfl) O O O (fun w1=>zmh tR24 ts72 O O df (by omega)) (Ds [19] (by kernel_rfl) O (WD.take 20 O (by kernel_rfl) O O O hD (fun w1 dl=>R.load tg24 O (dl.cells hY (fun h=>h) 8 _ O)) (WD.call 7 O (by kernel_rfl) O O O (F.call (vs:=[_]) Tryz.call105 O) (ji s.term _ D _ (RTm.put (da.ext zh hD)) (by omega)) ?_))))
  rintro _ wz2 ⟨rfl,dI⟩
  replace hD:=hD.ext dI
  refine⟨fun _=>hD,?_⟩
  refine Da [8] (by kernel_rfl) O (by omega) (WD.call 14 O (by kernel_rfl) O O O (F.call (vs:=[_]) Tryz.call104 O) ((ih s di).1 _ D _ (db.ext zd hD) (by omega)) ?_)
  rintro _ wz3 ⟨rfl,dJ⟩
  replace hD:=hD.ext dJ
  refine⟨fun _=>hD,?_⟩
  refine Da [15] (by kernel_rfl) O (by omega) (WD.call 21 O (by kernel_rfl) O O O (F.call (vs:=[_]) Tryz.call104 O) ((ih s di).2 _ D _ (dc.ext zd hD) (by omega)) ?_)
  rintro _ wz4 ⟨rfl,dK⟩
  replace hD:=hD.ext dK
  refine⟨fun _=>hD,?_⟩
  refine Da [22,23] (by kernel_rfl) O (by omega) (G.done (by kernel_rfl) ?_ _)
  obtain⟨hl,dh,hY,da,db,dc,dg⟩:=Tr7 hD hl dh hY da db dc dg
  refine Ga 7 O (by omega) (G.back (i+1) (Sub.cons O (Sub.cons (yC O (by rw[zbe de];omega)) (Sub.of O))) (⟨by omega,dh⟩) (by first | omega | (dsimp only;omega)))
 have:i=l.length:=by omega
 subst this
 refine Gs 12 O (zlV Tryz.results104 O ⟨_,rfl,by rw[zpp],dh⟩)
theorem zbi (l:List St):∀ (v:Value) (D:Nat->Prop) (w:World),SlR 10 RSt D w v l->snodes l<=1000000->Calls Tryz.prog 107 #[v] w (Ret fun r w'=>r=.int .i64 (sdepth l)/\Ext w w'):=by
 induction l using znx with
 | h l ih =>
 intro v D w hl dK
 have dr:=zcJ l
 obtain⟨ao,cap,rfl⟩:=hl.form
 refine znk Tryz.func107 O Tryz.ntmps107 O (Gs 17 O (G.loop (σ:=Nat) (fun i=>[(0,.slice ao l.length cap),(3,.int .i64 (sdepth (l.take i))),(4,.int .i64 i)]) (fun i=>fun w'=>i<=l.length/\Ext w w') (fun i=>l.length - i) (0) (Sub.of O) (⟨zpz _,Keep.refl _ _⟩) ?_))
 rintro i w1 ⟨hi,df⟩
 replace hl:=Tr1 df hl
 refine Gs 9 O (zlF O (fun dL=>?_) (fun dM=>?_))
 .
  obtain⟨s,dg,dh⟩:=gE_ l (i) (by omega)
  obtain⟨dt,dN,dO,di,_,hY,dk⟩:=hl.at dg
  have du:=RSt.one dk
  obtain⟨dw,dx,dy,dz,rfl,dc,da,db,de⟩:=dk.get
  obtain⟨dA,dB,rfl⟩:=dc.form
  obtain⟨dC,dD,rfl⟩:=da.form
  obtain⟨dE,dF,rfl⟩:=db.form
  obtain⟨dG,dH,rfl⟩:=de.form
  have dm:dt<_:=zpm _ _ (hY 0 _ rfl)
  have dQ:=qq dg
  have dR:=s.nodes_eq
  have dl:=zbf dg
  have dS:=s.depth_eq
  have dT:=jh s.thn
  have dU:=jh s.els
  refine Gs 8 O (zna O O (zmh tR24 ts72 O O di (by omega)) (Gs 1 O (zne O tg24 (hY 7 _ O) (G.call O Tryz.call107 ((ih s dh).1 _ D _ da (by omega)) ?_))))
  rintro _ wz1 ⟨rfl,dI⟩
  obtain⟨hl,df,hY,dc,da,db,de⟩:=Tr7 dI hl df hY dc da db de
  refine Ga 8 O (by omega) (zna O O (zmh tR24 ts72 O O di (by omega)) (Gs 1 O (zne O tg24 (hY 8 _ O) (G.call O Tryz.call107 ((ih s dh).2 _ D _ db (by omega)) ?_))))
  rintro _ wz2 ⟨rfl,dJ⟩
  obtain⟨hl,df,hY,dc,da,db,de⟩:=Tr7 dJ hl df hY dc da db de
  refine Ga 12 O (by omega) (zlF O (fun h1=>?_) (fun h1=>?_))
  .
   refine Gs 12 O (zlF O (fun h2=>?_) (fun h2=>?_))
   . refine Ga 11 O (by omega) (G.back (i+1) (Sub.cons O (Sub.cons (yC O (by rw[dl];omega)) (Sub.of O))) (⟨by omega,df⟩) (by first | omega | (dsimp only;omega)))
   refine Ga 8 O (by omega) (G.back (i+1) (Sub.cons O (Sub.cons (yC O (by rw[dl];omega)) (Sub.of O))) (⟨by omega,df⟩) (by first | omega | (dsimp only;omega)))
  refine Gs 9 O (zlF O (fun h2=>?_) (fun h2=>?_))
  . refine Ga 11 O (by omega) (G.back (i+1) (Sub.cons O (Sub.cons (yC O (by rw[dl];omega)) (Sub.of O))) (⟨by omega,df⟩) (by first | omega | (dsimp only;omega)))
  refine Ga 8 O (by omega) (G.back (i+1) (Sub.cons O (Sub.cons (yC O (by rw[dl];omega)) (Sub.of O))) (⟨by omega,df⟩) (by first | omega | (dsimp only;omega)))
 have:i=l.length:=by omega
 subst this
 refine Gs 12 O (zlV Tryz.results107 O ⟨_,rfl,by rw[zpp],df⟩)
theorem zbj (l:List St):∀ (v:Value) (D:Nat->Prop) (w:World),SlR 10 RSt D w v l->snodes l<=1000000->Calls Tryz.prog 108 #[v] w (Ret fun r w'=>r=.bool (stdeep l)/\Ext w w'):=by
 induction l using znx with
 | h l ih =>
 intro v D w hl dO
 have dw:=zcJ l
 obtain⟨ao,cap,rfl⟩:=hl.form
 refine znk Tryz.func108 O Tryz.ntmps108 O (Gs 12 O (G.loop (σ:=Nat) (fun i=>[(0,.slice ao l.length cap),(3,.int .i64 i)]) (fun i=>fun w'=>i<=l.length/\stdeep (l.take i)=false/\Ext w w') (fun i=>l.length - i) (0) (Sub.of O) (⟨zpz _,rfl,Keep.refl _ _⟩) ?_))
 rintro i w1 ⟨hi,dm,df⟩
 replace hl:=Tr1 df hl
 refine Gs 9 O (zlF O (fun dQ=>?_) (fun dR=>?_))
 .
  obtain⟨s,dg,dk⟩:=gE_ l (i) (by omega)
  obtain⟨dx,dS,dT,dh,_,hY,dl⟩:=hl.at dg
  have dy:=RSt.one dl
  obtain⟨dz,dA,dB,dC,rfl,da,db,dc,de⟩:=dl.get
  obtain⟨dD,dE,rfl⟩:=da.form
  obtain⟨dF,dG,rfl⟩:=db.form
  obtain⟨dH,dI,rfl⟩:=dc.form
  obtain⟨dJ,dK,rfl⟩:=de.form
  have dt:dx<_:=zpm _ _ (hY 0 _ rfl)
  have dU:=qq dg
  have dV:=s.nodes_eq
  have du:=zbg dg
  rw[dm,zq3,s.tdeep_eq]at du
  have di:(decide (12<s.term.depth) || stdeep s.thn || stdeep s.els)=true->stdeep l=true:=by
   intro h
   rw[yy dg,qK]
   simp only[stdeep,s.tdeep_eq,h,zqd,zqa]
  refine Gs 8 O (zna O O (zmh tR24 ts72 O O dh (by omega)) (Gs 1 O (zng O tg70 ts70 (hY.sub 4 3) O (G.call O Tryz.call106 (jj s.term _ D _ (RTm.put da) (by omega)) ?_))))
  rintro _ wz1 ⟨rfl,dL⟩
  obtain⟨hl,df,hY,da,db,dc,de⟩:=Tr7 dL hl df hY da db dc de
  refine Gs 2 O (G.sp 17 O (fun h1=>?_) (fun h1=>?_))
  .
   have dr:decide (12<s.term.depth)=true:=zpw (by omega)
   refine Gs 29 O (zlV tr108 O ⟨_,rfl,by rw[di (by rw[dr];rfl)],df⟩)
  have dr:decide (12<s.term.depth)=false:=zpx (by omega)
  refine Gs 2 O (zna O O (zmh tR24 ts72 O O dh (by omega)) (Gs 1 O (zne O tg24 (hY 7 _ O) (G.call O Tryz.call108 ((ih s dk).1 _ D _ db (by omega)) ?_))))
  rintro _ wz2 ⟨rfl,dM⟩
  obtain⟨hl,df,hY,da,db,dc,de⟩:=Tr7 dM hl df hY da db dc de
  refine Gs 2 O (zn8 25 O (fun h2=>?_) (fun h2=>?_))
  . refine Gs 21 O (zlV tr108 O ⟨_,rfl,by rw[di (by rw[h2];simp)],df⟩)
  refine Gs 2 O (zna O O (zmh tR24 ts72 O O dh (by omega)) (Gs 1 O (zne O tg24 (hY 8 _ O) (G.call O Tryz.call108 ((ih s dk).2 _ D _ dc (by omega)) ?_))))
  rintro _ wz3 ⟨rfl,dN⟩
  obtain⟨hl,df,hY,da,db,dc,de⟩:=Tr7 dN hl df hY da db dc de
  refine Gs 3 O (G.bool O (fun h3=>?_) (fun h3=>?_))
  . refine Gs 11 O (zlV tr108 O ⟨_,rfl,by rw[di (by rw[h3];simp)],df⟩)
  refine Ga 8 O (by omega) (G.back (i+1) (Sub.of O) (⟨by omega,by rw[du,dr,h2,h3];rfl,df⟩) (by first | omega | (dsimp only;omega)))
 have:i=l.length:=by omega
 subst this
 rw[zpp]at dm
 refine Gs 11 O (zlV tr108 O ⟨_,rfl,by rw[dm],df⟩)
theorem zL (a b:Int) (w:World):Calls Tryz.prog 113 #[.int .i64 a,.int .i64 b] w (Ret fun r w'=>r=.int .i64 (max a b)/\Ext w w'):=by
 refine znl Tryz.func113 O Tryz.ntmps113 O (Gs 13 O (zlF O (fun h=>?_) (fun h=>?_)))
 . refine Gs 8 O (zlV Tryz.results113 O ⟨_,rfl,by rw[Int.max_eq_left (by omega)],Keep.refl _ _⟩)
 refine Gs 9 O (zlV Tryz.results113 O ⟨_,rfl,by rw[Int.max_eq_right (by omega)],Keep.refl _ _⟩)
theorem zt (a b:Int) (w:World):Calls Tryz.prog 114 #[.int .i64 a,.int .i64 b] w (Ret fun r w'=>r=.int .i64 (min a b)/\Ext w w'):=by
 refine znl Tryz.func114 O Tryz.ntmps114 O (Gs 13 O (zlF O (fun h=>?_) (fun h=>?_)))
 . refine Gs 8 O (zlV Tryz.results114 O ⟨_,rfl,by rw[Int.min_eq_left (by omega)],Keep.refl _ _⟩)
 refine Gs 9 O (zlV Tryz.results114 O ⟨_,rfl,by rw[Int.min_eq_right (by omega)],Keep.refl _ _⟩)
def yB (n low high:Int):Int:=if n<low then low else if high<n then high else n
theorem zaa (a b c:Int) (w:World):Calls Tryz.prog 140 #[.int .i64 a,.int .i64 b,.int .i64 c] w (Ret fun r w'=>r=.int .i64 (yB a b c)/\Ext w w'):=by
 refine znm Tryz.func140 O Tryz.ntmps140 O (Gs 13 O (zlF O (fun h=>?_) (fun h=>?_)))
 . refine Gs 8 O (zlV Tryz.results140 O ⟨_,rfl,by rw[yB,zpv h],Keep.refl _ _⟩)
 refine Gs 10 O (zlF O (fun h2=>?_) (fun h2=>?_))
 . refine Gs 8 O (zlV Tryz.results140 O ⟨_,rfl,by rw[yB,zpu h,zpv h2],Keep.refl _ _⟩)
 refine Gs 9 O (zlV Tryz.results140 O ⟨_,rfl,by rw[yB,zpu h,zpu h2],Keep.refl _ _⟩)
theorem yn (p:Bool) (w:World):Calls Tryz.prog 172 #[.bool p] w (Ret fun r w'=>r=.int .i64 (if p then 1 else 0)/\Ext w w'):=by
 refine znk Tryz.func172 O Tryz.ntmps172 O (Gs 11 O (G.bool O (fun h=>?_) (fun h=>?_)))
 . refine Gs 7 O (zlV Tryz.results172 O ⟨_,rfl,by rw[h];rfl,Keep.refl _ _⟩)
 refine Gs 8 O (zlV Tryz.results172 O ⟨_,rfl,by rw[h];rfl,Keep.refl _ _⟩)
theorem zN (p:Bool) (w:World):Calls Tryz.prog 131 #[.bool p] w (Ret fun r w'=>r=.int .i64 (if p then 1 else 0)/\Ext w w'):=by
 refine znk Tryz.func131 O Tryz.ntmps131 O (Gs 11 O (G.bool O (fun h=>?_) (fun h=>?_)))
 . refine Gs 7 O (zlV Tryz.results131 O ⟨_,rfl,by rw[h];rfl,Keep.refl _ _⟩)
 refine Gs 8 O (zlV Tryz.results131 O ⟨_,rfl,by rw[h];rfl,Keep.refl _ _⟩)
theorem zbk (a:Int) (w:World) (ha:-4611686018427387904<=a):Calls Tryz.prog 182 #[.int .i64 a] w (Ret fun r w'=>r=.int .i64 (if a<0 then -a else a)/\Ext w w'):=by
 refine znk Tryz.func182 O Tryz.ntmps182 O (Gs 12 O (zlF O (fun h=>?_) (fun h=>?_)))
 . refine Ga 9 O (by omega) (zlV Tryz.results182 O ⟨_,rfl,by rw[zpv h],Keep.refl _ _⟩)
 refine Gs 9 O (zlV Tryz.results182 O ⟨_,rfl,by rw[zpu h],Keep.refl _ _⟩)
theorem zdw (a b c:Int) (w:World) (hY:b<=c):Calls Tryz.prog 132 #[.int .i64 a,.int .i64 b,.int .i64 c] w (Ret fun r w'=>r=.int .i64 (yB a b c)/\Ext w w'):=by
 refine znm Tryz.func132 O Tryz.ntmps132 O (Gs 16 O (zlV Tryz.results132 O ⟨_,rfl,?_,Keep.refl _ _⟩))
 congr 1
 unfold yB
 split
 . omega
 split<;>omega
theorem zbl (t:Tm):∀ (cs:List Value) (D:Nat->Prop) (w:World) (left:Int),RTm D w t cs -> -100000<=left->left<=1000000->Calls Tryz.prog 58 #[.agg cs.toArray,.int .i64 left] w (Ret fun r w'=>(∃ m:Int,r=.int .i64 m/\((t.nodes:Int)<=left->m=left - t.nodes)/\(¬ (t.nodes:Int)<=left->m<0/\min left 0 - 1<=m))/\Ext w w'):=by
 induction t using znv with
 | h t ih =>
 intro cs D w left ht h1 h2
 have dH:=t.nodes_eq
 obtain⟨v,rfl,hk⟩:=ht.get
 have dI:=hk.max
 obtain⟨ao,cap,rfl⟩:=hk.form
 have hE:=Keep.refl (fun _=>False) w
 refine znl Tryz.func58 O Tryz.ntmps58 O (Gs 2 O (zmr O O (M.box O O) ?_))
 rintro _ du ⟨b,rfl,dh,dw,hY,di⟩
 have dm:_<=b:=zpq hE.size (zrS dh.symm)
 obtain⟨hE,hk⟩:=Tr2 di hE hk
 refine Ga 17 O (by omega) (G.loop (σ:=Nat × Int) (fun⟨i,x⟩=>[(1,.int .i64 x),(2,.pointer (some ⟨b,0,none⟩)),(5,.int .i64 i)]) (fun⟨i,x⟩=>fun w'=>i<=t.kids.length/\((1+tnodes (t.kids.take i):Nat)<=left->x=left - (1+tnodes (t.kids.take i):Nat))/\(¬ ((1+tnodes (t.kids.take i):Nat):Int)<=left->x<0/\min left 0 - 1<=x)/\Ext du w') (fun⟨i,x⟩=>t.kids.length - i) ((0,left - 1)) (Sub.of O) (⟨zpz _,fun _=>rfl,fun h=>by simp[tnodes]at h;omega,Keep.refl _ _⟩) ?_)
 rintro⟨i,x⟩ w1 ⟨hi,hy,hn,dg⟩
 show G _ _ _ _ _ [(1,.int .i64 x),(2,.pointer (some ⟨b,0,none⟩)),(5,.int .i64 i)] _
 obtain⟨hE,hk,hY⟩:=Tr3 dg hE hk hY
 refine Gs 5 O (zne O tg68 (hY.cells 2 _ O) (Gs 3 O ?_))
 have dc:(i=t.kids.length\/x<0)->((t.nodes:Int)<=left->x=left - t.nodes)/\(¬ (t.nodes:Int)<=left->x<0/\min left 0 - 1<=x):=by
  intro h
  have dJ:tnodes (t.kids.take i)<=tnodes t.kids:=by
   have:=qI (t.kids.take i) (t.kids.drop i)
   rw[zrD]at this
   omega
  rcases h with h | h
  .
   rw[h,zpp]at hy hn
   constructor
   . intro h3;rw[hy (by omega)];omega
   intro h3;exact hn (by omega)
  constructor
  . intro h3;have:=hy (by omega);omega
  intro h3
  by_cases h4:((1+tnodes (t.kids.take i):Nat):Int)<=left
  . have:=hy h4;omega
  exact hn h4
 refine G.sp 13 O (fun dx=>?_) (fun dx=>?_)
 .
  refine Gs 5 O (zlF O (fun dy=>?_) (fun dy=>?_))
  .
   obtain⟨k,de,dk⟩:=gE_ t.kids (i) (by omega)
   obtain⟨dz,dK,dL,dl,_,da,df⟩:=hk.at de
   have dA:=RTm.one df
   obtain⟨dB,rfl,db⟩:=df.get
   obtain⟨dC,dD,rfl⟩:=db.form
   have dr:dz<_:=zpm _ _ (da 0 _ rfl)
   have dt:=jU de
   refine Gs 6 O (zne O tg68 (hY.cells 2 _ O) (Gs 1 O (zna O O (zmh tR68 ts70 O O dl (by omega)) (zng O tg70 ts70 da O (Gs 1 O (G.call O Tryz.call58 (ih k dk _ D _ x (RTm.put db) (by omega) (by by_cases h4:((1+tnodes (t.kids.take i):Nat):Int)<=left<;>first | (have:=hy h4;omega) | (have:=hn h4;omega))) ?_))))))
   rintro _ wz1 ⟨⟨m,rfl,dE,dF⟩,dG⟩
   obtain⟨hE,hk,hY,dg,da,db⟩:=Tr6 dG hE hk hY dg da db
   refine Ga 9 O (by omega) (G.back ((i+1,m)) (Sub.of O) (⟨by omega,?_,?_,dg⟩) (by first | omega | (dsimp only;omega)))
   .
    intro h3
    rw[dt]at h3 ⊢
    have:=hy (by omega)
    rw[dE (by omega)];omega
   intro h3
   rw[dt]at h3
   by_cases h4:((1+tnodes (t.kids.take i):Nat):Int)<=left
   .
    have:=hy h4
    have:=dF (by omega)
    omega
   have:=hn h4;omega
  refine Gs 12 O (zlV Tryz.results58 O ⟨_,rfl,⟨x,rfl,dc (.inr (by omega))⟩,hE⟩)
 refine Gs 18 O (zlV Tryz.results58 O ⟨_,rfl,⟨x,rfl,dc (.inl (by omega))⟩,hE⟩)
end Go.Proofs.YtckdhgbepmpgiaaGreat
namespace Go.GL
theorem zoR {a b:Nd} (h1:a.kind=b.kind) (h2:a.at_=b.at_) (h3:a.next=b.next) (h4:a.other=b.other):a=b:=by
 cases a;cases b;simp_all
mutual
/-- The number of nodes of a step. -/
def St.wid:St->Nat
 | .mk a _ _ _ _ f g _=>1+widL f+widL g+(if a=4 then 1 else 0)
def widL:List St->Nat
 | []=>0
 | s::r=>s.wid+widL r
end
theorem St.wid_eq (s:St):s.wid=1+widL s.thn+widL s.els+(if s.act=4 then 1 else 0):=by cases s;rfl
theorem zbm (a b:List St):widL (a++b)=widL a+widL b:=by
 induction a with
 | nil=>simp[widL]
 | cons x r ih=>simp[widL,ih,zrJ]
theorem zbn {l:List St} {i:Nat} {x:St} (h:l[i]?=some x):widL (l.take (i+1))=widL (l.take i)+x.wid:=by rw[ze h,zbm];simp[widL]
theorem zab {l:List St} {i:Nat} {x:St} (h:l[i]?=some x):widL l=widL (l.take i)+x.wid+widL (l.drop (i+1)):=by
 conv=>lhs;rw[yy h]
 rw[zbm];simp[widL,zrJ]
theorem xe:∀ l:List St,widL l<=2*ssize l:=by
 intro l
 induction l using znx with
 | h l ih =>
  have key:∀ r:List St,(∀ s ∈ r,widL s.thn<=2*ssize s.thn/\widL s.els<=2*ssize s.els)->widL r<=2*ssize r:=by
   intro r
   induction r with
   | nil=>intro _;simp[widL]
   | cons x r ih2 =>
    intro h
    have h1:=h x (zpo ..)
    have h2:=ih2 (fun s hs=>h s (zpn _ hs))
    have h3:=x.wid_eq
    have h4:=x.size_eq
    have h5:(if x.act=4 then 1 else 0)<=1:=by split<;>omega
    simp only[widL,ssize];omega
  exact key l ih
mutual
def St.lay:St->Nat->Nat->Nat->List Nd
 | .mk a _ _ _ _ f g _,at_,node,e =>
  if a=3 then ⟨3,at_,if f.isEmpty then e else (node+1:Nat),if g.isEmpty then e else (node+1+widL f:Nat)⟩::(layL f (at_+1) (node+1) e++layL g (at_+1+ssize f) (node+1+widL f) e)
  else if a=4 then ⟨4,at_,(node+1:Nat),-1⟩::⟨5,at_,if f.isEmpty then (node+1:Nat) else (node+2:Nat),e⟩::layL f (at_+1) (node+2) (node+1)
  else [⟨2,at_,e,-1⟩]
def layL:List St->Nat->Nat->Nat->List Nd
 | [],_,_,_=>[]
 | s::r,at_,node,after=>s.lay at_ node (if r.isEmpty then after else node+s.wid)++layL r (at_+s.size) (node+s.wid) after
end
theorem St.lay_eq (s:St) (at_ node e:Nat):s.lay at_ node e =
  if s.act=3 then ⟨3,at_,if s.thn.isEmpty then e else (node+1:Nat),if s.els.isEmpty then e else (node+1+widL s.thn:Nat)⟩::(layL s.thn (at_+1) (node+1) e++layL s.els (at_+1+ssize s.thn) (node+1+widL s.thn) e)
  else if s.act=4 then ⟨4,at_,(node+1:Nat),-1⟩::⟨5,at_,if s.thn.isEmpty then (node+1:Nat) else (node+2:Nat),e⟩::layL s.thn (at_+1) (node+2) (node+1)
  else [⟨2,at_,e,-1⟩]:=by cases s;rw[St.lay];rfl
def zk (f:Fl):List Nd:=⟨0,-1,1,-1⟩::(layL f.body 0 1 (1+widL f.body)++[⟨1,-1,-1,-1⟩])
abbrev qL:=Nat × Bool
def qX (ns:List Nd) (to:Int) (e:qL):List Nd:=ns.modify e.1 fun x=>if e.2 then { x with other:=to } else { x with next:=to }
def zw (ns:List Nd) (to:Int) (es:List qL):List Nd:=es.foldl (fun ns e=>qX ns to e) ns
structure Bd where
 nodes:List Nd
 step:Nat
mutual
def St.one:St->Nat->Bd->Bd × List qL
 | .mk a _ _ _ _ f g _,at_,b =>
  if a=3 then
   let x:=listB f { nodes:=b.nodes++[⟨3,b.step,-1,-1⟩],step:=b.step+1 } [(at_,false)]
   let y:=listB g x.1 [(at_,true)]
   (y.1,x.2++y.2)
  else if a=4 then
   let x:=listB f { nodes:=qX (b.nodes++[⟨4,b.step,-1,-1⟩,⟨5,b.step,-1,-1⟩]) (at_+1:Nat) (at_,false),step:=b.step+1 } [(at_+1,false)]
   ({ x.1 with nodes:=zw x.1.nodes (at_+1:Nat) x.2 },[(at_+1,true)])
  else ({ nodes:=b.nodes++[⟨2,b.step,-1,-1⟩],step:=b.step+1 },[(at_,false)])
def listB:List St->Bd->List qL->Bd × List qL
 | [],b,ins=>(b,ins)
 | s::r,b,ins =>
  let x:=s.one b.nodes.length { b with nodes:=zw b.nodes b.nodes.length ins }
  listB r x.1 x.2
end
theorem St.one_eq (s:St) (at_:Nat) (b:Bd):s.one at_ b =
  if s.act=3 then
   ((listB s.els (listB s.thn { nodes:=b.nodes++[⟨3,b.step,-1,-1⟩],step:=b.step+1 } [(at_,false)]).1 [(at_,true)]).1,
    (listB s.thn { nodes:=b.nodes++[⟨3,b.step,-1,-1⟩],step:=b.step+1 } [(at_,false)]).2++(listB s.els (listB s.thn { nodes:=b.nodes++[⟨3,b.step,-1,-1⟩],step:=b.step+1 } [(at_,false)]).1 [(at_,true)]).2)
  else if s.act=4 then
   ({ (listB s.thn { nodes:=qX (b.nodes++[⟨4,b.step,-1,-1⟩,⟨5,b.step,-1,-1⟩]) (at_+1:Nat) (at_,false),step:=b.step+1 } [(at_+1,false)]).1 with
    nodes:=zw (listB s.thn { nodes:=qX (b.nodes++[⟨4,b.step,-1,-1⟩,⟨5,b.step,-1,-1⟩]) (at_+1:Nat) (at_,false),step:=b.step+1 } [(at_+1,false)]).1.nodes (at_+1:Nat)
     (listB s.thn { nodes:=qX (b.nodes++[⟨4,b.step,-1,-1⟩,⟨5,b.step,-1,-1⟩]) (at_+1:Nat) (at_,false),step:=b.step+1 } [(at_+1,false)]).2 },[(at_+1,true)])
  else ({ nodes:=b.nodes++[⟨2,b.step,-1,-1⟩],step:=b.step+1 },[(at_,false)]):=by cases s;rw[St.one];rfl
theorem zac (s:St) (r:List St) (b:Bd) (ins:List qL):listB (s::r) b ins=listB r (s.one b.nodes.length { b with nodes:=zw b.nodes b.nodes.length ins }).1 (s.one b.nodes.length { b with nodes:=zw b.nodes b.nodes.length ins }).2:=by rw[listB]
def zfc (f:Fl):List Nd :=
 zw (listB f.body { nodes:=[⟨0,-1,-1,-1⟩],step:=0 } [(0,false)]).1.nodes ((listB f.body { nodes:=[⟨0,-1,-1,-1⟩],step:=0 } [(0,false)]).1.nodes.length:Nat) (listB f.body { nodes:=[⟨0,-1,-1,-1⟩],step:=0 } [(0,false)]).2++[⟨1,-1,-1,-1⟩]
theorem zP (ns:List Nd) (to:Int) (e:qL):(qX ns to e).length=ns.length:=by simp[qX]
theorem zM (es:List qL):∀ (ns:List Nd) (to:Int),(zw ns to es).length=ns.length:=by
 induction es with
 | nil=>intro ns to;rfl
 | cons e r ih=>intro ns to;rw[zw,zqU,<- zw,ih,zP]
theorem xp (e:qL) (r:List qL) (ns:List Nd) (to:Int):zw ns to (e::r)=zw (qX ns to e) to r:=rfl
theorem kF (a b:List qL) (ns:List Nd) (to:Int):zw ns to (a++b)=zw (zw ns to a) to b:=by simp[zw,]
theorem zgJ (ns:List Nd) (to to':Int) (e e':qL) (h:to=to'\/e ≠ e'):qX (qX ns to e) to' e'=qX (qX ns to' e') to e:=by
 apply zqK
 intro i
 simp only[qX,List.getElem?_modify]
 obtain⟨a,p⟩:=e
 obtain⟨a',p'⟩:=e'
 dsimp only
 by_cases h1:a=i<;>by_cases h2:a'=i<;>simp only[h1,h2,if_true,if_false]<;>cases ns[i]?<;>simp
 rename_i x
 cases p<;>cases p'<;>simp
 .
  rcases h with h | h
  . exact h.symm
  exact absurd (by rw[h1,h2]) h
 rcases h with h | h
 . exact h.symm
 exact absurd (by rw[h1,h2]) h
theorem zbo (es:List qL):∀ (ns:List Nd) (to to':Int) (e:qL),(to=to'\/e ∉ es)->zw (qX ns to' e) to es=qX (zw ns to es) to' e:=by
 induction es with
 | nil=>intro ns to to' e _;rfl
 | cons x r ih =>
  intro ns to to' e h
  rw[xp,xp,<- ih _ _ _ _ (h.imp id (fun h hm=>h (zpn _ hm)))]
  congr 1
  exact zgJ _ _ _ _ _ (h.imp (fun h=>h.symm) (fun h he=>h (by rw[he];exact zpo ..)))
theorem zeA (es es':List qL) (ns:List Nd) (to:Int):zw (zw ns to es) to es'=zw (zw ns to es') to es:=by
 induction es generalizing ns with
 | nil=>rfl
 | cons e r ih =>
  rw[xp,ih,xp,zbo _ _ _ _ _ (.inl rfl)]
theorem zdx {ns ms:List Nd} {to:Int} {e:qL} (h:e.1<ns.length):qX (ns++ms) to e=qX ns to e++ms:=by
 apply zqK
 intro i
 simp only[qX,List.getElem?_modify]
 by_cases h1:i<ns.length
 . rw[zpK h1,zpK (by simpa using h1),List.getElem?_modify]
 rw[zpL (by omega),zpL (by simp;omega)]
 simp[show ¬ e.1=i by omega]
theorem zeB {es:List qL}:∀ {ns ms:List Nd} {to:Int},(∀ e ∈ es,e.1<ns.length)->zw (ns++ms) to es=zw ns to es++ms:=by
 induction es with
 | nil=>intro ns ms to _;rfl
 | cons e r ih =>
  intro ns ms to h
  rw[xp,xp,zdx (h e (zpo ..)),ih (fun x hx=>by rw[zP];exact h x (zpn _ hx))]
theorem kG {ns:List Nd} {x:Nd} {to:Int} {p:Bool} {k:Nat} (hk:k=ns.length):qX (ns++[x]) to (k,p)=ns++[if p then { x with other:=to } else { x with next:=to }]:=by
 subst hk
 apply zqK
 intro i
 simp only[qX,List.getElem?_modify]
 by_cases h1:i<ns.length
 . rw[zpK h1,zpK h1];simp[show ¬ ns.length=i by omega]
 rw[zpL (by omega),zpL (by omega)]
 by_cases h2:i=ns.length
 . subst h2;simp
 rw[zpI (by simp;omega),zpI (by simp;omega)];simp
theorem zcK {ns ms:List Nd} {x:Nd} {to:Int} {p:Bool} {k:Nat} (hk:k=ns.length):qX (ns++x::ms) to (k,p)=ns++(if p then { x with other:=to } else { x with next:=to })::ms:=by
 have:=zdx (ns:=ns++[x]) (ms:=ms) (to:=to) (e:=(k,p)) (by simp;omega)
 rw[zqy,zrx,kG hk]at this
 simpa using this
mutual
def St.plainB:St->Bool
 | .mk a _ _ _ _ f g _=>(if a=3 then true else if a=4 then g.isEmpty else f.isEmpty&&g.isEmpty)&&plainL f&&plainL g
def plainL:List St->Bool
 | []=>true
 | s::r=>s.plainB&&plainL r
end
theorem St.plainB_eq (s:St):s.plainB=((if s.act=3 then true else if s.act=4 then s.els.isEmpty else s.thn.isEmpty&&s.els.isEmpty)&&plainL s.thn&&plainL s.els):=by cases s;rw[St.plainB];rfl
theorem yV {l:List St} (h:plainL l=true):∀ s ∈ l,s.plainB=true:=by
 induction l with
 | nil=>intro s hs;simp at hs
 | cons x r ih =>
  intro s hs
  rw[plainL,zpW]at h
  rcases zpA.1 hs with rfl | hs
  . exact h.1
  exact ih h.2 s hs
theorem zbp {l:List St} (h:∀ s ∈ l,s.plainB=true):plainL l=true:=by
 induction l with
 | nil=>rfl
 | cons x r ih=>rw[plainL,h x (zpo ..),ih (fun s hs=>h s (zpn _ hs))];rfl
structure BOk (l:List St) (b:Bd) (ins:List qL) (c:Bd) (outs:List qL):Prop where
 len:c.nodes.length=b.nodes.length+widL l
 step:c.step=b.step+ssize l
 out:∀ e ∈ outs,e ∈ ins\/b.nodes.length<=e.1
 lt:∀ e ∈ outs,e.1<c.nodes.length
 lay:∀ after:Nat,zw c.nodes after outs=zw b.nodes (if l.isEmpty then after else b.nodes.length:Nat) ins++layL l b.step b.nodes.length after
structure OOk (s:St) (b:Bd) (c:Bd) (outs:List qL):Prop where
 len:c.nodes.length=b.nodes.length+s.wid
 step:c.step=b.step+s.size
 out:∀ e ∈ outs,b.nodes.length<=e.1
 lt:∀ e ∈ outs,e.1<c.nodes.length
 lay:∀ after:Nat,zw c.nodes after outs=b.nodes++s.lay b.step b.nodes.length after
theorem zdy (s:St) (hp:s.plainB=true) (h1:∀ (b:Bd) (ins:List qL),(∀ e ∈ ins,e.1<b.nodes.length)->BOk s.thn b ins (listB s.thn b ins).1 (listB s.thn b ins).2)
  (h2:∀ (b:Bd) (ins:List qL),(∀ e ∈ ins,e.1<b.nodes.length)->BOk s.els b ins (listB s.els b ins).1 (listB s.els b ins).2) (b:Bd):OOk s b (s.one b.nodes.length b).1 (s.one b.nodes.length b).2:=by
 rw[s.plainB_eq,zpW,zpW]at hp
 have hw:=s.wid_eq
 have hz:=s.size_eq
 rw[s.one_eq]
 by_cases a3:s.act=3
 .
  rw[zpu (show ¬ s.act=4 by omega)]at hw
  simp only[zpv a3]
  have H1:=h1 { nodes:=b.nodes++[⟨3,b.step,-1,-1⟩],step:=b.step+1 } [(b.nodes.length,false)] (by simp)
  generalize hx:listB s.thn { nodes:=b.nodes++[⟨3,b.step,-1,-1⟩],step:=b.step+1 } [(b.nodes.length,false)]=x at H1
  obtain⟨len1,qZ,out1,lt1,lay1⟩:=H1
  simp only[zps,zpF]at len1 qZ out1 lay1
  have H2:=h2 x.1 [(b.nodes.length,true)] (by simp;omega)
  generalize hy:listB s.els x.1 [(b.nodes.length,true)]=y at H2
  obtain⟨len2,step2,out2,lt2,lay2⟩:=H2
  refine⟨by omega,by omega,?_,?_,?_⟩
  .
   intro e he
   rcases zpD.1 he with he | he
   .
    rcases out1 e he with h | h
    . rw[zpC.1 h];exact zpJ _
    omega
   rcases out2 e he with h | h
   . rw[zpC.1 h];exact zpJ _
   omega
  .
   intro e he
   rcases zpD.1 he with he | he
   . have:=lt1 e he;omega
   exact lt2 e he
  intro after
  have hY:(b.nodes.length,true) ∉ x.2:=by
   intro h
   rcases out1 _ h with h | h
   . simp at h
   dsimp only at h;omega
  rw[kF,zeA,lay2,zeB (by intro e he;rw[zM];exact lt1 e he)]
  rw[show ∀ (t:Int),zw x.1.nodes t [(b.nodes.length,true)]=qX x.1.nodes t (b.nodes.length,true) from fun _=>rfl]
  rw[zbo _ _ _ _ _ (.inr hY),lay1]
  rw[show ∀ (t:Int) (ns:List Nd),zw ns t [(b.nodes.length,false)]=qX ns t (b.nodes.length,false) from fun _ _=>rfl]
  rw[kG rfl,zqy,zrx,zcK rfl,s.lay_eq,zpv a3]
  rw[zqy,zqA,qZ,len1]
  simp only[if_true,zq2,if_false]
  congr 2
  apply zoR<;>dsimp only
  . split<;>rfl
  rw[apply_ite Nat.cast]
 by_cases a4:s.act=4
 .
  rw[zpv a4]at hw
  rw[zpu a3,zpv a4]at hp
  have da:s.els=[]:=by simpa using hp.1.1
  rw[da]at hw hz
  simp only[widL,ssize]at hw hz
  simp only[zpu a3,zpv a4]
  have db:qX (b.nodes++[⟨4,b.step,-1,-1⟩,⟨5,b.step,-1,-1⟩]) (b.nodes.length+1:Nat) (b.nodes.length,false)=b.nodes++[⟨4,b.step,(b.nodes.length+1:Nat),-1⟩,⟨5,b.step,-1,-1⟩]:=by rw[zcK rfl];rfl
  rw[db]
  have H1:=h1 { nodes:=b.nodes++[⟨4,b.step,(b.nodes.length+1:Nat),-1⟩,⟨5,b.step,-1,-1⟩],step:=b.step+1 } [(b.nodes.length+1,false)] (by simp)
  generalize hx:listB s.thn { nodes:=b.nodes++[⟨4,b.step,(b.nodes.length+1:Nat),-1⟩,⟨5,b.step,-1,-1⟩],step:=b.step+1 } [(b.nodes.length+1,false)]=x at H1
  obtain⟨len1,qZ,out1,lt1,lay1⟩:=H1
  simp only[zps,zpN,List.length_nil]at len1 qZ out1 lay1
  refine⟨by rw[zM];omega,by dsimp only;omega,?_,?_,?_⟩
  .
   intro e he
   rw[zpC.1 he];dsimp only;omega
  .
   intro e he
   rw[zpC.1 he,zM];dsimp only;omega
  intro after
  dsimp only
  rw[lay1]
  simp only[show ∀ (t:Int) (ns:List Nd) (q:Bool),zw ns t [(b.nodes.length+1,q)]=qX ns t (b.nodes.length+1,q) from fun _ _ _=>rfl]
  rw[show ∀ (x y:Nd),b.nodes++[x,y]=(b.nodes++[x])++[y] from fun x y=>by simp]
  rw[kG (by simp)]
  rw[zqy (b.nodes++[_]),zrx,zcK (by simp),s.lay_eq,zpu a3,zpv a4,zqy,zrx]
  simp only[if_true,zq2,if_false]
  congr 3
  apply zoR<;>dsimp only
  rw[apply_ite Nat.cast]
 rw[zpu a4]at hw
 rw[zpu a3,zpu a4,zpW,zqW,zqW]at hp
 rw[hp.1.1.1,hp.1.1.2]at hw hz
 simp only[widL,ssize]at hw hz
 simp only[zpu a3,zpu a4]
 refine⟨by simp;omega,by dsimp only;omega,?_,?_,?_⟩
 . intro e he;rw[zpC.1 he];exact zpJ _
 . intro e he;rw[zpC.1 he];simp
 intro after
 dsimp only
 rw[show ∀ (t:Int) (ns:List Nd),zw ns t [(b.nodes.length,false)]=qX ns t (b.nodes.length,false) from fun _ _=>rfl]
 rw[kG rfl,s.lay_eq,zpu a3,zpu a4]
 rfl
theorem xq (l:List St):plainL l=true->∀ (b:Bd) (ins:List qL),(∀ e ∈ ins,e.1<b.nodes.length)->BOk l b ins (listB l b ins).1 (listB l b ins).2:=by
 induction l using znx with
 | h l ih =>
 intro hp
 have key:∀ r:List St,(∀ x ∈ r,x ∈ l)->∀ (b:Bd) (ins:List qL),(∀ e ∈ ins,e.1<b.nodes.length)->BOk r b ins (listB r b ins).1 (listB r b ins).2:=by
  intro r
  induction r with
  | nil =>
   intro _ b ins hi
   rw[listB]
   exact⟨by simp[widL],by simp[ssize],fun e he=>.inl he,hi,fun after=>by simp[layL]⟩
  | cons s r ihr =>
   intro hm b ins hi
   have hs:=yV hp s (hm s (zpo ..))
   have hY:=hs
   rw[s.plainB_eq,zpW,zpW]at hY
   have H:=zdy s hs (fun b ins h=>(ih s (hm s (zpo ..))).1 hY.1.2 b ins h) (fun b ins h=>(ih s (hm s (zpo ..))).2 hY.2 b ins h) { b with nodes:=zw b.nodes b.nodes.length ins }
   rw[zac]
   dsimp only at H
   rw[zM]at H
   generalize s.one b.nodes.length { b with nodes:=zw b.nodes b.nodes.length ins }=x at H
   obtain⟨len1,qZ,out1,lt1,lay1⟩:=H
   simp only[zM]at len1 qZ out1 lt1 lay1
   have H2:=ihr (fun y hy=>hm y (zpn _ hy)) x.1 x.2 lt1
   generalize listB r x.1 x.2=y at H2
   obtain⟨len2,step2,out2,lt2,lay2⟩:=H2
   refine⟨by simp only[widL];omega,by simp only[ssize];omega,?_,lt2,?_⟩
   .
    intro e he
    rcases out2 e he with h | h
    . exact .inr (out1 e h)
    exact .inr (by omega)
   intro after
   rw[lay2,lay1,layL,zqy,len1,qZ]
   simp only[List.isEmpty_cons,zq2,if_false]
 exact key l (fun x h=>h)
theorem zim (f:Fl) (hp:plainL f.body=true):zfc f=zk f:=by
 have H:=xq f.body hp { nodes:=[⟨0,-1,-1,-1⟩],step:=0 } [(0,false)] (by simp)
 unfold zfc zk
 generalize listB f.body { nodes:=[⟨0,-1,-1,-1⟩],step:=0 } [(0,false)]=x at H ⊢
 obtain⟨len1,qZ,out1,lt1,lay1⟩:=H
 simp only[zpF]at len1 lay1
 rw[lay1,len1]
 rw[show ∀ (t:Int) (ns:List Nd),zw ns t [((0:Nat),false)]=qX ns t (0,false) from fun _ _=>rfl]
 have h1:∀ t:Int,qX [⟨0,-1,-1,-1⟩] t (0,false)=[⟨0,-1,t,-1⟩]:=fun t=>rfl
 rw[h1]
 have h2:((if f.body.isEmpty then 1+widL f.body else 1:Nat):Int)=1:=by
  split
  .
   rename_i h
   have:f.body=[]:=by simpa using h
   rw[this];rfl
  rfl
 rw[h2]
 rfl
theorem zX (l:List St):plainL l=true->∀ at_ node after,(layL l at_ node after).length=widL l:=by
 intro hp at_ node after
 have H:=xq l hp { nodes:=List.replicate node ⟨0,0,0,0⟩,step:=at_ } [] (by simp)
 have h1:=H.lay after
 have h2:=congrArg List.length h1
 rw[zM,H.len]at h2
 simp[zw]at h2
 exact h2.symm
theorem yI (f:Fl) (hp:plainL f.body=true):(zk f).length=widL f.body+2:=by
 simp[zk,zX _ hp]
structure Nums (ns:List Nd) (a n:Nat):Prop where
 range:∀ x ∈ ns,(a:Int)<=x.at_/\x.at_<(a+n:Nat)
 ord:ns.Pairwise fun x y=>x.at_<=y.at_
 all:∀ k,k<n->∃ x ∈ ns,x.at_=(a+k:Nat)
theorem Nums.nil (a:Nat):Nums [] a 0:=⟨fun x h=>by simp at h,List.Pairwise.nil,fun k h=>by omega⟩
theorem Nums.append {ns ms:List Nd} {a n b m:Nat} (h:Nums ns a n) (h':Nums ms b m) (hb:b=a+n):Nums (ns++ms) a (n+m):=by
 subst hb
 refine⟨fun x hx=>?_,?_,fun k hk=>?_⟩
 .
  rcases zpD.1 hx with hx | hx
  . have:=h.range x hx;omega
  have:=h'.range x hx;omega
 .
  rw[zrn]
  refine⟨h.ord,h'.ord,fun x hx y hy=>?_⟩
  have:=h.range x hx
  have:=h'.range y hy
  omega
 by_cases hY:k<n
 .
  obtain⟨x,hx,e⟩:=h.all k hY
  exact⟨x,zra _ hx,e⟩
 obtain⟨x,hx,e⟩:=h'.all (k - n) (by omega)
 exact⟨x,zrb _ hx,by rw[e];omega⟩
theorem Nums.cons {ns:List Nd} {a n:Nat} {x:Nd} (h:Nums ns (a+1) n) (hx:x.at_=a):Nums (x::ns) a (n+1):=by
 refine⟨fun y hy=>?_,?_,fun k hk=>?_⟩
 .
  rcases zpA.1 hy with rfl | hy
  . omega
  have:=h.range y hy;omega
 .
  rw[zro]
  exact⟨fun y hy=>by have:=h.range y hy;omega,h.ord⟩
 by_cases hY:k=0
 . subst hY;exact⟨x,zpo ..,hx⟩
 obtain⟨y,hy,e⟩:=h.all (k - 1) (by omega)
 exact⟨y,zpn _ hy,by rw[e];omega⟩
theorem zoS {ns:List Nd} {a n:Nat} {x:Nd} (h:Nums ns a n) (hn:0<n) (hx:x.at_=a):Nums (x::ns) a n:=by
 refine⟨fun y hy=>?_,?_,fun k hk=>?_⟩
 .
  rcases zpA.1 hy with rfl | hy
  . omega
  exact h.range y hy
 .
  rw[zro]
  exact⟨fun y hy=>by have:=h.range y hy;omega,h.ord⟩
 obtain⟨y,hy,e⟩:=h.all k hk
 exact⟨y,zpn _ hy,e⟩
theorem jB (l:List St):plainL l=true->∀ a node after,Nums (layL l a node after) a (ssize l):=by
 induction l using znx with
 | h l ih =>
 intro hp
 have key:∀ r:List St,(∀ x ∈ r,x ∈ l)->∀ a node after,Nums (layL r a node after) a (ssize r):=by
  intro r
  induction r with
  | nil=>intro _ a node after;exact Nums.nil a
  | cons s r ihr =>
   intro hm a node after
   have hs:=yV hp s (hm s (zpo ..))
   rw[s.plainB_eq,zpW,zpW]at hs
   have h1:=(ih s (hm s (zpo ..))).1 hs.1.2
   have h2:=(ih s (hm s (zpo ..))).2 hs.2
   rw[layL,ssize]
   refine Nums.append ?_ (ihr (fun y hy=>hm y (zpn _ hy)) _ _ _) O
   generalize (if r.isEmpty=true then after else node+s.wid)=e
   have hz:=s.size_eq
   rw[s.lay_eq]
   by_cases a3:s.act=3
   .
    rw[zpv a3,show s.size=(ssize s.thn+ssize s.els)+1 by omega]
    exact Nums.cons (Nums.append (h1 _ _ _) (h2 _ _ _) O) O
   by_cases a4:s.act=4
   .
    rw[zpu a3,zpv a4]at hs
    rw[zpu a3,zpv a4]
    have hY:s.els=[]:=by simpa using hs.1.1
    rw[hY]at hz
    simp only[ssize]at hz
    rw[show s.size=ssize s.thn+1 by omega]
    exact zoS (Nums.cons (h1 _ _ _) O) (by omega) O
   rw[zpu a3,zpu a4,zpW,zqW,zqW]at hs
   rw[zpu a3,zpu a4]
   rw[hs.1.1.1,hs.1.1.2]at hz
   simp only[ssize]at hz
   rw[show s.size=0+1 by omega]
   exact Nums.cons (Nums.nil _) O
 exact key l (fun x h=>h)
structure Item where
 i:Nat
 o:Oper
 d:Nat
 R:World->Value->World->Prop
def kH (ops:Array Oper) (L3:Array Bool):Nat->List Nat->Array Bool->Bool
 | 0,is,listed=>is.isEmpty&&(listed == L3)
 | k+1,is,listed=>!(Region.ready .any ops listed).isEmpty&&(Region.ready .any ops listed).all (fun j=>is.contains j&&kH ops L3 k (is.filter (fun x=>x != j)) (listed.setIfInBounds j true))
def zk2 (R:World->Value->World->Prop) (v:Value) (R':World->Value->World->Prop) (u:Value):Prop :=
 (∃ a a' c c',R a v a'/\R' c u c'/\Ext a' c)\/(∃ a a' c c',R a v a'/\R' c u c'/\Ext c' a)
theorem jk {α:Type} {f:α->Nat}:∀ {l:List α},(l.map f).Nodup->∀ {x y:α},x ∈ l->y ∈ l->f x=f y->x=y
 | [],_,_,_,hx,_,_=>by simp at hx
 | z::r,h,x,y,hx,hy,e=>by
  rw[zr5,zrl]at h
  rcases zpA.1 hx with h1 | h1
  .
   rcases zpA.1 hy with h2 | h2
   . rw[h1,h2]
   exact absurd (zrf.2 ⟨y,h2,by rw[<- e,h1]⟩) h.1
  rcases zpA.1 hy with h2 | h2
  . exact absurd (zrf.2 ⟨x,h1,by rw[e,h2]⟩) h.1
  exact jk h.2 h1 h2 e
theorem zdz {env:Env} {val:Nat->Value}:∀ (I:List Item) (m:Nat) (v:Value),get (I.map (fun x=>(x.d,val x.d))++env) m=some v->(∃ x ∈ I,x.d=m/\v=val m)\/get env m=some v
 | [],m,v,h=>.inr h
 | x::r,m,v,h=>by
  rw[zr5,zqA]at h
  simp only[GL.get]at h
  cases hb:Nat.beq x.d m with
  | true =>
   rw[hb]at h
   have e:=zpr hb
   exact .inl ⟨x,zpo ..,e,by rw[<- e];exact(Option.some.inj h).symm⟩
  | false =>
   rw[hb]at h
   rcases zdz r m v h with⟨y,hy,h1,h2⟩ | h1
   . exact .inl ⟨y,zpn _ hy,h1,h2⟩
   exact .inr h1
section
variable {P:Program} {n:Nat} {ops:Array Oper} {Q:Exit->Act->World->Prop} {S:World->Prop} {L:List Nat} {env:Env} {w:World} {fuel:Nat} {listed:Array Bool}
theorem zgK {i d:Nat} {o:Oper} {R:Value->World->Prop} {K:Act->World->Prop} {Q':Exit->Act->World->Prop} {a:Act} (hi:ops[i]?=some o) (hg:o.guard=none) (hd:o.dst=some d) (ha:Ok n env a) (hm:Does P o env w R)
  (h:∀ v w',R v w'->K (a.put (some d) v) w'):wpOp P ops Q' i K a w:=by
 refine zb0 hi hg ?_
 unfold Oper.wp
 rcases hm with⟨v,w',h1,h2⟩ | ⟨f,args,h1,h2⟩
 .
  rw[h1 n a ha,Oper.upon_value,hd]
  exact h v w' h2
 rw[h1 n a ha,Oper.upon_enter]
 refine h2.mono ?_
 rintro e w' ⟨v,rfl,hR⟩
 simp only[hd]
 exact h v w' hR
theorem zoT (I:List Item) {L3:Array Bool} (hI:∀ x ∈ I,ops[x.i]?=some x.o/\x.o.guard=none/\x.o.dst=some x.d/\Nat.blt x.d n=true/\get env x.d=none)
  (dm:(I.map (·.d)).Nodup) (dr:(I.map (·.i)).Nodup) (hr:kH ops L3 I.length (I.map (·.i)) listed=true)
  (hS:∀ w',Ext w w'->S w') (hR:∀ x ∈ I,∀ a v a',x.R a v a'->Ext a a') (hm:∀ x ∈ I,∀ w',Ext w w'->Does P x.o env w' (x.R w'))
  (h:∀ (val:Nat->Value) w',Ext w w'->(∀ x ∈ I,zlt w x.R (val x.d) w')->(∀ x ∈ I,∀ y ∈ I,x.d ≠ y.d->zk2 x.R (val x.d) y.R (val y.d))->WD P n ops Q S L fuel L3 (I.map (fun x=>(x.d,val x.d))++env) w') :
  WD P n ops Q S L (fuel+I.length) listed env w:=by
 have key:∀ (k:Nat) (J:List Item) (listed:Array Bool) (env':Env) (w':World) (val:Nat->Value),(∀ x ∈ J,x ∈ I)->kH ops L3 k (J.map (·.i)) listed=true->Ext w w'->Sub env env' ->
   (∀ x ∈ I,x ∉ J->get env' x.d=some (val x.d)/\zlt w x.R (val x.d) w')->(∀ x ∈ I,x ∉ J->∀ y ∈ I,y ∉ J->x.d ≠ y.d->zk2 x.R (val x.d) y.R (val y.d)) ->
   WD P n ops Q S L (fuel+k) listed env' w':=by
  intro k
  induction k with
  | zero =>
   intro J listed env' w' val hJ ho hE db hY dk
   rw[kH,zpW,zqW,List.map_eq_nil_iff]at ho
   obtain⟨rfl,ho⟩:=ho
   have e:listed=L3:=by simpa using ho
   rw[e]
   refine(h val w' hE (fun x hx=>(hY x hx (by simp)).2) (fun x hx y hy dc=>dk x hx (by simp) y hy (by simp) dc)).sub ?_
   intro m v hv
   rcases zdz I m v hv with⟨x,hx,e1,e2⟩ | h1
   . rw[<- e1,(hY x hx (by simp)).1,e2,e1]
   exact db m v h1
  | succ k ih =>
   intro J listed env' w' val hJ ho hE db hY dk a ha
   rw[kH,zpW,zqv]at ho
   refine⟨fun h0=>(by rw[h0]at ho;simp at ho),fun j hj=>?_⟩
   have h1:=ho.2 j hj
   rw[zpW]at h1
   obtain⟨x,hx,rfl⟩:∃ x ∈ J,x.i=j:=by simpa using h1.1
   have dg:=hJ x hx
   obtain⟨q1,q2,q3,q4,q5⟩:=hI x dg
   refine zgK q1 q2 q3 ha ((hm x dg w' hE).sub db) (fun v w2 hv=>?_)
   have k2:=hR x dg _ _ _ hv
   refine⟨fun _ _=>hS _ (hE.ext k2),?_⟩
   have dc:∀ y ∈ I,y ∉ J->y.d ≠ x.d:=fun y hy df e=>df (by rw[jk dm hy dg e];exact hx)
   have de:∀ z ∈ I,z ∉ J.filter (fun y=>y.i != x.i)->z=x\/z ∉ J:=by
    intro z hz dh
    by_cases da:z ∈ J
    .
     left
     by_cases e:z.i=x.i
     . exact jk dr hz dg e
     exact absurd (zrc.2 ⟨da,by simpa using e⟩) dh
    exact .inr da
   refine ih (J.filter (fun y=>y.i != x.i)) (listed.setIfInBounds x.i true) ((x.d,v)::env') w2 (fun m=>if m=x.d then v else val m) (fun z hz=>hJ z (zrc.1 hz).1) ?_ (hE.ext k2) ?_ ?_ ?_ _ (ha.put q4)
   .
    have:=h1.2
    rw[List.filter_map]at this
    exact this
   .
    intro m u hu
    simp only[GL.get]
    cases hb:Nat.beq x.d m with
    | true =>
     have e:=zpr hb
     rw[<- e,q5]at hu
     cases hu
    | false=>exact db m u hu
   .
    intro z hz dh
    rcases de z hz dh with rfl | da
    .
     refine⟨by simp[GL.get,],?_⟩
     simp only[if_true]
     exact⟨w',w2,hE,hv,Keep.refl _ _⟩
    have di:=dc z hz da
    simp only[di,if_false]
    obtain⟨g1,a1,a2,g2,g3,g4⟩:=hY z hz da
    refine⟨?_,a1,a2,g2,g3,g4.ext k2⟩
    simp only[GL.get]
    cases hb:Nat.beq x.d z.d with
    | true=>exact absurd (zpr hb).symm di
    | false=>exact g1
   intro z hz dh y hy dt dl
   rcases de z hz dh with rfl | da<;>rcases de y hy dt with rfl | df
   . exact absurd O dl
   .
    have du:=dc y hy df
    simp only[du,if_false,if_true]
    obtain⟨_,a1,a2,g2,g3,g4⟩:=hY y hy df
    exact .inr ⟨_,_,_,_,hv,g3,g4⟩
   .
    have di:=dc z hz da
    simp only[di,if_false,if_true]
    obtain⟨_,a1,a2,g2,g3,g4⟩:=hY z hz da
    exact .inl ⟨_,_,_,_,g3,hv,g4⟩
   simp only[dc z hz da,dc y hy df,if_false]
   exact dk z hz da y hy df dl
 refine key I.length I listed env w (fun _=>undef) (fun x hx=>hx) hr (Keep.refl _ _) (Sub.refl _) (fun x hx h=>absurd hx h) (fun x hx h=>absurd hx h)
end
end Go.GL
namespace Go.Proofs.YtckdhgbepmpgiaaGreat
open Go.GL
def qY (x:Nd):List Value:=[.int .i64 x.kind,.int .i64 x.at_,.int .i64 x.next,.int .i64 x.other]
theorem zY (x:Nd):(qY x).length=4:=rfl
theorem jC (x:Nd):∀ u ∈ qY x,u.oneCell'=true:=by simp[qY,Value.oneCell']
def bty (e:TypeId):Bool:=e == 197 || e == 65
theorem zlv:bty 197=true:=by decide
theorem zlf:bty 65=true:=by decide
structure BdS (W0 B:Nat) (w:World) (b:Bd) (v:Value):Prop where
 blk:Blk w B [v,.int .i64 b.step] 197
 row:w.ownsRow 0 65 4 v b.nodes.length (b.nodes.flatMap qY)
 low:W0<=B
 far:∀ g,v.ownBlock=some g->W0<=g
theorem BdS.ext {W0 B:Nat} {w w':World} {b:Bd} {v:Value} (h:BdS W0 B w b v) (hk:Ext w w'):BdS W0 B w' b v:=⟨hk.blk h.blk (fun h=>h),zm h.row hk (fun _ _ h=>h),h.low,h.far⟩
theorem BdS.ne {W0 B:Nat} {w:World} {b:Bd} {v:Value} (h:BdS W0 B w b v) {g:Nat} (hg:v.ownBlock=some g):g ≠ B:=by
 obtain⟨cs,hb⟩:=yM h.row hg
 exact hb.ne h.blk (by decide)
def HC (B:Nat) (w:World) (e:qL) (x:Value):Prop:=∃ bb ab,x=.func (.func (if e.2 then 215 else 166)) #[] #[.pointer (some ⟨bb,0,none⟩),.pointer (some ⟨ab,0,none⟩)]/\Blk w bb [.pointer (some ⟨B,0,none⟩)] 195/\Blk w ab [.int .i64 e.1] 3
theorem HC.one {B:Nat} {w:World} {e:qL} {x:Value} (h:HC B w e x):x.oneCell'=true:=by obtain⟨_,_,rfl,_⟩:=h;rfl
theorem HC.ext {B:Nat} {w w':World} {e:qL} {x:Value} (h:HC B w e x) (hk:Ext w w'):HC B w' e x:=by
 obtain⟨bb,ab,h1,h2,h3⟩:=h
 exact⟨bb,ab,h1,hk.blk h2 (fun h=>h),hk.blk h3 (fun h=>h)⟩
theorem HC.kt {B W0:Nat} {w w':World} {e:qL} {x:Value} (h:HC B w e x) (hk:KT bty W0 w w'):HC B w' e x:=by
 obtain⟨bb,ab,h1,h2,h3⟩:=h
 exact⟨bb,ab,h1,hk.blk h2 (by decide),hk.blk h3 (by decide)⟩
def Hung (B:Nat) (w:World) (v:Value) (es:List qL):Prop:=∃ xs:List Value,w.ownsRow 0 120 1 v es.length xs/\∀ (i:Nat) e x,es[i]?=some e->xs[i]?=some x->HC B w e x
theorem Hung.ext {B:Nat} {w w':World} {v:Value} {es:List qL} (h:Hung B w v es) (hk:Ext w w'):Hung B w' v es:=by
 obtain⟨xs,h1,h2⟩:=h
 exact⟨xs,zm h1 hk (fun _ _ h=>h),fun i e x he hx=>(h2 i e x he hx).ext hk⟩
theorem Hung.kt {B W0:Nat} {w w':World} {v:Value} {es:List qL} (h:Hung B w v es) (hk:KT bty W0 w w'):Hung B w' v es:=by
 obtain⟨xs,h1,h2⟩:=h
 exact⟨xs,hk.own h1 (by decide),fun i e x he hx=>(h2 i e x he hx).kt hk⟩
theorem Hung.form {B:Nat} {w:World} {v:Value} {es:List qL} (h:Hung B w v es):∃ ao c,v=.slice ao es.length c/\es.length<=c:=by
 obtain⟨xs,h1,h2⟩:=h
 rcases h1.2 with⟨rfl,h3⟩ | ⟨g,cap,cur,rfl,h3,h4,h5,h6⟩
 . rw[h3];exact⟨_,_,rfl,zpJ _⟩
 exact⟨_,_,rfl,h5⟩
theorem Hung.at {B:Nat} {w:World} {ao:Option Addr} {n c:Nat} {es:List qL} (h:Hung B w (.slice ao n c) es) {i:Nat} {e:qL} (he:es[i]?=some e):∃ g x,ao=some ⟨g,0,none⟩/\Cells w g (0+i*1) [x]/\HC B w e x:=by
 obtain⟨xs,h1,h2⟩:=h
 have hi:=(zpy.1 he).1
 have hY:=h1.1
 obtain⟨x,hx⟩:∃ x,xs[i]?=some x:=⟨_,zpk (by omega)⟩
 rcases h1.2 with⟨h3,h4⟩ | ⟨g,cap,cur,h3,_,h4,h5,h6,h7,h8⟩
 . omega
 cases h3
 refine⟨g,x,rfl,?_,h2 i e x he hx⟩
 intro j u hu
 cases j with
 | zero =>
  simp at hu;subst hu
  have hb:Blk w g cur.toList 120:=by unfold Blk;simpa using h4
  have:=hb.cells i x (by rw[<- h8,zpQ]at hx;split at hx;exact hx;cases hx)
  simpa using this
 | succ j=>simp at hu
theorem zcL (B:Nat) (k:Nat) (w:World):Calls Tryz.prog 126 #[.pointer (some ⟨B,0,none⟩),.int .i64 k] w (Ret fun r w'=>HC B w' (k,false) r/\Ext w w'):=by
 have hE:=Keep.refl (fun _=>False) w
 refine znl Tryz.func126 O Tryz.ntmps126 O (Gs 2 O (zmr O O (M.box O O) ?_))
 rintro _ dm ⟨bb,rfl,da,dk,hY,db⟩
 have dh:_<=bb:=zpq hE.size (zrS da.symm)
 replace hE:=Tr1 db hE
 refine zmr O O (M.box O O) ?_
 rintro _ dr ⟨ab,rfl,dc,dl,de,df⟩
 have dg:bb ≠ ab:=by have:=hY.lt;omega
 have di:_<=ab:=zpq hE.size (zrS dc.symm)
 obtain⟨hE,hY⟩:=Tr2 df hE hY
 refine Gs 10 O (zlV Tryz.results126 O ⟨_,rfl,⟨bb,ab,rfl,hY,de⟩,hE⟩)
theorem zfd (B:Nat) (k:Nat) (w:World):Calls Tryz.prog 204 #[.pointer (some ⟨B,0,none⟩),.int .i64 k] w (Ret fun r w'=>HC B w' (k,true) r/\Ext w w'):=by
 have hE:=Keep.refl (fun _=>False) w
 refine znl Tryz.func204 O Tryz.ntmps204 O (Gs 2 O (zmr O O (M.box O O) ?_))
 rintro _ dm ⟨bb,rfl,da,dk,hY,db⟩
 have dh:_<=bb:=zpq hE.size (zrS da.symm)
 replace hE:=Tr1 db hE
 refine zmr O O (M.box O O) ?_
 rintro _ dr ⟨ab,rfl,dc,dl,de,df⟩
 have dg:bb ≠ ab:=by have:=hY.lt;omega
 have di:_<=ab:=zpq hE.size (zrS dc.symm)
 obtain⟨hE,hY⟩:=Tr2 df hE hY
 refine Gs 10 O (zlV Tryz.results204 O ⟨_,rfl,⟨bb,ab,rfl,hY,de⟩,hE⟩)
theorem zcM (L:List Nd) (i:Nat) (hi:i<L.length) (sp:List Value) (to:Int) (p:Bool):(L.flatMap qY++sp).set (i*4+(if p then 3 else 2)) (.int .i64 to)=(qX L to (i,p)).flatMap qY++sp:=by
 have h1:=zf4 (enc:=qY) zY hi (if p then { L[i] with other:=to } else { L[i] with next:=to }) sp
 have h2:qX L to (i,p)=L.set i (if p then { L[i] with other:=to } else { L[i] with next:=to }):=by
  apply zqK
  intro j
  simp only[qX,List.getElem?_modify,List.getElem?_set]
  by_cases hj:i=j
  . subst hj;simp[hi]
  simp[hj]
 rw[h2,<- h1]
 have h3:=zf4 (enc:=qY) zY hi L[i] sp
 rw[List.set_getElem_self]at h3
 have ht:((L.flatMap qY++sp).take (i*4)).length=i*4:=by
  have:=yu zY L
  rw[zpO,zps];omega
 generalize (L.flatMap qY++sp).drop (i*4+4)=C at h3 ⊢
 generalize (L.flatMap qY++sp).take (i*4)=A at h3 ht ⊢
 rw[<- h3,zqy,zqy,zrw _ _ (by rw[ht];exact Nat.le_add_right _ _),ht,zrM]
 cases p<;>rfl
theorem zin (W0 B bb ab i:Nat) (to:Int) (b:Bd) (v:Value) (w:World) (hb:BdS W0 B w b v) (de:Blk w bb [.pointer (some ⟨B,0,none⟩)] 195) (df:Blk w ab [.int .i64 (i:Nat)] 3) (hi:i<b.nodes.length) :
  Calls Tryz.prog 166 #[.int .i64 to,.pointer (some ⟨bb,0,none⟩),.pointer (some ⟨ab,0,none⟩)] w (Ret fun _ w'=>BdS W0 B w' { b with nodes:=qX b.nodes to (i,false) } v/\KT bty W0 w w'):=by
 obtain⟨g,cap,sp,rfl,_,dg,dh,da,di⟩:=ku zY (by decide) hb.row (by intro h;rw[h]at hi;simp at hi)
 have hB:=hb.blk
 have dk:=yu zY b.nodes
 have dl:(b.nodes.flatMap qY++sp).length=b.nodes.length*4+sp.length:=by rw[zps,dk]
 have dm:=hb.ne rfl
 have yx:=zcM b.nodes i hi sp to false
 refine znm Tryz.func166 O Tryz.ntmps166 O (Dw (fun q=>Ext w q) [8] (fun wd1 hD _=>?_))
 refine WD.take 0 O (by kernel_rfl) O O O hD (fun w1 hY=>R.load Tryz.isAgg195 O ((hY.blk de (fun h=>h)).cells 0 _ O)) (Ds [1,2] (by kernel_rfl) O (WD.take 3 O (by kernel_rfl) O O O hD (fun w1 hY=>R.load tg34 O ((hY.blk hB (fun h=>h)).cells 0 _ O)) (WD.take 4 O (by kernel_rfl) O O O hD (fun w1 hY=>R.load tg3 O ((hY.blk df (fun h=>h)).cells 0 _ O)) (Da [5,6,7] (by kernel_rfl) O (by omega) (zmv 8 O (by kernel_rfl) O O (M.store ts3 O O O O (hD.blk da (fun h=>h)) (by rw[dl];show 0+(i:Int).toNat*4+2<_;omega)) ?_)))))
 rintro wf ⟨_,db,dc⟩
 refine⟨fun h=>absurd (zpC.2 O) h,?_⟩
 rw[show 0+(i:Int).toNat*4+_=i*4+(if false then 3 else 2) by simp,yx]at db
 have hK:KT bty W0 w wf:=Keep.trans (zoC hD) dc (fun q hq h=>by have h:q=g:=h;subst h;exact Wr.mk (hb.far _ rfl) da zlf)
 refine G.done (by kernel_rfl) ?_ _
 refine zm9 Tryz.results166 ⟨_,rfl,⟨dc.blk (hD.blk hB (fun h=>h)) (fun h=>dm h.symm),?_,hb.low,hb.far⟩,hK⟩
 have h:=zcB zY (k:=b.nodes.length) db (by rw[zps,yu zY,zP];omega) (by rw[zP];exact zpJ _) dg dh
 rw[zrF (by rw[zP];exact zpJ _)]at h
 rw[zP];exact h
theorem zgL (W0 B bb ab i:Nat) (to:Int) (b:Bd) (v:Value) (w:World) (hb:BdS W0 B w b v) (de:Blk w bb [.pointer (some ⟨B,0,none⟩)] 195) (df:Blk w ab [.int .i64 (i:Nat)] 3) (hi:i<b.nodes.length) :
  Calls Tryz.prog 215 #[.int .i64 to,.pointer (some ⟨bb,0,none⟩),.pointer (some ⟨ab,0,none⟩)] w (Ret fun _ w'=>BdS W0 B w' { b with nodes:=qX b.nodes to (i,true) } v/\KT bty W0 w w'):=by
 obtain⟨g,cap,sp,rfl,_,dg,dh,da,di⟩:=ku zY (by decide) hb.row (by intro h;rw[h]at hi;simp at hi)
 have hB:=hb.blk
 have dk:=yu zY b.nodes
 have dl:(b.nodes.flatMap qY++sp).length=b.nodes.length*4+sp.length:=by rw[zps,dk]
 have dm:=hb.ne rfl
 have yx:=zcM b.nodes i hi sp to true
 refine znm Tryz.func215 O Tryz.ntmps215 O (Dw (fun q=>Ext w q) [8] (fun wd1 hD _=>?_))
 refine WD.take 0 O (by kernel_rfl) O O O hD (fun w1 hY=>R.load Tryz.isAgg195 O ((hY.blk de (fun h=>h)).cells 0 _ O)) (Ds [1,2] (by kernel_rfl) O (WD.take 3 O (by kernel_rfl) O O O hD (fun w1 hY=>R.load tg34 O ((hY.blk hB (fun h=>h)).cells 0 _ O)) (WD.take 4 O (by kernel_rfl) O O O hD (fun w1 hY=>R.load tg3 O ((hY.blk df (fun h=>h)).cells 0 _ O)) (Da [5,6,7] (by kernel_rfl) O (by omega) (zmv 8 O (by kernel_rfl) O O (M.store ts3 O O O O (hD.blk da (fun h=>h)) (by rw[dl];show 0+(i:Int).toNat*4+3<_;omega)) ?_)))))
 rintro wf ⟨_,db,dc⟩
 refine⟨fun h=>absurd (zpC.2 O) h,?_⟩
 rw[show 0+(i:Int).toNat*4+_=i*4+(if true then 3 else 2) by simp,yx]at db
 have hK:KT bty W0 w wf:=Keep.trans (zoC hD) dc (fun q hq h=>by have h:q=g:=h;subst h;exact Wr.mk (hb.far _ rfl) da zlf)
 refine G.done (by kernel_rfl) ?_ _
 refine zm9 Tryz.results215 ⟨_,rfl,⟨dc.blk (hD.blk hB (fun h=>h)) (fun h=>dm h.symm),?_,hb.low,hb.far⟩,hK⟩
 have h:=zcB zY (k:=b.nodes.length) db (by rw[zps,yu zY,zP];omega) (by rw[zP];exact zpJ _) dg dh
 rw[zrF (by rw[zP];exact zpJ _)]at h
 rw[zP];exact h
theorem zfe (W0 B:Nat) (kind:Int) (b:Bd) (v:Value) (w:World) (hb:BdS W0 B w b v) (hW:W0<=w.heap.size) (dt:b.nodes.length<=100000) :
  Calls Tryz.prog 203 #[.pointer (some ⟨B,0,none⟩),.int .i64 kind] w (Ret fun _ w'=>(∃ v',BdS W0 B w' { b with nodes:=b.nodes++[⟨kind,b.step,-1,-1⟩] } v')/\KT bty W0 w w'):=by
 have hB:=hb.blk
 refine znl Tryz.func203 O Tryz.ntmps203 O (Dw (fun q=>Blk q B [v,.int .i64 b.step] 197) [15] (fun wd hD _=>?_))
 have dc:=hb.ext hD
 refine Ds [0,1,2,3] (by kernel_rfl) O (WD.take 4 O (by kernel_rfl) O O O dc.blk (fun w1 de=>R.load tg34 O (de.cells 0 _ O)) (Ds [5,6,7,8] (by kernel_rfl) O (WD.take 9 O (by kernel_rfl) O O O dc.blk (fun w1 de=>R.load tg3 O (de.cells 1 _ O)) (zmI 10 O (by kernel_rfl) O O O (fun w1=>R.build (v:=.agg #[.int .i64 kind,.int .i64 b.step,.int .i64 (-1),.int .i64 (-1)]) [(0,_),(1,_),(2,_),(3,_)] O (fun _=>by kernel_rfl)) (zmq 11 O (by kernel_rfl) O O O (M.buildSlice (cs:=qY ⟨kind,b.step,-1,-1⟩) [(0,_)] tR34 ts65 tz65 (by decide) O (by kernel_rfl)) ?_)))))
 rintro _ w2 ⟨b2,rfl,du,dw,dk,dg⟩
 have hY:=dc.ext dg
 refine⟨fun _=>hY.blk,?_⟩
 refine zmq 12 O (by kernel_rfl) O O O (M.append tu34 Tryz.el65 O (by decide) O O hY.row O (Cells.add dk.cells) (jC _) (by omega) (by omega)) ?_
 rintro v' w3 ⟨da,dl,dh,_⟩
 have df:=dh.blk hY.blk (fun h=>hY.ne h rfl)
 refine⟨fun _=>df,?_⟩
 refine Ds [13,14] (by kernel_rfl) O ?_
 obtain⟨av,cv,rfl⟩:=xa da
 refine zmv 15 O (by kernel_rfl) O O (M.store ts34 O O O O df (by simp)) ?_
 rintro wf ⟨_,dm,di⟩
 refine⟨fun h=>absurd (zpC.2 O) h,?_⟩
 have dr:=hD.size
 have db:∀ g,Value.ownBlock (.slice av (b.nodes.length+1) cv)=some g->W0<=g/\g ≠ B:=by
  intro g hg
  rcases dl with h | ⟨g',h1,h2⟩
  . exact⟨hb.far g (by rw[<- h];exact hg),hY.ne (by rw[<- h];exact hg)⟩
  rw[h1]at hg;cases hg
  have:=hY.blk.lt
  exact⟨by omega,by omega⟩
 refine G.done (by kernel_rfl) ?_ _
 refine zm9 Tryz.results203 ⟨_,rfl,⟨.slice av (b.nodes.length+1) cv,dm,?_,hb.low,fun g hg=>(db g hg).1⟩,?_⟩
 .
  have h:=zm da di (fun g hg h=>(db g hg).2 h)
  rw[zps,zqO]
  simpa using h
 exact KT.trans (KT.trans (zoC (hD.ext dg)) (KT.row hY.row zlf hY.far dh)) (di.mono (fun q hq h=>by have h:q=B:=h;subst h;exact Wr.mk hb.low df zlv))
theorem zeC (W0 B i:Nat) (p:Bool) (to:Int) (b:Bd) (v x:Value) (w:World) (hb:BdS W0 B w b v) (hx:HC B w (i,p) x) (hi:i<b.nodes.length) :
  ∃ f,∃ cs:List Value,x=.func (.func f) #[] cs.toArray/\(∀ args w,(callFunc f args).run Tryz.prog w=.ok (.enter f args) w)/\Calls Tryz.prog f (([]:List Value)++[Value.int .i64 to]++cs).toArray w (Ret fun _ w'=>BdS W0 B w' { b with nodes:=qX b.nodes to (i,p) } v/\KT bty W0 w w'):=by
 obtain⟨bb,ab,rfl,h1,h2⟩:=hx
 cases p
 . exact⟨_,[_,_],rfl,Tryz.call166,zin W0 B bb ab i to b v w hb h1 h2 hi⟩
 exact⟨_,[_,_],rfl,Tryz.call215,zgL W0 B bb ab i to b v w hb h1 h2 hi⟩
theorem BdS.bump {W0 B:Nat} {w w':World} {b:Bd} {v:Value} (h:BdS W0 B w b v) (hw:zev w B [v,.int .i64 ((b.step:Int)+1)] 197 w'):BdS W0 B w' { b with step:=b.step+1 } v/\KT bty W0 w w' :=
 ⟨⟨hw.2.1,zm h.row hw.2.2 (fun _ hg he=>h.ne hg he),h.low,h.far⟩,zoE h.blk zlv h.low hw⟩
theorem Hung.lit {B:Nat} {w:World} {g:Nat} {x:Value} {e:qL} (hb:Blk w g [x] 120) (hx:HC B w e x):Hung B w (.slice (some ⟨g,0,none⟩) 1 1) [e] :=
 ⟨[x],ye (k:=1) (n:=1) (cap:=1) hb (zpJ _) (by decide) rfl,fun i e' x' he hY=>by
  cases i with
  | zero=>simp at he hY;subst he;subst hY;exact hx
  | succ i=>simp at he⟩
theorem Hung.len {B:Nat} {w:World} {v:Value} {es:List qL} (h:Hung B w v es):es.length<=9223372036854775807:=by
 obtain⟨xs,h1,_⟩:=h
 obtain⟨_,_,_,h2,h3⟩:=xC h1
 omega
theorem zio (s:St) (h1:∀ b ins,(listB s.thn b ins).2.length<=max ins.length 1+widL s.thn) (h2:∀ b ins,(listB s.els b ins).2.length<=max ins.length 1+widL s.els) (a:Nat) (b:Bd):(s.one a b).2.length<=1+s.wid:=by
 rw[s.one_eq]
 have hw:=s.wid_eq
 split
 .
  dsimp only
  rw[zps]
  have e1:=h1 { nodes:=b.nodes++[⟨3,b.step,-1,-1⟩],step:=b.step+1 } [(a,false)]
  have e2:=h2 (listB s.thn { nodes:=b.nodes++[⟨3,b.step,-1,-1⟩],step:=b.step+1 } [(a,false)]).1 [(a,true)]
  simp only[zpF]at e1 e2
  omega
 split<;>simp
theorem zdA (l:List St):∀ b ins,(listB l b ins).2.length<=max ins.length 1+widL l:=by
 induction l using znx with
 | h l ih =>
 have key:∀ r:List St,(∀ x ∈ r,x ∈ l)->∀ b ins,(listB r b ins).2.length<=max ins.length 1+widL r:=by
  intro r
  induction r with
  | nil=>intro _ b ins;rw[listB];dsimp only;omega
  | cons s r ihr =>
   intro hm b ins
   have h1:=zio s (ih s (hm s (zpo ..))).1 (ih s (hm s (zpo ..))).2 b.nodes.length { b with nodes:=zw b.nodes b.nodes.length ins }
   rw[zac]
   have h2:=ihr (fun y hy=>hm y (zpn _ hy)) (s.one b.nodes.length { b with nodes:=zw b.nodes b.nodes.length ins }).1 (s.one b.nodes.length { b with nodes:=zw b.nodes b.nodes.length ins }).2
   simp only[widL]
   omega
 exact key l (fun x h=>h)
theorem jW {ns:List Nd} {to:Int} {es:List qL} {i:Nat} {e:qL} (h:es[i]?=some e):zw ns to (es.take (i+1))=qX (zw ns to (es.take i)) to e:=by rw[ze h,kF];rfl
def zgM (l:List St):Prop:=∀ (W0 B:Nat) (v vin:Value) (D:Nat->Prop) (w:World) (b:Bd) (nv:Value) (ins:List qL),SlR 10 RSt D w v l->(∀ q,D q->q<W0)->BdS W0 B w b nv->Hung B w vin ins->(∀ e ∈ ins,e.1<b.nodes.length)->W0<=w.heap.size ->
 plainL l=true->b.nodes.length+widL l<=100000->b.step+ssize l<=100000 ->
 Calls Tryz.prog 125 #[.pointer (some ⟨B,0,none⟩),v,vin] w (Ret fun r w'=>(∃ nv',BdS W0 B w' (listB l b ins).1 nv')/\Hung B w' r (listB l b ins).2/\(r.ownBlock=vin.ownBlock\/∃ g,r.ownBlock=some g/\w.heap.size<=g)/\KT bty W0 w w')
theorem zkP (s:St) (h1:zgM s.thn) (h2:zgM s.els) (W0 B:Nat) (cs:List Value) (D:Nat->Prop) (w:World) (b:Bd) (nv:Value) (hs:RSt D w s cs) (hD:∀ q,D q->q<W0) (hb:BdS W0 B w b nv) (hW:W0<=w.heap.size) (hp:s.plainB=true)
  (hn:b.nodes.length+s.wid<=100000) (fc:b.step+s.size<=100000) :
  Calls Tryz.prog 165 #[.pointer (some ⟨B,0,none⟩),.agg cs.toArray,.int .i64 b.nodes.length] w (Ret fun r w'=>(∃ nv',BdS W0 B w' (s.one b.nodes.length b).1 nv')/\Hung B w' r (s.one b.nodes.length b).2/\(∃ g,r.ownBlock=some g/\w.heap.size<=g)/\KT bty W0 w w'):=by
 have fe:=hs.one
 obtain⟨v1,v2,v3,v4,rfl,hk,ht,he,fg⟩:=hs.get
 have hw:=s.wid_eq
 have hz:=s.size_eq
 have dk:=hp
 rw[s.plainB_eq,zpW,zpW]at dk
 have fh:=hW
 refine znm Tryz.func165 O Tryz.ntmps165 O (Gs 2 O (zmr O O (M.box O O) ?_))
 rintro _ w1 ⟨c,rfl,hc,eF,dU,dD⟩
 replace hb:=hb.ext dD
 have dV:KT bty W0 w w1:=zoC dD
 refine Gs 7 O (zne O tg66 (dU.cells 0 _ O) (Gs 9 O (zlF O (fun a3=>?_) (fun a3=>?_))))
 .
  rw[s.one_eq,zpv a3]
  rw[zpu (show ¬ s.act=4 by omega)]at hw
  refine Gs 3 O (G.call O Tryz.call203 (zfe W0 B 3 b nv w1 hb (by have:=dD.size;omega) (by omega)) ?_)
  rintro _ w2 ⟨⟨nv2,hY⟩,dr⟩
  have dA:=dV.trans dr
  have dt:=dr.blk dU (by decide)
  refine Gs 7 O (zne O tg3 (hY.blk.cells 1 (.int .i64 b.step) O) (Ga 3 O (by omega) (zmw O (M.store ts3 O O O O hY.blk (by simp)) ?_)))
  rintro w3 dW
  obtain⟨de,du⟩:=hY.bump dW
  have dB:=dA.trans du
  have dw:=du.blk dt (by decide)
  refine Gs 3 O (Dw (fun q=>Blk q c [.int .i64 s.act,.int .i64 s.cost,.int .i64 s.var,.int .i64 s.n,.int .i64 s.term.op,.int .i64 s.term.n,v1,v2,v3,v4] 72) [] (fun w4 dx _=>?_))
  have df:=dx.blk dw (fun h=>h)
  have dc:=de.ext dx
  have dX:=dB.ext' dx
  refine Ds [0,1] (by kernel_rfl) O (WD.take 2 O (by kernel_rfl) O O O df (fun w1 dE=>R.load tg24 O (dE.cells 7 _ O)) (Ds [3,4] (by kernel_rfl) O (WD.call 5 O (by kernel_rfl) O O O (F.call (vs:=[_,_]) Tryz.call126 O) (zcL B b.nodes.length w4) ?_)))
  rintro x w5 ⟨hx,dy⟩
  have dg:=dy.blk df (fun h=>h)
  have dY:=dc.ext dy
  have dM:=dX.ext' dy
  refine⟨fun _=>dg,?_⟩
  have dh:=hx
  obtain⟨bb,ab,rfl,_,_⟩:=hx
  refine zmq 6 O (by kernel_rfl) O O O (M.buildSlice (cs:=[.func (.func 166) #[] #[.pointer (some ⟨bb,0,none⟩),.pointer (some ⟨ab,0,none⟩)]]) [(0,_)] tR198 ts120 tz120 (by decide) O (by kernel_rfl)) ?_
  rintro _ w6 ⟨g6,rfl,fi,fj,eG,dl⟩
  have da:=dl.blk dg (fun h=>h)
  have dZ:=dY.ext dl
  have dF:=dM.ext' dl
  refine⟨fun _=>da,?_⟩
  have eH:=Hung.lit eG (dh.ext dl)
  have eI:=dF.size
  refine WD.call 7 O (by kernel_rfl) O O O (F.call (vs:=[_,_,_]) Tryz.call125 O) (h1 W0 B _ _ D w6 _ _ _ (dF.sl zd ht hD) hD dZ eH (by simp) (by omega) dk.1.2 (by simp;omega) (by dsimp only;omega)) ?_
  rintro r7 w7 ⟨⟨nv7,dN⟩,eg,eJ,eh⟩
  have db:=eh.blk da (by decide)
  have d5:=dF.trans eh
  refine⟨fun _=>db,?_⟩
  have d6:=xq s.thn dk.1.2 { nodes:=b.nodes++[⟨3,b.step,-1,-1⟩],step:=b.step+1 } [(b.nodes.length,false)] (by simp)
  have ei:=zdA s.thn { nodes:=b.nodes++[⟨3,b.step,-1,-1⟩],step:=b.step+1 } [(b.nodes.length,false)]
  simp only[zpF]at ei
  generalize hX:listB s.thn { nodes:=b.nodes++[⟨3,b.step,-1,-1⟩],step:=b.step+1 } [(b.nodes.length,false)]=X at dN eg d6 ei ⊢
  have dG:=d6.len
  have dz:=d6.step
  simp only[zps,zpF]at dG dz
  have ej:∃ g,r7.ownBlock=some g/\w.heap.size<=g:=by
   have:=dM.size
   rcases eJ with h | ⟨g,h,h'⟩
   . exact⟨g6,by rw[h];rfl,by omega⟩
   exact⟨g,h,by omega⟩
  refine Ds [8] (by kernel_rfl) O (G.done (by kernel_rfl) ?_ _)
  refine Gs 2 O (Dw (fun q=>Blk q c [.int .i64 s.act,.int .i64 s.cost,.int .i64 s.var,.int .i64 s.n,.int .i64 s.term.op,.int .i64 s.term.n,v1,v2,v3,v4] 72) [] (fun x4 yk4 _=>?_))
  have yBc4:=yk4.blk db (fun h=>h)
  have yb4:=dN.ext yk4
  have yu4:=eg.ext yk4
  have yE4:=d5.ext' yk4
  refine Ds [0,1,2] (by kernel_rfl) O (WD.take 3 O (by kernel_rfl) O O O yBc4 (fun w1 dE=>R.load tg24 O (dE.cells 8 _ O)) (Ds [4,5] (by kernel_rfl) O (WD.call 6 O (by kernel_rfl) O O O (F.call (vs:=[_,_]) Tryz.call204 O) (zfd B b.nodes.length x4) ?_)))
  rintro x x5 ⟨hx,yk5⟩
  have yBc5:=yk5.blk yBc4 (fun h=>h)
  have yb5:=yb4.ext yk5
  have yu5:=yu4.ext yk5
  have yE5:=yE4.ext' yk5
  refine⟨fun _=>yBc5,?_⟩
  have dh:=hx
  obtain⟨bb,ab,rfl,_,_⟩:=hx
  refine zmq 7 O (by kernel_rfl) O O O (M.buildSlice (cs:=[.func (.func 215) #[] #[.pointer (some ⟨bb,0,none⟩),.pointer (some ⟨ab,0,none⟩)]]) [(0,_)] tR198 ts120 tz120 (by decide) O (by kernel_rfl)) ?_
  rintro _ x6 ⟨g6',rfl,yg6,ys6,yB6,yk6⟩
  have yBc6:=yk6.blk yBc5 (fun h=>h)
  have yb6:=yb5.ext yk6
  have yu6:=yu5.ext yk6
  have yE6:=yE5.ext' yk6
  refine⟨fun _=>yBc6,?_⟩
  have zu6:=Hung.lit yB6 (dh.ext yk6)
  have ysz6:=yE6.size
  refine WD.call 8 O (by kernel_rfl) O O O (F.call (vs:=[_,_,_]) Tryz.call125 O) (h2 W0 B _ _ D x6 _ _ _ (yE6.sl zd he hD) hD yb6 zu6 (by intro e he;rw[zpC.1 he];dsimp only;omega) (by omega) dk.2 (by omega) (by omega)) ?_
  rintro r8 x7 ⟨⟨nv8,yb7⟩,yu7,yf7,yK7⟩
  have yBc7:=yK7.blk yBc6 (by decide)
  have yE7:=yE6.trans yK7
  have zu7:=yu6.kt yK7
  refine⟨fun _=>yBc7,?_⟩
  have ek:=zdA s.els X.1 [(b.nodes.length,true)]
  simp only[zpF]at ek
  generalize listB s.els X.1 [(b.nodes.length,true)]=Y at yb7 yu7 ek ⊢
  obtain⟨xs7,dO,d7⟩:=zu7
  obtain⟨xs8,em,dH⟩:=yu7
  have eK:∀ u ∈ xs8,u.oneCell'=true:=by
   intro u hu
   obtain⟨i,hi⟩:=zre.1 hu
   have eL:=(zpy.1 hi).1
   have h8:=em.1
   exact(dH i Y.2[i] u (zpk (by omega)) hi).one
  refine zmq 9 O (by kernel_rfl) O O O (znu Tryz.underlying198 Tryz.el120 O (by decide) O O dO em eK (by omega) (by omega)) ?_
  rintro u x8 ⟨eM,eN,yk8⟩
  have d8:∀ k,r7.ownBlock=some k->w.heap.size<=k:=by
   intro k hk
   obtain⟨g,h,h'⟩:=ej
   rw[h]at hk;cases hk;exact h'
  have yE8:KT bty W0 w x8:=yE7.new yk8 d8
  have di:∀ k cs e,Blk x7 k cs e->e ≠ 120->Blk x8 k cs e:=fun k cs e hb eO=>yk8.blk hb (fun h=>by
   obtain⟨cs',dI⟩:=yM dO h
   exact eO (hb.ty dI).1)
  refine⟨fun _=>di _ _ _ yBc7 (by decide),?_⟩
  refine Ds [10] (by kernel_rfl) O (G.done (by kernel_rfl) ?_ _)
  refine Gs 4 O ?_
  refine zlV Tryz.results165 O ⟨_,rfl,⟨nv8,di _ _ _ yb7.blk (by decide),zm yb7.row yk8 (fun g hg h=>by
    obtain⟨cs',dI⟩:=yM dO h
    obtain⟨cs2,hY⟩:=yM yb7.row hg
    exact absurd (hY.ty dI).1 (by decide)),yb7.low,yb7.far⟩,⟨xs7++xs8,by rw[zps];exact eM,?_⟩,?_,yE8⟩
  .
   have en:∀ e x,HC B x7 e x->HC B x8 e x:=by
    rintro e x ⟨bb,ab,q1,q2,q3⟩
    exact⟨bb,ab,q1,di _ _ _ q2 (by decide),di _ _ _ q3 (by decide)⟩
   intro i e x dQ dR
   have fk:=dO.1
   by_cases hi:i<X.2.length
   .
    rw[zpK hi]at dQ
    rw[zpK (by omega)]at dR
    exact en _ _ (d7 i e x dQ dR)
   rw[zpL (by omega)]at dQ
   rw[zpL (by omega),show i - xs7.length=i - X.2.length by omega]at dR
   exact en _ _ (dH _ e x dQ dR)
  rcases eN with h | ⟨g,h,h'⟩
  .
   obtain⟨g,q1,q2⟩:=ej
   exact⟨g,by rw[h];exact q1,q2⟩
  have:=yE7.size
  exact⟨g,h,by omega⟩
 rw[s.one_eq,zpu a3]
 refine Gs 6 O (zlF O (fun a4=>?_) (fun a4=>?_))
 .
  rw[zpv a4]
  rw[zpv a4]at hw
  rw[zpu a3,zpv a4]at dk
  refine Gs 3 O (G.call O Tryz.call203 (zfe W0 B 4 b nv w1 hb (by have:=dD.size;omega) (by omega)) ?_)
  rintro _ w2 ⟨⟨nv2,hY⟩,dr⟩
  have dA:=dV.trans dr
  have dt:=dr.blk dU (by decide)
  refine Gs 5 O (G.call O Tryz.call203 (zfe W0 B 5 _ nv2 w2 hY (by have:=dA.size;omega) (by simp;omega)) ?_)
  rintro _ w3 ⟨⟨nv3,de⟩,du⟩
  have dB:=dA.trans du
  have dw:=du.blk dt (by decide)
  dsimp only at de
  rw[zqy,zrx]at de
  refine Gs 7 O (zne O tg3 (de.blk.cells 1 (.int .i64 b.step) O) (Ga 3 O (by omega) (zmw O (M.store ts3 O O O O de.blk (by simp)) ?_)))
  rintro w4 eP
  obtain⟨dc,eo⟩:=de.bump eP
  dsimp only at dc
  have dX:=dB.trans eo
  have df:=eo.blk dw (by decide)
  obtain⟨g,cap,sp,rfl,_,eQ,eR,ep,d9⟩:=ku zY (by decide) dc.row (by simp)
  have dC:(b.nodes++[⟨4,b.step,-1,-1⟩,⟨5,b.step,-1,-1⟩]:List Nd).length=b.nodes.length+2:=by simp
  have er:((b.nodes++[⟨4,b.step,-1,-1⟩,⟨5,b.step,-1,-1⟩]:List Nd).flatMap qY++sp).length=(b.nodes.length+2)*4+sp.length:=by rw[zps,yu zY,dC]
  have yx:=zcM (b.nodes++[⟨4,b.step,-1,-1⟩,⟨5,b.step,-1,-1⟩]) b.nodes.length (by omega) sp (b.nodes.length+1:Nat) false
  refine Gs 7 O (zne O tg34 (dc.blk.cells 0 _ O) (Ga 3 O (by omega) (zna O O (zmh tR34 ts65 O O O (by simp;omega)) (Gs 1 O (zmw O (M.store ts3 O O O O ep (by rw[er];show 0+(b.nodes.length:Int).toNat*4+2<_;omega)) ?_)))))
  rintro w5 ⟨_,eu,ew⟩
  have e5:0+(b.nodes.length:Int).toNat*4+2=b.nodes.length*4+(if false then 3 else 2):=by simp
  have dJ:Blk w5 g (((b.nodes++[⟨4,b.step,-1,-1⟩,⟨5,b.step,-1,-1⟩]:List Nd).flatMap qY++sp).set (0+(b.nodes.length:Int).toNat*4+2) (.int .i64 (b.nodes.length+1:Nat))) 65:=eu
  rw[e5,yx]at dJ
  have ey:KT bty W0 w4 w5:=zoE ep zlf (dc.far _ rfl) ⟨‹_›,eu,ew⟩
  have dM:=dX.trans ey
  have dg:=ey.blk df (by decide)
  have eS:=dc.ne rfl
  have dY:BdS W0 B w5 { nodes:=qX (b.nodes++[⟨4,b.step,-1,-1⟩,⟨5,b.step,-1,-1⟩]) (b.nodes.length+1:Nat) (b.nodes.length,false),step:=b.step+1 } (.slice (some ⟨g,0,none⟩) (b.nodes++[⟨4,b.step,-1,-1⟩,⟨5,b.step,-1,-1⟩]:List Nd).length cap):=by
   refine⟨ew.blk dc.blk (fun h=>eS h.symm),?_,dc.low,dc.far⟩
   have h:=zcB zY (k:=(b.nodes++[⟨4,b.step,-1,-1⟩,⟨5,b.step,-1,-1⟩]:List Nd).length) dJ (by rw[zps,yu zY,zP,dC];exact er.symm.trans d9) (by rw[zP];exact zpJ _) eQ eR
   rw[zrF (by rw[zP];exact zpJ _)]at h
   dsimp only
   rw[zP];exact h
  refine Gs 4 O (Dw (fun q=>Blk q c [.int .i64 s.act,.int .i64 s.cost,.int .i64 s.var,.int .i64 s.n,.int .i64 s.term.op,.int .i64 s.term.n,v1,v2,v3,v4] 72) [] (fun w6 dl _=>?_))
  have da:=dl.blk dg (fun h=>h)
  have dZ:=dY.ext dl
  have dF:=dM.ext' dl
  refine Ds [0,1] (by kernel_rfl) O (WD.take 2 O (by kernel_rfl) O O O da (fun w1 dE=>R.load tg24 O (dE.cells 7 _ O)) (Da [3,4,5,10] (by kernel_rfl) O (by omega) (WD.call 6 O (by kernel_rfl) O O O (F.call (vs:=[_,_]) Tryz.call126 O) (zcL B (b.nodes.length+1) w6) ?_)))
  rintro x w7 ⟨hx,ea⟩
  have db:=ea.blk da (fun h=>h)
  have dN:=dZ.ext ea
  have d5:=dF.ext' ea
  refine⟨fun _=>db,?_⟩
  have dh:=hx
  obtain⟨bb,ab,rfl,_,_⟩:=hx
  refine zmq 7 O (by kernel_rfl) O O O (M.buildSlice (cs:=[.func (.func 166) #[] #[.pointer (some ⟨bb,0,none⟩),.pointer (some ⟨ab,0,none⟩)]]) [(0,_)] tR198 ts120 tz120 (by decide) O (by kernel_rfl)) ?_
  rintro _ w8 ⟨g8,rfl,fm,fp,eT,dS⟩
  have dK:=dS.blk db (fun h=>h)
  have eU:=dN.ext dS
  have eb:=d5.ext' dS
  refine⟨fun _=>dK,?_⟩
  have eV:=Hung.lit eT (dh.ext dS)
  have eW:=eb.size
  refine WD.call 8 O (by kernel_rfl) O O O (F.call (vs:=[_,_,_]) Tryz.call125 O) (h1 W0 B _ _ D w8 _ _ _ (eb.sl zd ht hD) hD eU eV (by intro e he;rw[zpC.1 he];dsimp only;rw[zP,dC];omega) (by omega) dk.1.2 (by dsimp only;rw[zP,dC];omega) (by dsimp only;omega)) ?_
  rintro r9 w9 ⟨⟨nv9,ez⟩,dT,fq,eA⟩
  have ec:=eA.blk dK (by decide)
  have eX:=eb.trans eA
  refine⟨fun _=>ec,?_⟩
  have ed:=xq s.thn dk.1.2 { nodes:=qX (b.nodes++[⟨4,b.step,-1,-1⟩,⟨5,b.step,-1,-1⟩]) (b.nodes.length+1:Nat) (b.nodes.length,false),step:=b.step+1 } [(b.nodes.length+1,false)] (by intro e he;rw[zpC.1 he];dsimp only;rw[zP,dC];omega)
  generalize hX:listB s.thn { nodes:=qX (b.nodes++[⟨4,b.step,-1,-1⟩,⟨5,b.step,-1,-1⟩]) (b.nodes.length+1:Nat) (b.nodes.length,false),step:=b.step+1 } [(b.nodes.length+1,false)]=X at ez dT ed ⊢
  obtain⟨a9,c9,rfl,_⟩:=dT.form
  have dm:=ed.len
  have ee:=ed.lt
  have eY:=dT.len
  dsimp only at dm
  rw[zP,dC]at dm
  refine Ds [9] (by kernel_rfl) O (G.done (by kernel_rfl) ?_ _)
  refine Gs 1 O (zlQ (σ:=Unit) (fun u=>[(0,.pointer (some ⟨B,0,none⟩)),(2,.int .i64 b.nodes.length)]) (fun u=>fun w'=>(∃ nv',BdS W0 B w' { X.1 with nodes:=zw X.1.nodes (b.nodes.length+1:Nat) X.2 } nv')/\KT bty W0 w w') ?_ ?_)
  .
   refine Gs 1 O (G.loop (σ:=Nat) (fun j=>[(0,.pointer (some ⟨B,0,none⟩)),(2,.int .i64 b.nodes.length),(71,.slice a9 X.2.length c9),(72,.int .i64 X.2.length),(73,.int .i64 j)]) (fun j=>fun w'=>j<=X.2.length/\(∃ nv',BdS W0 B w' { X.1 with nodes:=zw X.1.nodes (b.nodes.length+1:Nat) (X.2.take j) } nv')/\Hung B w' (.slice a9 X.2.length c9) X.2/\KT bty W0 w w') (fun j=>X.2.length - j) (0) (Sub.of O) (⟨zpz _,⟨_,ez⟩,dT,eX⟩) ?_)
   rintro j y1 ⟨hj,⟨nvj,ef⟩,eC,eD⟩
   refine Gs 6 O (zlF O (fun eL=>?_) (fun ft=>?_))
   .
    obtain⟨e,he⟩:∃ e,X.2[j]?=some e:=⟨_,zpk (by omega)⟩
    obtain⟨ge,x,rfl,eZ,e8⟩:=eC.at he
    obtain⟨ie,pe⟩:=e
    obtain⟨f,fcs,rfl,e9,dL⟩:=zeC W0 B ie pe (b.nodes.length+1:Nat) _ _ x y1 ef e8 (by dsimp only;rw[zM];exact ee _ (zpl he))
    refine Ga 7 O (by omega) (zne O Tryz.isAgg120 (eZ 0 _ O) (Ga 7 O (by omega) (zmo O e9 dL ?_)))
    rintro _ y2 ⟨dI,eE⟩
    refine Ga 7 O (by omega) (G.back (j+1) (Sub.of O) (⟨by omega,⟨nvj,by rw[jW he];exact dI⟩,eC.kt eE,eD.trans eE⟩) (by first | omega | (dsimp only;omega)))
   have fa:j=X.2.length:=by omega
   subst fa
   rw[zpp]at ef
   refine Gs 4 O (zlS (()) (Sub.of O) (⟨⟨nvj,ef⟩,eD⟩))
  rintro u y3 ⟨⟨nv3',yb3⟩,yE3⟩
  refine Ga 6 O (by omega) (G.call O Tryz.call204 (zfd B (b.nodes.length+1) y3) ?_)
  rintro x y4 ⟨hx,yk4⟩
  have dh:=hx
  obtain⟨bb,ab,rfl,_,_⟩:=hx
  refine zmr O O (M.buildSlice (cs:=[.func (.func 215) #[] #[.pointer (some ⟨bb,0,none⟩),.pointer (some ⟨ab,0,none⟩)]]) [(0,_)] tR198 ts120 tz120 (by decide) O (by kernel_rfl)) ?_
  rintro _ y5 ⟨g5,rfl,yg5,ys5,yB5,yk5⟩
  have:=yE3.size
  have:=yk4.size
  refine Gs 6 O (zlV Tryz.results165 O ⟨_,rfl,⟨nv3',(yb3.ext yk4).ext yk5⟩,Hung.lit yB5 (dh.ext yk5),⟨g5,rfl,by omega⟩,(yE3.ext' yk4).ext' yk5⟩)
 rw[zpu a4]
 rw[zpu a4]at hw
 rw[zpu a3,zpu a4]at dk
 refine Gs 6 O (G.call O Tryz.call203 (zfe W0 B 2 b nv w1 hb (by have:=dD.size;omega) (by omega)) ?_)
 rintro _ w2 ⟨⟨nv2,hY⟩,dr⟩
 have dA:=dV.trans dr
 refine Gs 7 O (zne O tg3 (hY.blk.cells 1 (.int .i64 b.step) O) (Ga 3 O (by omega) (zmw O (M.store ts3 O O O O hY.blk (by simp)) ?_)))
 rintro w3 dW
 obtain⟨de,du⟩:=hY.bump dW
 have dB:=dA.trans du
 refine Gs 6 O (G.call O Tryz.call126 (zcL B b.nodes.length w3) ?_)
 rintro x w4 ⟨hx,dx⟩
 have dh:=hx
 obtain⟨bb,ab,rfl,_,_⟩:=hx
 refine zmr O O (M.buildSlice (cs:=[.func (.func 166) #[] #[.pointer (some ⟨bb,0,none⟩),.pointer (some ⟨ab,0,none⟩)]]) [(0,_)] tR198 ts120 tz120 (by decide) O (by kernel_rfl)) ?_
 rintro _ w5 ⟨g5,rfl,fu,fv,fb,dy⟩
 have:=dB.size
 have:=dx.size
 refine Gs 4 O (zlV Tryz.results165 O ⟨_,rfl,⟨nv2,(de.ext dx).ext dy⟩,Hung.lit fb (dh.ext dy),⟨g5,rfl,by omega⟩,(dB.ext' dx).ext' dy⟩)
theorem zbq {α:Type} {l:List α} {i:Nat} {x:α} (h:l[i]?=some x):l.drop i=x::l.drop (i+1):=by
 obtain⟨h1,h2⟩:=zpy.1 h
 rw[<- h2,List.getElem_cons_drop]
theorem zk3 (l:List St):zgM l:=by
 induction l using znx with
 | h l ih =>
 intro W0 B v vin D w b nv ins hl hD hb hu dB hW hp hn dZ
 obtain⟨av,cv,rfl⟩:=hl.form
 have d5:=hl.max
 refine znm Tryz.func125 O Tryz.ntmps125 O (Gs 14 O (G.loop (σ:=Nat × Value) (fun⟨i,vi⟩=>[(0,.pointer (some ⟨B,0,none⟩)),(2,vi),(12,.slice av l.length cv),(13,.int .i64 l.length),(14,.int .i64 i)]) (fun⟨i,vi⟩=>fun w'=>i<=l.length/\(∃ b' nv' ins',BdS W0 B w' b' nv'/\Hung B w' vi ins'/\(∀ e ∈ ins',e.1<b'.nodes.length)/\listB (l.drop i) b' ins'=listB l b ins/\b'.nodes.length=b.nodes.length+widL (l.take i)/\b'.step=b.step+ssize (l.take i))/\(vi.ownBlock=vin.ownBlock\/∃ g,vi.ownBlock=some g/\w.heap.size<=g)/\KT bty W0 w w') (fun⟨i,vi⟩=>l.length - i) ((0,vin)) (Sub.of O) (⟨zpz _,⟨b,nv,ins,hb,hu,dB,rfl,by simp[widL],by simp[ssize]⟩,.inl rfl,KT.refl⟩) ?_))
 rintro⟨i,vi⟩ w1 ⟨hi,⟨b1,nv1,ins1,db,dc,dk,dh,d6,d7⟩,dC,dl⟩
 show G _ _ _ _ _ [(0,.pointer (some ⟨B,0,none⟩)),(2,vi),(12,.slice av l.length cv),(13,.int .i64 l.length),(14,.int .i64 i)] _
 refine Gs 6 O (zlF O (fun dD=>?_) (fun d8=>?_))
 .
  obtain⟨s,he⟩:∃ x,l[i]?=some x:=⟨_,zpk (by omega)⟩
  have hm:=zpl he
  have dE:=dl.sl zd hl hD
  obtain⟨bq,oq,cq,dF,d9,ea,dG,dx⟩:∃ b o cs,av=some ⟨b,o,none⟩/\D b/\cs.length=10/\Cells w1 b (o+i*10) cs/\RSt D w1 s cs:=by
   obtain⟨ao',cap',h1,h2,h3,h4⟩:=dE
   cases h1
   exact h4 i s he
  have hY:=dx.one
  have de:=yV hp s hm
  have eb:=zab he
  have ec:=xm he
  obtain⟨v1,v2,v3,v4,rfl,q1,q2,q3,q4⟩:=dx.get
  refine Gs 6 O (zna O O (zmh tR24 ts72 O O dF (by omega)) (zng O tg72 ts72 dG O (zmr O O (M.alloc (cs:=_) tz72 O) ?_)))
  rintro _ w2 ⟨c,rfl,hc,ed,dm,dH⟩
  refine zmw O (zmx ts72 O O O O hY dm (by simp)) ?_
  rintro w3 ⟨_,dI,dJ⟩
  have da:Ext w1 w3:=dH.trans dJ (fun q hq h=>by have h:q=c:=h;omega)
  have dK:=dl.ext' da
  replace db:=db.ext da
  replace dc:=dc.ext da
  obtain⟨an,cn,rfl,ee,_⟩:=xC db.row
  obtain⟨a1,c1,rfl,_⟩:=dc.form
  have dL:=dc.len
  have dr:Blk w3 c [.int .i64 s.act,.int .i64 s.cost,.int .i64 s.var,.int .i64 s.n,.int .i64 s.term.op,.int .i64 s.term.n,v1,v2,v3,v4] 72:=dI
  refine Gs 7 O (zne O tg34 (db.blk.cells 0 _ O) (Gs 13 O (G.loop (σ:=Nat) (fun j=>[(0,.pointer (some ⟨B,0,none⟩)),(8,.pointer (some ⟨c,0,none⟩)),(9,.int .i64 b1.nodes.length),(12,.slice av l.length cv),(13,.int .i64 l.length),(14,.int .i64 i),(23,.slice a1 ins1.length c1),(24,.int .i64 ins1.length),(25,.int .i64 j)]) (fun j=>fun w'=>j<=ins1.length/\BdS W0 B w' { b1 with nodes:=zw b1.nodes b1.nodes.length (ins1.take j) } (.slice an b1.nodes.length cn)/\Hung B w' (.slice a1 ins1.length c1) ins1/\Blk w' c [.int .i64 s.act,.int .i64 s.cost,.int .i64 s.var,.int .i64 s.n,.int .i64 s.term.op,.int .i64 s.term.n,v1,v2,v3,v4] 72/\KT bty W0 w3 w') (fun j=>ins1.length - j) (0) (Sub.of O) (⟨zpz _,db,dc,dr,KT.refl⟩) ?_)))
  rintro j y1 ⟨hj,dt,dy,dz,df⟩
  have dA:=dK.trans df
  refine Gs 6 O (zlF O (fun ef=>?_) (fun eg=>?_))
  .
   obtain⟨e,du⟩:∃ e,ins1[j]?=some e:=⟨_,zpk (by omega)⟩
   obtain⟨ge,x,rfl,dM,dN⟩:=dy.at du
   obtain⟨ie,pe⟩:=e
   obtain⟨f,fcs,rfl,dO,dg⟩:=zeC W0 B ie pe (b1.nodes.length:Nat) _ _ x y1 dt dN (by dsimp only;rw[zM];exact dk _ (zpl du))
   refine Ga 7 O (by omega) (zne O Tryz.isAgg120 (dM 0 _ O) (Gs 6 O (zmo O dO dg ?_)))
   rintro _ y2 ⟨dQ,dw⟩
   refine Ga 7 O (by omega) (G.back (j+1) (Sub.of O) (⟨by omega,by rw[jW du];exact dQ,dy.kt dw,dw.blk dz (by decide),df.trans dw⟩) (by first | omega | (dsimp only;omega)))
  have dR:j=ins1.length:=by omega
  subst dR
  rw[zpp]at dt
  have dS:=dA.size
  have hY:=zkP s (ih s hm).1 (ih s hm).2 W0 B _ D y1 { b1 with nodes:=zw b1.nodes b1.nodes.length ins1 } _ (RSt.put (s:=s) (df.sl zh (q1.ext zh da) hD) (df.sl zd (q2.ext zd da) hD) (df.sl zd (q3.ext zd da) hD) (df.sl zb (q4.ext zb da) hD)) hD dt (by omega) de (by dsimp only;rw[zM];omega) (by dsimp only;omega)
  have di:=zdy s de (fun b ins h=>xq s.thn (by rw[s.plainB_eq,zpW,zpW]at de;exact de.1.2) b ins h) (fun b ins h=>xq s.els (by rw[s.plainB_eq,zpW,zpW]at de;exact de.2) b ins h) { b1 with nodes:=zw b1.nodes b1.nodes.length ins1 }
  simp only[zM]at hY di
  refine Gs 7 O (zng O tg72 ts72 dz.cells O (Gs 1 O (G.call O Tryz.call165 hY ?_)))
  rintro r y2 ⟨⟨nv2,dT⟩,dU,⟨g2,dV,dW⟩,dX⟩
  refine Ga 8 O (by omega) (G.back ((i+1,r)) (Sub.of O) (⟨by omega,⟨_,nv2,_,dT,dU,di.lt,?_,?_,?_⟩,.inr ⟨g2,dV,by omega⟩,dA.trans dX⟩) (by first | omega | (dsimp only;omega)))
  . rw[<- dh,zbq he,zac]
  . have:=di.len;dsimp only at this;rw[zM]at this;rw[zbn he];omega
  have:=di.step;dsimp only at this;rw[jy he];omega
 have dY:i=l.length:=by omega
 subst dY
 rw[zqF,listB]at dh
 refine Gs 12 O (zlV Tryz.results125 O ⟨_,rfl,⟨nv1,by rw[<- dh];exact db⟩,by rw[<- dh];exact dc,dC,dl⟩)
theorem zdB (l:List St):∀ (v:Value) (D:Nat->Prop) (w:World) (left:Int),SlR 10 RSt D w v l -> -10<=left->left<=1000000->Calls Tryz.prog 57 #[v,.int .i64 left] w (Ret fun r w'=>(∃ m:Int,r=.int .i64 m/\((sbulk l:Int)<=left->m=left - sbulk l)/\(¬ (sbulk l:Int)<=left->m<0/\min left (-1)<=m))/\Ext w w'):=by
 induction l using znx with
 | h l ih =>
 intro v D w left hl h1 h2
 have dS:=hl.max
 obtain⟨ao,cap,rfl⟩:=hl.form
 refine znl Tryz.func57 O Tryz.ntmps57 O (Gs 12 O (G.loop (σ:=Nat × Int) (fun⟨i,x⟩=>[(0,.slice ao l.length cap),(1,.int .i64 x),(5,.int .i64 i)]) (fun⟨i,x⟩=>fun w'=>i<=l.length/\((sbulk (l.take i):Int)<=left->x=left - sbulk (l.take i))/\(¬ (sbulk (l.take i):Int)<=left->x<0/\min left (-1)<=x)/\Ext w w') (fun⟨i,x⟩=>l.length - i) ((0,left)) (Sub.of O) (⟨zpz _,fun _=>by simp[sbulk],fun h=>by simp[sbulk]at h;omega,Keep.refl _ _⟩) ?_))
 rintro⟨i,x⟩ w1 ⟨hi,hy,hn,dg⟩
 show G _ _ _ _ _ [(0,.slice ao l.length cap),(1,.int .i64 x),(5,.int .i64 i)] _
 replace hl:=Tr1 dg hl
 have di:(i=l.length\/x<0)->((sbulk l:Int)<=left->x=left - sbulk l)/\(¬ (sbulk l:Int)<=left->x<0/\min left (-1)<=x):=by
  intro h
  have dT:sbulk (l.take i)<=sbulk l:=by
   have:=qp (l.take i) (l.drop i)
   rw[zrD]at this
   omega
  rcases h with h | h
  .
   rw[h,zpp]at hy hn
   exact⟨hy,hn⟩
  constructor
  . intro h3;have:=hy (by omega);omega
  intro h3
  by_cases h4:(sbulk (l.take i):Int)<=left
  . have:=hy h4;omega
  exact hn h4
 refine Gs 8 O (G.sp 10 O (fun dw=>?_) (fun dw=>?_))
 .
  refine Gs 5 O (zlF O (fun dx=>?_) (fun dx=>?_))
  .
   obtain⟨s,dh,dk⟩:=gE_ l (i) (by omega)
   obtain⟨dy,dU,dV,df,_,hY,dl⟩:=hl.at dh
   have dz:=RSt.one dl
   obtain⟨dA,dB,dC,dD,rfl,da,db,dc,de⟩:=dl.get
   obtain⟨dE,dF,rfl⟩:=da.form
   obtain⟨dG,dH,rfl⟩:=db.form
   obtain⟨dI,dJ,rfl⟩:=dc.form
   obtain⟨dK,dL,rfl⟩:=de.form
   have dr:dy<_:=zpm _ _ (hY 0 _ rfl)
   have dt:=zfT dh
   have dW:=zey dh
   have dX:=s.bulk_eq
   have dM:(sbulk (l.take i):Int)<=left/\x=left - sbulk (l.take i):=by
    by_cases h4:(sbulk (l.take i):Int)<=left
    . exact⟨h4,hy h4⟩
    have:=hn h4;omega
   have dY:=de.max
   refine Gs 8 O (zna O O (zmh tR24 ts72 O O df (by omega)) (Gs 1 O (zng O tg70 ts70 (hY.sub 4 3) O (Ga 2 O (by omega) (G.call O Tryz.call58 (zbl s.term _ D _ (x - 1) (RTm.put da) (by omega) (by omega)) ?_)))))
   rintro _ wz1 ⟨⟨m1,rfl,du,dN⟩,dO⟩
   obtain⟨hl,dg,hY,da,db,dc,de⟩:=Tr7 dO hl dg hY da db dc de
   refine Gs 9 O (zna O O (zmh tR24 ts72 O O df (by omega)) (Gs 1 O (zne O tg27 (hY 9 _ O) (Gs 4 O (zlF O (fun hb=>?_) (fun hb=>?_))))))
   .
    refine Gs 12 O (zlV Tryz.results57 O ⟨_,rfl,⟨-1,rfl,fun h3=>?_,fun h3=>by omega⟩,dg⟩)
    by_cases h5:(s.term.nodes:Int)<=x - 1
    . have:=du h5;omega
    omega
   have h5:(s.term.nodes:Int)<=x - 1:=by
    by_cases h5:(s.term.nodes:Int)<=x - 1
    . exact h5
    have:=dN h5;omega
   have hm:=du h5
   refine Gs 2 O (Dw (fun q=>Ext wz1 q) [] (fun wd2 hD _=>?_))
   refine Ds [0,1] (by kernel_rfl) O (zmI 2 O (by kernel_rfl) O O O (fun w1=>zmh tR24 ts72 O O df (by omega)) (Ds [3] (by kernel_rfl) O (WD.take 4 O (by kernel_rfl) O O O hD (fun w1 dm=>R.load tg24 O (dm.cells hY (fun h=>h) 8 _ O)) (Ds [5,6] (by kernel_rfl) O (zmI 7 O (by kernel_rfl) O O O (fun w1=>zmh tR24 ts72 O O df (by omega)) (Ds [8] (by kernel_rfl) O (WD.take 9 O (by kernel_rfl) O O O hD (fun w1 dm=>R.load tg24 O (dm.cells hY (fun h=>h) 7 _ O)) ?_)))))))
   refine Ds [10,11,12] (by kernel_rfl) O (zmI 13 O (by kernel_rfl) O O O (fun w1=>zmh tR24 ts72 O O df (by omega)) (Ds [14] (by kernel_rfl) O (WD.take 15 O (by kernel_rfl) O O O hD (fun w1 dm=>R.load tg27 O (dm.cells hY (fun h=>h) 9 _ O)) (Da [16,17] (by kernel_rfl) O (by omega) (WD.call 18 O (by kernel_rfl) O O O (F.call (vs:=[_,_]) Tryz.call57 O) ((ih s dk).1 _ D _ (m1 - s.bounds.length) (db.ext zd hD) (by omega) (by omega)) ?_)))))
   rintro _ wz3 ⟨⟨m2,rfl,h6,h7⟩,dQ⟩
   replace hD:=hD.ext dQ
   refine⟨fun _=>hD,?_⟩
   refine WD.call 19 O (by kernel_rfl) O O O (F.call (vs:=[_,_]) Tryz.call57 O) ((ih s dk).2 _ D _ m2 (dc.ext zd hD) (by by_cases h:(sbulk s.thn:Int)<=m1 - s.bounds.length<;>first | (have:=h6 h;omega) | (have:=h7 h;omega)) (by by_cases h:(sbulk s.thn:Int)<=m1 - s.bounds.length<;>first | (have:=h6 h;omega) | (have:=h7 h;omega))) ?_
   rintro _ wz4 ⟨⟨m3,rfl,h8,h9⟩,dR⟩
   replace hD:=hD.ext dR
   refine⟨fun _=>hD,?_⟩
   refine Ds [20] (by kernel_rfl) O (G.done (by kernel_rfl) ?_ _)
   obtain⟨hl,dg,hY,da,db,dc,de⟩:=Tr7 hD hl dg hY da db dc de
   refine Ga 7 O (by omega) (G.back ((i+1,m3)) (Sub.of O) (⟨by omega,?_,?_,dg⟩) (by first | omega | (dsimp only;omega)))
   .
    intro h3
    rw[dt]at h3 ⊢
    have:=h6 (by omega)
    rw[h8 (by omega)];omega
   intro h3
   rw[dt]at h3
   by_cases h:(sbulk s.thn:Int)<=m1 - s.bounds.length
   .
    have:=h6 h
    by_cases h':(sbulk s.els:Int)<=m2
    . have:=h8 h';omega
    have:=h9 h';omega
   have:=h7 h
   by_cases h':(sbulk s.els:Int)<=m2
   . omega
   have:=h9 h';omega
  refine Gs 12 O (zlV Tryz.results57 O ⟨_,rfl,⟨x,rfl,di (.inr (by omega))⟩,dg⟩)
 refine Gs 18 O (zlV Tryz.results57 O ⟨_,rfl,⟨x,rfl,di (.inl (by omega))⟩,dg⟩)
theorem ziq (f:Fl) (a b:Int) (v1 v2 v3:Value) (D:Nat->Prop) (w:World) (h:RFl D w f v1 v2 v3) (hb:0<=b/\b<=1000000) (ha:a<=1000):Calls Tryz.prog 28 #[.agg #[v1,v2,v3],.int .i64 a,.int .i64 b] w (Ret fun r w'=>r=.bool (decide ((f.vars.length:Int)<=a/\(f.hatches.length:Int)<=a/\((sbulk f.body+zA f.hatches:Nat):Int)<=b))/\Ext w w'):=by
 obtain⟨hv,hh,dc⟩:=h
 obtain⟨a1,n1,rfl⟩:=hv.form
 obtain⟨a2,n2,rfl⟩:=hh.form
 obtain⟨a3,n3,rfl⟩:=dc.form
 have dL:=hh.max
 have hE:=Keep.refl (fun _=>False) w
 refine znm Tryz.func28 O Tryz.ntmps28 O (Gs 2 O (zmr O O (M.box O O) ?_))
 rintro _ dM ⟨g,rfl,dl,dC,hY,dm⟩
 have dx:_<=g:=zpq hE.size (zrS dl.symm)
 obtain⟨hE,hh,dc⟩:=Tr3 dm hE hh dc
 refine Gs 7 O (zne O tg22 (hY.cells 0 _ O) (Gs 4 O (G.sp 15 O (fun h1=>?_) (fun h1=>?_))))
 . refine Gs 16 O (zlV Tryz.results28 O ⟨_,rfl,by rw[zpx (by omega)],hE⟩)
 refine Gs 1 O (zne O tg23 (hY.cells 1 _ O) (Gs 6 O (zlF O (fun h2=>?_) (fun h2=>?_))))
 . refine Gs 7 O (zlV Tryz.results28 O ⟨_,rfl,by rw[zpx (by omega)],hE⟩)
 refine Gs 5 O (zne O tg24 (hY.cells 2 _ O) (Gs 1 O (G.call O Tryz.call57 (zdB f.body _ D _ b dc (by omega) (by omega)) ?_)))
 rintro _ wz1 ⟨⟨m,rfl,dN,dO⟩,dD⟩
 obtain⟨hE,hh,dc,hY⟩:=Tr4 dD hE hh dc hY
 refine Gs 7 O (zne O tg23 (hY.cells 1 _ O) (Gs 5 O (G.loop (σ:=Nat × Int) (fun⟨i,x⟩=>[(7,.int .i64 x),(27,.slice a2 f.hatches.length n2),(28,.int .i64 f.hatches.length),(29,.int .i64 i)]) (fun⟨i,x⟩=>fun w'=>i<=f.hatches.length/\(((sbulk f.body+zA (f.hatches.take i):Nat):Int)<=b->x=b - (sbulk f.body+zA (f.hatches.take i):Nat))/\(¬ ((sbulk f.body+zA (f.hatches.take i):Nat):Int)<=b->x<0 /\ -1 - (i:Int)<=x)/\Ext wz1 w') (fun⟨i,x⟩=>f.hatches.length - i) ((0,m)) (Sub.of O) (⟨zpz _,fun h=>by simp[zA]at h ⊢;omega,fun h=>by simp[zA]at h ⊢;omega,Keep.refl _ _⟩) ?_)))
 rintro⟨i,x⟩ w1 ⟨hi,hy,hn,dg⟩
 show G _ _ _ _ _ [(7,.int .i64 x),(27,.slice a2 f.hatches.length n2),(28,.int .i64 f.hatches.length),(29,.int .i64 i)] _
 obtain⟨hE,hh,dc,hY⟩:=Tr4 dg hE hh dc hY
 refine Gs 6 O (zlF O (fun dE=>?_) (fun dE=>?_))
 .
  obtain⟨e,dh,dF⟩:=gE_ f.hatches (i) (by omega)
  obtain⟨dG,dQ,dR,dr,_,da,di⟩:=hh.at dh
  have dt:=RHt.one di
  obtain⟨dH,rfl,db⟩:=di
  obtain⟨dI,dJ,rfl⟩:=db.form
  have dy:dG<_:=zpm _ _ (da 0 _ rfl)
  have dz:=jV dh
  refine Gs 6 O (zna O O (zmh tR23 ts109 O O dr (by omega)) (zng O tg109 ts109 da O (zmr O O (M.alloc (cs:=_) tz109 O) ?_)))
  rintro _ wa2 ⟨c,rfl,du,dK,de,df⟩
  refine zmw O (zmx ts109 O O O O dt de (by simp)) ?_
  rintro dS ⟨_,de,dk⟩
  replace df:=df.trans dk (fun q hq h=>by have h:q=c:=h;omega)
  have dw:g ≠ c:=by have:=hY.lt;omega
  have dA:_<=c:=zpq hE.size (zrS du.symm)
  obtain⟨hE,hh,dc,hY,dg,da,db⟩:=Tr7 df hE hh dc hY dg da db
  refine Gs 4 O (zng O tg70 ts70 (de.cells.sub 3 3) O (Gs 1 O (G.call O Tryz.call58 (zbl e.term _ D _ x (RTm.put db) (by by_cases h4:((sbulk f.body+zA (f.hatches.take i):Nat):Int)<=b<;>first | (have:=hy h4;omega) | (have:=hn h4;omega)) (by by_cases h4:((sbulk f.body+zA (f.hatches.take i):Nat):Int)<=b<;>first | (have:=hy h4;omega) | (have:=hn h4;omega))) ?_)))
  rintro _ wz3 ⟨⟨m2,rfl,h6,h7⟩,dB⟩
  obtain⟨hE,hh,dc,hY,dg,da,db⟩:=Tr7 dB hE hh dc hY dg da db
  replace de:=Tr1 dB de
  refine Ga 8 O (by omega) (G.back ((i+1,m2)) (Sub.of O) (⟨by omega,?_,?_,dg⟩) (by first | omega | (dsimp only;omega)))
  .
   intro h3
   rw[dz]at h3 ⊢
   have:=hy (by omega)
   rw[h6 (by omega)];omega
  intro h3
  rw[dz]at h3
  by_cases h4:((sbulk f.body+zA (f.hatches.take i):Nat):Int)<=b
  .
   have:=hy h4
   have:=h7 (by omega)
   omega
  have:=hn h4
  have:=h7 (by omega)
  omega
 have:i=f.hatches.length:=by omega
 subst this
 rw[zpp]at hy hn
 refine Gs 13 O (zlV Tryz.results28 O ⟨_,rfl,?_,hE⟩)
 congr 1
 by_cases h4:((sbulk f.body+zA f.hatches:Nat):Int)<=b
 . rw[zpw (by have:=hy h4;omega),zpw (by omega)]
 rw[zpx (by have:=hn h4;omega),zpx (by omega)]
def zq (op:Int):Int:=if op=0\/op=24 then 0 else if op=6\/op=7 then 1 else if 8<=op/\op<=22 then 2 else if op=23 then 3 else if op=25 then -2 else -1
theorem zfU (op:Int) (w:World):Calls Tryz.prog 150 #[.int .i64 op] w (Ret fun r w'=>r=.int .i64 (zq op)/\Ext w w'):=by
 refine znk Tryz.func150 O Tryz.ntmps150 O (Gs 19 O (zlF O (fun k0=>?_) (fun k0=>?_)))
 . refine Gs 11 O (zlV tr150 O ⟨_,rfl,by unfold zq;repeat (first | rw[zpv (by omega)] | rw[zpu (by omega)]),Keep.refl _ _⟩)
 refine Gs 5 O (zlF O (fun k24=>?_) (fun k24=>?_))
 . refine Gs 8 O (zlV tr150 O ⟨_,rfl,by unfold zq;repeat (first | rw[zpv (by omega)] | rw[zpu (by omega)]),Keep.refl _ _⟩)
 refine Gs 7 O (zlF O (fun k6=>?_) (fun k6=>?_))
 . refine Gs 11 O (zlV tr150 O ⟨_,rfl,by unfold zq;repeat (first | rw[zpv (by omega)] | rw[zpu (by omega)]),Keep.refl _ _⟩)
 refine Gs 5 O (zlF O (fun k7=>?_) (fun k7=>?_))
 . refine Gs 8 O (zlV tr150 O ⟨_,rfl,by unfold zq;repeat (first | rw[zpv (by omega)] | rw[zpu (by omega)]),Keep.refl _ _⟩)
 refine Gs 7 O (zlF O (fun k8=>?_) (fun k8=>?_))
 . refine Gs 11 O (zlV tr150 O ⟨_,rfl,by unfold zq;repeat (first | rw[zpv (by omega)] | rw[zpu (by omega)]),Keep.refl _ _⟩)
 refine Gs 6 O (zlF O (fun k9=>?_) (fun k9=>?_))
 . refine Gs 11 O (zlV tr150 O ⟨_,rfl,by unfold zq;repeat (first | rw[zpv (by omega)] | rw[zpu (by omega)]),Keep.refl _ _⟩)
 refine Gs 6 O (zlF O (fun k10=>?_) (fun k10=>?_))
 . refine Gs 11 O (zlV tr150 O ⟨_,rfl,by unfold zq;repeat (first | rw[zpv (by omega)] | rw[zpu (by omega)]),Keep.refl _ _⟩)
 refine Gs 6 O (zlF O (fun k11=>?_) (fun k11=>?_))
 . refine Gs 11 O (zlV tr150 O ⟨_,rfl,by unfold zq;repeat (first | rw[zpv (by omega)] | rw[zpu (by omega)]),Keep.refl _ _⟩)
 refine Gs 6 O (zlF O (fun k12=>?_) (fun k12=>?_))
 . refine Gs 11 O (zlV tr150 O ⟨_,rfl,by unfold zq;repeat (first | rw[zpv (by omega)] | rw[zpu (by omega)]),Keep.refl _ _⟩)
 refine Gs 6 O (zlF O (fun k13=>?_) (fun k13=>?_))
 . refine Gs 11 O (zlV tr150 O ⟨_,rfl,by unfold zq;repeat (first | rw[zpv (by omega)] | rw[zpu (by omega)]),Keep.refl _ _⟩)
 refine Gs 6 O (zlF O (fun k14=>?_) (fun k14=>?_))
 . refine Gs 11 O (zlV tr150 O ⟨_,rfl,by unfold zq;repeat (first | rw[zpv (by omega)] | rw[zpu (by omega)]),Keep.refl _ _⟩)
 refine Gs 6 O (zlF O (fun k15=>?_) (fun k15=>?_))
 . refine Gs 11 O (zlV tr150 O ⟨_,rfl,by unfold zq;repeat (first | rw[zpv (by omega)] | rw[zpu (by omega)]),Keep.refl _ _⟩)
 refine Gs 6 O (zlF O (fun k16=>?_) (fun k16=>?_))
 . refine Gs 11 O (zlV tr150 O ⟨_,rfl,by unfold zq;repeat (first | rw[zpv (by omega)] | rw[zpu (by omega)]),Keep.refl _ _⟩)
 refine Gs 6 O (zlF O (fun k17=>?_) (fun k17=>?_))
 . refine Gs 11 O (zlV tr150 O ⟨_,rfl,by unfold zq;repeat (first | rw[zpv (by omega)] | rw[zpu (by omega)]),Keep.refl _ _⟩)
 refine Gs 6 O (zlF O (fun k18=>?_) (fun k18=>?_))
 . refine Gs 11 O (zlV tr150 O ⟨_,rfl,by unfold zq;repeat (first | rw[zpv (by omega)] | rw[zpu (by omega)]),Keep.refl _ _⟩)
 refine Gs 6 O (zlF O (fun k19=>?_) (fun k19=>?_))
 . refine Gs 11 O (zlV tr150 O ⟨_,rfl,by unfold zq;repeat (first | rw[zpv (by omega)] | rw[zpu (by omega)]),Keep.refl _ _⟩)
 refine Gs 6 O (zlF O (fun k20=>?_) (fun k20=>?_))
 . refine Gs 11 O (zlV tr150 O ⟨_,rfl,by unfold zq;repeat (first | rw[zpv (by omega)] | rw[zpu (by omega)]),Keep.refl _ _⟩)
 refine Gs 6 O (zlF O (fun k21=>?_) (fun k21=>?_))
 . refine Gs 11 O (zlV tr150 O ⟨_,rfl,by unfold zq;repeat (first | rw[zpv (by omega)] | rw[zpu (by omega)]),Keep.refl _ _⟩)
 refine Gs 5 O (zlF O (fun k22=>?_) (fun k22=>?_))
 . refine Gs 8 O (zlV tr150 O ⟨_,rfl,by unfold zq;repeat (first | rw[zpv (by omega)] | rw[zpu (by omega)]),Keep.refl _ _⟩)
 refine Gs 6 O (zlF O (fun k23=>?_) (fun k23=>?_))
 . refine Gs 8 O (zlV tr150 O ⟨_,rfl,by unfold zq;repeat (first | rw[zpv (by omega)] | rw[zpu (by omega)]),Keep.refl _ _⟩)
 refine Gs 6 O (zlF O (fun k25=>?_) (fun k25=>?_))
 . refine Gs 8 O (zlV tr150 O ⟨_,rfl,by unfold zq;repeat (first | rw[zpv (by omega)] | rw[zpu (by omega)]),Keep.refl _ _⟩)
 refine Gs 9 O (zlV tr150 O ⟨_,rfl,by unfold zq;repeat (first | rw[zpv (by omega)] | rw[zpu (by omega)]),Keep.refl _ _⟩)
theorem zeD (op:Int) (w:World):Calls Tryz.prog 128 #[.int .i64 op] w (Ret fun r w'=>(∃ a b:Int,r=.tuple #[.int .i64 a,.int .i64 b]/\(a<0 ↔ zq op=-1)/\(0<=zq op->a=zq op/\b=zq op)/\(zq op=-2->a=2/\b=33))/\Ext w w'):=by
 refine znk Tryz.func128 O Tryz.ntmps128 O (Gs 13 O (G.sp 7 O (fun h1=>?_) (fun h1=>?_)))
 .
  refine Gs 16 O ?_
  have e:zq op=0:=by unfold zq;rw[zpv (by omega)]
  refine zlY tr128 O O ⟨_,rfl,⟨0,0,rfl,by rw[e];omega,fun _=>by rw[e];exact⟨rfl,rfl⟩,fun h=>by rw[e]at h;omega⟩,Keep.refl _ _⟩
 refine Gs 6 O (zlF O (fun h2=>?_) (fun h2=>?_))
 .
  refine Gs 9 O ?_
  have e:zq op=0:=by unfold zq;rw[zpv (by omega)]
  refine zlY tr128 O O ⟨_,rfl,⟨0,0,rfl,by rw[e];omega,fun _=>by rw[e];exact⟨rfl,rfl⟩,fun h=>by rw[e]at h;omega⟩,Keep.refl _ _⟩
 refine Gs 5 O (G.sp 14 O (fun h3=>?_) (fun h3=>?_))
 .
  refine Gs 16 O ?_
  have e:zq op=1:=by unfold zq;rw[zpu (by omega),zpv (by omega)]
  refine zlY tr128 O O ⟨_,rfl,⟨1,1,rfl,by rw[e];omega,fun _=>by rw[e];exact⟨rfl,rfl⟩,fun h=>by rw[e]at h;omega⟩,Keep.refl _ _⟩
 refine Gs 6 O (zlF O (fun h4=>?_) (fun h4=>?_))
 .
  refine Gs 9 O ?_
  have e:zq op=1:=by unfold zq;rw[zpu (by omega),zpv (by omega)]
  refine zlY tr128 O O ⟨_,rfl,⟨1,1,rfl,by rw[e];omega,fun _=>by rw[e];exact⟨rfl,rfl⟩,fun h=>by rw[e]at h;omega⟩,Keep.refl _ _⟩
 refine Gs 1 O (zlQ (σ:=Bool) (fun q=>[(0,.int .i64 op),(18,.bool q)]) (fun q=>fun w'=>(q=true ↔ 8<=op/\op<=22)/\w'=w) ?_ ?_)
 .
  refine Gs 4 O (G.sp 21 O (fun h5=>?_) (fun h5=>?_))
  . refine Gs 5 O (zlS (decide (op<=22)) (Sub.of O) (⟨by simp;omega,rfl⟩))
  refine Gs 5 O (zlS (false) (Sub.cons O (Sub.cons (by first | rfl | (show some (Value.bool false)=some (Value.bool _);simp[*])) Sub.nil)) (⟨by simp;omega,rfl⟩))
 rintro q w1 ⟨hq,hY⟩
 subst hY
 refine Gs 1 O (G.bool O (fun h6=>?_) (fun h6=>?_))
 .
  have h7:=hq.1 h6
  refine Gs 9 O ?_
  have e:zq op=2:=by unfold zq;rw[zpu (by omega),zpu (by omega),zpv (by omega)]
  refine zlY tr128 O O ⟨_,rfl,⟨2,2,rfl,by rw[e];omega,fun _=>by rw[e];exact⟨rfl,rfl⟩,fun h=>by rw[e]at h;omega⟩,Keep.refl _ _⟩
 have h7:¬ (8<=op/\op<=22):=fun h=>by rw[hq.2 h]at h6;cases h6
 refine Gs 7 O (zlF O (fun h8=>?_) (fun h8=>?_))
 .
  refine Gs 9 O ?_
  have e:zq op=3:=by unfold zq;rw[zpu (by omega),zpu (by omega),zpu (by omega),zpv (by omega)]
  refine zlY tr128 O O ⟨_,rfl,⟨3,3,rfl,by rw[e];omega,fun _=>by rw[e];exact⟨rfl,rfl⟩,fun h=>by rw[e]at h;omega⟩,Keep.refl _ _⟩
 refine Gs 7 O (zlF O (fun h9=>?_) (fun h9=>?_))
 .
  refine Gs 9 O ?_
  have e:zq op=-2:=by unfold zq;rw[zpu (by omega),zpu (by omega),zpu (by omega),zpu (by omega),zpv (by omega)]
  refine zlY tr128 O O ⟨_,rfl,⟨2,33,rfl,by rw[e];omega,fun h=>by rw[e]at h;omega,fun _=>⟨rfl,rfl⟩⟩,Keep.refl _ _⟩
 refine Gs 10 O ?_
 have e:zq op=-1:=by unfold zq;rw[zpu (by omega),zpu (by omega),zpu (by omega),zpu (by omega),zpu (by omega)]
 refine zlY tr128 O O ⟨_,rfl,⟨-1,-1,rfl,by rw[e];omega,fun h=>by rw[e]at h;omega,fun h=>by rw[e]at h;omega⟩,Keep.refl _ _⟩
@[irreducible] def xM (n:Int):Bool:=decide (97<=n/\n<=122)
@[irreducible] def yN (n:Int):Bool:=decide (48<=n/\n<=57\/n=46\/n=95)
def okB (i:Nat) (n:Int):Bool:=xM n || (decide (i ≠ 0)&&yN n)
@[irreducible] def zbr (s:ByteArray):Bool:=decide (1<=s.size/\s.size<=40/\∀ (i:Nat) (h:i<s.size),okB i (s[i].toNat:Int)=true)
theorem zaw (s:ByteArray) (w:World):Calls Tryz.prog 61 #[.string s] w (Ret fun r w'=>r=.bool (zbr s)/\Ext w w'):=by
 refine znk Tryz.func61 O Tryz.ntmps61 O (Gs 12 O (G.sp 10 O (fun h1=>?_) (fun h1=>?_)))
 . refine Gs 14 O (zlV tr61 O ⟨_,rfl,by rw[zbr,zpx (fun h=>by omega)],Keep.refl _ _⟩)
 refine Gs 6 O (zlF O (fun h2=>?_) (fun h2=>?_))
 . refine Gs 7 O (zlV tr61 O ⟨_,rfl,by rw[zbr,zpx (fun h=>by omega)],Keep.refl _ _⟩)
 refine Gs 9 O (G.loop (σ:=Nat) (fun i=>[(0,.string s),(3,.int .i64 i)]) (fun i=>fun w'=>i<=s.size/\(∀ (j:Nat) (h:j<s.size),j<i->okB j (s[j].toNat:Int)=true)/\w'=w) (fun i=>s.size - i) (0) (Sub.of O) (⟨zpz _,fun j _ h=>absurd h (zrZ _),rfl⟩) ?_)
 rintro i w1 ⟨hi,da,de⟩
 subst de
 refine Gs 9 O (zlF O (fun df=>?_) (fun df=>?_))
 .
  have db:i<s.size:=by omega
  refine Gs 8 O (zna O O (zmX tu9 O O i O db) ?_)
  obtain⟨n,hn⟩:∃ n:Int,n=(s[i].toNat:Int):=⟨_,rfl⟩
  rw[<- hn]
  refine Gs 4 O (zlQ (σ:=Bool) (fun q=>[(0,.string s),(3,.int .i64 i),(4,.int .u8 n),(5,.bool q)]) (fun q=>fun w'=>q=xM n/\w'=w1) ?_ ?_)
  .
   refine Gs 4 O (G.sp 26 O (fun a=>?_) (fun a=>?_))
   . refine Gs 5 O (zlS (decide (n<=122)) (Sub.of O) (⟨by unfold xM;congr 1;simp;omega,rfl⟩))
   refine Gs 5 O (zlS (false) (Sub.cons O (Sub.cons O (Sub.cons O (Sub.cons (by first | rfl | (show some (Value.bool false)=some (Value.bool _);simp[*])) Sub.nil)))) (⟨by unfold xM;rw[zpx (by omega)],rfl⟩))
  rintro q w2 ⟨hq,dg⟩
  subst hq
  refine Gs 2 O (zlQ (σ:=Bool) (fun q=>[(0,.string s),(3,.int .i64 i),(5,.bool (xM n)),(6,.bool q)]) (fun q=>fun w'=>q=yN n/\w'=w2) ?_ ?_)
  .
   refine Gs 4 O (G.sp 32 O (fun a=>?_) (fun a=>?_))
   .
    refine Gs 4 O (G.sp 36 O (fun b=>?_) (fun b=>?_))
    . refine Gs 9 O (zlS (true) (Sub.cons O (Sub.cons O (Sub.cons O (Sub.cons (by first | rfl | (show some (Value.bool true)=some (Value.bool _);simp[*])) Sub.nil)))) (⟨by unfold yN;rw[zpw (by omega)],rfl⟩))
    refine Gs 4 O (G.sp 40 O (fun c=>?_) (fun c=>?_))
    . refine Gs 5 O (zlS (true) (Sub.cons O (Sub.cons O (Sub.cons O (Sub.cons (by first | rfl | (show some (Value.bool true)=some (Value.bool _);simp[*])) Sub.nil)))) (⟨by unfold yN;rw[zpw (by omega)],rfl⟩))
    refine Gs 5 O (zlS (decide (n=95)) (Sub.of O) (⟨by unfold yN;congr 1;simp;omega,rfl⟩))
   refine Gs 8 O (G.sp 40 O (fun c=>?_) (fun c=>?_))
   . refine Gs 5 O (zlS (true) (Sub.cons O (Sub.cons O (Sub.cons O (Sub.cons (by first | rfl | (show some (Value.bool true)=some (Value.bool _);simp[*])) Sub.nil)))) (⟨by unfold yN;rw[zpw (by omega)],rfl⟩))
   refine Gs 5 O (zlS (decide (n=95)) (Sub.of O) (⟨by unfold yN;congr 1;simp;omega,rfl⟩))
  rintro q w3 ⟨hq,dh⟩
  subst hq
  have hY:okB i n=true->∀ (j:Nat) (h:j<s.size),j<i+1->okB j (s[j].toNat:Int)=true:=by
   intro h0 j h h1
   by_cases e:j=i
   . subst e;rw[<- hn];exact h0
   exact da j h (by omega)
  have dc:okB i n=false->zbr s=false:=by
   intro h0
   rw[zbr,zpx]
   rintro⟨_,_,h3⟩
   have:=h3 i db
   rw[<- hn,h0]at this
   cases this
  have hw:w3=w1:=by rw[dh,dg]
  refine Gs 4 O (zna O O (zmT O (by first | exact za | rfl)) (Gs 1 O (zn8 46 O (fun l=>?_) (fun l=>?_))))
  .
   have l':xM n=false:=by simpa using l
   refine Gs 3 O (G.sp 49 O (fun z=>?_) (fun z=>?_))
   . refine Gs 18 O (zlV tr61 O ⟨_,rfl,by rw[dc (by unfold okB;rw[l',zpx (by omega)];rfl)],by rw[hw];exact Keep.refl _ _⟩)
   have z':decide (i ≠ 0)=true:=zpw (by omega)
   refine Gs 1 O (zna O O (zmT O (by first | exact za | rfl)) (Gs 4 O (G.bool O (fun o=>?_) (fun o=>?_))))
   .
    have o':yN n=false:=by simpa using o
    refine Gs 11 O (zlV tr61 O ⟨_,rfl,by rw[dc (by unfold okB;rw[l',o'];simp)],by rw[hw];exact Keep.refl _ _⟩)
   have o':yN n=true:=by simpa using o
   refine Ga 8 O (by omega) (G.back (i+1) (Sub.of O) (⟨by omega,hY (by unfold okB;rw[o',z'];simp),hw⟩) (by first | omega | (dsimp only;omega)))
  have l':xM n=true:=by simpa using l
  refine Ga 18 O (by omega) (G.back (i+1) (Sub.of O) (⟨by omega,hY (by unfold okB;rw[l'];rfl),hw⟩) (by first | omega | (dsimp only;omega)))
 refine Gs 11 O (zlV tr61 O ⟨_,rfl,by rw[zbr,zpw ⟨by omega,by omega,fun j h=>da j h (by omega)⟩],Keep.refl _ _⟩)
theorem kI (s:ByteArray) (w:World):Calls Tryz.prog 157 #[.string s] w (Ret fun r w'=>r=.bool (zbr s)/\Ext w w'):=by
 refine znk Tryz.func157 O Tryz.ntmps157 O (Gs 11 O (G.sp 8 O (fun h1=>?_) (fun h1=>?_)))
 .
  have de:s.size=0:=by
   have:=congrArg List.length h1
   rw[ByteArray.toList_eq]at this
   simpa using this
  refine Gs 14 O (zlV tr157 O ⟨_,rfl,by rw[zbr,zpx (fun h=>by omega)],Keep.refl _ _⟩)
 have de:s.size ≠ 0:=by
  intro h
  apply h1
  have:s.toList.length=0:=by rw[ByteArray.toList_eq];simpa using h
  rw[zqI this,ByteArray.toList_eq]
 refine Gs 6 O (zlF O (fun h2=>?_) (fun h2=>?_))
 . refine Gs 7 O (zlV tr157 O ⟨_,rfl,by rw[zbr,zpx (fun h=>by omega)],Keep.refl _ _⟩)
 refine Gs 11 O (G.loop (σ:=Nat) (fun i=>[(0,.string s),(14,.int .i64 s.size),(15,.int .i64 i)]) (fun i=>fun w'=>i<=s.size/\(∀ (j:Nat) (h:j<s.size),j<i->okB j (s[j].toNat:Int)=true)/\w'=w) (fun i=>s.size - i) (0) (Sub.of O) (⟨zpz _,fun j _ h=>absurd h (zrZ _),rfl⟩) ?_)
 rintro i w1 ⟨hi,da,df⟩
 subst df
 refine Gs 6 O (zlF O (fun dg=>?_) (fun dg=>?_))
 .
  have db:i<s.size:=by omega
  refine Gs 14 O (zna O O (zmX tu9 O O i O db) ?_)
  obtain⟨n,hn⟩:∃ n:Int,n=(s[i].toNat:Int):=⟨_,rfl⟩
  rw[<- hn]
  refine Gs 4 O (zlQ (σ:=Bool) (fun q=>[(0,.string s),(14,.int .i64 s.size),(15,.int .i64 i),(3,.int .i64 i),(4,.int .u8 n),(5,.bool q)]) (fun q=>fun w'=>q=xM n/\w'=w1) ?_ ?_)
  .
   refine Gs 4 O (G.sp 23 O (fun a=>?_) (fun a=>?_))
   . refine Gs 5 O (zlS (decide (n<=122)) (Sub.of O) (⟨by unfold xM;congr 1;simp;omega,rfl⟩))
   refine Gs 5 O (zlS (false) (Sub.cons O (Sub.cons O (Sub.cons O (Sub.cons O (Sub.cons O (Sub.cons (by first | rfl | (show some (Value.bool false)=some (Value.bool _);simp[*])) Sub.nil)))))) (⟨by unfold xM;rw[zpx (by omega)],rfl⟩))
  rintro q w3 ⟨hq,hw⟩
  subst hq
  have hY:okB i n=true->∀ (j:Nat) (h:j<s.size),j<i+1->okB j (s[j].toNat:Int)=true:=by
   intro h0 j h h1
   by_cases e:j=i
   . subst e;rw[<- hn];exact h0
   exact da j h (by omega)
  have dc:okB i n=false->zbr s=false:=by
   intro h0
   rw[zbr,zpx]
   rintro⟨_,_,h3⟩
   have:=h3 i db
   rw[<- hn,h0]at this
   cases this
  refine Gs 4 O (zna O O (zmT O (by first | exact za | rfl)) (Gs 1 O (zn8 29 O (fun l=>?_) (fun l=>?_))))
  .
   have l':xM n=false:=by simpa using l
   refine Gs 3 O (G.sp 32 O (fun z=>?_) (fun z=>?_))
   . refine Gs 30 O (zlV tr157 O ⟨_,rfl,by rw[dc (by unfold okB;rw[l',zpx (by omega)];rfl)],by rw[hw];exact Keep.refl _ _⟩)
   have z':decide (i ≠ 0)=true:=zpw (by omega)
   have fin:(yN n=false->False)->okB i n=true:=fun h=>by
    unfold okB;rw[z']
    cases ho:yN n
    . exact(h ho).elim
    simp
   have bad:yN n=false->zbr s=false:=fun h=>dc (by unfold okB;rw[l',h];simp)
   refine Gs 3 O (G.sp 35 O (fun a=>?_) (fun a=>?_))
   .
    refine Gs 8 O (G.sp 43 O (fun b=>?_) (fun b=>?_))
    .
     refine Gs 7 O (zlF O (fun c=>?_) (fun c=>?_))
     .
      have ho:yN n=false:=by unfold yN;exact zpx (by omega)
      refine Gs 11 O (zlV tr157 O ⟨_,rfl,by rw[bad ho],by rw[hw];exact Keep.refl _ _⟩)
     refine Ga 7 O (by omega) (G.back (i+1) (Sub.of O) (⟨by omega,hY (fin (fun h=>by unfold yN at h;have:=of_decide_eq_false h;omega)),hw⟩) (by first | omega | (dsimp only;omega)))
    refine Ga 15 O (by omega) (G.back (i+1) (Sub.of O) (⟨by omega,hY (fin (fun h=>by unfold yN at h;have:=of_decide_eq_false h;omega)),hw⟩) (by first | omega | (dsimp only;omega)))
   refine Gs 4 O (G.sp 39 O (fun b0=>?_) (fun b0=>?_))
   .
    refine Gs 4 O (G.sp 43 O (fun b=>?_) (fun b=>?_))
    .
     refine Gs 7 O (zlF O (fun c=>?_) (fun c=>?_))
     .
      have ho:yN n=false:=by unfold yN;exact zpx (by omega)
      refine Gs 11 O (zlV tr157 O ⟨_,rfl,by rw[bad ho],by rw[hw];exact Keep.refl _ _⟩)
     refine Ga 7 O (by omega) (G.back (i+1) (Sub.of O) (⟨by omega,hY (fin (fun h=>by unfold yN at h;have:=of_decide_eq_false h;omega)),hw⟩) (by first | omega | (dsimp only;omega)))
    refine Ga 15 O (by omega) (G.back (i+1) (Sub.of O) (⟨by omega,hY (fin (fun h=>by unfold yN at h;have:=of_decide_eq_false h;omega)),hw⟩) (by first | omega | (dsimp only;omega)))
   refine Ga 19 O (by omega) (G.back (i+1) (Sub.of O) (⟨by omega,hY (fin (fun h=>by unfold yN at h;have:=of_decide_eq_false h;omega)),hw⟩) (by first | omega | (dsimp only;omega)))
  have l':xM n=true:=by simpa using l
  refine Ga 29 O (by omega) (G.back (i+1) (Sub.of O) (⟨by omega,hY (by unfold okB;rw[l'];rfl),hw⟩) (by first | omega | (dsimp only;omega)))
 refine Gs 11 O (zlV tr157 O ⟨_,rfl,by rw[zbr,zpw ⟨by omega,by omega,fun j h=>da j h (by omega)⟩],Keep.refl _ _⟩)
@[irreducible] def zaO (low high:Int):Bool:=decide (low<=high /\ -1048576<=low/\high<=1048576)
theorem kJ (a b:Int) (w:World):Calls Tryz.prog 62 #[.int .i64 a,.int .i64 b] w (Ret fun r w'=>r=.bool (zaO a b)/\Ext w w'):=by
 refine znl Tryz.func62 O Tryz.ntmps62 O (Gs 11 O (G.sp 8 O (fun h1=>?_) (fun h1=>?_)))
 .
  refine Gs 4 O (G.sp 12 O (fun h2=>?_) (fun h2=>?_))
  . refine Gs 7 O (zlV Tryz.results62 O ⟨_,rfl,by unfold zaO;congr 2;simp;omega,Keep.refl _ _⟩)
  refine Gs 7 O (zlV Tryz.results62 O ⟨_,rfl,by rw[zaO,zpx (by omega)],Keep.refl _ _⟩)
 refine Gs 11 O (zlV Tryz.results62 O ⟨_,rfl,by rw[zaO,zpx (by omega)],Keep.refl _ _⟩)
theorem qw (a b:Int) (w:World):Calls Tryz.prog 88 #[.int .i64 a,.int .i64 b] w (Ret fun r w'=>r=.bool (zaO a b)/\Ext w w'):=by
 refine znl Tryz.func88 O Tryz.ntmps88 O (Gs 11 O (G.sp 8 O (fun h1=>?_) (fun h1=>?_)))
 .
  refine Gs 4 O (G.sp 12 O (fun h2=>?_) (fun h2=>?_))
  . refine Gs 7 O (zlV Tryz.results88 O ⟨_,rfl,by unfold zaO;congr 2;simp;omega,Keep.refl _ _⟩)
  refine Gs 7 O (zlV Tryz.results88 O ⟨_,rfl,by rw[zaO,zpx (by omega)],Keep.refl _ _⟩)
 refine Gs 11 O (zlV Tryz.results88 O ⟨_,rfl,by rw[zaO,zpx (by omega)],Keep.refl _ _⟩)
def yL (op:Int) (n:Nat):Bool:=if 0<=zq op then decide ((n:Int)=zq op) else decide (zq op=-2/\2<=n/\n<=33)
def zad (vs:List Vr) (n:Int):Bool:=match vs[n.toNat]? with
 | some v=>decide (v.kind=0)
 | none=>false
def qB (vs:List Vr) (inputs:Bool) (op n:Int):Bool:=if op=24 then decide (0<=n/\n<vs.length)&&!(inputs&&zad vs n) else decide (op=0\/n=0)
mutual
def zu (vs:List Vr) (inputs:Bool):Tm->Bool
 | .mk op n ks=>yL op ks.length&&qB vs inputs op n&&formedL vs inputs ks
def formedL (vs:List Vr) (inputs:Bool):List Tm->Bool
 | []=>true
 | k::r=>zu vs inputs k&&formedL vs inputs r
end
section
variable {vs:List Vr} {inp:Bool}
theorem yW (t:Tm):zu vs inp t=(yL t.op t.kids.length&&qB vs inp t.op t.n&&formedL vs inp t.kids):=by cases t;rw[zu];rfl
theorem jM (a b:List Tm):formedL vs inp (a++b)=(formedL vs inp a&&formedL vs inp b):=by
 induction a with
 | nil=>simp[formedL]
 | cons x r ih=>simp[formedL,ih,Bool.and_assoc]
theorem zax {l:List Tm} {i:Nat} {x:Tm} (h:l[i]?=some x):formedL vs inp (l.take (i+1))=(formedL vs inp (l.take i)&&zu vs inp x):=by rw[ze h,jM];simp[formedL]
theorem yg {l:List Tm} {x:Tm} (h:formedL vs inp l=true) (hx:x ∈ l):zu vs inp x=true:=by
 obtain⟨i,hi⟩:=zre.1 hx
 rw[yy hi,jM]at h
 simp[formedL]at h
 exact h.2.1
theorem zbs {l:List Tm} {x:Tm} (hx:x ∈ l) (h:zu vs inp x=false):formedL vs inp l=false:=by
 cases h1:formedL vs inp l with
 | false=>rfl
 | true=>rw[yg h1 hx]at h;cases h
theorem yo {op:Int} {n:Nat} (h:zq op=-1\/(0<=zq op/\(n:Int) ≠ zq op)\/(zq op=-2/\(n<2\/33<n))):yL op n=false:=by
 unfold yL
 split
 . exact zpx (by omega)
 exact zpx (by omega)
theorem qM {op:Int} {n:Nat} (h:(0<=zq op/\(n:Int)=zq op)\/(zq op=-2/\2<=n/\n<=33)):yL op n=true:=by
 unfold yL
 split
 . exact zpw (by omega)
 exact zpw (by omega)
theorem jD (op:Int):zq op=0\/zq op=1\/zq op=2\/zq op=3\/zq op=-2\/zq op=-1:=by
 unfold zq;(repeat' split);all_goals omega
theorem zcc {n:Int} (h:0<=n/\n<vs.length) {v:Vr} (hv:vs[n.toNat]?=some v):qB vs inp 24 n=!(inp&&decide (v.kind=0)):=by
 unfold qB zad
 rw[zpv rfl,zpw h,hv,zqc]
theorem zcd {n:Int} (h:¬ (0<=n/\n<vs.length)):qB vs inp 24 n=false:=by
 unfold qB
 rw[zpv rfl,zpx h];rfl
theorem jX {op n:Int} (h:op ≠ 24):qB vs inp op n=decide (op=0\/n=0):=by
 unfold qB
 rw[zpu h]
end
theorem zdC (vs:List Vr) (inp:Bool) (vv:Value) (Dv:Nat->Prop) (t:Tm):∀ (cs:List Value) (D:Nat->Prop) (w:World),SlR 5 RVr Dv w vv vs->RTm D w t cs->Calls Tryz.prog 110 #[vv,.agg cs.toArray,.bool inp] w (Ret fun r w'=>r=.bool (zu vs inp t)/\Ext w w'):=by
 induction t using znv with
 | h t ih =>
 intro cs D w da ht
 obtain⟨v,rfl,hk⟩:=ht.get
 have dW:=hk.max
 obtain⟨ao,cap,rfl⟩:=hk.form
 obtain⟨av,nv,rfl⟩:=da.form
 have df:=yW (vs:=vs) (inp:=inp) t
 have dX:=jD t.op
 have hE:=Keep.refl (fun _=>False) w
 refine znm Tryz.func110 O Tryz.ntmps110 O (Gs 2 O (zmr O O (M.box O O) ?_))
 rintro _ dY ⟨b,rfl,dw,dH,hY,dx⟩
 have dD:_<=b:=zpq hE.size (zrS dw.symm)
 obtain⟨hE,da,hk⟩:=Tr3 dx hE da hk
 refine Gs 6 O (zne O tg67 (hY.cells 0 _ O) (G.call O Tryz.call150 (zfU t.op _) ?_))
 rintro _ wz1 ⟨rfl,dI⟩
 obtain⟨hE,da,hk,hY⟩:=Tr4 dI hE da hk hY
 refine Gs 5 O (zlQ (σ:=Bool) (fun q=>[(0,.slice av vs.length nv),(2,.bool inp),(4,.pointer (some ⟨b,0,none⟩)),(40,.bool q)]) (fun q=>fun w'=>q=(!yL t.op t.kids.length)/\w'=wz1) ?_ ?_)
 .
  refine Gs 4 O (G.sp 14 O (fun h1=>?_) (fun h1=>?_))
  . refine Gs 27 O (zlS (true) (Sub.cons O (Sub.cons O (Sub.cons O (Sub.cons (by first | rfl | (show some (Value.bool true)=some (Value.bool _);simp[*])) Sub.nil)))) (⟨by rw[yo (.inl h1)];rfl,rfl⟩))
  refine Gs 3 O (G.sp 17 O (fun h2=>?_) (fun h2=>?_))
  .
   refine Gs 1 O (zne O tg68 (hY.cells 2 _ O) (Gs 6 O (G.sp 25 O (fun h3=>?_) (fun h3=>?_))))
   . refine Gs 16 O (zlS (true) (Sub.cons O (Sub.cons O (Sub.cons O (Sub.cons (by first | rfl | (show some (Value.bool true)=some (Value.bool _);simp[*])) Sub.nil)))) (⟨by rw[yo (.inr (.inl ⟨by omega,h3⟩))];rfl,rfl⟩))
   refine Gs 3 O (G.sp 28 O (fun h4=>?_) (fun h4=>?_))
   . exact absurd h4 (by omega)
   refine Gs 13 O (zlS (false) (Sub.cons O (Sub.cons O (Sub.cons O (Sub.cons (by first | rfl | (show some (Value.bool false)=some (Value.bool _);simp[*])) Sub.nil)))) (⟨by rw[qM (.inl ⟨by omega,by omega⟩)];rfl,rfl⟩))
  refine Gs 11 O (G.sp 28 O (fun h4=>?_) (fun h4=>?_))
  .
   refine Gs 1 O (zne O tg68 (hY.cells 2 _ O) (Gs 3 O (G.sp 33 O (fun h5=>?_) (fun h5=>?_))))
   . refine Gs 8 O (zlS (true) (Sub.cons O (Sub.cons O (Sub.cons O (Sub.cons (by first | rfl | (show some (Value.bool true)=some (Value.bool _);simp[*])) Sub.nil)))) (⟨by rw[yo (.inr (.inr ⟨h4,by omega⟩))];rfl,rfl⟩))
   refine Gs 1 O (zne O tg68 (hY.cells 2 _ O) (Gs 6 O (zlS (decide ((33:Int)<(t.kids.length:Int))) (Sub.of O) (⟨?_,rfl⟩))))
   by_cases h6:(33:Int)<(t.kids.length:Int)
   . rw[yo (.inr (.inr ⟨h4,by omega⟩)),zpw h6];rfl
   rw[qM (.inr ⟨h4,by omega,by omega⟩),zpx h6];rfl
  exact absurd h4 (by omega)
 rintro q w2 ⟨hq,dJ⟩
 subst dJ
 refine Gs 1 O (G.bool O (fun dy=>?_) (fun dy=>?_))
 .
  have hf:yL t.op t.kids.length=false:=by rw[dy]at hq;simpa using hq.symm
  refine Gs 7 O (zlV tr110 O ⟨_,rfl,by rw[df,hf];rfl,hE⟩)
 have hf:yL t.op t.kids.length=true:=by rw[dy]at hq;simpa using hq.symm
 rw[hf,zqc]at df
 refine Gs 6 O (zne O tg67 (hY.cells 0 _ O) (Gs 3 O (zlQ (σ:=Unit) (fun u=>[(0,.slice av vs.length nv),(2,.bool inp),(4,.pointer (some ⟨b,0,none⟩))]) (fun u=>fun w'=>qB vs inp t.op t.n=true/\w'=w2) ?_ ?_)))
 .
  refine zlF O (fun dh=>?_) (fun dh=>?_)
  .
   have dE:¬ (0<=t.n/\t.n<vs.length)->zu vs inp t=false:=fun h=>by rw[df,dh,zcd h];rfl
   refine Gs 3 O (zne O tg3 (hY.cells 1 _ O) (Gs 2 O (G.sp 47 O (fun n0=>?_) (fun n0=>?_))))
   . refine Gs 29 O (zlV tr110 O ⟨_,rfl,by rw[dE (by omega)],hE⟩)
   refine Gs 1 O (zne O tg3 (hY.cells 1 _ O) (Gs 5 O (G.sp 54 O (fun n1=>?_) (fun n1=>?_))))
   . refine Gs 22 O (zlV tr110 O ⟨_,rfl,by rw[dE (by omega)],hE⟩)
   obtain⟨x,di,dK⟩:=gE_ vs (t.n.toNat) (by omega)
   obtain⟨dL,dZ,d5,dz,_,dk,dl⟩:=da.at di
   have dM:=RVr.one dl
   obtain rfl:=dl
   have dF:dL<_:=zpm _ _ (dk 0 _ rfl)
   have db:=zcc (vs:=vs) (inp:=inp) (n:=t.n) ⟨by omega,by omega⟩ di
   refine Gs 2 O (zn8 56 O (fun hi=>?_) (fun hi=>?_))
   .
    refine Gs 2 O (zne O tg3 (hY.cells 1 _ O) (zna O O (zmh tR22 ts142 O O dz (by omega)) (Gs 1 O (zne O tg100 (dk 1 _ O) (Gs 5 O (zlF O (fun dA=>?_) (fun dA=>?_)))))))
    . refine Gs 8 O (zlV tr110 O ⟨_,rfl,by rw[df,dh,db,hi,zpw dA];rfl,hE⟩)
    refine Gs 1 O (zlS (()) (Sub.of O) (⟨by rw[dh,db,hi,zpx dA];rfl,rfl⟩))
   refine Gs 13 O (zlS (()) (Sub.of O) (⟨by rw[dh,db,hi];rfl,rfl⟩))
  have db:=jX (vs:=vs) (inp:=inp) (n:=t.n) dh
  refine Gs 3 O (zne O tg67 (hY.cells 0 _ O) (Gs 2 O (G.sp 69 O (fun o0=>?_) (fun o0=>?_))))
  .
   refine Gs 1 O (zne O tg3 (hY.cells 1 _ O) (Gs 4 O (zlF O (fun n0=>?_) (fun n0=>?_))))
   . refine Gs 8 O (zlV tr110 O ⟨_,rfl,by rw[df,db,zpx (by omega)];rfl,hE⟩)
   refine Gs 1 O (zlS (()) (Sub.of O) (⟨by rw[db,zpw (by omega)],rfl⟩))
  refine Gs 8 O (zlS (()) (Sub.of O) (⟨by rw[db,zpw (by omega)],rfl⟩))
 rintro u w3 ⟨db,dN⟩
 subst dN
 rw[db,zqc]at df
 refine Gs 8 O (G.loop (σ:=Nat) (fun i=>[(0,.slice av vs.length nv),(2,.bool inp),(4,.pointer (some ⟨b,0,none⟩)),(8,.int .i64 i)]) (fun i=>fun w'=>i<=t.kids.length/\formedL vs inp (t.kids.take i)=true/\Ext w3 w') (fun i=>t.kids.length - i) (0) (Sub.of O) (⟨zpz _,by simp[formedL],Keep.refl _ _⟩) ?_)
 rintro i w4 ⟨hi,dg,du⟩
 obtain⟨hE,da,hk,hY⟩:=Tr4 du hE da hk hY
 refine Gs 5 O (zne O tg68 (hY.cells 2 _ O) (Gs 4 O (zlF O (fun dO=>?_) (fun dO=>?_))))
 .
  obtain⟨k,dm,dr⟩:=gE_ t.kids (i) (by omega)
  obtain⟨dQ,d6,d7,dB,_,dc,dt⟩:=hk.at dm
  have dR:=RTm.one dt
  obtain⟨dS,rfl,de⟩:=dt.get
  obtain⟨dT,dU,rfl⟩:=de.form
  have dG:dQ<_:=zpm _ _ (dc 0 _ rfl)
  refine Gs 8 O (zne O tg68 (hY.cells 2 _ O) (Gs 1 O (zna O O (zmh tR68 ts70 O O dB (by omega)) (zng O tg70 ts70 dc O (Gs 1 O (G.call O Tryz.call110 (ih k dr _ D _ da (RTm.put de)) ?_))))))
  rintro _ wz2 ⟨rfl,dV⟩
  obtain⟨hE,da,hk,hY,du,dc,de⟩:=Tr7 dV hE da hk hY du dc de
  refine zna O O (zmT O (by first | exact za | rfl)) (Gs 2 O (G.bool O (fun hb=>?_) (fun hb=>?_)))
  .
   have dC:zu vs inp k=false:=by simpa using hb
   refine Gs 11 O (zlV tr110 O ⟨_,rfl,by rw[df,zbs dr dC],hE⟩)
  have dC:zu vs inp k=true:=by simpa using hb
  refine Ga 8 O (by omega) (G.back (i+1) (Sub.of O) (⟨by omega,by rw[zax dm,dg,dC];rfl,du⟩) (by first | omega | (dsimp only;omega)))
 have:i=t.kids.length:=by omega
 subst this
 rw[zpp]at dg
 refine Gs 11 O (zlV tr110 O ⟨_,rfl,by rw[df,dg],hE⟩)
theorem kK (vs:List Vr) (inp:Bool) (vv:Value) (Dv:Nat->Prop) (t:Tm):∀ (cs:List Value) (D:Nat->Prop) (w:World),SlR 5 RVr Dv w vv vs->RTm D w t cs->Calls Tryz.prog 87 #[vv,.agg cs.toArray,.bool inp] w (Ret fun r w'=>r=.bool (zu vs inp t)/\Ext w w'):=by
 induction t using znv with
 | h t ih =>
 intro cs D w da ht
 have dT:=ht.one
 obtain⟨v,rfl,hk⟩:=ht.get
 have ec:=hk.max
 obtain⟨ao,cap,rfl⟩:=hk.form
 obtain⟨av,nv,rfl⟩:=da.form
 have dg:=yW (vs:=vs) (inp:=inp) t
 have ed:=jD t.op
 have hE:=Keep.refl (fun _=>False) w
 refine znm Tryz.func87 O Tryz.ntmps87 O (Gs 2 O (zmr O O (M.box O O) ?_))
 rintro _ ee ⟨b,rfl,dz,dU,hY,dA⟩
 have dJ:_<=b:=zpq hE.size (zrS dz.symm)
 obtain⟨hE,da,hk⟩:=Tr3 dA hE da hk
 refine Gs 6 O (zne O tg67 (hY.cells 0 _ O) (G.call O Tryz.call128 (zeD t.op _) ?_))
 rintro _ wz1 ⟨⟨la,mo,rfl,dK,dL,dM⟩,dV⟩
 obtain⟨hE,da,hk,hY⟩:=Tr4 dV hE da hk hY
 refine Gs 9 O (zlQ (σ:=Bool) (fun q=>[(0,.slice av vs.length nv),(2,.bool inp),(4,.pointer (some ⟨b,0,none⟩)),(32,.bool q)]) (fun q=>fun w'=>q=(!yL t.op t.kids.length)/\w'=wz1) ?_ ?_)
 .
  refine Gs 4 O (G.sp 19 O (fun h1=>?_) (fun h1=>?_))
  . refine Gs 14 O (zlS (true) (Sub.cons O (Sub.cons O (Sub.cons O (Sub.cons (by first | rfl | (show some (Value.bool true)=some (Value.bool _);simp[*])) Sub.nil)))) (⟨by rw[yo (.inl (dK.1 h1))];rfl,rfl⟩))
  have ef:zq t.op ≠ -1:=fun h=>h1 (dK.2 h)
  refine Gs 1 O (zne O tg68 (hY.cells 2 _ O) (Gs 5 O (G.sp 26 O (fun h2=>?_) (fun h2=>?_))))
  .
   refine Gs 7 O (zlS (true) (Sub.cons O (Sub.cons O (Sub.cons O (Sub.cons (by first | rfl | (show some (Value.bool true)=some (Value.bool _);simp[*])) Sub.nil)))) (⟨?_,rfl⟩))
   rcases (show 0<=zq t.op\/zq t.op=-2 by omega) with h | h
   .
    have:=dL h
    rw[yo (.inr (.inl ⟨h,by omega⟩))];rfl
   have:=dM h
   rw[yo (.inr (.inr ⟨h,by omega⟩))];rfl
  refine Gs 1 O (zne O tg68 (hY.cells 2 _ O) (Gs 5 O (zlS (decide (mo<(t.kids.length:Int))) (Sub.of O) (⟨?_,rfl⟩))))
  rcases (show 0<=zq t.op\/zq t.op=-2 by omega) with h | h
  .
   have:=dL h
   by_cases h3:mo<(t.kids.length:Int)
   . rw[yo (.inr (.inl ⟨h,by omega⟩)),zpw h3];rfl
   rw[qM (.inl ⟨h,by omega⟩),zpx h3];rfl
  have:=dM h
  by_cases h3:mo<(t.kids.length:Int)
  . rw[yo (.inr (.inr ⟨h,by omega⟩)),zpw h3];rfl
  rw[qM (.inr ⟨h,by omega,by omega⟩),zpx h3];rfl
 rintro q w2 ⟨hq,dW⟩
 subst dW
 refine Gs 1 O (G.bool O (fun dB=>?_) (fun dB=>?_))
 .
  have hf:yL t.op t.kids.length=false:=by rw[dB]at hq;simpa using hq.symm
  refine Gs 7 O (zlV tr87 O ⟨_,rfl,by rw[dg,hf];rfl,hE⟩)
 have hf:yL t.op t.kids.length=true:=by rw[dB]at hq;simpa using hq.symm
 rw[hf,zqc]at dg
 refine Gs 6 O (zne O tg67 (hY.cells 0 _ O) (Gs 2 O (zlQ (σ:=Unit) (fun u=>[(0,.slice av vs.length nv),(2,.bool inp),(4,.pointer (some ⟨b,0,none⟩))]) (fun u=>fun w'=>qB vs inp t.op t.n=true/\w'=w2) ?_ ?_)))
 .
  refine Gs 7 O (zlF O (fun h0=>?_) (fun h0=>?_))
  .
   have df:=jX (vs:=vs) (inp:=inp) (n:=t.n) (show t.op ≠ 24 by omega)
   refine Gs 2 O (zlS (()) (Sub.of O) (⟨by rw[df,zpw (by omega)],rfl⟩))
  refine Gs 6 O (zlF O (fun dk=>?_) (fun dk=>?_))
  .
   have dN:¬ (0<=t.n/\t.n<vs.length)->zu vs inp t=false:=fun h=>by rw[dg,dk,zcd h];rfl
   refine Gs 3 O (zne O tg3 (hY.cells 1 _ O) (Gs 2 O (G.sp 45 O (fun n0=>?_) (fun n0=>?_))))
   . refine Gs 30 O (zlV tr87 O ⟨_,rfl,by rw[dN (by omega)],hE⟩)
   refine Gs 1 O (zne O tg3 (hY.cells 1 _ O) (Gs 5 O (G.sp 52 O (fun n1=>?_) (fun n1=>?_))))
   . refine Gs 23 O (zlV tr87 O ⟨_,rfl,by rw[dN (by omega)],hE⟩)
   obtain⟨x,dm,dX⟩:=gE_ vs (t.n.toNat) (by omega)
   obtain⟨dY,eg,eh,dC,_,dr,dt⟩:=da.at dm
   have dZ:=RVr.one dt
   obtain rfl:=dt
   have dO:dY<_:=zpm _ _ (dr 0 _ rfl)
   have df:=zcc (vs:=vs) (inp:=inp) (n:=t.n) ⟨by omega,by omega⟩ dm
   refine Gs 2 O (zn8 54 O (fun hi=>?_) (fun hi=>?_))
   .
    refine Gs 2 O (zne O tg3 (hY.cells 1 _ O) (zna O O (zmh tR22 ts142 O O dC (by omega)) (Gs 1 O (zne O tg100 (dr 1 _ O) (Gs 5 O (zlF O (fun dD=>?_) (fun dD=>?_)))))))
    . refine Gs 9 O (zlV tr87 O ⟨_,rfl,by rw[dg,dk,df,hi,zpw dD];rfl,hE⟩)
    refine Gs 2 O (zlS (()) (Sub.of O) (⟨by rw[dk,df,hi,zpx dD];rfl,rfl⟩))
   refine Gs 14 O (zlS (()) (Sub.of O) (⟨by rw[dk,df,hi];rfl,rfl⟩))
  have df:=jX (vs:=vs) (inp:=inp) (n:=t.n) dk
  refine Gs 3 O (zne O tg3 (hY.cells 1 _ O) (Gs 3 O (zlF O (fun n0=>?_) (fun n0=>?_))))
  . refine Gs 9 O (zlV tr87 O ⟨_,rfl,by rw[dg,df,zpx (by omega)];rfl,hE⟩)
  refine Gs 2 O (zlS (()) (Sub.of O) (⟨by rw[df,zpw (by omega)],rfl⟩))
 rintro u w3 ⟨df,d5⟩
 subst d5
 rw[df,zqc]at dg
 refine Gs 5 O (zne O tg68 (hY.cells 2 _ O) (Gs 5 O (G.loop (σ:=Nat) (fun i=>[(0,.slice av vs.length nv),(2,.bool inp),(65,.slice ao t.kids.length cap),(66,.int .i64 t.kids.length),(67,.int .i64 i)]) (fun i=>fun w'=>i<=t.kids.length/\formedL vs inp (t.kids.take i)=true/\Ext w3 w') (fun i=>t.kids.length - i) (0) (Sub.of O) (⟨zpz _,by simp[formedL],Keep.refl _ _⟩) ?_)))
 rintro i w4 ⟨hi,dh,dl⟩
 obtain⟨hE,da,hk,hY⟩:=Tr4 dl hE da hk hY
 refine Gs 6 O (zlF O (fun d6=>?_) (fun d6=>?_))
 .
  obtain⟨k,du,dw⟩:=gE_ t.kids (i) (by omega)
  obtain⟨d7,ei,ej,dE,_,db,dx⟩:=hk.at du
  have dF:=RTm.one dx
  obtain⟨d8,rfl,dc⟩:=dx.get
  obtain⟨d9,ea,rfl⟩:=dc.form
  have dQ:d7<_:=zpm _ _ (db 0 _ rfl)
  refine Gs 6 O (zna O O (zmh tR68 ts70 O O dE (by omega)) (zng O tg70 ts70 db O (zmr O O (M.alloc (cs:=_) tz70 O) ?_)))
  rintro _ wa2 ⟨c,rfl,dG,eb,de,di⟩
  refine zmw O (zmx ts70 O O O O dF de (by simp)) ?_
  rintro ek ⟨_,de,dy⟩
  replace di:=di.trans dy (fun q hq h=>by have h:q=c:=h;omega)
  have dH:b ≠ c:=by have:=hY.lt;omega
  have dR:_<=c:=zpq hE.size (zrS dG.symm)
  obtain⟨hE,da,hk,hY,dl,db,dc⟩:=Tr7 di hE da hk hY dl db dc
  refine Gs 5 O (zng O tg70 ts70 de.cells O (Gs 1 O (G.call O Tryz.call87 (ih k dw _ D _ da (RTm.put dc)) ?_)))
  rintro _ wz3 ⟨rfl,dS⟩
  obtain⟨hE,da,hk,hY,dl,db,dc⟩:=Tr7 dS hE da hk hY dl db dc
  replace de:=Tr1 dS de
  refine zna O O (zmT O (by first | exact za | rfl)) (Gs 2 O (G.bool O (fun hb=>?_) (fun hb=>?_)))
  .
   have dI:zu vs inp k=false:=by simpa using hb
   refine Gs 11 O (zlV tr87 O ⟨_,rfl,by rw[dg,zbs dw dI],hE⟩)
  have dI:zu vs inp k=true:=by simpa using hb
  refine Ga 7 O (by omega) (G.back (i+1) (Sub.of O) (⟨by omega,by rw[zax du,dh,dI];rfl,dl⟩) (by first | omega | (dsimp only;omega)))
 have:i=t.kids.length:=by omega
 subst this
 rw[zpp]at dh
 refine Gs 11 O (zlV tr87 O ⟨_,rfl,by rw[dg,dh],hE⟩)
open Go.GL
abbrev Rg:=Int × Int
def okR (r:Rg):Bool:=decide (-1048576<=r.1/\r.2<=1048576)
def yr (r:Rg):Prop := -1048576<=r.1/\r.1<=r.2/\r.2<=1048576
def yY (x:Rg) (l:List Rg):Rg:=l.foldl (fun o r=>(min o.1 r.1,max o.2 r.2)) x
def xR (a b:Rg):Rg:=yY (a.1*b.1,a.1*b.1) [(a.1*b.2,a.1*b.2),(a.2*b.1,a.2*b.1),(a.2*b.2,a.2*b.2)]
theorem zae {x:Rg} {l:List Rg} {i:Nat} {r:Rg} (h:l[i]?=some r):yY x (l.take (i+1))=(min (yY x (l.take i)).1 r.1,max (yY x (l.take i)).2 r.2):=by
 rw[ze h];simp[yY]
theorem zay {x y:Int} (hx:-1048576<=x/\x<=1048576) (hy:-1048576<=y/\y<=1048576):-1099511627776<=x*y/\x*y<=1099511627776:=by
 have h1:=Int.natAbs_mul x y
 have h2:x.natAbs*y.natAbs<=1048576*1048576:=zrW (by omega) (by omega)
 omega
theorem zgN (a b:Rg) (w:World):Calls Tryz.prog 169 #[.agg #[.int .i64 a.1,.int .i64 a.2],.agg #[.int .i64 b.1,.int .i64 b.2]] w (Ret fun r w'=>r=.agg #[.int .i64 (min a.1 b.1),.int .i64 (max a.2 b.2)]/\Ext w w'):=by
 have hE:=Keep.refl (fun _=>False) w
 refine znl Tryz.func169 O Tryz.ntmps169 O (Gs 2 O (zmr O O (M.box O O) ?_))
 rintro _ dB ⟨x,rfl,db,dw,hY,dc⟩
 have dr:_<=x:=zpq hE.size (zrS db.symm)
 replace hE:=Tr1 dc hE
 refine zmr O O (M.box O O) ?_
 rintro _ dC ⟨y,rfl,de,dx,da,df⟩
 have dg:x ≠ y:=by have:=hY.lt;omega
 have dt:_<=y:=zpq hE.size (zrS de.symm)
 obtain⟨hE,hY⟩:=Tr2 df hE hY
 refine zmr O O (M.alloc (cs:=_) tz159 O) ?_
 rintro _ dD ⟨r,rfl,dh,dy,di,dk⟩
 have dl:x ≠ r:=by have:=hY.lt;omega
 have dm:y ≠ r:=by have:=da.lt;omega
 have du:_<=r:=zpq hE.size (zrS dh.symm)
 obtain⟨hE,hY,da⟩:=Tr3 dk hE hY da
 refine Gs 5 O (zne O tg3 (hY.cells 0 _ O) (Gs 1 O (zne O tg3 (da.cells 0 _ O) (Gs 2 O (zne O tg3 (hY.cells 1 _ O) (Gs 1 O (zne O tg3 (da.cells 1 _ O) (Gs 1 O (zna O O (R.build (v:=.agg #[.int .i64 (min a.1 b.1),.int .i64 (max a.2 b.2)]) [(0,_),(1,_)] O (fun _=>by kernel_rfl)) (zmw O (zmx ts159 O O O O (by simp[Value.oneCell']) di (by simp)) ?_))))))))))
 rintro wf ⟨_,dz,dA⟩
 refine Gs 3 O (zm3 Tryz.results169 O (zn tg159 ts159 O dz.cells) ?_)
 exact⟨_,rfl,rfl,hE.trans dA (fun q hq h=>by have h:q=r:=h;omega)⟩
theorem zcN (a b:Int) (w:World) (ha:-1048576<=a/\a<=1048576) (hb:-1048576<=b/\b<=1048576):Calls Tryz.prog 168 #[.int .i64 a,.int .i64 b] w (Ret fun r w'=>r=.int .i64 (a*b)/\Ext w w'):=by
 have:=zay ha hb
 refine znl Tryz.func168 O Tryz.ntmps168 O (Ga 14 O (by omega) (zlV Tryz.results168 O ⟨_,rfl,rfl,Keep.refl _ _⟩))
theorem zfV (a b:Rg) (w:World) (ha:yr a) (hb:yr b):Calls Tryz.prog 167 #[.agg #[.int .i64 a.1,.int .i64 a.2],.agg #[.int .i64 b.1,.int .i64 b.2],.func (.func 168) #[] #[]] w (Ret fun r w'=>r=.agg #[.int .i64 (xR a b).1,.int .i64 (xR a b).2]/\Ext w w'):=by
 unfold yr at ha hb
 have hE:=Keep.refl (fun _=>False) w
 refine znm Tryz.func167 O Tryz.ntmps167 O (Gs 2 O (zmr O O (M.box O O) ?_))
 rintro _ ea ⟨x,rfl,dk,dM,hY,dl⟩
 have dG:_<=x:=zpq hE.size (zrS dk.symm)
 replace hE:=Tr1 dl hE
 refine zmr O O (M.box O O) ?_
 rintro _ eb ⟨y,rfl,dm,dN,da,dr⟩
 have dt:x ≠ y:=by have:=hY.lt;omega
 have dH:_<=y:=zpq hE.size (zrS dm.symm)
 obtain⟨hE,hY⟩:=Tr2 dr hE hY
 refine zmr O O (M.alloc (cs:=_) tz159 O) ?_
 rintro _ ec ⟨r,rfl,du,dO,dc,dw⟩
 have dx:x ≠ r:=by have:=hY.lt;omega
 have dy:y ≠ r:=by have:=da.lt;omega
 have dI:_<=r:=zpq hE.size (zrS du.symm)
 obtain⟨hE,hY,da⟩:=Tr3 dw hE hY da
 refine Gs 6 O (zne O tg3 (hY.cells 0 _ O) (Gs 1 O (zne O tg3 (da.cells 0 _ O) (zmo O Tryz.call168 (zcN a.1 b.1 _ (by omega) (by omega)) ?_))))
 rintro _ wz1 ⟨rfl,dQ⟩
 obtain⟨hE,hY,da,dc⟩:=Tr4 dQ hE hY da dc
 refine Gs 7 O (zna O O (R.build (v:=.agg #[.int .i64 (a.1*b.1),.int .i64 (a.1*b.1)]) [(0,_),(1,_)] O (fun _=>by kernel_rfl)) (zmr O O (M.alloc (cs:=_) tz159 O) ?_))
 rintro _ wa2 ⟨o,rfl,dz,dR,db,df⟩
 refine zmw O (zmx ts159 O O O O (by simp[Value.oneCell']) db (by simp)) ?_
 rintro dS ⟨_,db,dh⟩
 replace df:=df.trans dh (fun q hq h=>by have h:q=o:=h;omega)
 have dA:x ≠ o:=by have:=hY.lt;omega
 have dB:y ≠ o:=by have:=da.lt;omega
 have dg:r ≠ o:=by have:=dc.lt;omega
 have dJ:_<=o:=zpq hE.size (zrS dz.symm)
 obtain⟨hE,hY,da,dc⟩:=Tr4 df hE hY da dc
 refine Gs 4 O (Dw (fun q=>Ext dS q) [] (fun wd3 hD _=>?_))
 refine Ds [0,1] (by kernel_rfl) O (WD.take 2 O (by kernel_rfl) O O O hD (fun w1 de=>R.load tg3 O ((de.blk hY (fun h=>h)).cells 0 _ O)) (Ds [3] (by kernel_rfl) O (WD.take 4 O (by kernel_rfl) O O O hD (fun w1 de=>R.load tg3 O ((de.blk da (fun h=>h)).cells 1 _ O)) (Ds [6,7] (by kernel_rfl) O (WD.take 8 O (by kernel_rfl) O O O hD (fun w1 de=>R.load tg3 O ((de.blk hY (fun h=>h)).cells 1 _ O)) (Ds [9] (by kernel_rfl) O (WD.take 10 O (by kernel_rfl) O O O hD (fun w1 de=>R.load tg3 O ((de.blk da (fun h=>h)).cells 0 _ O)) ?_)))))))
 refine Ds [12,13] (by kernel_rfl) O (WD.take 14 O (by kernel_rfl) O O O hD (fun w1 de=>R.load tg3 O ((de.blk hY (fun h=>h)).cells 1 _ O)) (Ds [15] (by kernel_rfl) O (WD.take 16 O (by kernel_rfl) O O O hD (fun w1 de=>R.load tg3 O ((de.blk da (fun h=>h)).cells 1 _ O)) (Ds [20] (by kernel_rfl) O (WD.call 5 O (by kernel_rfl) O O O (zmn (vs:=[_,_]) Tryz.call168 O O) (zcN a.1 b.2 _ (by omega) (by omega)) ?_)))))
 rintro _ wz4 ⟨rfl,dT⟩
 replace hD:=hD.ext dT
 refine⟨fun _=>hD,?_⟩
 refine WD.call 11 O (by kernel_rfl) O O O (zmn (vs:=[_,_]) Tryz.call168 O O) (zcN a.2 b.1 _ (by omega) (by omega)) ?_
 rintro _ wz5 ⟨rfl,dU⟩
 replace hD:=hD.ext dU
 refine⟨fun _=>hD,?_⟩
 refine WD.call 17 O (by kernel_rfl) O O O (zmn (vs:=[_,_]) Tryz.call168 O O) (zcN a.2 b.2 _ (by omega) (by omega)) ?_
 rintro _ wz6 ⟨rfl,dV⟩
 replace hD:=hD.ext dV
 refine⟨fun _=>hD,?_⟩
 refine zmq 18 O (by kernel_rfl) O O O (M.buildSlice (cs:=[.int .i64 (a.1*b.2),.int .i64 (a.2*b.1),.int .i64 (a.2*b.2)]) [(0,_),(1,_),(2,_)] tR27 ts3 tz3 (by decide) O (by kernel_rfl)) ?_
 rintro _ ws ⟨s,rfl,dW,dX,dC,dD⟩
 have dK:=hD.ext dD
 have dY:s ≠ o:=by have:=db.lt;have:=hD.size;omega
 refine⟨fun _=>dK,?_⟩
 refine Ds [19] (by kernel_rfl) O (G.done (by kernel_rfl) ?_ _)
 obtain⟨hE,hY,da,dc,db⟩:=Tr5 dK hE hY da dc db
 obtain⟨es,dE⟩:∃ es:List Int,es=[a.1*b.2,a.2*b.1,a.2*b.2]:=⟨_,rfl⟩
 have ed:es.length=3:=by rw[dE];rfl
 have dZ:Blk ws s (es.map (.int .i64)) 3:=by rw[dE];exact dC
 have hp:=zay (x:=a.1) (y:=b.1) (by omega) (by omega)
 refine Gs 2 O (G.loop (σ:=Nat) (fun k=>[(6,.pointer (some ⟨r,0,none⟩)),(8,.pointer (some ⟨o,0,none⟩)),(38,.slice (some ⟨s,0,none⟩) 3 3),(39,.int .i64 3),(40,.int .i64 k)]) (fun k=>fun w'=>k<=3/\Blk w' o [.int .i64 (yY (a.1*b.1,a.1*b.1) ((es.map (fun x=>(x,x))).take k)).1,.int .i64 (yY (a.1*b.1,a.1*b.1) ((es.map (fun x=>(x,x))).take k)).2] 159/\Keep (fun q=>q=o) ws w') (fun k=>3 - k) (0) (Sub.of O) (⟨zpz _,db,Keep.refl _ _⟩) ?_)
 rintro k w1 ⟨hk,db,di⟩
 refine Gs 6 O (zlF O (fun d5=>?_) (fun d5=>?_))
 .
  obtain⟨x,hx⟩:∃ x,es[k]?=some x:=⟨_,zpk (by omega)⟩
  refine Ga 7 O (by omega) (zne O tg3 ((di.blk dZ dY).cells.el1 k O (by rw[zpB,hx];rfl)) ?_)
  refine Gs 4 O (zng O tg159 ts159 db.cells O (Gs 2 O (zna O O (R.build (v:=.agg #[.int .i64 x,.int .i64 x]) [(0,_),(1,_)] O (fun _=>by kernel_rfl)) (G.call O Tryz.call169 (zgN (yY (a.1*b.1,a.1*b.1) ((es.map (fun x=>(x,x))).take k)) (x,x) w1) ?_))))
  rintro _ w2 ⟨rfl,dL⟩
  refine zmw O (zmx ts159 O O O O (by simp[Value.oneCell']) (dL.blk db (fun h=>h)) (by simp)) ?_
  rintro w3 ⟨_,d6,dF⟩
  refine Ga 7 O (by omega) (G.back (k+1) (Sub.of O) (⟨by omega,?_,(di.ext dL).trans dF (fun _ _ h=>h)⟩) (by first | omega | (dsimp only;omega)))
  rw[zae (show (es.map (fun x=>(x,x)))[k]?=some (x,x) by rw[zpB,hx];rfl)]
  exact d6
 have dF:k=3:=by omega
 subst dF
 have d7:=di.blk dc dg
 have e:yY (a.1*b.1,a.1*b.1) ((es.map (fun x=>(x,x))).take 3)=xR a b:=by rw[dE];rfl
 rw[e]at db
 refine Gs 7 O (zng O tg159 ts159 db.cells O (zmw O (zmx ts159 O O O O (by simp[Value.oneCell']) d7 (by simp)) ?_))
 rintro wf ⟨_,d8,d9⟩
 refine Gs 3 O (zm3 Tryz.results167 O (zn tg159 ts159 O d8.cells) ?_)
 exact⟨_,rfl,rfl,(hE.trans di (fun q hq h=>by have h:q=o:=h;omega)).trans d9 (fun q hq h=>by have h:q=r:=h;omega)⟩
def at2 (l:List Rg) (i:Nat):Rg:=l[i]?.getD (0,0)
theorem zS {l:List Rg} {i:Nat} {x:Rg} (h:l[i]?=some x):at2 l i=x:=by simp[at2,h]
def vat (vs:List Vr) (n:Int):Rg:=match vs[n.toNat]? with
 | some v=>(v.low,v.high)
 | none=>(0,0)
theorem zgO {vs:List Vr} {n:Int} {v:Vr} (h:vs[n.toNat]?=some v):vat vs n=(v.low,v.high):=by simp[vat,h]
def zi (vs:List Vr) (op n:Int) (l:List Rg):Rg :=
 if op=0 then (n,n)
 else if op=24 then vat vs n
 else if op=6 then (-(at2 l 0).2,-(at2 l 0).1)
 else if op=8 then ((at2 l 0).1+(at2 l 1).1,(at2 l 0).2+(at2 l 1).2)
 else if op=9 then ((at2 l 0).1 - (at2 l 1).2,(at2 l 0).2 - (at2 l 1).1)
 else if op=10 then xR (at2 l 0) (at2 l 1)
 else if op=11 then (if 0<=(at2 l 0).1/\0<=(at2 l 1).1 then 0 else -(max (at2 l 0).2 (-(at2 l 0).1)),max (at2 l 0).2 (-(at2 l 0).1))
 else if op=12 then (if (at2 l 1).1<0 then min ((at2 l 1).1+1) 0 else 0,if 0<(at2 l 1).2 then max ((at2 l 1).2 - 1) 0 else 0)
 else if op=21 then (min (at2 l 0).1 (at2 l 1).1,min (at2 l 0).2 (at2 l 1).2)
 else if op=22 then (max (at2 l 0).1 (at2 l 1).1,max (at2 l 0).2 (at2 l 1).2)
 else if op=23\/op=25 then yY (at2 l 1) (l.drop 2)
 else (0,1)
structure NodeOk (vs:List Vr) (op n:Int) (l:List Rg):Prop where
 k0:op=0\/op=24->l.length=0
 k1:op=6\/op=7->l.length=1
 k2:8<=op/\op<=22->l.length=2
 k3:op=23\/op=25->2<=l.length/\l.length<=33
 good:∀ r ∈ l,yr r
 var:op=24->0<=n/\n<vs.length
 vars:∀ v ∈ vs,yr (v.low,v.high)
theorem jl {vs:List Vr} {inp:Bool} {op n:Int} {l:List Rg} {k:Nat} (hl:l.length=k) (h1:yL op k=true) (h2:qB vs inp op n=true) (hg:∀ r ∈ l,yr r) (hv:∀ v ∈ vs,yr (v.low,v.high)):NodeOk vs op n l:=by
 have h3:(0<=zq op->(l.length:Int)=zq op)/\(¬ 0<=zq op->2<=l.length/\l.length<=33):=by
  unfold yL at h1
  rw[hl]
  constructor
  . intro h;rw[zpv h]at h1;exact of_decide_eq_true h1
  intro h;rw[zpu h]at h1;exact(of_decide_eq_true h1).2
 unfold zq at h3
 refine⟨fun h=>?_,fun h=>?_,fun h=>?_,fun h=>?_,hg,fun h=>?_,hv⟩
 . rw[zpv h]at h3;have:=h3.1 (by omega);omega
 . rw[zpu (by omega),zpv h]at h3;have:=h3.1 (by omega);omega
 . rw[zpu (by omega),zpu (by omega),zpv h]at h3;have:=h3.1 (by omega);omega
 .
  rcases h with h | h
  . rw[zpu (by omega),zpu (by omega),zpu (by omega),zpv h]at h3;have:=h3.1 (by omega);omega
  rw[zpu (by omega),zpu (by omega),zpu (by omega),zpu (by omega),zpv h]at h3;exact h3.2 (by omega)
 unfold qB at h2
 rw[zpv h,zpW]at h2
 exact of_decide_eq_true h2.1
theorem zk4 (vs:List Vr) (t:Tm) (ks:List Rg) (vv kv:Value) (cs:List Value) (Dv D Dk:Nat->Prop) (w:World) (dG:SlR 5 RVr Dv w vv vs) (ht:RTm D w t cs) (du:SlR 2 zb1 Dk w kv ks) (hn:NodeOk vs t.op t.n ks):Calls Tryz.prog 129 #[vv,.agg cs.toArray,kv] w (Ret fun r w'=>r=.agg #[.int .i64 (zi vs t.op t.n ks).1,.int .i64 (zi vs t.op t.n ks).2]/\Ext w w'):=by
 obtain⟨v,rfl,hk⟩:=ht.get
 obtain⟨av,nv,rfl⟩:=dG.form
 obtain⟨ak,nk,rfl⟩:=du.form
 have eP:=du.max
 have hE:=Keep.refl (fun _=>False) w
 refine znm Tryz.func129 O Tryz.ntmps129 O (Gs 2 O (zmr O O (M.box O O) ?_))
 rintro _ eQ ⟨b,rfl,eb,ew,dk,ec⟩
 have em:_<=b:=zpq hE.size (zrS eb.symm)
 obtain⟨hE,dG,du⟩:=Tr3 ec hE dG du
 refine zmr O O (M.alloc (cs:=_) tz159 O) ?_
 rintro _ dI ⟨r,rfl,ed,ey,db,ee⟩
 have ef:b ≠ r:=by have:=dk.lt;omega
 have en:_<=r:=zpq hE.size (zrS ed.symm)
 obtain⟨hE,dG,du,dk⟩:=Tr4 ee hE dG du dk
 refine Gs 6 O (zne O tg67 (dk.cells 0 _ O) (Gs 9 O (zlF O (fun h0=>?_) (fun h0=>?_))))
 .
  have e:zi vs t.op t.n ks=(t.n,t.n):=by rw[zi,zpv h0]
  refine Gs 3 O (zne O tg3 (dk.cells 1 _ O) (Gs 1 O (zne O tg3 (dk.cells 1 _ O) (zna O O (R.build (v:=.agg #[.int .i64 t.n,.int .i64 t.n]) [(0,_),(1,_)] O (fun _=>by kernel_rfl)) (zmw O (zmx ts159 O O O O (by simp[Value.oneCell']) db (by simp)) ?_)))))
  rintro wf ⟨_,dl,dm⟩
  refine Gs 5 O (zm3 tr129 O (zn tg159 ts159 O dl.cells) ?_)
  exact⟨_,rfl,by rw[e]<;>rfl,hE.trans dm (fun q hq h=>by have h:q=r:=h;omega)⟩
 refine Gs 6 O (zlF O (fun dF=>?_) (fun dF=>?_))
 .
  have hv:=hn.var dF
  obtain⟨x,df,dw⟩:=gE_ vs (t.n.toNat) (by omega)
  obtain⟨dE,dN,dO,dg,_,da,dr⟩:=dG.at df
  have ez:=RVr.one dr
  obtain rfl:=dr
  have dy:dE<_:=zpm _ _ (da 0 _ rfl)
  have e:zi vs t.op t.n ks=(x.low,x.high):=by rw[zi,zpu h0,zpv dF,zgO df]
  refine Gs 1 O (Dw (fun q=>Ext dI q) [13] (fun wd1 hD _=>?_))
  refine Ds [0,1] (by kernel_rfl) O (WD.take 2 O (by kernel_rfl) O O O hD (fun w1 dc=>R.load tg3 O ((dc.blk dk (fun h=>h)).cells 1 _ O)) (zmI 3 O (by kernel_rfl) O O O (fun w1=>zmh tR22 ts142 O O dg (by omega)) (Ds [4] (by kernel_rfl) O (WD.take 5 O (by kernel_rfl) O O O hD (fun w1 dc=>R.load tg3 O ((dc.cells da (fun h=>h)) 2 _ O)) (Ds [6,7] (by kernel_rfl) O (WD.take 8 O (by kernel_rfl) O O O hD (fun w1 dc=>R.load tg3 O ((dc.blk dk (fun h=>h)).cells 1 _ O)) ?_))))))
  refine zmI 9 O (by kernel_rfl) O O O (fun w1=>zmh tR22 ts142 O O dg (by omega)) (Ds [10] (by kernel_rfl) O (WD.take 11 O (by kernel_rfl) O O O hD (fun w1 dc=>R.load tg3 O ((dc.cells da (fun h=>h)) 3 _ O)) (zmI 12 O (by kernel_rfl) O O O (fun w1=>R.build (v:=.agg #[.int .i64 x.low,.int .i64 x.high]) [(0,_),(1,_)] O (fun _=>by kernel_rfl)) (zmv 13 O (by kernel_rfl) O O (zmx ts159 O O O O (by simp[Value.oneCell']) (hD.blk db (fun h=>h)) (by simp)) ?_))))
  rintro wf ⟨_,dl,dm⟩
  refine⟨fun h=>absurd (by simp) h,?_⟩
  refine G.done (by kernel_rfl) ?_ _
  refine Gs 4 O (zm3 tr129 O (zn tg159 ts159 O dl.cells) ?_)
  exact⟨_,rfl,by rw[e]<;>rfl,(hE.ext hD).trans dm (fun q hq h=>by have h:q=r:=h;omega)⟩
 refine Gs 6 O (zlF O (fun h6=>?_) (fun h6=>?_))
 .
  have hl:=hn.k1 (.inl h6)
  obtain⟨x,df,dw⟩:=gE_ ks (0) (by omega)
  obtain⟨dE,dN,dO,dg,_,da,dr⟩:=du.at df
  obtain rfl:=dr
  have dy:dE<_:=zpm _ _ (da 0 _ rfl)
  have dQ:=hn.good x dw
  unfold yr at dQ
  have e:zi vs t.op t.n ks=(-x.2,-x.1):=by rw[zi,zpu h0,zpu dF,zpv h6,zS df]
  refine Gs 1 O (Dw (fun q=>Ext dI q) [11] (fun wd2 hD _=>?_))
  refine Ds [0] (by kernel_rfl) O (zmI 1 O (by kernel_rfl) O O O (fun w1=>zmh tR203 ts159 O O dg (by omega)) (Ds [2] (by kernel_rfl) O (WD.take 3 O (by kernel_rfl) O O O hD (fun w1 dc=>R.load tg3 O ((dc.cells da (fun h=>h)) 1 _ O)) (Da [4,5] (by kernel_rfl) O (by omega) (zmI 6 O (by kernel_rfl) O O O (fun w1=>zmh tR203 ts159 O O dg (by omega)) (Ds [7] (by kernel_rfl) O (WD.take 8 O (by kernel_rfl) O O O hD (fun w1 dc=>R.load tg3 O ((dc.cells da (fun h=>h)) 0 _ O)) ?_)))))))
  refine Da [9] (by kernel_rfl) O (by omega) (zmI 10 O (by kernel_rfl) O O O (fun w1=>R.build (v:=.agg #[.int .i64 (-x.2),.int .i64 (-x.1)]) [(0,_),(1,_)] O (fun _=>by kernel_rfl)) (zmv 11 O (by kernel_rfl) O O (zmx ts159 O O O O (by simp[Value.oneCell']) (hD.blk db (fun h=>h)) (by simp)) ?_))
  rintro wf ⟨_,dl,dm⟩
  refine⟨fun h=>absurd (by simp) h,?_⟩
  refine G.done (by kernel_rfl) ?_ _
  refine Gs 4 O (zm3 tr129 O (zn tg159 ts159 O dl.cells) ?_)
  exact⟨_,rfl,by rw[e]<;>rfl,(hE.ext hD).trans dm (fun q hq h=>by have h:q=r:=h;omega)⟩
 refine Gs 6 O (zlF O (fun h8=>?_) (fun h8=>?_))
 .
  have hl:=hn.k2 (by omega)
  obtain⟨x,df,dw⟩:=gE_ ks (0) (by omega)
  obtain⟨dE,dN,dO,dg,_,da,dr⟩:=du.at df
  obtain rfl:=dr
  have dy:dE<_:=zpm _ _ (da 0 _ rfl)
  obtain⟨y,dh,dx⟩:=gE_ ks (1) (by omega)
  obtain⟨dC,dR,dS,de,_,hY,dt⟩:=du.at dh
  obtain rfl:=dt
  have dz:dC<_:=zpm _ _ (hY 0 _ rfl)
  have dQ:=hn.good x dw
  have dT:=hn.good y dx
  unfold yr at dQ dT
  have e:zi vs t.op t.n ks=(x.1+y.1,x.2+y.2):=by rw[zi,zpu h0,zpu dF,zpu h6,zpv h8,zS df,zS dh]
  refine Gs 1 O (Dw (fun q=>Ext dI q) [19] (fun wd3 hD _=>?_))
  refine Ds [0] (by kernel_rfl) O (zmI 1 O (by kernel_rfl) O O O (fun w1=>zmh tR203 ts159 O O dg (by omega)) (Ds [2] (by kernel_rfl) O (WD.take 3 O (by kernel_rfl) O O O hD (fun w1 dc=>R.load tg3 O ((dc.cells da (fun h=>h)) 0 _ O)) (Ds [4] (by kernel_rfl) O (zmI 5 O (by kernel_rfl) O O O (fun w1=>zmh tR203 ts159 O O de (by omega)) (Ds [6] (by kernel_rfl) O (WD.take 7 O (by kernel_rfl) O O O hD (fun w1 dc=>R.load tg3 O ((dc.cells hY (fun h=>h)) 0 _ O)) ?_)))))))
  refine Da [8,9] (by kernel_rfl) O (by omega) (zmI 10 O (by kernel_rfl) O O O (fun w1=>zmh tR203 ts159 O O dg (by omega)) (Ds [11] (by kernel_rfl) O (WD.take 12 O (by kernel_rfl) O O O hD (fun w1 dc=>R.load tg3 O ((dc.cells da (fun h=>h)) 1 _ O)) (Ds [13] (by kernel_rfl) O (zmI 14 O (by kernel_rfl) O O O (fun w1=>zmh tR203 ts159 O O de (by omega)) (Ds [15] (by kernel_rfl) O (WD.take 16 O (by kernel_rfl) O O O hD (fun w1 dc=>R.load tg3 O ((dc.cells hY (fun h=>h)) 1 _ O)) ?_)))))))
  refine Da [17] (by kernel_rfl) O (by omega) (zmI 18 O (by kernel_rfl) O O O (fun w1=>R.build (v:=.agg #[.int .i64 (x.1+y.1),.int .i64 (x.2+y.2)]) [(0,_),(1,_)] O (fun _=>by kernel_rfl)) (zmv 19 O (by kernel_rfl) O O (zmx ts159 O O O O (by simp[Value.oneCell']) (hD.blk db (fun h=>h)) (by simp)) ?_))
  rintro wf ⟨_,dl,dm⟩
  refine⟨fun h=>absurd (by simp) h,?_⟩
  refine G.done (by kernel_rfl) ?_ _
  refine Gs 4 O (zm3 tr129 O (zn tg159 ts159 O dl.cells) ?_)
  exact⟨_,rfl,by rw[e]<;>rfl,(hE.ext hD).trans dm (fun q hq h=>by have h:q=r:=h;omega)⟩
 refine Gs 6 O (zlF O (fun h9=>?_) (fun h9=>?_))
 .
  have hl:=hn.k2 (by omega)
  obtain⟨x,df,dw⟩:=gE_ ks (0) (by omega)
  obtain⟨dE,dN,dO,dg,_,da,dr⟩:=du.at df
  obtain rfl:=dr
  have dy:dE<_:=zpm _ _ (da 0 _ rfl)
  obtain⟨y,dh,dx⟩:=gE_ ks (1) (by omega)
  obtain⟨dC,dR,dS,de,_,hY,dt⟩:=du.at dh
  obtain rfl:=dt
  have dz:dC<_:=zpm _ _ (hY 0 _ rfl)
  have dQ:=hn.good x dw
  have dT:=hn.good y dx
  unfold yr at dQ dT
  have e:zi vs t.op t.n ks=(x.1 - y.2,x.2 - y.1):=by rw[zi,zpu h0,zpu dF,zpu h6,zpu h8,zpv h9,zS df,zS dh]
  refine Gs 1 O (Dw (fun q=>Ext dI q) [19] (fun wd4 hD _=>?_))
  refine Ds [0] (by kernel_rfl) O (zmI 1 O (by kernel_rfl) O O O (fun w1=>zmh tR203 ts159 O O dg (by omega)) (Ds [2] (by kernel_rfl) O (WD.take 3 O (by kernel_rfl) O O O hD (fun w1 dc=>R.load tg3 O ((dc.cells da (fun h=>h)) 0 _ O)) (Ds [4] (by kernel_rfl) O (zmI 5 O (by kernel_rfl) O O O (fun w1=>zmh tR203 ts159 O O de (by omega)) (Ds [6] (by kernel_rfl) O (WD.take 7 O (by kernel_rfl) O O O hD (fun w1 dc=>R.load tg3 O ((dc.cells hY (fun h=>h)) 1 _ O)) ?_)))))))
  refine Da [8,9] (by kernel_rfl) O (by omega) (zmI 10 O (by kernel_rfl) O O O (fun w1=>zmh tR203 ts159 O O dg (by omega)) (Ds [11] (by kernel_rfl) O (WD.take 12 O (by kernel_rfl) O O O hD (fun w1 dc=>R.load tg3 O ((dc.cells da (fun h=>h)) 1 _ O)) (Ds [13] (by kernel_rfl) O (zmI 14 O (by kernel_rfl) O O O (fun w1=>zmh tR203 ts159 O O de (by omega)) (Ds [15] (by kernel_rfl) O (WD.take 16 O (by kernel_rfl) O O O hD (fun w1 dc=>R.load tg3 O ((dc.cells hY (fun h=>h)) 0 _ O)) ?_)))))))
  refine Da [17] (by kernel_rfl) O (by omega) (zmI 18 O (by kernel_rfl) O O O (fun w1=>R.build (v:=.agg #[.int .i64 (x.1 - y.2),.int .i64 (x.2 - y.1)]) [(0,_),(1,_)] O (fun _=>by kernel_rfl)) (zmv 19 O (by kernel_rfl) O O (zmx ts159 O O O O (by simp[Value.oneCell']) (hD.blk db (fun h=>h)) (by simp)) ?_))
  rintro wf ⟨_,dl,dm⟩
  refine⟨fun h=>absurd (by simp) h,?_⟩
  refine G.done (by kernel_rfl) ?_ _
  refine Gs 4 O (zm3 tr129 O (zn tg159 ts159 O dl.cells) ?_)
  exact⟨_,rfl,by rw[e]<;>rfl,(hE.ext hD).trans dm (fun q hq h=>by have h:q=r:=h;omega)⟩
 refine Gs 6 O (zlF O (fun dM=>?_) (fun dM=>?_))
 .
  have hl:=hn.k2 (by omega)
  obtain⟨x,df,dw⟩:=gE_ ks (0) (by omega)
  obtain⟨dE,dN,dO,dg,_,da,dr⟩:=du.at df
  obtain rfl:=dr
  have dy:dE<_:=zpm _ _ (da 0 _ rfl)
  obtain⟨y,dh,dx⟩:=gE_ ks (1) (by omega)
  obtain⟨dC,dR,dS,de,_,hY,dt⟩:=du.at dh
  obtain rfl:=dt
  have dz:dC<_:=zpm _ _ (hY 0 _ rfl)
  have e:zi vs t.op t.n ks=xR x y:=by rw[zi,zpu h0,zpu dF,zpu h6,zpu h8,zpu h9,zpv dM,zS df,zS dh]
  refine Gs 1 O (Dw (fun q=>Ext dI q) [7] (fun wd5 hD _=>?_))
  refine Ds [0] (by kernel_rfl) O (zmI 1 O (by kernel_rfl) O O O (fun w1=>zmh tR203 ts159 O O dg (by omega)) (WD.take 2 O (by kernel_rfl) O O O hD (fun w1 dc=>zmj tg159 ts159 O (by rfl) (dc.cells da (fun h=>h))) (Ds [3] (by kernel_rfl) O (zmI 4 O (by kernel_rfl) O O O (fun w1=>zmh tR203 ts159 O O de (by omega)) (WD.take 5 O (by kernel_rfl) O O O hD (fun w1 dc=>zmj tg159 ts159 O (by rfl) (dc.cells hY (fun h=>h))) ?_)))))
  refine WD.call 6 O (by kernel_rfl) O O O (F.call (vs:=[_,_,_]) Tryz.call167 O) (zfV x y _ (hn.good x dw) (hn.good y dx)) ?_
  rintro _ wz6 ⟨rfl,eA⟩
  replace hD:=hD.ext eA
  refine⟨fun _=>hD,?_⟩
  refine zmv 7 O (by kernel_rfl) O O (zmx ts159 O O O O (by simp[Value.oneCell']) (hD.blk db (fun h=>h)) (by simp)) ?_
  rintro wf ⟨_,dl,dm⟩
  refine⟨fun h=>absurd (by simp) h,?_⟩
  refine G.done (by kernel_rfl) ?_ _
  refine Gs 4 O (zm3 tr129 O (zn tg159 ts159 O dl.cells) ?_)
  exact⟨_,rfl,by rw[e]<;>rfl,(hE.ext hD).trans dm (fun q hq h=>by have h:q=r:=h;omega)⟩
 refine Gs 6 O (zlF O (fun dU=>?_) (fun dU=>?_))
 .
  have hl:=hn.k2 (by omega)
  obtain⟨x,df,dw⟩:=gE_ ks (0) (by omega)
  obtain⟨dE,dN,dO,dg,_,da,dr⟩:=du.at df
  obtain rfl:=dr
  have dy:dE<_:=zpm _ _ (da 0 _ rfl)
  obtain⟨y,dh,dx⟩:=gE_ ks (1) (by omega)
  obtain⟨dC,dR,dS,de,_,hY,dt⟩:=du.at dh
  obtain rfl:=dt
  have dz:dC<_:=zpm _ _ (hY 0 _ rfl)
  have dQ:=hn.good x dw
  have dT:=hn.good y dx
  unfold yr at dQ dT
  have e:zi vs t.op t.n ks=(if 0<=x.1/\0<=y.1 then 0 else -(max x.2 (-x.1)),max x.2 (-x.1)):=by rw[zi,zpu h0,zpu dF,zpu h6,zpu h8,zpu h9,zpu dM,zpv dU,zS df,zS dh]
  have eC:0<=max x.2 (-x.1)/\max x.2 (-x.1)<=1048576:=by omega
  refine Gs 1 O (Dw (fun q=>Ext dI q) [] (fun wd7 hD _=>?_))
  refine Ds [0] (by kernel_rfl) O (zmI 1 O (by kernel_rfl) O O O (fun w1=>zmh tR203 ts159 O O dg (by omega)) (Ds [2] (by kernel_rfl) O (WD.take 3 O (by kernel_rfl) O O O hD (fun w1 dc=>R.load tg3 O ((dc.cells da (fun h=>h)) 1 _ O)) (Ds [4] (by kernel_rfl) O (zmI 5 O (by kernel_rfl) O O O (fun w1=>zmh tR203 ts159 O O dg (by omega)) (Ds [6] (by kernel_rfl) O (WD.take 7 O (by kernel_rfl) O O O hD (fun w1 dc=>R.load tg3 O ((dc.cells da (fun h=>h)) 0 _ O)) ?_)))))))
  refine Da [8,9,10] (by kernel_rfl) O (by omega) (G.done (by kernel_rfl) ?_ _)
  obtain⟨hE,dG,du,dk,db,da,hY⟩:=Tr7 hD hE dG du dk db da hY
  refine Gs 5 O (zna O O (zmh tR203 ts159 O O dg (by omega)) (Gs 1 O (zne O tg3 (da 0 _ O) (Gs 2 O (G.sp 117 O (fun p0=>?_) (fun p0=>?_))))))
  .
   refine Gs 1 O (zna O O (zmh tR203 ts159 O O de (by omega)) (Gs 1 O (zne O tg3 (hY 0 _ O) (Gs 4 O (zlF O (fun p1=>?_) (fun p1=>?_))))))
   .
    refine Gs 3 O (zna O O (R.build (v:=.agg #[.int .i64 0,.int .i64 (max x.2 (-x.1))]) [(0,_),(1,_)] O (fun _=>by kernel_rfl)) (zmw O (zmx ts159 O O O O (by simp[Value.oneCell']) db (by simp)) ?_))
    rintro wf ⟨_,dl,dm⟩
    refine Gs 6 O (zm3 tr129 O (zn tg159 ts159 O dl.cells) ?_)
    exact⟨_,rfl,by rw[e,zpv ⟨p0,p1⟩]<;>rfl,hE.trans dm (fun q hq h=>by have h:q=r:=h;omega)⟩
   refine Ga 7 O (by omega) (zna O O (R.build (v:=.agg #[.int .i64 (-(max x.2 (-x.1))),.int .i64 (max x.2 (-x.1))]) [(0,_),(1,_)] O (fun _=>by kernel_rfl)) (zmw O (zmx ts159 O O O O (by simp[Value.oneCell']) db (by simp)) ?_))
   rintro wf ⟨_,dl,dm⟩
   refine Gs 5 O (zm3 tr129 O (zn tg159 ts159 O dl.cells) ?_)
   exact⟨_,rfl,by rw[e,zpu (fun h=>p1 h.2)]<;>rfl,hE.trans dm (fun q hq h=>by have h:q=r:=h;omega)⟩
  refine Ga 16 O (by omega) (zna O O (R.build (v:=.agg #[.int .i64 (-(max x.2 (-x.1))),.int .i64 (max x.2 (-x.1))]) [(0,_),(1,_)] O (fun _=>by kernel_rfl)) (zmw O (zmx ts159 O O O O (by simp[Value.oneCell']) db (by simp)) ?_))
  rintro wf ⟨_,dl,dm⟩
  refine Gs 5 O (zm3 tr129 O (zn tg159 ts159 O dl.cells) ?_)
  exact⟨_,rfl,by rw[e,zpu (fun h=>p0 h.1)]<;>rfl,hE.trans dm (fun q hq h=>by have h:q=r:=h;omega)⟩
 refine Gs 6 O (zlF O (fun dX=>?_) (fun dX=>?_))
 .
  have hl:=hn.k2 (by omega)
  obtain⟨y,dh,dx⟩:=gE_ ks (1) (by omega)
  obtain⟨dC,dR,dS,de,_,hY,dt⟩:=du.at dh
  obtain rfl:=dt
  have dz:dC<_:=zpm _ _ (hY 0 _ rfl)
  have dT:=hn.good y dx
  unfold yr at dT
  have e:zi vs t.op t.n ks=(if y.1<0 then min (y.1+1) 0 else 0,if 0<y.2 then max (y.2 - 1) 0 else 0):=by rw[zi,zpu h0,zpu dF,zpu h6,zpu h8,zpu h9,zpu dM,zpu dU,zpv dX,zS dh]
  refine Gs 2 O (zna O O (R.build (v:=.agg #[.int .i64 0,.int .i64 0]) [] O (fun _=>by kernel_rfl)) (zmr O O (M.alloc (cs:=_) tz159 O) ?_))
  rintro _ wa8 ⟨o,rfl,dV,eg,di,dD⟩
  refine zmw O (zmx ts159 O O O O (by simp[Value.oneCell']) di (by simp)) ?_
  rintro eo ⟨_,di,dH⟩
  replace dD:=dD.trans dH (fun q hq h=>by have h:q=o:=h;omega)
  have dB:b ≠ o:=by have:=dk.lt;omega
  have dA:r ≠ o:=by have:=db.lt;omega
  have dY:_<=o:=zpq hE.size (zrS dV.symm)
  obtain⟨hE,dG,du,dk,db,hY⟩:=Tr6 dD hE dG du dk db hY
  refine Gs 6 O (zna O O (zmh tR203 ts159 O O de (by omega)) (Gs 1 O (zne O tg3 (hY 0 _ O) (Gs 3 O (zlF O (fun p0=>?_) (fun p0=>?_))))))
  .
   refine Gs 2 O (zna O O (zmh tR203 ts159 O O de (by omega)) (Gs 1 O (zne O tg3 (hY 0 _ O) (Ga 3 O (by omega) (zmw O (M.store ts3 O O O O di (by simp)) ?_)))))
   rintro ws9 ⟨_,di,d8⟩
   replace hE:=hE.trans d8 (fun q hq h=>by have h:q=o:=h;omega)
   replace dk:=d8.blk dk dB
   replace db:=d8.blk db dA
   replace hY:=d8.cells hY (show dC ≠ o by omega)
   refine Gs 6 O (zna O O (zmh tR203 ts159 O O de (by omega)) (Gs 1 O (zne O tg3 (hY 1 _ O) (Gs 3 O (zlF O (fun p1=>?_) (fun p1=>?_))))))
   .
    refine Gs 2 O (zna O O (zmh tR203 ts159 O O de (by omega)) (Gs 1 O (zne O tg3 (hY 1 _ O) (Ga 3 O (by omega) (zmw O (M.store ts3 O O O O di (by simp)) ?_)))))
    rintro ws10 ⟨_,di,dJ⟩
    replace hE:=hE.trans dJ (fun q hq h=>by have h:q=o:=h;omega)
    replace dk:=dJ.blk dk dB
    replace db:=dJ.blk db dA
    replace hY:=dJ.cells hY (show dC ≠ o by omega)
    refine Gs 4 O (zng O tg159 ts159 di.cells O (zmw O (zmx ts159 O O O O (by simp[Value.oneCell']) db (by simp)) ?_))
    rintro wf ⟨_,dl,dm⟩
    refine Gs 5 O (zm3 tr129 O (zn tg159 ts159 O dl.cells) ?_)
    exact⟨_,rfl,by rw[e,zpv p0,zpv p1]<;>rfl,hE.trans dm (fun q hq h=>by have h:q=r:=h;omega)⟩
   refine Gs 4 O (zng O tg159 ts159 di.cells O (zmw O (zmx ts159 O O O O (by simp[Value.oneCell']) db (by simp)) ?_))
   rintro wf ⟨_,dl,dm⟩
   refine Gs 5 O (zm3 tr129 O (zn tg159 ts159 O dl.cells) ?_)
   exact⟨_,rfl,by rw[e,zpv p0,zpu p1]<;>rfl,hE.trans dm (fun q hq h=>by have h:q=r:=h;omega)⟩
  refine Gs 6 O (zna O O (zmh tR203 ts159 O O de (by omega)) (Gs 1 O (zne O tg3 (hY 1 _ O) (Gs 3 O (zlF O (fun p1=>?_) (fun p1=>?_))))))
  .
   refine Gs 2 O (zna O O (zmh tR203 ts159 O O de (by omega)) (Gs 1 O (zne O tg3 (hY 1 _ O) (Ga 3 O (by omega) (zmw O (M.store ts3 O O O O di (by simp)) ?_)))))
   rintro ws11 ⟨_,di,dK⟩
   replace hE:=hE.trans dK (fun q hq h=>by have h:q=o:=h;omega)
   replace dk:=dK.blk dk dB
   replace db:=dK.blk db dA
   replace hY:=dK.cells hY (show dC ≠ o by omega)
   refine Gs 4 O (zng O tg159 ts159 di.cells O (zmw O (zmx ts159 O O O O (by simp[Value.oneCell']) db (by simp)) ?_))
   rintro wf ⟨_,dl,dm⟩
   refine Gs 5 O (zm3 tr129 O (zn tg159 ts159 O dl.cells) ?_)
   exact⟨_,rfl,by rw[e,zpu p0,zpv p1]<;>rfl,hE.trans dm (fun q hq h=>by have h:q=r:=h;omega)⟩
  refine Gs 4 O (zng O tg159 ts159 di.cells O (zmw O (zmx ts159 O O O O (by simp[Value.oneCell']) db (by simp)) ?_))
  rintro wf ⟨_,dl,dm⟩
  refine Gs 5 O (zm3 tr129 O (zn tg159 ts159 O dl.cells) ?_)
  exact⟨_,rfl,by rw[e,zpu p0,zpu p1]<;>rfl,hE.trans dm (fun q hq h=>by have h:q=r:=h;omega)⟩
 refine Gs 6 O (zlF O (fun dZ=>?_) (fun dZ=>?_))
 .
  have hl:=hn.k2 (by omega)
  obtain⟨x,df,dw⟩:=gE_ ks (0) (by omega)
  obtain⟨dE,dN,dO,dg,_,da,dr⟩:=du.at df
  obtain rfl:=dr
  have dy:dE<_:=zpm _ _ (da 0 _ rfl)
  obtain⟨y,dh,dx⟩:=gE_ ks (1) (by omega)
  obtain⟨dC,dR,dS,de,_,hY,dt⟩:=du.at dh
  obtain rfl:=dt
  have dz:dC<_:=zpm _ _ (hY 0 _ rfl)
  have e:zi vs t.op t.n ks=(min x.1 y.1,min x.2 y.2):=by rw[zi,zpu h0,zpu dF,zpu h6,zpu h8,zpu h9,zpu dM,zpu dU,zpu dX,zpv dZ,zS df,zS dh]
  refine Gs 1 O (Dw (fun q=>Ext dI q) [19] (fun wd12 hD _=>?_))
  refine Ds [0] (by kernel_rfl) O (zmI 1 O (by kernel_rfl) O O O (fun w1=>zmh tR203 ts159 O O dg (by omega)) (Ds [2] (by kernel_rfl) O (WD.take 3 O (by kernel_rfl) O O O hD (fun w1 dc=>R.load tg3 O ((dc.cells da (fun h=>h)) 0 _ O)) (Ds [4] (by kernel_rfl) O (zmI 5 O (by kernel_rfl) O O O (fun w1=>zmh tR203 ts159 O O de (by omega)) (Ds [6] (by kernel_rfl) O (WD.take 7 O (by kernel_rfl) O O O hD (fun w1 dc=>R.load tg3 O ((dc.cells hY (fun h=>h)) 0 _ O)) ?_)))))))
  refine Ds [8,9] (by kernel_rfl) O (zmI 10 O (by kernel_rfl) O O O (fun w1=>zmh tR203 ts159 O O dg (by omega)) (Ds [11] (by kernel_rfl) O (WD.take 12 O (by kernel_rfl) O O O hD (fun w1 dc=>R.load tg3 O ((dc.cells da (fun h=>h)) 1 _ O)) (Ds [13] (by kernel_rfl) O (zmI 14 O (by kernel_rfl) O O O (fun w1=>zmh tR203 ts159 O O de (by omega)) (Ds [15] (by kernel_rfl) O (WD.take 16 O (by kernel_rfl) O O O hD (fun w1 dc=>R.load tg3 O ((dc.cells hY (fun h=>h)) 1 _ O)) ?_)))))))
  refine Ds [17] (by kernel_rfl) O (zmI 18 O (by kernel_rfl) O O O (fun w1=>R.build (v:=.agg #[.int .i64 (min x.1 y.1),.int .i64 (min x.2 y.2)]) [(0,_),(1,_)] O (fun _=>by kernel_rfl)) (zmv 19 O (by kernel_rfl) O O (zmx ts159 O O O O (by simp[Value.oneCell']) (hD.blk db (fun h=>h)) (by simp)) ?_))
  rintro wf ⟨_,dl,dm⟩
  refine⟨fun h=>absurd (by simp) h,?_⟩
  refine G.done (by kernel_rfl) ?_ _
  refine Gs 4 O (zm3 tr129 O (zn tg159 ts159 O dl.cells) ?_)
  exact⟨_,rfl,by rw[e]<;>rfl,(hE.ext hD).trans dm (fun q hq h=>by have h:q=r:=h;omega)⟩
 refine Gs 6 O (zlF O (fun d9=>?_) (fun d9=>?_))
 .
  have hl:=hn.k2 (by omega)
  obtain⟨x,df,dw⟩:=gE_ ks (0) (by omega)
  obtain⟨dE,dN,dO,dg,_,da,dr⟩:=du.at df
  obtain rfl:=dr
  have dy:dE<_:=zpm _ _ (da 0 _ rfl)
  obtain⟨y,dh,dx⟩:=gE_ ks (1) (by omega)
  obtain⟨dC,dR,dS,de,_,hY,dt⟩:=du.at dh
  obtain rfl:=dt
  have dz:dC<_:=zpm _ _ (hY 0 _ rfl)
  have e:zi vs t.op t.n ks=(max x.1 y.1,max x.2 y.2):=by rw[zi,zpu h0,zpu dF,zpu h6,zpu h8,zpu h9,zpu dM,zpu dU,zpu dX,zpu dZ,zpv d9,zS df,zS dh]
  refine Gs 1 O (Dw (fun q=>Ext dI q) [19] (fun wd13 hD _=>?_))
  refine Ds [0] (by kernel_rfl) O (zmI 1 O (by kernel_rfl) O O O (fun w1=>zmh tR203 ts159 O O dg (by omega)) (Ds [2] (by kernel_rfl) O (WD.take 3 O (by kernel_rfl) O O O hD (fun w1 dc=>R.load tg3 O ((dc.cells da (fun h=>h)) 0 _ O)) (Ds [4] (by kernel_rfl) O (zmI 5 O (by kernel_rfl) O O O (fun w1=>zmh tR203 ts159 O O de (by omega)) (Ds [6] (by kernel_rfl) O (WD.take 7 O (by kernel_rfl) O O O hD (fun w1 dc=>R.load tg3 O ((dc.cells hY (fun h=>h)) 0 _ O)) ?_)))))))
  refine Ds [8,9] (by kernel_rfl) O (zmI 10 O (by kernel_rfl) O O O (fun w1=>zmh tR203 ts159 O O dg (by omega)) (Ds [11] (by kernel_rfl) O (WD.take 12 O (by kernel_rfl) O O O hD (fun w1 dc=>R.load tg3 O ((dc.cells da (fun h=>h)) 1 _ O)) (Ds [13] (by kernel_rfl) O (zmI 14 O (by kernel_rfl) O O O (fun w1=>zmh tR203 ts159 O O de (by omega)) (Ds [15] (by kernel_rfl) O (WD.take 16 O (by kernel_rfl) O O O hD (fun w1 dc=>R.load tg3 O ((dc.cells hY (fun h=>h)) 1 _ O)) ?_)))))))
  refine Ds [17] (by kernel_rfl) O (zmI 18 O (by kernel_rfl) O O O (fun w1=>R.build (v:=.agg #[.int .i64 (max x.1 y.1),.int .i64 (max x.2 y.2)]) [(0,_),(1,_)] O (fun _=>by kernel_rfl)) (zmv 19 O (by kernel_rfl) O O (zmx ts159 O O O O (by simp[Value.oneCell']) (hD.blk db (fun h=>h)) (by simp)) ?_))
  rintro wf ⟨_,dl,dm⟩
  refine⟨fun h=>absurd (by simp) h,?_⟩
  refine G.done (by kernel_rfl) ?_ _
  refine Gs 4 O (zm3 tr129 O (zn tg159 ts159 O dl.cells) ?_)
  exact⟨_,rfl,by rw[e]<;>rfl,(hE.ext hD).trans dm (fun q hq h=>by have h:q=r:=h;omega)⟩
 have d5:¬ (t.op=23\/t.op=25)->zi vs t.op t.n ks=(0,1):=fun h=>by rw[zi,zpu h0,zpu dF,zpu h6,zpu h8,zpu h9,zpu dM,zpu dU,zpu dX,zpu dZ,zpu d9,zpu h]
 refine Gs 7 O (zlQ (σ:=Bool) (fun p=>[(2,.slice ak ks.length nk),(6,.pointer (some ⟨r,0,none⟩)),(200,.bool p)]) (fun p=>fun w'=>(p=true ↔ t.op=23\/t.op=25)/\w'=dI) ?_ ?_)
 .
  refine zlF O (fun eh=>?_) (fun eh=>?_)
  . refine Gs 1 O (zlS (decide (t.op=23)) (Sub.cons O (Sub.cons O (Sub.cons (by first | rfl | (show some (Value.bool true)=some (Value.bool _);simp[*])) Sub.nil))) (⟨by simp[eh],rfl⟩))
  refine Gs 4 O (zlS (decide (t.op=25)) (Sub.of O) (⟨by simp[eh],rfl⟩))
 rintro p w2 ⟨hp,eD⟩
 subst eD
 refine Gs 1 O (G.bool O (fun p1=>?_) (fun p1=>?_))
 .
  have hl:=hn.k3 (hp.1 p1)
  obtain⟨y,dh,dx⟩:=gE_ ks (1) (by omega)
  obtain⟨dC,dR,dS,de,_,hY,dt⟩:=du.at dh
  obtain rfl:=dt
  have dz:dC<_:=zpm _ _ (hY 0 _ rfl)
  have e:zi vs t.op t.n ks=yY y (ks.drop 2):=by rw[zi,zpu h0,zpu dF,zpu h6,zpu h8,zpu h9,zpu dM,zpu dU,zpu dX,zpu dZ,zpu d9,zpv (hp.1 p1),zS dh]
  have eE:=du.drop 2 (by omega)
  have eF:(ks.drop 2).length=ks.length - 2:=zqX
  refine Gs 3 O (zna O O (zmh tR203 ts159 O O de (by omega)) (zng O tg159 ts159 hY O (zmr O O (M.alloc (cs:=_) tz159 O) ?_)))
  rintro _ wa14 ⟨o,rfl,dV,eg,di,dD⟩
  refine zmw O (zmx ts159 O O O O (by simp[Value.oneCell']) di (by simp)) ?_
  rintro eo ⟨_,di,dH⟩
  replace dD:=dD.trans dH (fun q hq h=>by have h:q=o:=h;omega)
  have dB:b ≠ o:=by have:=dk.lt;omega
  have dA:r ≠ o:=by have:=db.lt;omega
  have dY:_<=o:=zpq hE.size (zrS dV.symm)
  obtain⟨hE,dG,du,dk,db,hY⟩:=Tr6 dD hE dG du dk db hY
  refine Gs 6 O (zna O O (zmk tR203 ts159 O O (by omega)) (Gs 5 O (G.loop (σ:=Nat) (fun k=>[(6,.pointer (some ⟨r,0,none⟩)),(9,.pointer (some ⟨o,0,none⟩)),(207,.slice (if nk=2 then ak else ak.map (·.add (2*2))) (ks.length - 2) (nk - 2)),(208,.int .i64 (ks.length - 2:Nat)),(209,.int .i64 k)]) (fun k=>fun w'=>k<=ks.length - 2/\Blk w' o [.int .i64 (yY y ((ks.drop 2).take k)).1,.int .i64 (yY y ((ks.drop 2).take k)).2] 159/\Keep (fun q=>q=o) eo w') (fun k=>ks.length - 2 - k) (0) (Sub.of O) (⟨zpz _,di,Keep.refl _ _⟩) ?_)))
  rintro k w1 ⟨hk,di,ea⟩
  refine Gs 6 O (zlF O (fun eG=>?_) (fun eG=>?_))
  .
   obtain⟨z,d6,eH⟩:=gE_ (ks.drop 2) (k) (by omega)
   obtain⟨ep,eR,eS,ei,_,dL,ej⟩:=eE.at d6
   obtain rfl:=ej
   have er:ep<_:=zpm _ _ (dL 0 _ rfl)
   replace dL:=ea.cells (dD.cells dL (fun h=>h)) (show ep ≠ o by omega)
   refine Gs 6 O (zna O O (zmh tR203 ts159 O O ei (by omega)) (zng O tg159 ts159 dL O (zmr O O (M.alloc (cs:=_) tz159 O) ?_)))
   rintro _ wa ⟨c,rfl,eI,eJ,dW,ek⟩
   refine zmw O (zmx ts159 O O O O (by simp[Value.oneCell']) dW (by simp)) ?_
   rintro w3 ⟨_,dW,eK⟩
   have d7:Ext w1 w3:=ek.trans eK (fun q hq h=>by have h:q=c:=h;omega)
   replace di:=d7.blk di (fun h=>h)
   refine Gs 3 O (zng O tg159 ts159 di.cells O (zng O tg159 ts159 dW.cells O (G.call O Tryz.call169 (zgN (yY y ((ks.drop 2).take k)) z w3) ?_)))
   rintro _ w4 ⟨rfl,eu⟩
   refine zmw O (zmx ts159 O O O O (by simp[Value.oneCell']) (eu.blk di (fun h=>h)) (by simp)) ?_
   rintro w5 ⟨_,eL,eM⟩
   refine Ga 7 O (by omega) (G.back (k+1) (Sub.of O) (⟨by omega,?_,(ea.ext (d7.ext eu)).trans eM (fun _ _ h=>h)⟩) (by first | omega | (dsimp only;omega)))
   rw[zae d6]
   exact eL
  have eN:k=ks.length - 2:=by omega
  have eO:=ea.blk db dA
  rw[eN,<- eF,zpp,<- e]at di
  refine Gs 7 O (zng O tg159 ts159 di.cells O (zmw O (zmx ts159 O O O O (by simp[Value.oneCell']) eO (by simp)) ?_))
  rintro wf ⟨_,dl,dm⟩
  refine Gs 5 O (zm3 tr129 O (zn tg159 ts159 O dl.cells) ?_)
  exact⟨_,rfl,rfl,(hE.trans ea (fun q hq h=>by have h:q=o:=h;omega)).trans dm (fun q hq h=>by have h:q=r:=h;omega)⟩
 have e:=d5 (fun h=>by rw[hp.2 h]at p1;cases p1)
 refine Gs 5 O (zna O O (R.build (v:=.agg #[.int .i64 0,.int .i64 1]) [(0,_),(1,_)] O (fun _=>by kernel_rfl)) (zmw O (zmx ts159 O O O O (by simp[Value.oneCell']) db (by simp)) ?_))
 rintro wf ⟨_,dl,dm⟩
 refine Gs 3 O (zm3 tr129 O (zn tg159 ts159 O dl.cells) ?_)
 exact⟨_,rfl,by rw[e]<;>rfl,hE.trans dm (fun q hq h=>by have h:q=r:=h;omega)⟩
end Go.Proofs.YtckdhgbepmpgiaaGreat
namespace Go.GL.Gr
section
variable {α:Type} [DecidableEq α]
def cstep (acc:List α) (x:α):List α:=if acc.getLast?=some x then acc else acc++[x]
def compactL (l:List α):List α:=l.foldl cstep []
theorem zcO (acc:List α) (x:α):(cstep acc x).getLast?=some x:=by
 unfold cstep
 split
 . assumption
 simp
theorem zcP (l:List α) (x:α):compactL (l++[x])=cstep (compactL l) x:=by simp[compactL]
theorem compactL_take {l:List α} {k:Nat} {x:α} (hx:l[k]?=some x):compactL (l.take (k+1))=cstep (compactL (l.take k)) x:=by
 obtain⟨hk,rfl⟩:=zpy.1 hx
 rw[zrH hk,zcP]
theorem compactL_last {l:List α} {k:Nat} {x:α} (hx:l[k]?=some x):(compactL (l.take (k+1))).getLast?=some x:=by
 rw[compactL_take hx,zcO]
theorem compactL_mem (l:List α) (x:α):x ∈ compactL l ↔ x ∈ l:=by
 have:∀ (l acc:List α),x ∈ l.foldl cstep acc ↔ x ∈ acc\/x ∈ l:=by
  intro l
  induction l with
  | nil=>intro acc;simp
  | cons y r ih =>
   intro acc
   rw[zqU,ih]
   have h2:x ∈ cstep acc y ↔ x ∈ acc\/x=y:=by
    unfold cstep
    split
    .
     rename_i h
     constructor
     . exact .inl
     rintro (h' | rfl)
     . exact h'
     exact List.mem_of_getLast? h
    simp
   rw[h2]
   simp[or_assoc]
 simpa[compactL] using this l []
end
end Go.GL.Gr
namespace Go.Proofs.YtckdhgbepmpgiaaGreat
open Go.GL
def zkH (e:Int × Int):List Value:=[.int .i64 e.1,.int .i64 e.2]
theorem zir (e:Int × Int):(zkH e).length=2:=rfl
theorem zis (e:Int × Int):∀ u ∈ zkH e,u.oneCell'=true:=by simp[zkH,Value.oneCell']
end Go.Proofs.YtckdhgbepmpgiaaGreat
