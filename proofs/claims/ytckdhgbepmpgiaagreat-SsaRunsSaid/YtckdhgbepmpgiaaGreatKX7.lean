/-
  Contracts and the mathematics that the proof needs. Nothing here is a claim.
-/
import Derived.Test.YtckdhgbepmpgiaaGreatKX6
namespace Go.Proofs.YtckdhgbepmpgiaaGreat
open Go.GL
abbrev zi7 (f:Fl) (s:Sf) (r:Ins) (i n:Nat) (b gb:Nat) (ofv nodv vv hv rv ov:Value) (vl ro:List Int) (rr:Value) (W w':World):Prop:=∃ (x:List Int × List Int × Value),(rr=.int .i64 (yR f r (i+1)).at_/\x.1.length=vl.length/\zhj f (zk f) s n x.1 (yR f r (i+1)).σ.vals/\x.2.1.length=ro.length/\CtOk f x.2.1 (yR f r (i+1)).rd)/\GBack (rnH b gb ofv nodv vv hv rv ov vl ro (yR f r i).σ.outs (yR f r i).σ.time) (rnH b gb ofv nodv vv hv rv x.2.2 x.1 x.2.1 (yR f r (i+1)).σ.outs (yR f r (i+1)).σ.time) W w'
theorem zla {P:Program} {f:FuncId} {args:Array Value} {w:World} {α:Type} {Φ:α->Prop} {E:Hp} {E':α->Hp} (h:Calls P f args w (Ret fun r w'=>r=.tuple #[]/\∃ x,Φ x/\GBack E (E' x) w w')):Calls P f args w (Ret fun r w'=>∃ x,(r=.tuple #[]/\Φ x)/\GBack E (E' x) w w'):=by
 refine Calls.mono h ?_
 rintro e' w' ⟨r,rfl,h1,x,h2,h3⟩
 exact⟨_,rfl,x,⟨h1,h2⟩,h3⟩
theorem zjz (f:Fl) (s:Sf) (vd:Valid f) (hR:RightF f (zk f) s (rdV f (zk f))) (r:Ins) (e0:zl f.vars r=0) (K:Nat) (hg:GoesAll f r K) (i:Nat) (hi:i<K) (n:Nat) (x:Nd) (hw:OnWalk f r K i n x) (vl ro:List Int) (ef:vl.length=s.of_.length) (dS:ro.length=(zk f).length) (dl:InvV f (zk f) s n vl (yR f r i).σ.vals) (dc:CtOk f ro (yR f r i).rd)
  (b gb:Nat) (ofv nodv vv hv rv ov:Value) (D Dh:Nat->Prop) (W:World) (dT:∀ q,D q\/Dh q->q<W.heap.size) (hE:zlh (rnH b gb ofv nodv vv hv rv ov vl ro (yR f r i).σ.outs (yR f r i).σ.time) W) (hS:RSf D W s ofv nodv) (hG:GrO D W f (zk f) gb) (hh:SlR 1 zC Dh W hv (yc f r)) (da:∀ q,HS (rnH b gb ofv nodv vv hv rv ov vl ro (yR f r i).σ.outs (yR f r i).σ.time) q->¬ D q) (de:∀ q,HS (rnH b gb ofv nodv vv hv rv ov vl ro (yR f r i).σ.outs (yR f r i).σ.time) q->¬ Dh q) :
  Calls Tryz.prog 48 #[.pointer (some ⟨b,0,none⟩),.int .i64 n] W (Ret fun rr w'=>zi7 f s r i n b gb ofv nodv vv hv rv ov vl ro rr W w'):=by
 have eg:=(zpy.1 hw.nd).1
 have hx:=hw.nd
 obtain⟨eh,ei⟩:=hw.go hi
 have dK:=zhr vd e0 hg i (by omega)
 have hV:=dK.inv
 have ht:=dK.time
 have eA:=dK.outs
 have eC:=dK.rd x.at_
 have hK:=(zkm vd hg).2
 have hl:=vd.lens
 have eD:=vd.ssize
 have eE:=yI f vd.plain
 have eF:=xe f.body
 have db:xL (zk f) n=x:=yQ hx
 have hY:zeR f x=false->zhj f (zk f) s n vl (yR f r i).σ.vals:=fun ha=>zdc vd hR hx hV dl [] ha
 have dm:x.kind ≠ 2->zeR f x=false:=fun h=>by unfold zeR;rw[zpx h,zq1]
 obtain⟨v1,v2,v3,gv,sv,pv,hD,dr,hf,dN,dt,_⟩:=id hG
 obtain⟨ag,cg,rfl⟩:=dN.form
 obtain⟨as1,cs1,rfl⟩:=dt.form
 have ej:=dN.max
 have dU:((zk f).map (stN f)).length=(zk f).length:=zpE _
 have du:((zk f).map (stN f))[n]?=some (stN f x):=by rw[zpB,hx];rfl
 have ek:(yc f r).length=f.hatches.length:=by simp[zfn]
 unfold zi7 at *
 rw[eh]
 generalize hm:yR f r i=m at *
 generalize eG:(zk f).map (stN f)=gm at *
 obtain⟨at_,σ,rd⟩:=m
 dsimp only at *
 refine znl Tryz.func48 O Tryz.ntmps48 O (zoy [(900,.own b [.pointer (some ⟨gb,0,none⟩),ofv,nodv,vv,hv,rv,ov,.int .i64 σ.time] 107),(901,.row 3 1 vv vl.length (vl.map zc)),(902,.row 3 1 rv ro.length (ro.map zc)),(903,.row 3 1 ov σ.outs.length (σ.outs.map zc))] hE.1 hE.2 (zob 904 0 O O (fun h=>da _ h hD) dr (znL 0 900 0 O O (znU 902 O (by omega) ?_))))
 rintro br cr rfl dw
 refine Vs 6 O ?_
 obtain⟨x2,df,dV⟩:=gE_ (zk f) (n) (by omega)
 obtain⟨em,en,eo,dx,dy,dz,dA⟩:=dN.atD df
 obtain rfl:=dA
 refine zob 1000 0 O O (fun h_=>by have dO:=da _ h_;have dQ:=dy;first | omega | exact dO dQ) dz ?_
 obtain rfl:x2=x:=Option.some.inj (df.symm.trans hx)
 obtain⟨st,dg,dW⟩:=gE_ gm (n) (by omega)
 obtain⟨ep,er,eu,dB,dC,dD,dE⟩:=dt.atD dg
 obtain⟨dX,dY,dZ,d5,rfl,dF,dG,dH,dh⟩:=dE.get
 obtain⟨d6,d7,rfl⟩:=dF.form
 obtain⟨d8,d9,rfl⟩:=dG.form
 obtain⟨ea,eb,rfl⟩:=dH.form
 obtain⟨ec,ed,rfl⟩:=dh.form
 refine zob 2000 0 O O (fun h_=>by have dO:=da _ h_;have dQ:=dC;first | omega | exact dO dQ) dD ?_
 have dL:st=stN f x2:=Option.some.inj (dg.symm.trans du)
 refine Vw [900,904,1000,2000] [] O (Vd [0,1,2,3] 0 (by kernel_rfl) O O O (znM 10 904 0 O O (Vd [4,5,6,7,10,11,12,13] 0 (by kernel_rfl) O O O (znM 20 904 0 O O (Vd [14,15,16,17] 0 (by kernel_rfl) O O O ?_)))))
 refine znO 8 1000 tR34 ts65 O (by kernel_rfl) O dx (by omega) (_) (rfl) O (Vd [9] 0 (by kernel_rfl) O O O ?_)
 refine znO 18 2000 tR24 ts72 O (by kernel_rfl) O dB (by omega) (_) (rfl) O (Vd [19] 0 (by kernel_rfl) O O O (zp6 2 0 [(20,5,[],false),(21,6,[],false)] (psi [(5,phA 5 [Value.int IntKind.i64 0,Value.int IntKind.i64 0,Value.int IntKind.i64 0,Value.int IntKind.i64 0] 65),(6,phA 6 [Value.int IntKind.i64 0,Value.int IntKind.i64 0,Value.int IntKind.i64 0,Value.int IntKind.i64 0,Value.int IntKind.i64 0,Value.int IntKind.i64 0,Value.slice none 0 0,Value.slice none 0 0,Value.slice none 0 0,Value.slice none 0 0] 72)]) (by kernel_rfl) (by kernel_rfl) O O ⟨?_,?_,True.intro⟩ ?_))
 . exact MP.alloc 5 O O tz65 O O
 . exact MP.alloc 6 O O tz72 O O
 rintro val hn ⟨⟨b5,e5,n5⟩,⟨b6,e6,n6⟩,_⟩
 refine VD.cast [(0,some (900,0)),(7,some (900,0)),(8,some (900,0)),(9,some (900,0)),(10,some (904,0)),(11,some (904,0)),(12,some (904,3)),(15,some (1000,0)),(17,some (900,0)),(18,some (900,0)),(19,some (900,0)),(20,some (904,0)),(21,some (904,0)),(22,some (904,4)),(25,some (2000,0)),(5,some (5,0)),(6,some (6,0))] _ _ (zl5 e5 (zl5 e6 (rfl))) (zlA n5 (zlA n6 (rfl))) O O O ?_
 clear n5 n6
 have dM:x2.kind ≠ 0->0<=x2.at_/\(preL f.body)[x2.at_.toNat]?=some (zW f x2.at_)/\stN f x2=zW f x2.at_:=fun h0=>by
  have h1:=(vd.gOk n x2 hx)
  have h2:=(vd.ends hx).1
  have h3:0<=x2.at_:=by
   by_cases h:x2.at_<0
   . have:=h2 h;rcases ei with h | h | h | h | h<;>omega
   omega
  exact⟨h3,jG h3 ((vd.ends hx).2 h3),by unfold stN;rw[zpv h3]⟩
 have di:rdB f x2=true->x2.kind ≠ 0->∀ t:Int,∀ rl:List Int,∀ w,Keep (HS (rnH b gb ofv nodv vv hv (.slice (some ⟨br,0,none⟩) ro.length cr) ov vl ro σ.outs σ.time)) W w->Cells w b 0 (rnr gb ofv nodv vv hv (.slice (some ⟨br,0,none⟩) ro.length cr) ov (.int .i64 t))->w.ownsRow 0 3 1 vv vl.length (vl.map zc)->Calls Tryz.prog 92 #[.pointer (some ⟨b,0,none⟩),.int .i64 n] w (Ret fun r w'=>r=.int .i64 (xt σ.vals st.term)/\Ext w w'):=fun dI k0 t rl w hk hc hv=>by
  obtain⟨h1,h2,h3⟩:=dM k0
  have h4:=zfJ f (zk f) s vd.good hR n eg (by rw[db,h3];exact(vd.step _ (zpl h2)).1) (by rw[db];exact h1) (by rw[db];exact dI) (by omega) (by omega) vl σ.vals hV dl b gb _ _ _ _ _ _ _ D D (fun _=>True) w hc (hS.keep hk fun q hq _ h=>da q h hq) (hG.keep hk fun q hq _ h=>da q h hq) (zmM zc (fun _ _=>rfl) hv (fun _ _=>trivial))
  rw[db,<- dL]at h4
  exact h4
 refine Ve 22 0 O (by kernel_rfl) O O O (Ve 23 0 O (by kernel_rfl) O O O (VD.done (by kernel_rfl) (Vs 15 O (zlG O (fun k4=>?_) (fun k4=>?_)))))
 .
  obtain⟨g0,y,hy,ew,ey⟩:=(vd.part hx).2.1 k4
  have eH:=(zpy.1 hy).1
  have hp:yZ f (yc f r) x2 (zW f x2.at_) σ rd=(x2.next,σ,zdg rd x2.at_ 0):=by unfold yZ;rw[zpu (by omega),zpu (by omega),zpv k4]
  rw[hp]
  have dJ:=dc.set vd dS hy ew 0
  rw[ey]at dJ
  refine Vs 1 O (Vw [900,904,1000,2000,5,6] [] O (Vb [0,1,2,3,4,5,6] 0 (by kernel_rfl) O O O (by omega) (znY 7 902 0 (x2.next.toNat) ts3 O (by kernel_rfl) O O (by omega) (by simp;omega) (VD.done (by kernel_rfl) (Vs 2 O (zod 902 O (e':=.row 3 1 (.slice (some ⟨br,0,none⟩) ro.length cr) (ro.set x2.next.toNat 0).length ((ro.set x2.next.toNat 0).map zc)) (by rw[zr9,zr2]<;>rfl) (Vs 9 O (zlW tr48 O (fun w hI=>⟨_,rfl,(vl,ro.set x2.next.toNat 0,ov),⟨rfl,rfl,hY (dm (by omega)),zr2,dJ⟩,hI.back 0 O O O rfl⟩)))))))))
 refine Vs 6 O (zlG O (fun k5=>?_) (fun k5=>?_))
 .
  obtain⟨h1,h2,h3⟩:=dM (by omega)
  have ee:=dc n x2 hx k5
  have hN:=((vd.step _ (zpl h2)).2.2 ((vd.part hx).2.2 k5))
  have dk:=(vd.step _ (zpl h2)).1.cost
  obtain rfl:st=zW f x2.at_:=dL.trans h3
  refine Vs 2 O (Vq (by kernel_rfl) (Va 6 O (by omega) (V.rlQ 902 (n) tg3 O (by omega) (show _=some (Value.int .i64 (rd x2.at_)) by rw[zpB,ee];rfl) ?_)))
  refine Vs 5 O (zlG O (fun c=>?_) (fun c=>?_))
  .
   have hp:yZ f (yc f r) x2 (zW f x2.at_) σ rd=(x2.other,σ,rd):=by unfold yZ;rw[zpu (by omega),zpu (by omega),zpu k4,zpv ⟨k5,c⟩]
   rw[hp]
   refine Vs 11 O (zlW tr48 O (fun w hI=>⟨_,rfl,(vl,ro,ov),⟨rfl,rfl,hY (dm (by omega)),rfl,dc⟩,hI.back 0 O O O rfl⟩))
  have hp:yZ f (yc f r) x2 (zW f x2.at_) σ rd=(if xt σ.vals (zW f x2.at_).term ≠ 0 then x2.next else x2.other,{ σ with time:=σ.time+(zW f x2.at_).cost },zdg rd x2.at_ (rd x2.at_+1)):=by unfold yZ;rw[zpu (by omega),zpu (by omega),zpu k4,zpu (fun h=>c h.2),zpv k5]
  rw[hp]
  have dJ:=dc.set vd dS hx k5 (rd x2.at_+1)
  have dI:rdB f x2=true:=by unfold rdB;simp[k5]
  refine Va 10 O (by omega) (znW 902 (n) tg3 O (by omega) (show _=some (Value.int .i64 (rd x2.at_)) by rw[zpB,ee];rfl) ?_)
  refine Va 2 O (by omega) (znX 902 (n) ts3 O (by omega) (by simp;omega) (zod 902 O (e':=.row 3 1 (.slice (some ⟨br,0,none⟩) ro.length cr) (ro.set n (rd x2.at_+1)).length ((ro.set n (rd x2.at_+1)).map zc)) (by rw[zr9,zr2]<;>rfl) (Vs 3 O (Vw [900,904,1000,2000,5,6] [11] O (Vb [0,1,2,3,4,5,6,7,8,9,10] 0 (by kernel_rfl) O O O (by omega) (Vl 11 O (by kernel_rfl) O (VDx.done (by kernel_rfl) (Vs 6 O (znZ Tryz.call92 O (fun w hI=>di dI (by omega) _ ro w hI.k0 (hI.at 900 O).cells (hI.at 901 O)) ?_)))))))))
  refine Vs 3 O (zlG O (fun z=>?_) (fun z=>?_))
  .
   rw[zpu (zpH z)]
   refine Vs 11 O (zlW tr48 O (fun w hI=>⟨_,rfl,(vl,ro.set n (rd x2.at_+1),ov),⟨rfl,rfl,hY (dm (by omega)),zr2,dJ⟩,hI.back 0 O O O rfl⟩))
  rw[zpv z]
  refine Vs 12 O (zlW tr48 O (fun w hI=>⟨_,rfl,(vl,ro.set n (rd x2.at_+1),ov),⟨rfl,rfl,hY (dm (by omega)),zr2,dJ⟩,hI.back 0 O O O rfl⟩))
 refine Vs 6 O (zlG O (fun k3=>?_) (fun k3=>?_))
 .
  obtain⟨h1,h2,h3⟩:=dM (by omega)
  have dk:=(vd.step _ (zpl h2)).1.cost
  obtain rfl:st=zW f x2.at_:=dL.trans h3
  have hp:yZ f (yc f r) x2 (zW f x2.at_) σ rd=(if xt σ.vals (zW f x2.at_).term ≠ 0 then x2.next else x2.other,{ σ with time:=σ.time+(zW f x2.at_).cost },rd):=by unfold yZ;rw[zpu (by omega),zpu (by omega),zpu k4,zpu (fun h=>k5 h.1),zpu k5]
  rw[hp]
  have dI:rdB f x2=true:=by unfold rdB;simp[k3]
  refine Vs 1 O (Vw [900,904,1000,2000,5,6] [11] O (Vb [0,1,2,3,4,5,6,7,8,9,10] 0 (by kernel_rfl) O O O (by omega) (Vl 11 O (by kernel_rfl) O (VDx.done (by kernel_rfl) (Vs 6 O (znZ Tryz.call92 O (fun w hI=>di dI (by omega) _ ro w hI.k0 (hI.at 900 O).cells (hI.at 901 O)) (Vs 3 O (zlG O (fun z=>?_) (fun z=>?_)))))))))
  .
   rw[zpu (zpH z)]
   refine Vs 11 O (zlW tr48 O (fun w hI=>⟨_,rfl,(vl,ro,ov),⟨rfl,rfl,hY (dm (by omega)),rfl,dc⟩,hI.back 0 O O O rfl⟩))
  rw[zpv z]
  refine Vs 12 O (zlW tr48 O (fun w hI=>⟨_,rfl,(vl,ro,ov),⟨rfl,rfl,hY (dm (by omega)),rfl,dc⟩,hI.back 0 O O O rfl⟩))
 refine Vs 6 O (zlG O (fun k2=>?_) (fun k2=>?_))
 .
  obtain⟨h1,h2,h3⟩:=dM (by omega)
  have dk:=(vd.step _ (zpl h2)).1.cost
  obtain rfl:st=zW f x2.at_:=dL.trans h3
  have hp:yZ f (yc f r) x2 (zW f x2.at_) σ rd=(x2.next,xu f (yc f r) (zW f x2.at_) σ,rd):=by unfold yZ;rw[zpu (by omega),zpv k2]
  rw[hp]
  refine Vs 1 O (Vw [900,904,1000,2000,5,6] [11] O (Vb [0,1,2,3,4,5,6,7,8,9,10] 0 (by kernel_rfl) O O O (by omega) (Vl 11 O (by kernel_rfl) O (VDx.done (by kernel_rfl) (Vs 5 O (zoz [900,901,902,903] (Hn:=fun y:List Int × Value=>[(900,.own b [.pointer (some ⟨gb,0,none⟩),ofv,nodv,vv,hv,.slice (some ⟨br,0,none⟩) ro.length cr,y.2,.int .i64 (xu f (yc f r) (zW f x2.at_) σ).time] 107),(901,.row 3 1 vv y.1.length (y.1.map zc)),(902,.row 3 1 (.slice (some ⟨br,0,none⟩) ro.length cr) ro.length (ro.map zc)),(903,.row 3 1 y.2 (xu f (yc f r) (zW f x2.at_) σ).outs.length ((xu f (yc f r) (zW f x2.at_) σ).outs.map zc))]) [(0,some (900,0)),(5,some (5,0)),(6,some (6,0)),(7,some (900,0)),(8,some (900,0)),(9,some (900,0)),(10,some (904,0)),(11,some (904,0)),(12,some (904,3)),(15,some (1000,0)),(17,some (900,0)),(18,some (900,0)),(19,some (900,0)),(20,some (904,0)),(21,some (904,0)),(22,some (904,4)),(25,some (2000,0)),(27,some (5,0)),(105,some (900,0)),(106,some (900,0)),(107,some (900,6)),(108,some (900,7)),(110,some (6,1)),(113,some (900,0)),(114,some (900,6)),(115,some (900,7)),(116,some (900,0))] Tryz.call93 O (fun _ _=>rfl) (fun _=>rfl) (fun w hI=>zf2 O O (zla (zkE f s vd hR (yc f r) ek n x2 hx k2 σ hV (by omega) vl ro ef dl b gb ofv nodv vv hv _ ov D Dh w (hI.held O O O) (hS.keep hI.k0 fun q hq _ h=>da q h hq) (hG.keep hI.k0 fun q hq _ h=>da q h hq) (hh.keep zb hI.k0 fun q hq _ h=>de q h hq) (hI.offE 0 O O (fun q h=>dT q (.inl h)) da) (hI.offE 0 O O (fun q h=>dT q (.inr h)) de) _ _ _ _ _ _ _ _ (dh.keep zb hI.k0 fun q hq _ h=>da q h hq)))) ?_))))))
  rintro _ ⟨vl',ov'⟩ ⟨rfl,ez,dR⟩
  refine Vs 11 O (zlW tr48 O (fun w hI=>⟨_,rfl,(vl',ro,ov'),⟨rfl,ez,dR,rfl,dc⟩,hI.back 0 O O O rfl⟩))
 have k0:x2.kind=0:=by omega
 have hp:yZ f (yc f r) x2 (zW f x2.at_) σ rd=(x2.next,σ,rd):=by unfold yZ;rw[zpv k0]
 rw[hp]
 refine Vs 11 O (zlW tr48 O (fun w hI=>⟨_,rfl,(vl,ro,ov),⟨rfl,rfl,hY (dm (by omega)),rfl,dc⟩,hI.back 0 O O O rfl⟩))
end Go.Proofs.YtckdhgbepmpgiaaGreat
namespace Go.GL
abbrev MIP (m:Nat) (l:List (Int × Value)):HE:=.res (fun q=>q=m) (fun w=>MapI w m l)
abbrev MEP (m:Nat) (l:List (Int × Value)) (k:Int) (st:Nat):HE:=.res (fun q=>q=m) (fun w=>MapE w m l k st)
theorem MapE.lt {w:World} {m st:Nat} {k:Int} {l:List (Int × Value)} (h:MapE w m l k st):m<w.heap.size:=h.map.lt
theorem MIP.loc {m:Nat} {l:List (Int × Value)}:(MIP m l).loc:=fun w w' T h hk hT=>by
 have h:MapI w m l:=h
 exact h.keep hk (hT m h.lt O)
theorem MEP.loc {m st:Nat} {k:Int} {l:List (Int × Value)}:(MEP m l k st).loc:=fun w w' T h hk hT=>by
 have h:MapE w m l k st:=h
 exact h.keep hk (hT m h.lt O)
section
variable {P:Program} {env:Env} {w:World} {dst:Option Tmp} {ty:TypeId} {pos:String} {aft:Array Edge} {g:Option (Nat × Bool)} {t kt et:TypeId} {m:Nat} {l:List (Int × Value)}
theorem zpb:yH P ⟨dst,.makeMap t none,ty,pos,aft,g⟩ env w (fun u w'=>∃ b,u=.map (some b)/\MapI w' b []/\Ext w w'/\∀ q,q=b->w.heap.size<=q/\q<w'.heap.size):=by
 obtain⟨u,w',h0,b,h1,h2,h3,h4,h5⟩:=M.makeMap (P:=P) (env:=env) (w:=w) (dst:=dst) (ty:=ty) (pos:=pos) (aft:=aft) (g:=g) (t:=t)
 exact⟨u,w',h0,b,h1,h4,h5,fun q hq=>by omega⟩
theorem zpc {x y u:Operand} {k:Int} {v:Value} {l':List (Int × Value)} (h:MapI w m l) (ht:P.underlying t=some (.map kt et)) (hk:P.underlying kt=some (.int .i64)) (hx:ev env x=some (.map (some m))) (hy:ev env y=some (.int .i64 k)) (hu:ev env u=some v) (hl:zgA l k v=l') :
  xZ P ⟨dst,.insert t x y u,ty,pos,aft,g⟩ env w (fun w'=>MapI w' m l'/\Keep (fun q=>q=m) w w'/\∀ q,q=m->(q=m\/w.heap.size<=q)/\q<w'.heap.size):=by
 subst hl
 obtain⟨w',h0,h1,h2,h3⟩:=M.insert (dst:=dst) (ty:=ty) (pos:=pos) (aft:=aft) (g:=g) h ht hk hx hy hu
 exact⟨w',h0,h1,h2,fun q hq=>⟨.inl hq,by have:=h1.lt;omega⟩⟩
theorem zpd {x y:Operand} {k:Int} {z v:Value} (h:MapI w m l) (hv:(zjH l k).getD z=v) (ht:P.underlying t=some (.map kt et)) (hk:P.underlying kt=some (.int .i64)) (hz:∀ w,(zeroValue et).run P w=.ok z w) (hx:ev env x=some (.map (some m))) (hy:ev env y=some (.int .i64 k)) :
  yA P ⟨dst,.lookup t x y false,ty,pos,aft,g⟩ env w v w:=hv ▸ zoV h ht hk hz hx hy
theorem zpe {x y:Operand} {k:Int} {v:Value} (h:MapI w m l) (hv:zjH l k=some v) (ht:P.underlying t=some (.map kt et)) (hk:P.underlying kt=some (.int .i64)) (hx:ev env x=some (.map (some m))) (hy:ev env y=some (.int .i64 k)) :
  yH P ⟨dst,.mapEntry t x y,ty,pos,aft,g⟩ env w (fun u w'=>∃ st:Nat,u=.tuple #[v,.int .i64 st]/\MapE w' m l k st/\Keep (fun q=>q=m) w w'/\∀ q,q=m->(q=m\/w.heap.size<=q)/\q<w'.heap.size):=by
 obtain⟨u,w',h0,st,h1,h2,h3,h4⟩:=M.mapEntry (dst:=dst) (ty:=ty) (pos:=pos) (aft:=aft) (g:=g) h hv ht hk hx hy
 exact⟨u,w',h0,st,h1,h2,h3,fun q hq=>⟨.inl hq,by have:=h2.lt;omega⟩⟩
theorem zpf {x y u:Operand} {k:Int} {st:Nat} {v:Value} {l':List (Int × Value)} (h:MapE w m l k st) (hx:ev env x=some (.map (some m))) (hy:ev env y=some (.int .i64 st)) (hu:ev env u=some v) (hl:zgA l k v=l') :
  xZ P ⟨dst,.entryStore t x y u,ty,pos,aft,g⟩ env w (fun w'=>MapI w' m l'/\Keep (fun q=>q=m) w w'/\∀ q,q=m->(q=m\/w.heap.size<=q)/\q<w'.heap.size):=by
 subst hl
 obtain⟨w',h0,h1,h2,h3⟩:=M.entryStore (dst:=dst) (ty:=ty) (pos:=pos) (aft:=aft) (g:=g) (t:=t) h hx hy hu
 exact⟨w',h0,h1,h2,fun q hq=>⟨.inl hq,by have:=h1.lt;omega⟩⟩
end
end Go.GL
namespace Go.Proofs.YtckdhgbepmpgiaaGreat
open Go.GL
def zdd (q:Int->Value):List (Int × Value):=[(1,q 1),(2,q 2),(3,q 3)]
theorem zes {q:Int->Value} {k:Int} (hk:1<=k/\k<=3):zjH (zdd q) k=some (q k):=by
 rcases (show k=1\/k=2\/k=3 by omega) with rfl | rfl | rfl<;>rfl
theorem zi8 {q:Int->Value} {k:Int} {u:Value} (hk:1<=k/\k<=3):zgA (zdd q) k u=zdd (fun j=>if j=k then u else q j):=by
 rcases (show k=1\/k=2\/k=3 by omega) with rfl | rfl | rfl<;>rfl
theorem zjA (f:Fl) (r:Ins) (v1 v2 v3 s1 s2 s3:Value) (D:Nat->Prop) (W:World) (hf:RFl D W f v1 v2 v3) (dH:SlR 1 zC D W s1 r.secret) (dI:SlR 1 zC D W s2 r.pub) (dJ:SlR 1 zC D W s3 r.random) (dt:∀ v ∈ f.vars,0<=v.kind/\v.kind<=3) (dy:f.vars.length<=1000) (hb:∀ k,(yF r k).length<=1000000000) :
  Calls Tryz.prog 44 #[.agg #[v1,v2,v3],.agg #[s1,s2,s3]] W (Ret fun rr w'=>(∃ u,rr=.tuple #[u,.int .i64 (zl f.vars r)]/\(zl f.vars r=0->SlR 1 zC (fun b=>W.heap.size<=b) w' u (zx f.vars r)))/\Ext W w'):=by
 have df:=hf.vars
 obtain⟨av,cv,rfl⟩:=df.form
 have dK:=df.max
 refine znl Tryz.func44 O Tryz.ntmps44 O (znE (Vs 2 O (V.box 2 O O (fun b2=>?_))))
 refine V.box 3 O O (fun b3=>(Vs 6 O (zoJ 901 (E:=fun m=>MIP m []) (u:=fun m=>.map (some m)) O (fun _=>⟨MIP.loc,fun _ h=>h⟩) (fun w hI=>zpb) (fun m901=>?_))))
 refine Vs 2 O (zoK 901 (e':=MIP m901 [(1,s1)]) O (MIP.loc) (fun _ h=>h) (fun w hI=>zpc (hI.at 901 O) tu156 tu100 O O O O) (Vs 2 O (zoK 901 (e':=MIP m901 [(1,s1),(2,s2)]) O (MIP.loc) (fun _ h=>h) (fun w hI=>zpc (hI.at 901 O) tu156 tu100 O O O O) (Vs 2 O (zoK 901 (e':=MIP m901 [(1,s1),(2,s2),(3,s3)]) O (MIP.loc) (fun _ h=>h) (fun w hI=>zpc (hI.at 901 O) tu156 tu100 O O O O) (Vs 5 O (znR 902 3 1 O (Vs 19 O (zoe (σ:=Nat × StS × (Int->Value) × Bool × Value) [6,22,23] [] [] O (fun e ⟨i,s,q,o,u⟩=>(7,u)::(8,.bool o)::(24,.int .i64 i)::e) (fun e ⟨i,s,q,o,u⟩=>(901,MIP m901 (zdd q))::(902,.row 3 1 u s.vals.length (s.vals.map zc))::e) (fun⟨i,s,q,o,u⟩=>i<=f.vars.length/\(f.vars.take i).foldl (zp r) (some ⟨[],0,0,0⟩)=some s/\LeftOk D W r s q/\o=((f.vars.take i).zip s.vals).all inB) (fun⟨i,s,q,o,u⟩=>f.vars.length - i) ((0,⟨[],0,0,0⟩,fun k=>if k=1 then s1 else if k=2 then s2 else s3,true,.slice none 0 0)) (Sub.of O) (Has.of O) (fun _=>rfl) (fun _=>rfl) (fun _=>rfl) (⟨zpz _,rfl,fun k h1 h3=>by rcases (show k=1\/k=2\/k=3 by omega) with rfl | rfl | rfl<;>assumption,rfl⟩) ?_)))))))))
 rintro⟨i,s,q,o,u⟩ ⟨hi,hS,hL,ho⟩
 show V _ _ _ _ _ ((7,u)::(8,.bool o)::(24,.int .i64 i)::_) _ ((901,MIP m901 (zdd q))::(902,.row 3 1 u s.vals.length (s.vals.map zc))::_) _
 refine Vs 6 O (zlG O (fun dz=>?_) (fun dz=>?_))
 .
  refine Vs 6 O ?_
  obtain⟨x,da,dg⟩:=gE_ f.vars (i) (by omega)
  obtain⟨dL,dM,dN,dh,_,di,dk⟩:=df.at da
  obtain rfl:=dk
  refine zoa 1000 0 O O di ?_
  refine znN 1000 tR22 ts142 O dh (by omega) (_) (rfl) O ?_
  obtain⟨dA,_⟩:=zaj i s hi hS
  have dO:=dt x dg
  refine Vs 1 O (V.alloc 10 tz142 O O (fun b10=>?_))
  refine Vs 11 O (zof (σ:=Int × (Int->Value) × StS) [6,7,8,10,22,23,24] [10,902] [10] O (fun e ⟨n,q',s'⟩=>(11,.int .i64 n)::e) (fun e ⟨n,q',s'⟩=>(901,MIP m901 (zdd q'))::e) (fun⟨n,q',s'⟩=>zp r (some s) x=some s'/\s'.vals=s.vals++[n]/\LeftOk D W r s' q') (fun _=>rfl) (fun _=>rfl) ?_ ?_)
  .
   refine Vs 7 O (zlG O (fun hk=>?_) (fun hk=>?_))
   .
    have db:1<=x.kind/\x.kind<=3:=by omega
    obtain⟨rest,hY⟩:∃ rest,rest=(yF r x.kind).drop (jb s x.kind):=⟨_,rfl⟩
    have hq:=hL x.kind db.1 db.2
    rw[<- hY]at hq
    obtain⟨aq,cq,du⟩:=hq.form
    rw[du]at hq
    have dw:=ziI db hY.symm
    refine Vs 5 O (znb O (fun w hI=>zpd (v:=.slice aq rest.length cq) (hI.at 901 O) (by rw[zes db,du];rfl) tu156 tu100 tz27 O O) (Vs 11 O (zlG O (fun z=>?_) (fun z=>?_))))
    .
     have hn:(f.vars.take (i+1)).foldl (zp r) (some ⟨[],0,0,0⟩)=none:=by
      rw[ze da,zqT,hS]
      exact zhb db (by rw[dw,zpI (by omega)])
     have h1:zl f.vars r=1:=by unfold zl;rw[zbH hn]
     refine Vs 15 O (zlZ tr44 O O (fun w hI=>⟨_,rfl,⟨_,by rw[h1],fun h=>by rw[h1]at h;cases h⟩,hI.k0⟩))
    obtain⟨y,dc,dB⟩:=gE_ rest (0) (by omega)
    obtain⟨dQ,dR,dS,dl,_,dm,dr⟩:=hq.at dc
    obtain rfl:=dr
    refine zoa 2000 0 O O dm ?_
    have dC:(yF r x.kind)[jb s x.kind]?=some y:=by rw[dw,dc]
    refine Vs 2 O (Vw [1000,10,2000] [9] O (Vd [0,1,2,3,6] 0 (by kernel_rfl) O O O ?_))
    refine znO 4 2000 tR27 ts3 O (by kernel_rfl) O dl (by omega) (_) (rfl) O (Vd [5,8] 0 (by kernel_rfl) O O O (zon 7 O (by kernel_rfl) O (fun w=>zmk tR27 ts3 O O (by omega)) (zp3 9 901 0 (E':=fun st=>MEP m901 (zdd q) x.kind st) (r:=fun st=>.tuple #[q x.kind,.int .i64 st]) O (by kernel_rfl) O O (fun _=>⟨MEP.loc,fun _ h=>h⟩) (fun w hI=>zpe (hI.at 901 O) (zes db) tu156 tu100 O O) (fun st=>?_))))
    refine Vd [10] 0 (by kernel_rfl) O O O (zoM 11 901 0 (e':=MIP m901 (zdd fun j=>if j=x.kind then (.slice (if cq=1 then aq else aq.map (·.add (1*1))) (rest.length - 1) (cq - 1)) else q j)) O (by kernel_rfl) O O (MIP.loc) (fun _ h=>h) (fun w hI=>zpf (hI.at 901 O) O O O (zi8 db)) (VD.done (by kernel_rfl) (zlT (⟨y,fun j=>if j=x.kind then (.slice (if cq=1 then aq else aq.map (·.add (1*1))) (rest.length - 1) (cq - 1)) else q j,kR s x.kind y⟩) (Sub.of O) (Has.of O) (⟨zfp db dC,zai _ _ _,hL.next db hY hq (by omega)⟩) 0 O O)))
   refine Vs 1 O (zlT (⟨x.init,q,⟨s.vals++[x.init],s.a,s.b,s.c⟩⟩) (Sub.of O) (Has.of O) (⟨ze0 (by omega),rfl,hL⟩) 0 O O)
  rintro⟨n,q',s'⟩ ⟨dD,dx,dE⟩
  show V _ _ _ _ _ ((11,.int .i64 n)::_) _ ((901,MIP m901 (zdd q'))::_) _
  refine Vs 2 O (zof (σ:=Bool) [6,7,11,22,23,24] [901,902] [] O (fun e o'=>(8,.bool o')::e) (fun e o'=>e) (fun o'=>o'=(o&&inB (x,n))) (fun _=>rfl) (fun _=>rfl) ?_ ?_)
  .
   refine Vs 3 O (V.sb 51 O (fun b1=>?_) (fun b1=>?_))
   .
    subst b1
    refine Vs 6 O (V.sp 57 O (fun b2=>?_) (fun b2=>?_))
    . refine Vs 7 O (zlT ((decide (n<=x.high))) (Sub.of O) (Has.of O) (by simp[inB,b2]) 0 O O)
    refine Vs 7 O (zlT (false) (Sub.of O) (Has.of O) (by simp[inB];omega) 0 O O)
   subst b1
   refine Vs 13 O (zlT (false) (Sub.of O) (Has.of O) (by simp) 0 O O)
  rintro o' dF
  show V _ _ _ _ _ ((8,.bool o')::_) _ (_) _
  refine Vs 4 O (V.bs 65 [(0,_)] tR27 ts3 tz3 (by decide) O O (by kernel_rfl) (fun b65=>?_))
  refine znS 902 65 tu27 Tryz.el3 O (by decide) O O (by omega) (by omega) (fun u902=>(Va 8 O (by omega) (zod 902 O (e':=.row 3 1 u902 s'.vals.length (s'.vals.map zc)) (by rw[dx];simp[zc]) (V.back (⟨i+1,s',q',o',u902⟩) (Sub.of O) (Has.of O) (⟨by omega,zam da hS dD,dE,by rw[dF,ho,dx,zd1 da s.vals dA n]⟩) (by first | omega | (dsimp only;omega)) 0 O O))))
 obtain rfl:i=f.vars.length:=by omega
 rw[zpp]at hS ho
 have de:jO f.vars r=some s:=hS
 obtain⟨a1,c1,e1⟩:=(hL 1 (by decide) (by decide)).form
 obtain⟨a2,c2,e2⟩:=(hL 2 (by decide) (by decide)).form
 obtain⟨a3,c3,e3⟩:=(hL 3 (by decide) (by decide)).form
 have dG:zx f.vars r=s.vals:=by unfold zx;rw[de]
 have hm:∀ k,((yF r k).drop (jb s k)).length<=1000000000:=fun k=>by rw[zqX];have:=hb k;omega
 have dT:=hm 1
 have dU:=hm 2
 have dV:=hm 3
 refine Vs 9 O (znb O (fun w hI=>zpd (v:=.slice a1 ((yF r 1).drop (jb s 1)).length c1) (hI.at 901 O) (by rw[<- e1];rfl) tu156 tu100 tz27 O O) (Vs 2 O (znb O (fun w hI=>zpd (v:=.slice a2 ((yF r 2).drop (jb s 2)).length c2) (hI.at 901 O) (by rw[<- e2];rfl) tu156 tu100 tz27 O O) (Va 3 O (by omega) (znb O (fun w hI=>zpd (v:=.slice a3 ((yF r 3).drop (jb s 3)).length c3) (hI.at 901 O) (by rw[<- e3];rfl) tu156 tu100 tz27 O O) ?_)))))
 refine Va 5 O (by omega) (zlG O (fun z=>?_) (fun z=>?_))
 .
  have h1:zl f.vars r=1:=by
   rcases (show 0<((yF r 1).drop (jb s 1)).length\/0<((yF r 2).drop (jb s 2)).length\/0<((yF r 3).drop (jb s 3)).length by omega) with h | h | h
   . exact zan de (k:=1) (by decide) h
   . exact zan de (k:=2) (by decide) h
   exact zan de (k:=3) (by decide) h
  refine Vs 8 O (zlZ tr44 O O (fun w hI=>⟨_,rfl,⟨_,by rw[h1],fun h=>by rw[h1]at h;cases h⟩,hI.k0⟩))
 have hc:=ze1 de dt (fun k h1 h3=>by rcases (show k=1\/k=2\/k=3 by omega) with rfl | rfl | rfl<;>omega)
 rw[<- ho]at hc
 refine Vs 6 O (znb O (fun w hI=>zmT O (by first | exact za | rfl)) (Vs 2 O (V.bool O (fun y=>?_) (fun y=>?_))))
 .
  have h3:zl f.vars r=3:=by rw[hc];cases o;(· rfl);cases y
  refine Vs 8 O (zlZ tr44 O O (fun w hI=>⟨_,rfl,⟨_,by rw[h3],fun h=>by rw[h3]at h;cases h⟩,hI.k0⟩))
 have h0:zl f.vars r=0:=by rw[hc];cases o;(· cases y);rfl
 refine Vs 10 O (zlZ tr44 O O (fun w hI=>⟨_,rfl,⟨_,by rw[h0],fun _=>dG ▸ zmM (R:=zC) (D:=fun b=>W.heap.size<=b) zc (fun _ _=>rfl) (hI.at 902 O) (fun q hq=>hI.own 902 0 O O q hq)⟩,hI.k0⟩))
end Go.Proofs.YtckdhgbepmpgiaaGreat
namespace Go.GL
open Go.RowKit Go.Row
section
variable {P:Program} {env:Env} {w:World} {dst:Option Tmp} {ty:TypeId} {pos:String} {aft:Array Edge} {gu:Option (Nat × Bool)}
theorem zpg {t e:TypeId} {by':Nat} {z:Value} {x y:Operand} {m g c:Nat} {xs news zs:List Value} {a0:Addr} {j cs:Nat} (hu:P.underlying t=some (.slice e)) (he:(P.info? e).map (fun i=>(i.zero,i.size,i.bytes))=some (some z,1,by'))
  (hx:ev env x=some (.slice (some ⟨g,0,none⟩) m c)) (hy:ev env y=some (.slice (some a0) j cs)) (da:(HE.row e 1 (.slice (some ⟨g,0,none⟩) m c) m xs).holds w) (hl:news.length=j) (de:j<=m) (db:∀ q u,news[q]?=some u->w.cell? (a0.add q)=some u) (h1:∀ u ∈ news,u.oneCell'=true) (hz:news++xs.drop j=zs) :
  yH P ⟨dst,.call ⟨.builtin .copy,#[x,y],#[t,t]⟩,ty,pos,aft,gu⟩ env w (fun u w'=>u=.int .i64 (j:Int)/\(HE.row e 1 (.slice (some ⟨g,0,none⟩) m c) m zs).holds w'/\Keep (HE.row e 1 (.slice (some ⟨g,0,none⟩) m c) m xs).S w w'/\∀ q,(HE.row e 1 (.slice (some ⟨g,0,none⟩) m c) m zs).S q->((HE.row e 1 (.slice (some ⟨g,0,none⟩) m c) m xs).S q\/w.heap.size<=q)/\q<w'.heap.size):=by
 subst hz
 have da:w.ownsRow 0 e 1 (.slice (some ⟨g,0,none⟩) m c) m xs:=da
 obtain⟨i,hi,dl,df,dm⟩:=info_parts he
 obtain⟨dc,h2⟩:=da
 rcases h2 with⟨h2,_⟩ | ⟨g0,cap,cur,hv,dg,hg,hc,dh,di,hY⟩
 . cases h2
 cases hv
 rw[zrY]at di hY dc
 have hr:=run_copy_row (P:=P) w t t ty e g 0 m c a0 j cs cur e news hu (by rw[hi];simp[df]) hg (by rw[hl];exact(Nat.min_eq_left de).symm) db (by omega) h1
 have dk:=(Array.getElem?_eq_some_iff.1 hg).1
 refine⟨.int .i64 (j:Int),w.setRow g (cur.toList.take 0++news++cur.toList.drop (0+news.length)).toArray,fun n a ha=>?_,rfl,⟨?_,.inr ⟨g,c,_,rfl,dg,setRow_heap w g cur _ e _ hg,hc,dh,?_,?_⟩⟩,⟨rfl,rfl,rfl,zpJ _,by simp,fun k _ hk=>setRow_other w g k _ (fun e=>hk (by simp[HE.S,Value.ownBlock,e]))⟩,fun q hq=>⟨.inl hq,?_⟩⟩
 .
  rw[<- hl]
  simp[execOp,resolve,invoke,builtin,ha.eval hx,ha.eval hy,hr,goInt]
 . rw[zps,zqX,zrY];omega
 .
  simp only[zry,zps,zpO,zqX,zpS]
  omega
 .
  rw[zrY,zrI,zrk,zs3,hl]
  show (news++cur.toList.drop j).take m=_
  rw[List.take_append,zrF (by omega),hl,<- hY,List.drop_take]
 have hq:some g=some q:=hq
 cases hq
 simpa using dk
theorem zph {t e:TypeId} {by':Nat} {z:Value} {x y:Operand} {m g c:Nat} {xs zs:List Value} {l:List Int} {vy:Value} {D:Nat->Prop} (hu:P.underlying t=some (.slice e)) (he:(P.info? e).map (fun i=>(i.zero,i.size,i.bytes))=some (some z,1,by'))
  (hx:ev env x=some (.slice (some ⟨g,0,none⟩) m c)) (hy:ev env y=some vy) (hY:(HE.row e 1 (.slice (some ⟨g,0,none⟩) m c) m xs).holds w) (da:SlR 1 zC D w vy l) (dc:l.length<=m) (hz:l.map (Value.int .i64)++xs.drop l.length=zs) :
  yH P ⟨dst,.call ⟨.builtin .copy,#[x,y],#[t,t]⟩,ty,pos,aft,gu⟩ env w (fun u w'=>u=.int .i64 (l.length:Int)/\(HE.row e 1 (.slice (some ⟨g,0,none⟩) m c) m zs).holds w'/\Keep (HE.row e 1 (.slice (some ⟨g,0,none⟩) m c) m xs).S w w'/\∀ q,(HE.row e 1 (.slice (some ⟨g,0,none⟩) m c) m zs).S q->((HE.row e 1 (.slice (some ⟨g,0,none⟩) m c) m xs).S q\/w.heap.size<=q)/\q<w'.heap.size):=by
 obtain⟨ao,cap,rfl⟩:=da.form
 cases l with
 | nil =>
  have hz:xs=zs:=hz
  subst hz
  obtain⟨i,hi,df,de,dg⟩:=info_parts he
  have hr:=run_copy_none (P:=P) w t t ty e (some ⟨g,0,none⟩) ao m c 0 cap hu (by rw[hi];simp[de]) (by simp)
  refine⟨.int .i64 0,w,fun n a ha=>?_,rfl,hY,Keep.refl _ _,fun q hq=>⟨.inl hq,xB (show w.ownsRow 0 e 1 _ m _ from hY) hq⟩⟩
  have dh:(Builtin.copy_ #[t,t] ty #[.slice (some ⟨g,0,none⟩) m c,.slice ao ([]:List Int).length cap]).run P w=.ok (goInt 0) w:=hr
  simp[execOp,resolve,invoke,builtin,ha.eval hx,ha.eval hy,hr,goInt]
 | cons v0 l =>
  obtain⟨b,o,cs,rfl,_⟩:=da.at (i:=0) (x:=v0) rfl
  refine zpg hu he hx hy hY (zpE _) dc (fun q u hq=>?_) (fun u hu=>?_) hz
  .
   rw[zpB]at hq
   obtain⟨v,hv,rfl⟩:=zsa.1 hq
   obtain⟨b',o',cs,e1,_,h3,h4⟩:=da.at hv
   cases e1
   obtain rfl:cs=[.int .i64 v]:=h4
   have:=h3 0 _ rfl
   by_cases db:q=0
   . subst db;simpa[Addr.add] using this
   simpa[Addr.add,db] using this
  obtain⟨v,_,rfl⟩:=zrf.1 hu
  rfl
end
section
variable {P:Program} {n:Nat} {Q:Exit->Act->World->Prop} {ks:List Fr} {env:Env} {A:Tgs} {H Hs:Hp} {Bs B0:zF} {ops:Array Oper} {L:List Nat} {fuel:Nat} {listed:Array Bool} {v:Value}
def VT (P:Program) (n:Nat) (Q:Exit->Act->World->Prop) (ks:List Fr) (ops:Array Oper) (Hs:Hp) (B0:zF) (L:List Nat) (fuel:Nat) (listed:Array Bool) (env:Env) (A:Tgs) (H:Hp) (Bs:zF) (i:Nat):Prop :=
 Has Hs H->TgOk A env H->∀ w,VI Bs H w->∀ a,Ok n env a->wpOp P ops (NQ (QK P Q ks)) i (fun a' w'=>(i ∉ L->VI B0 Hs w->VI B0 Hs w')/\ko P .any ops (NQ (QK P Q ks)) (VI B0 Hs) L fuel (listed.setIfInBounds i true) a' w') a w
def VTs (P:Program) (n:Nat) (Q:Exit->Act->World->Prop) (ks:List Fr) (ops:Array Oper) (Hs:Hp) (B0:zF) (L:List Nat) (fuel:Nat) (listed:Array Bool) (env:Env) (A:Tgs) (H:Hp) (Bs:zF):List Nat->Prop
 | []=>True
 | i::r=>VT P n Q ks ops Hs B0 L fuel listed env A H Bs i/\VTs P n Q ks ops Hs B0 L fuel listed env A H Bs r
theorem VTs.all:∀ {l:List Nat},VTs P n Q ks ops Hs B0 L fuel listed env A H Bs l->∀ i ∈ l,VT P n Q ks ops Hs B0 L fuel listed env A H Bs i
 | x::r,h,i,hi=>by
  rcases zpA.1 hi with rfl | hi
  . exact h.1
  exact VTs.all h.2 i hi
theorem zpi (i:Nat) (r:List Nat) (hr:Region.ready .any ops listed=i::r) (h:VTs P n Q ks ops Hs B0 L fuel listed env A H Bs (i::r)):VD P n Q ks ops Hs B0 L (fuel+1) listed env A H Bs:=by
 intro hH hA w hI a ha
 exact⟨fun h0=>(by rw[hr]at h0;cases h0),fun k hk=>h.all k (hr ▸ hk) hH hA w hI a ha⟩
variable {d:Nat} {op:Op} {ty:TypeId} {ps:String} {aft:Array Edge} {g:Option (Nat × Bool)}
theorem zo7 {i:Nat} (hi:ops[i]?=some ⟨some d,op,ty,ps,aft,g⟩) (hn:Nat.blt d n=true) (hg:gd ops env g=some true) {R:World->Value->World->Prop}
  (hm:∀ w,VI Bs H w->Does P ⟨some d,op,ty,ps,aft,g⟩ env w (R w)) (h:Has Hs H->TgOk A env H->∀ w,VI Bs H w->∀ v w',R w v w'->VI B0 Hs w'/\WD P n ops (QK P Q ks) (VI B0 Hs) L fuel (listed.setIfInBounds i true) ((d,v)::env) w'):VT P n Q ks ops Hs B0 L fuel listed env A H Bs i:=by
 intro hH hA w hI a ha
 have hd:=hm w hI
 have h:=h hH hA w hI
 unfold wpOp
 simp only[hi]
 rw[zpv (qv hg a ha)]
 refine .inl ?_
 unfold Oper.wp
 rcases hd with⟨v,w',hY,hR⟩ | ⟨f,args,hm,hc⟩
 .
  rw[hY n a ha,Oper.upon_value]
  exact⟨fun _ _=>(h v w' hR).1,(h v w' hR).2 _ (ha.put hn)⟩
 rw[hm n a ha,Oper.upon_enter]
 refine hc.mono ?_
 rintro e w' ⟨v,rfl,hR⟩
 exact⟨fun _ _=>(h v w' hR).1,(h v w' hR).2 _ (ha.put hn)⟩
theorem zo3 (i j:Nat) {f:FuncId} {xs:Array Operand} {ts:Array TypeId} {vs:List Value} {Φ:Value->World->World->Prop} (hf:∀ args w,(callFunc f args).run P w=.ok (.enter f args) w) (hi:ops[i]?=some ⟨some d,.call ⟨.value (.func f),xs,ts⟩,ty,ps,aft,g⟩) (hn:(Nat.blt d n,gd ops env g,jc env xs.toList,qA (Hs.map (·.1)))=(true,some true,some vs,true)) (hB:Bs.drop j=B0)
  (hc:∀ w,VI Bs H w->Calls P f vs.toArray w (Ret fun r w'=>Φ r w w'/\Ext w w'))
  (h:∀ r w w',VI Bs H w->Ext w w'->Φ r w w'->(∀ q,HS H q->q<w.heap.size)->VD P n Q ks ops Hs B0 L fuel (listed.setIfInBounds i true) ((d,r)::env) ((d,none)::A) H ((w',HS H)::Bs)):VT P n Q ks ops Hs B0 L fuel listed env A H Bs i:=by
 simp only[Prod.mk.injEq]at hn
 subst hB
 refine zo7 hi hn.1 hn.2.1 (fun w hI=>.inr ⟨f,_,F.call hf (xd hn.2.2.1),hc w hI⟩) fun hH hA w hI=>?_
 rintro r w' ⟨hP,hk⟩
 exact⟨((hI.ext hk).drop j).pick hH hn.2.2.2,h r w w' hI hk hP (fun q ⟨x,hx,hq⟩=>hI.low x hx q hq) hH hA.none w' (hI.ext hk).here⟩
theorem zmB (i k j:Nat) {t e:TypeId} {kk by' m:Nat} {z:Value} {x y:Operand} {kl kc:IntKind} {zs:List Value} (hu:P.underlying t=some (.slice e)) (he:(P.info? e).map (fun i=>(i.zero,i.size,i.bytes))=some (some z,kk,by'))
  (hi:ops[i]?=some ⟨some d,.makeSlice t x y,ty,ps,aft,g⟩) (hn:(Nat.blt d n,gd ops env g,(hget H k).isNone,ev env x,ev env y,qA (Hs.map (·.1)))=(true,some true,true,some (.int kl (m:Int)),some (.int kc (m:Int)),true)) (hB:Bs.drop j=B0)
  (hb:by'*m<=281474976710656) (hm:m<=9223372036854775807) (hz:madeCells z.cells (m*kk)=zs.toArray) (hl:zs.length=m*kk)
  (h:∀ b,VD P n Q ks ops Hs B0 L fuel (listed.setIfInBounds i true) ((d,.slice (some ⟨b,0,none⟩) m m)::env) ((d,none)::A) ((k,.row e kk (.slice (some ⟨b,0,none⟩) m m) m zs)::H) Bs):VT P n Q ks ops Hs B0 L fuel listed env A H Bs i:=by
 simp only[Prod.mk.injEq,zs7]at hn
 subst hB
 obtain⟨h1,h2,h3,h4,h5,h6⟩:=hn
 refine zo7 hi h1 h2 (fun w hI=>.inl (zmy hu he h4 h5 hb hm hz)) fun hH hA w hI=>?_
 rintro _ w1 ⟨b,rfl,hN⟩
 have hY:=hI.row k hm hl hN
 have da:Has Hs ((k,.row e kk (.slice (some ⟨b,0,none⟩) m m) m zs)::H):=hH.new h3
 exact⟨(hY.drop j).pick da h6,h b da (TgOk.none (hA.new h3)) w1 hY⟩
end
end Go.GL
namespace Go.Proofs.YtckdhgbepmpgiaaGreat
open Go.GL
noncomputable def zaJ (f:Fl) (g:List Nd) (s:Sf) (r:Ins):Int:=if yq f g s ≠ 0 then yq f g s else zl f.vars r
theorem zi9 (f:Fl) (g:List Nd) (s:Sf) (hR:RightF f g s (rdV f g)) (n:Nat) (hn:n<g.length) (y:Nat) (hy:(zj s n).phis ≠ []->y ∈ xj g n) (dc:g.length<=100000) (de:(zj s n).phis.length<=1000000) (vl:List Int) (m:Nat) (hm:vl.length=m) (hY:m=s.of_.length) (df:m<=1000000) (b gb bv cv:Nat) (ofv nodv hv rv ov tv:Value) (D:Nat->Prop) (W:World) (hc:Cells W b 0 (rnr gb ofv nodv (.slice (some ⟨bv,0,none⟩) m cv) hv rv ov tv)) (hS:RSf D W s ofv nodv) (da:(xO (.slice (some ⟨bv,0,none⟩) m cv) vl).holds W) (dg:∀ q,D q->bv ≠ q) (db:bv ≠ b) :
  Calls Tryz.prog 47 #[.pointer (some ⟨b,0,none⟩),.int .i64 y,.int .i64 n] W (Ret fun r w'=>∃ _x:Unit,r=.tuple #[]/\(xO (.slice (some ⟨bv,0,none⟩) m cv) (qW f g s y vl (zj s n).phis)).holds w'/\Keep (xO (.slice (some ⟨bv,0,none⟩) m cv) vl).S W w'/\∀ q,(xO (.slice (some ⟨bv,0,none⟩) m cv) (qW f g s y vl (zj s n).phis)).S q->((xO (.slice (some ⟨bv,0,none⟩) m cv) vl).S q\/W.heap.size<=q)/\q<w'.heap.size):=by
 subst hm
 exact zjh f g s hR n hn y hy dc de vl hY df b gb bv cv ofv nodv hv rv ov tv D W hc hS da dg db
theorem zkF {s:Sf} {m n:Nat} (h:(LP s m).length<=1000000) (hn:n<m):(zj s n).phis.length<=1000000:=by
 unfold LP at h
 have h1:=(zrz (l:=dP (zj s n)++(zj s n).phis.map (·.ver)) (L:=(List.range m).map fun i=>dP (zj s i)++(zj s i).phis.map (·.ver)) (zrf.2 ⟨n,zrj.2 hn,rfl⟩)).length_le
 rw[<- zqQ,zps,zpE]at h1
 omega
theorem zia (f:Fl) (g:List Nd) (s:Sf) (r:Ins) (dQ:snodes f.body+zA f.hatches<=1024) (dR:sbulk f.body<=1000000) (df:s.of_.length<=1000000/\(LP s g.length).length<=1000000) (hb:∀ k,(yF r k).length<=1000000000) (v1 v2 v3 gv ofv nodv s1 s2 s3:Value) (D:Nat->Prop) (W:World) (hf:RFl D W f v1 v2 v3) (hg:SlR 4 RNd D W gv g) (hS:RSf D W s ofv nodv) (dS:SlR 1 zC D W s1 r.secret) (dT:SlR 1 zC D W s2 r.pub) (dU:SlR 1 zC D W s3 r.random) (hD:∀ q,D q->q<W.heap.size) :
  Calls Tryz.prog 18 #[.agg #[v1,v2,v3],.agg #[gv],.agg #[ofv,nodv],.agg #[s1,s2,s3]] W (Ret fun rr w'=>(∃ ov t,rr=.tuple #[.agg #[ov,.int .i64 t],.int .i64 (zaJ f g s r)]/\(zaJ f g s r ≠ 0->ov=.slice none 0 0/\t=0)/\(zaJ f g s r=0->SlR 1 zC (fun b=>W.heap.size<=b) w' ov (zak f r).outs/\t=(zak f r).time))/\Ext W w'):=by
 obtain⟨a1,c1,rfl⟩:=hf.vars.form
 obtain⟨a2,c2,rfl⟩:=hf.hatches.form
 obtain⟨a3,c3,rfl⟩:=hf.body.form
 obtain⟨ag,cg,rfl⟩:=hg.form
 obtain⟨ao,co,rfl⟩:=hS.of_.form
 obtain⟨an,cn,rfl⟩:=hS.nodes.form
 obtain⟨b1,d1,rfl⟩:=dS.form
 obtain⟨b2,d2,rfl⟩:=dT.form
 obtain⟨b3,d3,rfl⟩:=dU.form
 have eF:=hg.max
 have eG:=hS.of_.max
 refine znn Tryz.func18 O Tryz.ntmps18 O (znE (Vs 2 O (V.box 4 O O (fun b4=>?_))))
 refine V.box 5 O O (fun b5=>(V.box 6 O O (fun b6=>?_)))
 refine V.box 7 O O (fun b7=>(V.alloc 8 tz47 O O (fun b8=>?_)))
 refine Vs 9 O (znZ Tryz.call16 O (fun w hI=>za3 f g s dQ dR df _ _ _ _ _ _ D w (Tr1 hI.k0 hf) (Tr1 hI.k0 hg) (Tr1 hI.k0 hS) (fun q hq=>zrT (hD q hq) (Keep.size hI.k0))) (Vs 9 O (zlG O (fun c0=>?_) (fun c0=>?_))))
 .
  have hc:zaJ f g s r=yq f g s:=zpv c0
  refine Vs 2 O (zol [Value.slice none 0 0,Value.int IntKind.i64 0] [(0,1),(1,1)] [] O O (fun _=>by kernel_rfl) (Vs 7 O (zm7 Tryz.results18 tg47 ts47 O O O O (fun w hI=>⟨_,rfl,⟨_,_,by rw[hc],fun _=>⟨rfl,rfl⟩,fun h=>absurd (hc ▸ h) c0⟩,hI.k0⟩))))
 have hc:zaJ f g s r=zl f.vars r:=zpu c0
 obtain⟨d9,hR⟩:=zhK (zpt.1 c0)
 obtain⟨ea,eb⟩:=ki (zpH d9)
 subst eb
 have vd:Valid f:=⟨ea,dQ,dR⟩
 have dV:=vd.lens
 have eH:=vd.ssize
 have eI:=yI f vd.plain
 have eJ:=xe f.body
 rw[hc]
 refine Vs 6 O (zo1 Tryz.call44 O (fun w hI=>zjA f r _ _ _ _ _ _ D w (Tr1 hI.k0 hf) (Tr1 hI.k0 dS) (Tr1 hI.k0 dT) (Tr1 hI.k0 dU) vd.kinds (by omega) hb) ?_)
 rintro rr w1 w2 eK ec ⟨u,rfl,hu⟩ dA
 refine Vs 14 O (zlG O (fun e0=>?_) (fun e0=>?_))
 . refine Vs 2 O (zol [Value.slice none 0 0,Value.int IntKind.i64 0] [(0,1),(1,1)] [] O O (fun _=>by kernel_rfl) (Vs 7 O (zm7 Tryz.results18 tg47 ts47 O O O O (fun w hI=>⟨_,rfl,⟨_,_,rfl,fun _=>⟨rfl,rfl⟩,fun h=>absurd h e0⟩,hI.k1⟩))))
 have e0':zl f.vars r=0:=zpt.1 e0
 have dW:=hu e0'
 obtain⟨au,cu,rfl⟩:=dW.form
 have ed:=(jn e0').len
 have ee:=hR.of_.len
 refine Vs 3 O (V.dat 906 0 O O O (dW) (fun b hb _ hs=>by have:=dA b hs;omega) (zof (σ:=Nat × Nat × Nat × Nat × Nat × Nat) [4,8,11] [4,8,906] [4,8] O (fun e ⟨la,lz,gb,b45,b49,b51⟩=>(13,.pointer (some ⟨b51,0,none⟩))::e) (fun e ⟨la,lz,gb,b45,b49,b51⟩=>(904,.dat (fun q=>D q\/(la<=q/\q<lz)) (fun w=>GrO (fun q=>D q\/(la<=q/\q<lz)) w f (zk f) gb))::(45,.row 3 1 (.slice (some ⟨b45,0,none⟩) s.of_.length s.of_.length) s.of_.length (List.replicate s.of_.length (.int .i64 0)))::(49,.row 3 1 (.slice (some ⟨b49,0,none⟩) (zk f).length (zk f).length) (zk f).length (List.replicate (zk f).length (.int .i64 0)))::(51,.own b51 [.pointer (some ⟨gb,0,none⟩),.slice ao s.of_.length co,.slice an s.nodes.length cn,.slice (some ⟨b45,0,none⟩) s.of_.length s.of_.length,.slice none 0 0,.slice (some ⟨b49,0,none⟩) (zk f).length (zk f).length,.slice none 0 0,.int .i64 0] 107)::e) (fun⟨la,lz,gb,b45,b49,b51⟩=>True) (fun _=>rfl) (fun _=>rfl) ?_ ?_))
 .
  refine Vw [4,5,6,7,8] [] O (Vd [0,1,3,4,5,6,8,9,10] 0 (by kernel_rfl) O O O (zpi 2 [7,11] (by kernel_rfl) ⟨zo3 2 0 tc37 O O O (fun w hI=>yU f (zk f) vd.prOk (by omega) (by omega) _ _ _ _ D w (Tr1 hI.k1 hf) (Tr1 hI.k1 hg) (fun q hq=>zrT (hD q hq) (Keep.size hI.k1))) ?_,zmB 7 45 0 tu27 Tryz.el3 O O O (by omega) (by omega) (by exact qa _ _ O:madeCells _ _=(List.replicate s.of_.length (Value.int .i64 0)).toArray) (by simp) (fun b45=>?_),zmB 11 49 0 tu27 Tryz.el3 O O O (by omega) (by omega) (by exact qa _ _ O:madeCells _ _=(List.replicate (zk f).length (Value.int .i64 0)).toArray) (by simp) (fun b49=>?_),True.intro⟩))
  .
   rintro gp w3 w4 db da ⟨gb,rfl,hG⟩ hY
   refine zpi 7 [11] (by kernel_rfl) ⟨zmB 7 45 1 tu27 Tryz.el3 O O O (by omega) (by omega) (by exact qa _ _ O:madeCells _ _=(List.replicate s.of_.length (Value.int .i64 0)).toArray) (by simp) (fun b45=>?_),zmB 11 49 1 tu27 Tryz.el3 O O O (by omega) (by omega) (by exact qa _ _ O:madeCells _ _=(List.replicate (zk f).length (Value.int .i64 0)).toArray) (by simp) (fun b49=>?_),True.intro⟩
   .
    refine zpi 11 [] (by kernel_rfl) ⟨zmB 11 49 1 tu27 Tryz.el3 O O O (by omega) (by omega) (by exact qa _ _ O:madeCells _ _=(List.replicate (zk f).length (Value.int .i64 0)).toArray) (by simp) (fun b49=>?_),True.intro⟩
    .
     refine zom 12 [Value.pointer none,Value.slice none 0 0,Value.slice none 0 0,Value.slice none 0 0,Value.slice none 0 0,Value.slice none 0 0,Value.slice none 0 0,Value.int IntKind.i64 0] [(0,1),(1,2),(3,1),(4,1),(5,1),(6,2)] [(0,_),(1,_),(2,_),(4,_)] O (by kernel_rfl) O O (fun _=>by kernel_rfl) (znK 13 51 1 O (by kernel_rfl) O O (fun _ _=>M.box O O) (fun b51=>?_))
     refine Vd [14] 1 (by kernel_rfl) O O O (VD.done (by kernel_rfl) (zoQ 904 0 (F:=fun q=>D q\/(w3.heap.size<=q/\q<w4.heap.size)) (p:=fun w=>GrO (fun q=>D q\/(w3.heap.size<=q/\q<w4.heap.size)) w f (zk f) gb) O O (fun w w' T h hk hT=>GrO.keep h hk (fun b hb _=>hT b hb)) (hG) (fun q hq=>⟨by have h1:=da.size;have h2:W.heap.size<=w3.heap.size:=(db.k1).size;rcases hq with hq | hq;(· have:=hD q hq;omega);omega,fun hs=>by have h1:=hY q hs;have h2:=db.hsE 1 O hs;rcases hq with hq | hq;(· have:=hD q hq;omega);omega⟩) (zlT (⟨w3.heap.size,w4.heap.size,gb,b45,b49,b51⟩) (Sub.of O) (Has.of O) (trivial) 1 O O)))
   refine zpi 7 [] (by kernel_rfl) ⟨zmB 7 45 1 tu27 Tryz.el3 O O O (by omega) (by omega) (by exact qa _ _ O:madeCells _ _=(List.replicate s.of_.length (Value.int .i64 0)).toArray) (by simp) (fun b45=>?_),True.intro⟩
   .
    refine zom 12 [Value.pointer none,Value.slice none 0 0,Value.slice none 0 0,Value.slice none 0 0,Value.slice none 0 0,Value.slice none 0 0,Value.slice none 0 0,Value.int IntKind.i64 0] [(0,1),(1,2),(3,1),(4,1),(5,1),(6,2)] [(0,_),(1,_),(2,_),(4,_)] O (by kernel_rfl) O O (fun _=>by kernel_rfl) (znK 13 51 1 O (by kernel_rfl) O O (fun _ _=>M.box O O) (fun b51=>?_))
    refine Vd [14] 1 (by kernel_rfl) O O O (VD.done (by kernel_rfl) (zoQ 904 0 (F:=fun q=>D q\/(w3.heap.size<=q/\q<w4.heap.size)) (p:=fun w=>GrO (fun q=>D q\/(w3.heap.size<=q/\q<w4.heap.size)) w f (zk f) gb) O O (fun w w' T h hk hT=>GrO.keep h hk (fun b hb _=>hT b hb)) (hG) (fun q hq=>⟨by have h1:=da.size;have h2:W.heap.size<=w3.heap.size:=(db.k1).size;rcases hq with hq | hq;(· have:=hD q hq;omega);omega,fun hs=>by have h1:=hY q hs;have h2:=db.hsE 1 O hs;rcases hq with hq | hq;(· have:=hD q hq;omega);omega⟩) (zlT (⟨w3.heap.size,w4.heap.size,gb,b45,b49,b51⟩) (Sub.of O) (Has.of O) (trivial) 1 O O)))
  .
   refine zpi 2 [11] (by kernel_rfl) ⟨zo3 2 0 tc37 O O O (fun w hI=>yU f (zk f) vd.prOk (by omega) (by omega) _ _ _ _ D w (Tr1 hI.k1 hf) (Tr1 hI.k1 hg) (fun q hq=>zrT (hD q hq) (Keep.size hI.k1))) ?_,zmB 11 49 0 tu27 Tryz.el3 O O O (by omega) (by omega) (by exact qa _ _ O:madeCells _ _=(List.replicate (zk f).length (Value.int .i64 0)).toArray) (by simp) (fun b49=>?_),True.intro⟩
   .
    rintro gp w3 w4 db da ⟨gb,rfl,hG⟩ hY
    refine zpi 11 [] (by kernel_rfl) ⟨zmB 11 49 1 tu27 Tryz.el3 O O O (by omega) (by omega) (by exact qa _ _ O:madeCells _ _=(List.replicate (zk f).length (Value.int .i64 0)).toArray) (by simp) (fun b49=>?_),True.intro⟩
    .
     refine zom 12 [Value.pointer none,Value.slice none 0 0,Value.slice none 0 0,Value.slice none 0 0,Value.slice none 0 0,Value.slice none 0 0,Value.slice none 0 0,Value.int IntKind.i64 0] [(0,1),(1,2),(3,1),(4,1),(5,1),(6,2)] [(0,_),(1,_),(2,_),(4,_)] O (by kernel_rfl) O O (fun _=>by kernel_rfl) (znK 13 51 1 O (by kernel_rfl) O O (fun _ _=>M.box O O) (fun b51=>?_))
     refine Vd [14] 1 (by kernel_rfl) O O O (VD.done (by kernel_rfl) (zoQ 904 0 (F:=fun q=>D q\/(w3.heap.size<=q/\q<w4.heap.size)) (p:=fun w=>GrO (fun q=>D q\/(w3.heap.size<=q/\q<w4.heap.size)) w f (zk f) gb) O O (fun w w' T h hk hT=>GrO.keep h hk (fun b hb _=>hT b hb)) (hG) (fun q hq=>⟨by have h1:=da.size;have h2:W.heap.size<=w3.heap.size:=(db.k1).size;rcases hq with hq | hq;(· have:=hD q hq;omega);omega,fun hs=>by have h1:=hY q hs;have h2:=db.hsE 1 O hs;rcases hq with hq | hq;(· have:=hD q hq;omega);omega⟩) (zlT (⟨w3.heap.size,w4.heap.size,gb,b45,b49,b51⟩) (Sub.of O) (Has.of O) (trivial) 1 O O)))
   refine zpi 2 [] (by kernel_rfl) ⟨zo3 2 0 tc37 O O O (fun w hI=>yU f (zk f) vd.prOk (by omega) (by omega) _ _ _ _ D w (Tr1 hI.k1 hf) (Tr1 hI.k1 hg) (fun q hq=>zrT (hD q hq) (Keep.size hI.k1))) ?_,True.intro⟩
   .
    rintro gp w3 w4 db da ⟨gb,rfl,hG⟩ hY
    refine zom 12 [Value.pointer none,Value.slice none 0 0,Value.slice none 0 0,Value.slice none 0 0,Value.slice none 0 0,Value.slice none 0 0,Value.slice none 0 0,Value.int IntKind.i64 0] [(0,1),(1,2),(3,1),(4,1),(5,1),(6,2)] [(0,_),(1,_),(2,_),(4,_)] O (by kernel_rfl) O O (fun _=>by kernel_rfl) (znK 13 51 1 O (by kernel_rfl) O O (fun _ _=>M.box O O) (fun b51=>?_))
    refine Vd [14] 1 (by kernel_rfl) O O O (VD.done (by kernel_rfl) (zoQ 904 0 (F:=fun q=>D q\/(w3.heap.size<=q/\q<w4.heap.size)) (p:=fun w=>GrO (fun q=>D q\/(w3.heap.size<=q/\q<w4.heap.size)) w f (zk f) gb) O O (fun w w' T h hk hT=>GrO.keep h hk (fun b hb _=>hT b hb)) (hG) (fun q hq=>⟨by have h1:=da.size;have h2:W.heap.size<=w3.heap.size:=(db.k1).size;rcases hq with hq | hq;(· have:=hD q hq;omega);omega,fun hs=>by have h1:=hY q hs;have h2:=db.hsE 1 O hs;rcases hq with hq | hq;(· have:=hD q hq;omega);omega⟩) (zlT (⟨w3.heap.size,w4.heap.size,gb,b45,b49,b51⟩) (Sub.of O) (Has.of O) (trivial) 1 O O)))
  refine zpi 2 [7] (by kernel_rfl) ⟨zo3 2 0 tc37 O O O (fun w hI=>yU f (zk f) vd.prOk (by omega) (by omega) _ _ _ _ D w (Tr1 hI.k1 hf) (Tr1 hI.k1 hg) (fun q hq=>zrT (hD q hq) (Keep.size hI.k1))) ?_,zmB 7 45 0 tu27 Tryz.el3 O O O (by omega) (by omega) (by exact qa _ _ O:madeCells _ _=(List.replicate s.of_.length (Value.int .i64 0)).toArray) (by simp) (fun b45=>?_),True.intro⟩
  .
   rintro gp w3 w4 db da ⟨gb,rfl,hG⟩ hY
   refine zpi 7 [] (by kernel_rfl) ⟨zmB 7 45 1 tu27 Tryz.el3 O O O (by omega) (by omega) (by exact qa _ _ O:madeCells _ _=(List.replicate s.of_.length (Value.int .i64 0)).toArray) (by simp) (fun b45=>?_),True.intro⟩
   .
    refine zom 12 [Value.pointer none,Value.slice none 0 0,Value.slice none 0 0,Value.slice none 0 0,Value.slice none 0 0,Value.slice none 0 0,Value.slice none 0 0,Value.int IntKind.i64 0] [(0,1),(1,2),(3,1),(4,1),(5,1),(6,2)] [(0,_),(1,_),(2,_),(4,_)] O (by kernel_rfl) O O (fun _=>by kernel_rfl) (znK 13 51 1 O (by kernel_rfl) O O (fun _ _=>M.box O O) (fun b51=>?_))
    refine Vd [14] 1 (by kernel_rfl) O O O (VD.done (by kernel_rfl) (zoQ 904 0 (F:=fun q=>D q\/(w3.heap.size<=q/\q<w4.heap.size)) (p:=fun w=>GrO (fun q=>D q\/(w3.heap.size<=q/\q<w4.heap.size)) w f (zk f) gb) O O (fun w w' T h hk hT=>GrO.keep h hk (fun b hb _=>hT b hb)) (hG) (fun q hq=>⟨by have h1:=da.size;have h2:W.heap.size<=w3.heap.size:=(db.k1).size;rcases hq with hq | hq;(· have:=hD q hq;omega);omega,fun hs=>by have h1:=hY q hs;have h2:=db.hsE 1 O hs;rcases hq with hq | hq;(· have:=hD q hq;omega);omega⟩) (zlT (⟨w3.heap.size,w4.heap.size,gb,b45,b49,b51⟩) (Sub.of O) (Has.of O) (trivial) 1 O O)))
  refine zpi 2 [] (by kernel_rfl) ⟨zo3 2 0 tc37 O O O (fun w hI=>yU f (zk f) vd.prOk (by omega) (by omega) _ _ _ _ D w (Tr1 hI.k1 hf) (Tr1 hI.k1 hg) (fun q hq=>zrT (hD q hq) (Keep.size hI.k1))) ?_,True.intro⟩
  .
   rintro gp w3 w4 db da ⟨gb,rfl,hG⟩ hY
   refine zom 12 [Value.pointer none,Value.slice none 0 0,Value.slice none 0 0,Value.slice none 0 0,Value.slice none 0 0,Value.slice none 0 0,Value.slice none 0 0,Value.int IntKind.i64 0] [(0,1),(1,2),(3,1),(4,1),(5,1),(6,2)] [(0,_),(1,_),(2,_),(4,_)] O (by kernel_rfl) O O (fun _=>by kernel_rfl) (znK 13 51 1 O (by kernel_rfl) O O (fun _ _=>M.box O O) (fun b51=>?_))
   refine Vd [14] 1 (by kernel_rfl) O O O (VD.done (by kernel_rfl) (zoQ 904 0 (F:=fun q=>D q\/(w3.heap.size<=q/\q<w4.heap.size)) (p:=fun w=>GrO (fun q=>D q\/(w3.heap.size<=q/\q<w4.heap.size)) w f (zk f) gb) O O (fun w w' T h hk hT=>GrO.keep h hk (fun b hb _=>hT b hb)) (hG) (fun q hq=>⟨by have h1:=da.size;have h2:W.heap.size<=w3.heap.size:=(db.k1).size;rcases hq with hq | hq;(· have:=hD q hq;omega);omega,fun hs=>by have h1:=hY q hs;have h2:=db.hsE 1 O hs;rcases hq with hq | hq;(· have:=hD q hq;omega);omega⟩) (zlT (⟨w3.heap.size,w4.heap.size,gb,b45,b49,b51⟩) (Sub.of O) (Has.of O) (trivial) 1 O O)))
 rintro⟨la,lz,gb,b45,b49,b51⟩ _
 show V _ _ _ _ _ ((13,.pointer (some ⟨b51,0,none⟩))::_) _ ((904,.dat (fun q=>D q\/(la<=q/\q<lz)) (fun w=>GrO (fun q=>D q\/(la<=q/\q<lz)) w f (zk f) gb))::(45,.row 3 1 (.slice (some ⟨b45,0,none⟩) s.of_.length s.of_.length) s.of_.length (List.replicate s.of_.length (.int .i64 0)))::(49,.row 3 1 (.slice (some ⟨b49,0,none⟩) (zk f).length (zk f).length) (zk f).length (List.replicate (zk f).length (.int .i64 0)))::(51,.own b51 [.pointer (some ⟨gb,0,none⟩),.slice ao s.of_.length co,.slice an s.nodes.length cn,.slice (some ⟨b45,0,none⟩) s.of_.length s.of_.length,.slice none 0 0,.slice (some ⟨b49,0,none⟩) (zk f).length (zk f).length,.slice none 0 0,.int .i64 0] 107)::_) _
 refine znL 13 51 0 O O ?_
 have dX:(zx f.vars r).map (Value.int .i64)++(List.replicate s.of_.length (Value.int .i64 0)).drop (zx f.vars r).length=(zx f.vars r++List.replicate (s.of_.length - f.vars.length) 0).map zc:=by rw[zr3,List.drop_replicate,zr8,ed]
 generalize dh:zx f.vars r++List.replicate (s.of_.length - f.vars.length) 0=vl0 at dX
 have dY:vl0.length=s.of_.length:=by rw[<- dh,zps,zr1];omega
 refine Vs 8 O (V.opM 45 (e':=.row 3 1 (.slice (some ⟨b45,0,none⟩) s.of_.length s.of_.length) s.of_.length (vl0.map zc)) (r:=.int .i64 ((zx f.vars r).length:Int)) O (trivial) (fun _ h=>h) (fun w hI=>zph tu27 Tryz.el3 O O (hI.at 45 O) (hI.at 906 O).1 (by omega) dX) (Vs 11 O (znR 907 3 1 O (Vs 1 O (zoe (σ:=Nat × Value) [4,8,11,13,59,60] [4,8,904,906] [4,8,13] O (fun e ⟨i,hv⟩=>(61,.int .i64 i)::e) (fun e ⟨i,hv⟩=>(51,.own b51 [.pointer (some ⟨gb,0,none⟩),.slice ao s.of_.length co,.slice an s.nodes.length cn,.slice (some ⟨b45,0,none⟩) s.of_.length s.of_.length,hv,.slice (some ⟨b49,0,none⟩) (zk f).length (zk f).length,.slice none 0 0,.int .i64 0] 107)::(907,.row 3 1 hv i ((zfn (zx f.vars r) (f.hatches.take i)).map zc))::(45,.row 3 1 (.slice (some ⟨b45,0,none⟩) s.of_.length s.of_.length) s.of_.length (vl0.map zc))::(49,.row 3 1 (.slice (some ⟨b49,0,none⟩) (zk f).length (zk f).length) (zk f).length (List.replicate (zk f).length (.int .i64 0)))::e) (fun⟨i,hv⟩=>i<=f.hatches.length) (fun⟨i,hv⟩=>f.hatches.length - i) ((0,.slice none 0 0)) (Sub.of O) (Has.of O) (fun _=>rfl) (fun _=>rfl) (fun _=>rfl) (zpz _) ?_)))))
 rintro⟨i,hv⟩ hi
 show V _ _ _ _ _ ((61,.int .i64 i)::_) _ ((51,.own b51 [.pointer (some ⟨gb,0,none⟩),.slice ao s.of_.length co,.slice an s.nodes.length cn,.slice (some ⟨b45,0,none⟩) s.of_.length s.of_.length,hv,.slice (some ⟨b49,0,none⟩) (zk f).length (zk f).length,.slice none 0 0,.int .i64 0] 107)::(907,.row 3 1 hv i ((zfn (zx f.vars r) (f.hatches.take i)).map zc))::(45,.row 3 1 (.slice (some ⟨b45,0,none⟩) s.of_.length s.of_.length) s.of_.length (vl0.map zc))::(49,.row 3 1 (.slice (some ⟨b49,0,none⟩) (zk f).length (zk f).length) (zk f).length (List.replicate (zk f).length (.int .i64 0)))::_) _
 refine Vs 6 O (zlG O (fun ef=>?_) (fun ef=>?_))
 .
  refine Vs 6 O ?_
  obtain⟨x,di,dB⟩:=gE_ f.hatches (i) (by omega)
  obtain⟨eL,eM,eN,dC,_,dD,dE⟩:=hf.hatches.at di
  obtain⟨eg,rfl,dk⟩:=dE
  obtain⟨eh,ei,rfl⟩:=dk.form
  refine zoa 1000 1 O O dD ?_
  refine znN 1000 tR23 ts109 O dC (by omega) (_) (rfl) O ?_
  obtain⟨g1,g2,g3,g4⟩:=vd.hatch x dB
  refine Vs 1 O (V.alloc 15 tz109 O O (fun b15=>?_))
  refine Vs 10 O (znZ Tryz.call45 O (fun w hI=>zbG vd.good (jn e0') x.term g1 g2 g3 _ D D (fun b=>w1.heap.size<=b/\b<w2.heap.size) w _ _ (Tr1 hI.k1 hf.vars) (hI.at 906 O).1 (RTm.put (Tr1 hI.k1 dk))) (Vs 7 O (Vw [4,8,51,1000,15] [15] O (Vd [0,1,2,3,4,5,6,7,8,9] 0 (by kernel_rfl) O O O (zo0 10 0 Tryz.call46 O (by kernel_rfl) O O (fun w hI=>zej _ x.low x.high w g4) (VD.bs 11 85 0 [(0,_)] tR27 ts3 tz3 (by decide) O (by kernel_rfl) O O (by kernel_rfl) (fun b85=>?_)))))))
  refine znT 12 907 85 0 tu27 Tryz.el3 O (by decide) O (by kernel_rfl) O O O (by omega) (by omega) (fun u907=>(Vd [13,14] 0 (by kernel_rfl) O O O (znV 907 O (by omega) ?_)))
  rintro bh chh rfl dl
  refine Vl 15 O (by kernel_rfl) O (VDx.done (by kernel_rfl) (Va 6 O (by omega) (zod 907 O (e':=.row 3 1 (.slice (some ⟨bh,0,none⟩) (i+1) chh) (i+1) ((zfn (zx f.vars r) (f.hatches.take (i+1))).map zc)) (by rw[zdW di,zr3];rfl) (V.back (⟨i+1,_⟩) (Sub.of O) (Has.of O) (by omega) (by first | omega | (dsimp only;omega)) 0 O O))))
 obtain rfl:i=f.hatches.length:=by omega
 rw[zpp]
 have ej:(yc f r).length=f.hatches.length:=by simp[zfn]
 refine zoY 907 O (p:=fun w=>SlR 1 zC (fun q=>hv.ownBlock=some q) w hv (yc f r)) (fun w w' T h hk hT=>h.keep zb hk fun b hb _=>hT b hb) (fun w hI=>zmM zc (fun _ _=>rfl) (show w.ownsRow 0 3 1 hv (yc f r).length ((yc f r).map zc) by rw[ej];exact hI.at 907 O) (fun g hg=>hg)) (fun wp ek eO=>(V.ren [(51,900),(45,901),(49,902)] [(4,some (4,0)),(8,some (8,0)),(13,some (900,0))] O O (zp8 904 907 O (fun w0 dZ em dF dc dm=>?_))))
 obtain⟨v1',v2',v3',gv',sv',pv',en,dg,eP,dr,_,_⟩:=id dZ
 obtain⟨ag',cg',rfl⟩:=dr.form
 refine zob 909 0 O O (fun h=>dc _ h en) dg ?_
 obtain⟨K,rdK,eQ,d5⟩:=vd.walk (yc f r) (zg3 f r)
 have hK:GoesAll f r K:=⟨rdK,d5⟩
 refine Vs 6 O (znR 903 3 1 O (zod 901 O (e':=.row 3 1 (.slice (some ⟨b45,0,none⟩) s.of_.length s.of_.length) vl0.length (vl0.map zc)) (by rw[dY]) (zod 902 O (e':=.row 3 1 (.slice (some ⟨b49,0,none⟩) (zk f).length (zk f).length) (List.replicate (zk f).length (0:Int)).length ((List.replicate (zk f).length (0:Int)).map zc)) (by rw[zr8,zr1]) (Vs 7 O (zoe (σ:=Nat × List Int × List Int × Value) [8,13] [8,904,906,907,909] [8,13] O (fun e ⟨i,vl,ro,ov⟩=>(18,.int .i64 (yR f r (i - 1)).at_)::(19,.int .i64 (yR f r i).at_)::e) (fun e ⟨i,vl,ro,ov⟩=>(900,.own b51 [.pointer (some ⟨gb,0,none⟩),.slice ao s.of_.length co,.slice an s.nodes.length cn,.slice (some ⟨b45,0,none⟩) s.of_.length s.of_.length,hv,.slice (some ⟨b49,0,none⟩) (zk f).length (zk f).length,ov,.int .i64 (yR f r i).σ.time] 107)::(901,.row 3 1 (.slice (some ⟨b45,0,none⟩) s.of_.length s.of_.length) vl.length (vl.map zc))::(902,.row 3 1 (.slice (some ⟨b49,0,none⟩) (zk f).length (zk f).length) ro.length (ro.map zc))::(903,.row 3 1 ov (yR f r i).σ.outs.length ((yR f r i).σ.outs.map zc))::e) (fun⟨i,vl,ro,ov⟩=>i<=K/\vl.length=s.of_.length/\ro.length=(zk f).length/\zkB f s r i vl/\CtOk f ro (yR f r i).rd) (fun⟨i,vl,ro,ov⟩=>K - i) ((0,vl0,List.replicate (zk f).length 0,.slice none 0 0)) (Sub.of O) (Has.of O) (fun _=>rfl) (fun _=>rfl) (fun _=>rfl) (⟨zpz _,dY,zr1,⟨fun _ v hv=>by rw[<- dh,zpK (by omega)],fun j hj=>by omega⟩,zgw f⟩) ?_)))))
 rintro⟨i,vl,ro,ov⟩ ⟨hi,dG,d6,dH,eo⟩
 show V _ _ _ _ _ ((18,.int .i64 (yR f r (i - 1)).at_)::(19,.int .i64 (yR f r i).at_)::_) _ ((900,.own b51 [.pointer (some ⟨gb,0,none⟩),.slice ao s.of_.length co,.slice an s.nodes.length cn,.slice (some ⟨b45,0,none⟩) s.of_.length s.of_.length,hv,.slice (some ⟨b49,0,none⟩) (zk f).length (zk f).length,ov,.int .i64 (yR f r i).σ.time] 107)::(901,.row 3 1 (.slice (some ⟨b45,0,none⟩) s.of_.length s.of_.length) vl.length (vl.map zc))::(902,.row 3 1 (.slice (some ⟨b49,0,none⟩) (zk f).length (zk f).length) ro.length (ro.map zc))::(903,.row 3 1 ov (yR f r i).σ.outs.length ((yR f r i).σ.outs.map zc))::_) _
 obtain⟨n,x,hw⟩:=zhC vd hK hi
 have d7:=(zpy.1 hw.nd).1
 have dI:=hw.at_
 obtain⟨x2,de,d8⟩:=gE_ (zk f) (n) (by omega)
 obtain⟨ep,er,eu,dt,du,dw,dx⟩:=dr.atD de
 obtain rfl:=dx
 refine zob 2000 0 O O (fun h_=>by have ew:=dc _ h_;have ey:=du;first | omega | exact ew ey) dw ?_
 obtain rfl:x2=x:=Option.some.inj (de.symm.trans hw.nd)
 refine Vs 7 O (znL 93 909 0 O O (Vs 4 O (znN 2000 tR34 ts65 O dt (by omega) (n) (dI) O (Vs 5 O (zlG O (fun c=>?_) (fun c=>?_))))))
 .
  have dJ:i<K:=by
   rcases zrU i K with h | h
   . exact h
   have:=(hw.fin (by omega)).2;omega
  obtain⟨y,hy⟩:∃ y:Nat,(yR f r (i - 1)).at_=(y:Int):=by
   obtain⟨n0,x0,ez⟩:=zhC vd hK (show i - 1<=K by omega)
   exact⟨n0,ez.at_⟩
  obtain⟨dK,eA⟩:=zjx vd hR hK hi hw hy dG dH
  refine Vs 8 O (zo4 901 (E:=fun _:Unit=>xO (.slice (some ⟨b45,0,none⟩) s.of_.length s.of_.length) (qW f (zk f) s y vl (zj s n).phis)) Tryz.call47 O (fun _=>⟨trivial,fun _ h=>h⟩) (fun w hI=>hy ▸ dI ▸ zi9 f (zk f) s hR n d7 y eA (by omega) (zkF df.2 d7) vl _ dG O df.1 b51 gb b45 _ _ _ _ _ _ _ D w (hI.at 900 O).cells (Tr1 hI.k3 hS) (hI.at 901 O) (fun q hq e=>by have h1:=hI.own 901 3 O O q (congrArg some e);have:=hD q hq;omega) (fun e=>hI.sep (k:=901) (k2:=900) O O (by decide) (q:=b51) (congrArg some e) O)) ?_)
  rintro _ ⟨⟩ rfl
  have eC:=zbS (f:=f) (g:=zk f) (s:=s) (y:=y) (vl:=vl) (zj s n).phis
  refine Vs 6 O (zoz [900,901,902,903] (Hn:=fun z:List Int × List Int × Value=>[(900,.own b51 [.pointer (some ⟨gb,0,none⟩),.slice ao s.of_.length co,.slice an s.nodes.length cn,.slice (some ⟨b45,0,none⟩) s.of_.length s.of_.length,hv,.slice (some ⟨b49,0,none⟩) (zk f).length (zk f).length,z.2.2,.int .i64 (yR f r (i+1)).σ.time] 107),(901,.row 3 1 (.slice (some ⟨b45,0,none⟩) s.of_.length s.of_.length) z.1.length (z.1.map zc)),(902,.row 3 1 (.slice (some ⟨b49,0,none⟩) (zk f).length (zk f).length) z.2.1.length (z.2.1.map zc)),(903,.row 3 1 z.2.2 (yR f r (i+1)).σ.outs.length ((yR f r (i+1)).σ.outs.map zc))]) [(8,some (8,0)),(13,some (900,0)),(90,some (900,0)),(91,some (900,0)),(92,some (900,0)),(93,some (909,0)),(94,some (909,0)),(95,some (909,3)),(98,some (2000,0)),(99,some (2000,0)),(102,some (900,0)),(107,some (900,0))] Tryz.call48 O (fun _ _=>rfl) (fun _=>rfl) (fun w hI=>zf2 O O (dI ▸ zjz f s vd hR r e0' K hK i dJ n x2 hw (qW f (zk f) s y vl (zj s n).phis) ro (by omega) d6 dK eo b51 gb _ _ _ _ _ ov (fun q=>D q\/(la<=q/\q<lz)) (fun q=>hv.ownBlock=some q) w (fun q hq=>zrT (dF q hq) (Keep.size hI.k0)) (hI.held O O O) ((Tr1 hI.k3 hS).wide fun q h=>.inl h) (dZ.keep hI.k0 fun q hq _ h=>dc q h hq) (em.keep zb hI.k0 fun q hq _ h=>dm q h hq) (fun q hq hd=>hI.offF 904 O q hd (zi2 O hq)) (fun q hq hd=>hI.offF 907 O q hd (zi2 O hq)))) ?_)
  rintro _ ⟨vl',ro',ov'⟩ ⟨rfl,eD,dy,dL,dM⟩
  have eE:vl'.length=s.of_.length:=eD.trans (eC.trans dG)
  have dN:ro'.length=(zk f).length:=dL.trans d6
  refine Vs 4 O (V.back (⟨i+1,vl',ro',ov'⟩) (Sub.of O) (Has.of O) (⟨by omega,eE,dN,zjy hw dy,dM⟩) (by first | omega | (dsimp only;omega)) 0 O O)
 have dJ:i=K:=by
  rcases zrU i K with h | h
  . have:=(hw.go h).2;omega
  omega
 have dO:(yR f r i).σ=zak f r:=by rw[dJ];exact congrArg Mc.σ d5.1
 rw[dO]
 refine znG (p:=∃ a c,ov=.slice a (zak f r).outs.length c) (fun w hI=>xa (hI.at 903 O)) (fun dz=>?_)
 obtain⟨oa,oc,rfl⟩:=dz
 refine Vs 16 O (zm7 Tryz.results18 tg47 ts47 O O O O (fun w hI=>⟨_,rfl,⟨_,_,by rw[e0'],fun h=>absurd e0' h,fun _=>⟨zmM (R:=zC) (D:=fun b=>W.heap.size<=b) zc (fun _ _=>rfl) (hI.at 903 O) (fun q hq=>hI.own 903 3 O O q hq),rfl⟩⟩,hI.k3⟩))
def FdOk (D:Nat->Prop) (W:World) (hs:List Value) (fl:List (List Int)) (G:Nat->Prop) (w:World):Prop:=hs.length=fl.length/\∀ (j:Nat) l,fl[j]?=some l->∃ v,hs[j]?=some v/\(SlR 1 zC D W v l\/SlR 1 zC G w v l)
abbrev FdP (D:Nat->Prop) (W:World) (hs:List Value) (fl:List (List Int)) (G:Nat->Prop):HE:=.res G (FdOk D W hs fl G)
theorem FdP.loc {D:Nat->Prop} {W:World} {hs:List Value} {fl:List (List Int)} {G:Nat->Prop}:(FdP D W hs fl G).loc:=fun w w' T h hk hT=>by
 have h:FdOk D W hs fl G w:=h
 refine⟨h.1,fun j l hj=>?_⟩
 obtain⟨v,h1,h2⟩:=h.2 j l hj
 exact⟨v,h1,h2.imp id fun h3=>h3.keep zb hk fun b hb hY=>hT b hY hb⟩
theorem FdOk.start {D:Nat->Prop} {W w:World} (n:Nat):FdOk D W (List.replicate n (.slice none 0 0)) (List.replicate n []) (fun _=>False) w:=by
 refine⟨by simp,fun j l hj=>?_⟩
 rw[List.getElem?_replicate]at hj
 split at hj
 .
  rename_i h
  cases hj
  exact⟨_,by rw[List.getElem?_replicate,zpv h],.inl SlR.nil⟩
 cases hj
theorem FdOk.set {D:Nat->Prop} {W w:World} {hs:List Value} {fl:List (List Int)} {G G':Nat->Prop} (h:FdOk D W hs fl G w) {q:Nat} {v:Value} {l:List Int} (hG:∀ b,G b->G' b) (hv:SlR 1 zC D W v l\/SlR 1 zC G' w v l):FdOk D W (hs.set q v) (fl.set q l) G' w:=by
 refine⟨by rw[zr2,zr2];exact h.1,fun j l' hj=>?_⟩
 by_cases e:q=j
 .
  subst e
  have hY:q<fl.length:=by have:=(zpy.1 hj).1;rw[zr2]at this;exact this
  rw[List.getElem?_set_self hY]at hj
  cases hj
  exact⟨v,List.getElem?_set_self (by rw[h.1];exact hY),hv⟩
 rw[List.getElem?_set_ne e]at hj
 obtain⟨v',h1,h2⟩:=h.2 j l' hj
 exact⟨v',by rw[List.getElem?_set_ne e];exact h1,h2.imp id fun h3=>h3.wide zb hG⟩
theorem FdOk.get {D:Nat->Prop} {W w:World} {hs:List Value} {fl:List (List Int)} {G:Nat->Prop} (h:FdOk D W hs fl G w) (hE:Ext W w) {j:Nat} {l:List Int} {v:Value} (hj:fl[j]?=some l) (hv:hs[j]?=some v):SlR 1 zC (fun q=>D q\/G q) w v l:=by
 obtain⟨v',h1,h2⟩:=h.2 j l hj
 rw[hv]at h1
 cases h1
 rcases h2 with h2 | h2
 . exact(h2.ext zb hE).wide zb fun _ h=>.inl h
 exact h2.wide zb fun _ h=>.inr h
theorem FdOk.form {D:Nat->Prop} {W w:World} {hs:List Value} {fl:List (List Int)} {G:Nat->Prop} (h:FdOk D W hs fl G w) {j:Nat} {l:List Int} (hj:fl[j]?=some l):∃ a c,hs[j]?=some (.slice a l.length c):=by
 obtain⟨v',h1,h2⟩:=h.2 j l hj
 rcases h2 with h2 | h2
 . obtain⟨a,c,rfl⟩:=h2.form;exact⟨a,c,h1⟩
 obtain⟨a,c,rfl⟩:=h2.form;exact⟨a,c,h1⟩
theorem zde (l:List Int):l.flatMap (fun x=>[zc x])=l.map zc:=by
 induction l with
 | nil=>rfl
 | cons x l ih=>rw[zqP,ih];rfl
theorem zjB {w:World} {t:TypeId} {b m c j:Nat} {xs:List Value} (h:w.ownsRow 0 t 1 (.slice (some ⟨b,0,none⟩) m c) m xs) (hj:j<=m):w.ownsRow 0 t 1 (.slice (some ⟨b,0,none⟩) j c) j (xs.take j):=by
 obtain⟨sp,hB,hc,da,hY⟩:=jf h
 have hx:=h.1
 have:=ye (k:=1) (n:=j) (cap:=c) hB (by omega) da hY
 rwa [zrY,zrE (by omega)]at this
theorem zgx (f:Fl) (g:List Nd) (s:Sf) (em:snodes f.body+zA f.hatches<=1024) (en:sbulk f.body<=1000000) (dN:s.of_.length<=1000000/\(LP s g.length).length<=1000000) (hM:(yt f g s g.length).length+muN s g.length (List.replicate s.of_.length false)<=1000000000) (eI:∀ x ∈ s.nodes,x.uses.length<=1000000) (v1 v2 v3 gv ofv nodv:Value) (D:Nat->Prop) (W:World) (hf:RFl D W f v1 v2 v3) (hg:SlR 4 RNd D W gv g) (hS:RSf D W s ofv nodv) (hD:∀ q,D q->q<W.heap.size) :
  Calls Tryz.prog 21 #[.agg #[v1,v2,v3],.agg #[gv],.agg #[ofv,nodv]] W (Ret fun rr w'=>(∃ u,rr=.tuple #[u,.int .i64 (yq f g s)]/\(yq f g s ≠ 0->u=.slice none 0 0)/\(yq f g s=0->SlR 1 zkL (fun b=>W.heap.size<=b) w' u (zaI f g s)))/\Ext W w'):=by
 obtain⟨a1,c1,rfl⟩:=hf.vars.form
 obtain⟨a2,c2,rfl⟩:=hf.hatches.form
 obtain⟨a3,c3,rfl⟩:=hf.body.form
 have fu:=hg
 obtain⟨ag,cg,rfl⟩:=hg.form
 have dk:=hS.of_
 have de:=hS.nodes
 obtain⟨ao,co,rfl⟩:=dk.form
 obtain⟨an,cn,rfl⟩:=de.form
 have fv:=hg.max
 have fw:=dk.max
 have fy:=de.max
 refine znm Tryz.func21 O Tryz.ntmps21 O (znE (Vs 2 O (V.box 3 O O (fun b3=>?_))))
 refine V.box 4 O O (fun b4=>(V.box 5 O O (fun b5=>?_)))
 refine Vs 10 O (znZ Tryz.call16 O (fun w hI=>za3 f g s em en dN _ _ _ _ _ _ D w (Tr1 hI.k0 hf) (Tr1 hI.k0 hg) (Tr1 hI.k0 hS) (fun q hq=>zrT (hD q hq) (Keep.size hI.k0))) (Vs 9 O (zlG O (fun c0=>?_) (fun c0=>?_))))
 . refine Vs 9 O (zlZ Tryz.results21 O O (fun w hI=>⟨_,rfl,⟨_,rfl,fun _=>rfl,fun h=>absurd h c0⟩,hI.k0⟩))
 have c0':yq f g s=0:=zpt.1 c0
 obtain⟨eJ,hR⟩:=zhK c0'
 obtain⟨eK,dO⟩:=ki (zpH eJ)
 have vd:Valid f:=⟨eK,em,en⟩
 have hF:=hR.toFormF
 have dl:=hF.len
 have eo:=vd.lens
 have fA:=vd.ssize
 have hp:PrOk f g:=by rw[dO];exact vd.prOk
 have hk:GOk f g:=by rw[dO];exact vd.gOk
 have eL:g.length<=8000:=by
  have h1:=yI f vd.plain
  have h2:=xe f.body
  rw[dO];omega
 refine Vs 6 O (zo1 tc37 O (fun w hI=>yU f g hp (by omega) (by omega) _ _ _ _ D w (Tr1 hI.k0 hf) (Tr1 hI.k0 hg) (fun q hq=>zrT (hD q hq) (Keep.size hI.k0))) ?_)
 rintro gp w1 w2 eM eN ⟨gb,rfl,hG⟩ dQ
 have df:∀ q,HS _ q->¬ (D q\/(w1.heap.size<=q/\q<w2.heap.size)):=fun q hs hq=>by
  have h1:=dQ q hs
  have h2:=eM.hsE 0 rfl hs
  rcases hq with hq | hq
  . have:=hD q hq;omega
  omega
 obtain⟨v1',v2',v3',gv',sv',pv',eO,dg,fB,dm,dr,_⟩:=id hG
 obtain⟨ag',cg',rfl⟩:=dm.form
 obtain⟨as',cs',rfl⟩:=dr.form
 have eP:(g.map (stN f)).length=g.length:=zpE _
 generalize dR:g.map (stN f)=gm at *
 refine zob 909 0 O O (fun h=>df _ h eO) dg (Vs 4 O (znL 9 909 0 O O (Vs 4 O (zmz 34 tu89 Tryz.el27 O (by omega) (by omega) (zs:=List.replicate s.of_.length (.slice none 0 0)) (qa _ _ O) (by simp) (fun b34=>?_)))))
 refine Vs 4 O (znR 902 3 1 O (znR 904 3 1 O (zoq 904 (e':=FdP D W (List.replicate s.of_.length (.slice none 0 0)) (xy s 0) (fun _=>False)) O (fun w hI=>FdOk.start _) (FdP.loc) (fun _ h=>h) (fun q hq=>hq.elim) (Vs 14 O (zoe (σ:=Nat × List Value × Value × (Nat->Prop)) [5,9,10,36,37] [5,909] [5,9] O (fun e ⟨i,hs,wv,G⟩=>(38,.int .i64 i)::(11,wv)::e) (fun e ⟨i,hs,wv,G⟩=>(34,.row 27 1 (.slice (some ⟨b34,0,none⟩) s.of_.length s.of_.length) s.of_.length hs)::(902,.row 3 1 wv (yt f g s i).length ((yt f g s i).map zc))::(904,FdP D W hs (xy s i) G)::e) (fun⟨i,hs,wv,G⟩=>i<=s.nodes.length/\hs.length=s.of_.length) (fun⟨i,hs,wv,G⟩=>s.nodes.length - i) ((0,List.replicate s.of_.length (.slice none 0 0),.slice none 0 0,fun _=>False)) (Sub.of O) (Has.of O) (fun _=>rfl) (fun _=>rfl) (fun _=>rfl) (⟨zpz _,zr1⟩) ?_)))))
 rintro⟨i,hs,wv,G⟩ ⟨hi,dh⟩
 show V _ _ _ _ _ ((38,.int .i64 i)::(11,wv)::_) _ ((34,.row 27 1 (.slice (some ⟨b34,0,none⟩) s.of_.length s.of_.length) s.of_.length hs)::(902,.row 3 1 wv (yt f g s i).length ((yt f g s i).map zc))::(904,FdP D W hs (xy s i) G)::_) _
 refine Vs 6 O (zlG O (fun li=>?_) (fun li=>?_))
 .
  refine Vs 7 O ?_
  obtain⟨x,hY,dS⟩:=gE_ s.nodes (i) (by omega)
  obtain⟨fC,fD,fE,dT,_,dU,dV⟩:=de.at hY
  obtain⟨eQ,eR,rfl,di,dt⟩:=dV
  obtain⟨eS,eT,rfl⟩:=di.form
  obtain⟨eU,eV,rfl⟩:=dt.form
  refine zoa 1000 1 O O dU ?_
  refine znN 1000 tR28 ts59 O dT (by omega) (_) (rfl) O ?_
  have du:zj s i=x:=yP hY
  have db:=hF.nod i x hY
  have eW:i<g.length:=by omega
  have dw:=hF.dfn eW
  rw[du]at dw
  have eX:=eI x dS
  refine Vs 1 O (V.alloc 13 tz59 O O (fun b13=>?_))
  refine Vs 5 O (znR 903 3 1 O (Vs 14 O (zoe (σ:=Nat × Value) [5,9,10,11,12,13,36,37,38,44,45] [5,13,909] [5,9,13] O (fun e ⟨j,uv⟩=>(46,.int .i64 j)::(14,uv)::e) (fun e ⟨j,uv⟩=>(903,.row 3 1 uv ((x.uses.take j).map (·.2)).length (((x.uses.take j).map (·.2)).map zc))::(34,.row 27 1 (.slice (some ⟨b34,0,none⟩) s.of_.length s.of_.length) s.of_.length hs)::(902,.row 3 1 wv (yt f g s i).length ((yt f g s i).map zc))::(904,FdP D W hs (xy s i) G)::e) (fun⟨j,uv⟩=>j<=x.uses.length) (fun⟨j,uv⟩=>x.uses.length - j) ((0,.slice none 0 0)) (Sub.of O) (Has.of O) (fun _=>rfl) (fun _=>rfl) (fun _=>rfl) (zpz _) ?_)))
  rintro⟨j,uv⟩ hj
  show V _ _ _ _ _ ((46,.int .i64 j)::(14,uv)::_) _ ((903,.row 3 1 uv ((x.uses.take j).map (·.2)).length (((x.uses.take j).map (·.2)).map zc))::(34,.row 27 1 (.slice (some ⟨b34,0,none⟩) s.of_.length s.of_.length) s.of_.length hs)::(902,.row 3 1 wv (yt f g s i).length ((yt f g s i).map zc))::(904,FdP D W hs (xy s i) G)::_) _
  have dW:((x.uses.take j).map (·.2)).length<=1000000:=by rw[zpE,zpO];omega
  refine Vs 6 O (zlG O (fun lj=>?_) (fun lj=>?_))
  .
   refine Vs 6 O ?_
   obtain⟨u,dx,eY⟩:=gE_ x.uses (j) (by omega)
   obtain⟨fF,fG,fH,dX,_,dY,dZ⟩:=dt.at dx
   obtain rfl:=dZ
   refine zoa 2000 1 O O dY ?_
   refine znN 2000 tR57 ts85 O dX (by omega) (_) (rfl) O (Vs 1 O (V.alloc 16 tz85 O O (fun b16=>?_)))
   refine Vs 7 O (V.bs 53 [(0,_)] tR27 ts3 tz3 (by decide) O O (by kernel_rfl) (fun b53=>?_))
   refine znS 903 53 tu27 Tryz.el3 O (by decide) O O (by omega) (by omega) (fun u903=>(Va 8 O (by omega) (zod 903 O (e':=.row 3 1 u903 ((x.uses.take (j+1)).map (·.2)).length (((x.uses.take (j+1)).map (·.2)).map zc)) (by rw[ze dx];simp[zc]) (V.back (⟨j+1,u903⟩) (Sub.of O) (Has.of O) (by omega) (by first | omega | (dsimp only;omega)) 0 O O))))
  obtain rfl:j=x.uses.length:=by omega
  rw[zpp]at dW
  refine zod 903 O (e':=.row 3 1 uv (x.uses.map (·.2)).length ((x.uses.map (·.2)).map zc)) (by rw[zpp]) (Vs 15 O (zoe (σ:=Nat × List Value) [5,9,10,11,12,13,14,36,37,38,57,58] [5,13,909] [5,9,13] O (fun e ⟨j,hs⟩=>(59,.int .i64 j)::e) (fun e ⟨j,hs⟩=>(34,.row 27 1 (.slice (some ⟨b34,0,none⟩) s.of_.length s.of_.length) s.of_.length hs)::(904,FdP D W hs (zc8 s i x j) G)::(903,.row 3 1 uv (x.uses.map (·.2)).length ((x.uses.map (·.2)).map zc))::(902,.row 3 1 wv (yt f g s i).length ((yt f g s i).map zc))::e) (fun⟨j,hs⟩=>j<=x.phis.length/\hs.length=s.of_.length) (fun⟨j,hs⟩=>x.phis.length - j) ((0,hs)) (Sub.of O) (Has.of O) (fun _=>rfl) (fun _=>rfl) (fun _=>rfl) (⟨zpz _,dh⟩) ?_))
  rintro⟨j,hs⟩ ⟨hj,dh⟩
  show V _ _ _ _ _ ((59,.int .i64 j)::_) _ ((34,.row 27 1 (.slice (some ⟨b34,0,none⟩) s.of_.length s.of_.length) s.of_.length hs)::(904,FdP D W hs (zc8 s i x j) G)::(903,.row 3 1 uv (x.uses.map (·.2)).length ((x.uses.map (·.2)).map zc))::(902,.row 3 1 wv (yt f g s i).length ((yt f g s i).map zc))::_) _
  have eZ:=di.max
  refine Vs 6 O (zlG O (fun lj=>?_) (fun lj=>?_))
  .
   refine Vs 6 O ?_
   obtain⟨p,dy,d5⟩:=gE_ x.phis (j) (by omega)
   obtain⟨fI,fJ,fK,d6,_,d7,d8⟩:=di.at dy
   obtain⟨e8,e9,rfl,d9,dz⟩:=d8
   obtain⟨fa,fb,rfl⟩:=d9.form
   obtain⟨dA,dB,rfl⟩:=dz.form
   refine zoa 3000 1 O O d7 ?_
   refine znN 3000 tR56 ts88 O d6 (by omega) (_) (rfl) O ?_
   obtain⟨q,hq,fc⟩:=qF (db.phi.ver p d5)
   refine Vs 1 O (V.alloc 18 tz88 O O (fun b18=>?_))
   refine Va 10 O (by omega) (znX 34 (q) ts27 O (by omega) (by omega) (zoq 904 (e':=FdP D W (hs.set q (.slice dA p.args.length dB)) (zc8 s i x (j+1)) G) O (fun w hI=>(by rw[zgl dy,hq,zpG];exact(show FdOk _ _ _ _ _ _ from hI.at 904 O).set (fun _ h=>h) (.inl dz))) (FdP.loc) (fun _ h=>h) (fun q h=>h) (Va 7 O (by omega) (V.back (⟨j+1,hs.set q (.slice dA p.args.length dB)⟩) (Sub.of O) (Has.of O) (⟨by omega,by rw[zr2];exact dh⟩) (by first | omega | (dsimp only;omega)) 0 O O))))
  obtain rfl:j=x.phis.length:=by omega
  refine znG (p:=∃ a c,uv=.slice a (x.uses.map (·.2)).length c) (fun w hI=>xa (hI.at 903 O)) (fun dC=>?_)
  obtain⟨au,cu,rfl⟩:=dC
  refine Vs 12 O (zlG O (fun d0=>?_) (fun d0=>?_))
  .
   obtain⟨q,hq,fc⟩:=qF (db.yes (dw.1 d0))
   refine Va 6 O (by omega) (znX 34 (q) ts27 O (by omega) (by omega) (zoP 904 903 (e':=FdP D W (hs.set q (.slice au (x.uses.map (·.2)).length cu)) (xy s (i+1)) (fun b=>G b\/(Value.slice au (x.uses.map (·.2)).length cu).ownBlock=some b)) [(5,some (5,0)),(9,some (909,0)),(13,some (13,0)),(70,some (13,2)),(74,some (13,2))] O O O (fun w hI=>(by rw[zhS hY d0,hq,zpG];exact(show FdOk _ _ _ _ _ _ from hI.at 904 O).set (fun _ h=>.inl h) (.inr (zmM zc (fun _ _=>rfl) (hI.at 903 O) fun b hb=>.inr hb)))) (FdP.loc) (fun _ h=>h) (fun b hb=>hb) ?_))
   have ea:¬ jK f g s i=true:=by unfold jK;rw[du];simp[d0]
   refine zod 902 O (e':=.row 3 1 wv (yt f g s (i+1)).length ((yt f g s (i+1)).map zc)) (by rw[za5 ea]) (Va 7 O (by omega) (V.back (⟨i+1,hs.set q (.slice au (x.uses.map (·.2)).length cu),wv,fun b=>G b\/(Value.slice au (x.uses.map (·.2)).length cu).ownBlock=some b⟩) (Sub.of O) (Has.of O) (⟨by omega,by rw[zr2];exact dh⟩) (by first | omega | (dsimp only;omega)) 0 O O))
  obtain⟨y,da,fe⟩:=gE_ g (i) (by omega)
  obtain⟨fL,fM,fN,eb,ec,ed,ee⟩:=dm.atD da
  obtain rfl:=ee
  refine zob 4000 0 O O (fun h_=>by have ef:=df _ h_;have eg:=ec;first | omega | exact ef eg) ed ?_
  have fg:xL g i=y:=yQ da
  have eh:jK f g s i=decide (y.kind ≠ 2\/(zW f y.at_).act=1):=by unfold jK;rw[du,fg];simp[d0]
  have fO:=zhT (f:=f) (g:=g) (s:=s) i
  have fP:=zjp (f:=f) (g:=g) (s:=s) (show i<=g.length by omega)
  obtain⟨st,dc,ep⟩:=gE_ gm (i) (by omega)
  obtain⟨fh,fi,fj,dD,dE,dF,dG⟩:=dr.atD dc
  obtain⟨er,eu,ew,ey,rfl,dH,dI,dJ,dK⟩:=dG.get
  obtain⟨ez,eA,rfl⟩:=dH.form
  obtain⟨eC,eD,rfl⟩:=dI.form
  obtain⟨eE,eF,rfl⟩:=dJ.form
  obtain⟨eG,eH,rfl⟩:=dK.form
  refine zob 5000 0 O O (fun h_=>by have ef:=df _ h_;have eg:=dE;first | omega | exact ef eg) dF (Vs 7 O ?_)
  refine znN 4000 tR34 ts65 O eb (by omega) (_) (rfl) O (Vs 4 O (V.sp 87 O (fun k2=>?_) (fun k2=>?_)))
  .
   have ei:jK f g s i=true:=by rw[eh];simp[k2]
   refine Vs 16 O (zoh 902 (fun x=>[zc x]) (fun _=>rfl) (by simp[Value.oneCell']) kV tu27 Tryz.el3 O (by decide) O (fun w hI=>⟨_,zmM (D:=fun _=>True) zc (fun _ _=>rfl) (hI.at 903 O) (fun _ _=>trivial)⟩) (by omega) (by omega) (fun u902=>?_))
   refine zod 904 O (e':=FdP D W hs (xy s (i+1)) G) (by rw[zd9 hY d0]) (zod 902 O (e':=.row 3 1 u902 (yt f g s (i+1)).length ((yt f g s (i+1)).map zc)) (by rw[ju ei,du,zps,zr3,zde]) (Va 8 O (by omega) (V.back (⟨i+1,hs,u902,G⟩) (Sub.of O) (Has.of O) (⟨by omega,dh⟩) (by first | omega | (dsimp only;omega)) 0 O O)))
  refine Vs 5 O ?_
  refine znN 5000 tR24 ts72 O dD (by omega) (_) (rfl) O ?_
  have dL:st.act=(zW f y.at_).act:=by
   have h1:gm[i]?=some (stN f y):=by rw[<- dR,zpB,da];rfl
   rw[Option.some.inj (dc.symm.trans h1)]
   have h2:=(hk.at da (.inl (by omega))).1
   unfold stN;rw[zpv h2]
  refine Vs 6 O (zlG O (fun a1=>?_) (fun a1=>?_))
  .
   have ei:jK f g s i=true:=by rw[eh,<- dL];simp[a1]
   refine Vs 3 O (zoh 902 (fun x=>[zc x]) (fun _=>rfl) (by simp[Value.oneCell']) kV tu27 Tryz.el3 O (by decide) O (fun w hI=>⟨_,zmM (D:=fun _=>True) zc (fun _ _=>rfl) (hI.at 903 O) (fun _ _=>trivial)⟩) (by omega) (by omega) (fun u902=>?_))
   refine zod 904 O (e':=FdP D W hs (xy s (i+1)) G) (by rw[zd9 hY d0]) (zod 902 O (e':=.row 3 1 u902 (yt f g s (i+1)).length ((yt f g s (i+1)).map zc)) (by rw[ju ei,du,zps,zr3,zde]) (Va 8 O (by omega) (V.back (⟨i+1,hs,u902,G⟩) (Sub.of O) (Has.of O) (⟨by omega,dh⟩) (by first | omega | (dsimp only;omega)) 0 O O)))
  have ea:¬ jK f g s i=true:=by
   have fk:y.kind=2:=by omega
   rw[eh,<- dL];simp[a1,fk]
  refine zod 904 O (e':=FdP D W hs (xy s (i+1)) G) (by rw[zd9 hY d0]) (zod 902 O (e':=.row 3 1 wv (yt f g s (i+1)).length ((yt f g s (i+1)).map zc)) (by rw[za5 ea]) (Va 7 O (by omega) (V.back (⟨i+1,hs,wv,G⟩) (Sub.of O) (Has.of O) (⟨by omega,dh⟩) (by first | omega | (dsimp only;omega)) 0 O O)))
 obtain rfl:i=s.nodes.length:=by omega
 refine Vs 10 O (zmz 105 Tryz.underlying52 Tryz.el4 O (by omega) (by omega) (zs:=List.replicate s.of_.length (.bool false)) (qa _ _ O) (by simp) (fun b105=>?_))
 refine zod 105 O (e':=.row 4 1 (.slice (some ⟨b105,0,none⟩) s.of_.length s.of_.length) s.of_.length ((List.replicate s.of_.length false).map Value.bool)) (by rw[zr8]) (zod 902 O (e':=.row 3 1 wv (yt f g s g.length).length ((yt f g s g.length).map zc)) (by rw[dl]) (zod 904 O (e':=FdP D W hs (xy s g.length) G) (by rw[dl]) (Vs 5 O (zoe (σ:=List Bool × List Int × Value) [10,19] [] [] O (fun e ⟨nl,wl,wv⟩=>(11,wv)::e) (fun e ⟨nl,wl,wv⟩=>(105,.row 4 1 (.slice (some ⟨b105,0,none⟩) s.of_.length s.of_.length) s.of_.length (nl.map Value.bool))::(902,.row 3 1 wv wl.length (wl.map zc))::(34,.row 27 1 (.slice (some ⟨b34,0,none⟩) s.of_.length s.of_.length) s.of_.length hs)::(904,FdP D W hs (xy s g.length) G)::e) (fun⟨nl,wl,wv⟩=>WkN f g s nl wl/\wl.length+muN s g.length nl<=1000000000) (fun⟨nl,wl,wv⟩=>wl.length+muN s g.length nl) ((List.replicate s.of_.length false,yt f g s g.length,wv)) (Sub.of O) (Has.of O) (fun _=>rfl) (fun _=>rfl) (fun _=>rfl) (⟨WkN.start hF,hM⟩) ?_))))
 rintro⟨nl,wl,wv⟩ ⟨hW,fQ⟩
 show V _ _ _ _ _ ((11,wv)::_) _ ((105,.row 4 1 (.slice (some ⟨b105,0,none⟩) s.of_.length s.of_.length) s.of_.length (nl.map Value.bool))::(902,.row 3 1 wv wl.length (wl.map zc))::(34,.row 27 1 (.slice (some ⟨b34,0,none⟩) s.of_.length s.of_.length) s.of_.length hs)::(904,FdP D W hs (xy s g.length) G)::_) _
 have ej:=hW.len
 refine znG (p:=∃ a c,wv=.slice a wl.length c/\(0<wl.length->∃ b,a=some ⟨b,0,none⟩)) (fun w hI=>zhZ (hI.at 902 O)) (fun fm=>?_)
 obtain⟨aw,cw,rfl,fp⟩:=fm
 refine Vs 8 O (zlG O (fun lw=>?_) (fun lw=>?_))
 .
  obtain⟨wl',v0,rfl⟩:∃ a b,wl=a++[b]:=by
   rcases List.eq_nil_or_concat wl with h | ⟨a,b,h⟩
   . subst h;simp at lw
   exact⟨a,b,by simpa using h⟩
  obtain⟨hN,v,rfl,fq⟩:=hW.wrk v0 (by simp)
  have ft:(wl'++[(v:Int)]).length=wl'.length+1:=by simp
  obtain⟨b,hb⟩:∃ b,nl[v]?=some b:=⟨_,zpk (by omega)⟩
  obtain⟨l,hl⟩:∃ l,(xy s g.length)[v]?=some l:=⟨_,zpk (by rw[zel];exact fq)⟩
  obtain⟨bw,rfl⟩:=fp (by omega)
  refine znG (p:=(wl'++[(v:Int)]).length<=cw) (fun w hI=>(jf (show w.ownsRow 0 3 1 (.slice (some ⟨bw,0,none⟩) (wl'++[(v:Int)]).length cw) (wl'++[(v:Int)]).length ((wl'++[(v:Int)]).map zc) from hI.at 902 O)).choose_spec.2.1) (fun fR=>(Va 10 O (by omega) (znW 902 (wl'.length) tg3 O (by omega) (show _=some (Value.int .i64 (v:Int)) by simp[zc]) (Va 9 O (by omega) (znb O (fun w hI=>zmO tR27 ts3 O O (by omega)) (V.eq 119 (v:=.slice (some ⟨bw,0,none⟩) wl'.length cw) O (by congr 1;omega) ?_))))))
  refine zoq 902 (e':=.row 3 1 (.slice (some ⟨bw,0,none⟩) wl'.length cw) wl'.length (wl'.map zc)) O (fun w hI=>(by have h:=zjB (j:=wl'.length) (show w.ownsRow 0 3 1 (.slice (some ⟨bw,0,none⟩) (wl'++[(v:Int)]).length cw) (wl'++[(v:Int)]).length ((wl'++[(v:Int)]).map zc) from hI.at 902 O) (by omega);rwa [zr3,List.take_left' (by simp)]at h)) (trivial) (fun _ h=>h) (fun q h=>h) (Va 8 O (by omega) (znW 105 (v) tg4 O (by omega) (show _=some (Value.bool b) by rw[zpB,hb];rfl) ?_))
  refine znb O (fun w hI=>zmT O (by first | exact za | rfl)) (Vs 2 O (V.bool O (fun n0=>?_) (fun n0=>?_)))
  .
   obtain rfl:b=false:=by cases b<;>simp_all
   refine Va 5 O (by omega) (znX 105 (v) ts4 O (by omega) (by simp;omega) (zod 105 O (e':=.row 4 1 (.slice (some ⟨b105,0,none⟩) s.of_.length s.of_.length) s.of_.length ((nl.set v true).map Value.bool)) (by rw[zr9]) (znG (p:=∃ a c,hs[v]?=some (.slice a l.length c)) (fun w hI=>(show FdOk _ _ _ _ _ _ from hI.at 904 O).form hl) (fun dM=>?_))))
   obtain⟨al,cl,dM⟩:=dM
   have fS:=zks hl (by rw[hb];exact fun e=>by cases e) (show v<nl.length by omega)
   refine Va 7 O (by omega) (znW 34 (v) tg27 O (by omega) (dM) (zoh 902 (fun x=>[zc x]) (fun _=>rfl) (by simp[Value.oneCell']) kV tu27 Tryz.el3 O (by decide) O (fun w hI=>⟨_,(show FdOk _ _ _ _ _ _ from hI.at 904 O).get hI.k1 hl dM⟩) (by omega) (by omega) (fun u902=>?_)))
   refine zod 902 O (e':=.row 3 1 u902 (wl'++l).length ((wl'++l).map zc)) (by rw[zps,zr3,zde]) (Vs 3 O (V.back (⟨nl.set v true,wl'++l,u902⟩) (Sub.of O) (Has.of O) (⟨hW.take hF hl,by rw[zps];omega⟩) (by simp only[zps];omega) 0 O O))
  obtain rfl:b=true:=by cases b<;>simp_all
  refine Vs 2 O (V.back (⟨nl,wl',.slice (some ⟨bw,0,none⟩) wl'.length cw⟩) (Sub.of O) (Has.of O) (⟨hW.skip hb,by omega⟩) (by simp only[];omega) 0 O O)
 obtain rfl:wl=[]:=by cases wl;(· rfl);simp at lw
 have ek:=hW.fin hF
 refine Vs 13 O (zlZ Tryz.results21 O O (fun w hI=>⟨_,rfl,⟨_,by rw[c0'],fun h=>absurd c0' h,fun _=>by rw[<- ek];exact zmM (R:=zkL) (D:=fun b=>W.heap.size<=b) Value.bool (fun _ _=>rfl) (show w.ownsRow 0 4 1 (.slice (some ⟨b105,0,none⟩) s.of_.length s.of_.length) nl.length (nl.map Value.bool) by rw[ej];exact hI.at 105 O) (fun q hq=>hI.own 105 1 O O q hq)⟩,hI.k1⟩))
end Go.Proofs.YtckdhgbepmpgiaaGreat
namespace Go.GL
section
variable {P:Program} {n:Nat} {Q:Exit->Act->World->Prop} {ks:List Fr} {env:Env} {A:Tgs} {H Hs:Hp} {Bs B0:zF} {ops:Array Oper} {L:List Nat} {fuel:Nat} {listed:Array Bool} {v:Value}
variable {ty:TypeId} {ps:String} {aft:Array Edge} {g:Option (Nat × Bool)}
theorem zpj (i k q j:Nat) {ts:TypeId} {x y:Operand} {b o:Nat} {cs:List Value} {e:TypeId} (dc:∀ w,(sizeOf ts).run P w=.ok 1 w) (hi:ops[i]?=some ⟨none,.store ts x y,ty,ps,aft,g⟩) (hr:Region.ready .any ops listed=[i])
  (hn:(gd ops env g,hget H k,ev env x,ev env y,qA (Hs.map (·.1)),qn k (Hs.map (·.1)))=(some true,some (.own b cs e),some (.pointer (some ⟨b,o,none⟩)),some v,true,true)) (h1:Go.GL.one v=true) (hj:o=q) (hl:q<cs.length) (hB:Bs.drop j=B0)
  (h:VD P n Q ks ops Hs B0 L fuel (listed.setIfInBounds i true) env A (yx H k (.own b (cs.set q v) e)) Bs):VD P n Q ks ops Hs B0 L (fuel+1) listed env A H Bs:=by
 simp only[Prod.mk.injEq]at hn
 subst hj hB
 obtain⟨h2,h3,h4,h5,h6,h7⟩:=hn
 intro hH hA w hI
 have hB:Blk w b cs e:=hI.at k h3
 obtain⟨c1,c2⟩:=xQ h1
 have hY:Has Hs (yx H k (.own b (cs.set o v) e)):=hH.set h3 h7
 refine zo8 i hi hr h2 (M.store dc h4 h5 c1 c2 hB hl) ?_
 rintro w2 ⟨_,da,de⟩
 have db:VI Bs (yx H k (.own b (cs.set o v) e)) w2:=hI.set h3 de da trivial (fun _ h=>h) fun q hq=>⟨.inl hq,by have hq:q=b:=hq;rw[hq];exact da.lt⟩
 exact⟨(db.drop j).pick hY h6,h hY (hA.set h3) w2 db⟩
end
section
theorem VI.all {Bs:zF} {H E:Hp} {w:World} (hI:VI Bs H w) (h:E.map (fun x=>hget H x.1)=E.map (fun x=>some x.2)):∀ x ∈ E,x.2.holds w:=fun x hx=>hI.at x.1 (Has.of h x hx)
end
end Go.GL
namespace Go.Proofs.YtckdhgbepmpgiaaGreat
open Go.GL
theorem zcy {P:Program} {f:FuncId} {args:Array Value} {w:World} {k k':Int} (h:k=k') (hc:Calls P f args w (Ret fun r w'=>r=.int .i64 k/\Ext w w')):Calls P f args w (Ret fun r w'=>r=.int .i64 k'/\Ext w w'):=h ▸ hc
theorem zgy (W:World):Calls Tryz.prog 11 #[] W (Ret fun r w'=>r=.bool true/\Ext W w'):=by
 have dC:=zi0
 have dD:=zi1
 have de:exS22.of_.length<=1000000/\(LP exS22 exG22.length).length<=1000000:=by decide +kernel
 have dk:exT22.of_.length<=1000000/\(LP exT22 exG22.length).length<=1000000:=by decide +kernel
 have dM:∀ k,(yF zi4 k).length<=1000000000:=fun k=>by unfold yF;split<;>(try split)<;>decide
 refine znj Tryz.func11 O Tryz.ntmps11 (znE (Vs 7 O (zoz [] (Hn:=fun b:B22=>[(906,.own b.1 [.string ⟨#[120]⟩,.int .i64 1,.int .i64 0,.int .i64 1,.int .i64 0,.string ⟨#[121]⟩,.int .i64 0,.int .i64 0,.int .i64 1,.int .i64 0] 142),(910,.own b.2.1 [.int .i64 0,.int .i64 0,.int .i64 1,.int .i64 0,.int .i64 0,.int .i64 1,.slice none 0 0,.slice none 0 0,.slice none 0 0,.slice none 0 0] 72),(914,.own b.2.2.1 [.int .i64 3,.int .i64 0,.int .i64 0,.int .i64 0,.int .i64 24,.int .i64 0,.slice none 0 0,.slice (some ⟨b.2.1,0,none⟩) 1 1,.slice none 0 0,.slice none 0 0,.int .i64 1,.int .i64 0,.int .i64 0,.int .i64 0,.int .i64 24,.int .i64 1,.slice none 0 0,.slice none 0 0,.slice none 0 0,.slice none 0 0] 72),(916,.own b.2.2.2.1 [.int .i64 0,.int .i64 1,.int .i64 1,.int .i64 1] 3),(919,.own b.2.2.2.2.1 [.int .i64 0,.int .i64 0] 85),(922,.own b.2.2.2.2.2.1 [.int .i64 1,.int .i64 2] 3),(923,.own b.2.2.2.2.2.2.1 [.int .i64 1,.int .i64 2] 3),(925,.own b.2.2.2.2.2.2.2.1 [.int .i64 1,.int .i64 3,.slice (some ⟨b.2.2.2.2.2.1,0,none⟩) 2 2,.slice (some ⟨b.2.2.2.2.2.2.1,0,none⟩) 2 2] 88),(927,.own b.2.2.2.2.2.2.2.2.1 [.int .i64 1,.int .i64 3] 85),(930,.own b.2.2.2.2.2.2.2.2.2 [.slice none 0 0,.slice none 0 0,.int .i64 (-1),.slice none 0 0,.slice (some ⟨b.2.2.2.2.1,0,none⟩) 1 1,.int .i64 (-1),.slice none 0 0,.slice none 0 0,.int .i64 2,.slice (some ⟨b.2.2.2.2.2.2.2.1,0,none⟩) 1 1,.slice (some ⟨b.2.2.2.2.2.2.2.2.1,0,none⟩) 1 1,.int .i64 (-1),.slice none 0 0,.slice none 0 0,.int .i64 (-1)] 59)]) [] Tryz.call31 O (fun _ _=>rfl) (fun _=>rfl) (fun w hI=>zf2 O O (zep w)) ?_)))
 rintro _ ⟨bv,bb,bx,bo,b9,bf,ba,bp,bu,bn⟩ rfl
 refine Vs 3 O (V.alloc 1 tz26 O O (fun b1=>?_))
 refine V.alloc 2 tz30 O O (fun b2=>(Vs 7 O (zo1 Tryz.call14 O (fun w hI=>zeq exF22 _ _ _ (fun q=>q<w.heap.size) w (za7 (hI.all O) (fun q h=>h)) (by decide)) ?_)))
 rintro rr w1 w2 d5 dN ⟨nv,rfl,di⟩ hY
 rw[zcv]at di
 obtain⟨an,cn,rfl⟩:=di.form
 refine V.alloc 3 tz36 O O (fun b3=>(Vs 8 O (V.bs 18 [(0,_)] tR27 ts3 tz3 (by decide) O O (by kernel_rfl) (fun b18=>?_))))
 refine zol [Value.slice none 0 0,Value.slice none 0 0,Value.slice none 0 0] [(0,1),(1,1),(2,1)] [(0,_)] O O (fun _=>by kernel_rfl) (zo1 Tryz.call18 O (fun w hI=>zia exF22 exG22 exS22 zi4 dC dD de dM _ _ _ _ _ _ _ _ _ (fun q=>q<w.heap.size) w (za7 (hI.all O) (fun q h=>h)) ((SlR.narrow (by omega) qE (di.keep zH hI.k0 (fun b hb _ hs=>by have:=hY b hs;omega))).wide zH fun q h=>h.2) (zdb (hI.all O) (fun q h=>h)) (zp9 (R:=zC) (l:=[(1:Int)]) [[.int .i64 1]] (hI.at 18 O) (Blk.lt (hI.at 18 O)) (fun c hc=>by rw[zpC]at hc;subst hc;rfl) (by decide) ⟨rfl,trivial⟩) SlR.nil SlR.nil (fun q h=>h)) ?_)
 rintro rr w3 w4 d6 dO ⟨ov,t,rfl,_,df⟩ dl
 have hc:zaJ exF22 exG22 exS22 zi4=0:=by unfold zaJ;rw[zpu (by rw[zc1];decide)];exact zgt
 rw[hc]at df ⊢
 obtain⟨df,_⟩:=df rfl
 rw[zi5]at df
 obtain⟨ovl,hO⟩:∃ ovl:List Int,ovl=[1]:=⟨_,rfl⟩
 rw[<- hO]at df
 obtain⟨ao,co,rfl⟩:=df.form
 have d7:ovl.length=1:=by rw[hO];rfl
 have dQ:(zaI exF22 exG22 exS22).length=4:=(zhR _ _ _).trans rfl
 have dI:=zgu
 have dJ:=zgv
 refine Vs 3 O (V.alloc 4 tz47 O O (fun b4=>?_))
 refine Vs 9 O (zo1 Tryz.call21 O (fun w hI=>zgx exF22 exG22 exS22 dC dD de zkA (by decide) _ _ _ _ _ _ (fun q=>q<w.heap.size) w (za7 (hI.all O) (fun q h=>h)) ((SlR.narrow (by omega) qE (di.keep zH hI.k1 (fun b hb _ hs=>by have:=hY b hs;omega))).wide zH fun q h=>h.2) (zdb (hI.all O) (fun q h=>h)) (fun q h=>h)) ?_)
 rintro rr w5 w6 d8 dR ⟨nu,rfl,_,dg⟩ da
 rw[zc1]at dg ⊢
 have dg:=dg rfl
 obtain⟨N,dS⟩:∃ N,N=zaI exF22 exG22 exS22:=⟨_,rfl⟩
 rw[<- dS]at dg dQ dI dJ
 obtain⟨au,cu,rfl⟩:=dg.form
 refine Vs 13 O (znZ Tryz.call16 O (fun w hI=>(zcy zc1 (za3 exF22 exG22 exS22 dC dD de _ _ _ _ _ _ (fun q=>q<w.heap.size) w (za7 (hI.all O) (fun q h=>h)) ((SlR.narrow (by omega) qE (di.keep zH hI.k2 (fun b hb _ hs=>by have:=hY b hs;omega))).wide zH fun q h=>h.2) (zdb (hI.all O) (fun q h=>h)) (fun q h=>h)))) (Vs 2 O (V.sp 35 O (fun q1=>?_) (fun q1=>?_))))
 . exact absurd O q1
 refine Vs 4 O (V.sp 39 O (fun q2=>?_) (fun q2=>?_))
 . exact absurd O q2
 refine Vs 6 O (V.sp 45 O (fun q3=>?_) (fun q3=>?_))
 . omega
 obtain⟨z,dh,dT⟩:=gE_ ovl (0) (by omega)
 obtain⟨d9,ea,eb,dE,dF,dG,dH⟩:=df.atD dh
 obtain rfl:=dH
 refine zob 1000 1 O O (fun h_=>by have dm:=dl _ h_;have dr:=dF;first | omega | exact dm dr) dG ?_
 obtain rfl:z=1:=by rw[hO]at dh;exact(Option.some.inj dh).symm
 refine Vs 2 O ?_
 refine znN 1000 tR27 ts3 O dE (by omega) (_) (rfl) O (Vs 4 O (V.sp 52 O (fun q4=>?_) (fun q4=>?_)))
 . exact absurd O q4
 refine Vs 4 O (V.sp 56 O (fun q5=>?_) (fun q5=>?_))
 . exact absurd O q5
 refine Vs 5 O (V.sp 61 O (fun q6=>?_) (fun q6=>?_))
 . omega
 obtain⟨x0,db,dK⟩:=gE_ N (0) (by omega)
 obtain⟨dU,dV,dW,dt,du,dw,dx⟩:=dg.atD db
 obtain rfl:=dx
 refine zob 2000 0 O O (fun h_=>by have dm:=da _ h_;have dr:=du;first | omega | exact dm dr) dw ?_
 obtain rfl:x0=true:=Option.some.inj (db.symm.trans dI)
 refine Vs 1 O ?_
 refine znN 2000 tR52 ts4 O dt (by omega) (_) (rfl) O (Vs 1 O (znb O (fun w hI=>zmT O (by first | exact za | rfl)) (Vs 2 O (V.sb 67 O (fun q7=>?_) (fun q7=>?_)))))
 . cases q7
 obtain⟨x3,dc,dL⟩:=gE_ N (3) (by omega)
 obtain⟨dX,dY,dZ,dy,dz,dA,dB⟩:=dg.atD dc
 obtain rfl:=dB
 refine zob 3000 0 O O (fun h_=>by have dm:=da _ h_;have dr:=dz;first | omega | exact dm dr) dA ?_
 obtain rfl:x3=true:=Option.some.inj (dc.symm.trans dJ)
 refine Vs 1 O ?_
 refine znN 3000 tR52 ts4 O dy (by omega) (_) (rfl) O (Vs 1 O (znb O (fun w hI=>zmT O (by first | exact za | rfl)) (Vs 3 O (V.bool O (fun q8=>?_) (fun q8=>?_)))))
 . cases q8
 refine Vs 3 O (Vw [906,910,914,916,919,922,923,925,1,2,3,18,4,1000,2000,3000] [] O (Vd [0,1,2,3] 0 (by kernel_rfl) O O O (zon 4 O (by kernel_rfl) O (fun w=>zmh tR28 ts59 O O O (by decide)) (Vd [5] 0 (by kernel_rfl) O O O (znc 6 0 O (by kernel_rfl) O O (fun w hI=>R.load Tryz.isAgg57 O (v:=.slice (some ⟨bu,0,none⟩) 1 1) (by exact Blk.cells (hI.at 930 O) 10 _ O)) (zon 7 O (by kernel_rfl) O (fun w=>zmh tR28 ts59 O O O (by decide)) (Vd [8] 0 (by kernel_rfl) O O O ?_)))))))
 refine zpj 9 930 9 0 Tryz.sizeOf56 O (by kernel_rfl) O O O (by simp) O (zon 10 O (by kernel_rfl) O (fun w=>zmh tR57 ts85 O O O (by decide)) (Vd [11] 0 (by kernel_rfl) O O O (zpj 12 927 1 0 ts3 O (by kernel_rfl) O O O (by simp) O (VD.done (by kernel_rfl) (Vs 6 O (znZ Tryz.call16 O (fun w hI=>(zcy zgr (za3 exF22 exG22 exT22 dC dD dk _ _ _ _ _ _ (fun q=>q<w.heap.size) w (za7 (hI.all O) (fun q h=>h)) ((SlR.narrow (by omega) qE (di.keep zH hI.k2 (fun b hb _ hs=>by have:=hY b hs;omega))).wide zH fun q h=>h.2) (zi3 (hI.all O) (fun q h=>h)) (fun q h=>h)))) ?_))))))
 refine Vs 5 O (zlW Tryz.results11 O (fun w hI=>⟨_,rfl,rfl,hI.k3⟩))
attribute [local instance 1] Classical.propDecidable
theorem zib (f:Fl) (g:List Nd) (s:Sf) (hk:GOk f g) (hz:ssize f.body<=10000) (eD:1<=g.length) (eE:g.length<=100000) (eF:f.vars.length<=1000) (dO:s.of_.length<=1000000/\(LP s s.nodes.length).length<=1000000) (v1 v2 v3 gv ofv nodv:Value) (D:Nat->Prop) (W:World) (hf:RFl D W f v1 v2 v3) (hg:SlR 4 RNd D W gv g) (hS:RSf D W s ofv nodv) :
  Calls Tryz.prog 15 #[.agg #[v1,v2,v3],.agg #[gv],.agg #[ofv,nodv]] W (Ret fun r w'=>(∃ q:Bool,r=.bool q/\(q=true ↔ RightF f g s (rdV f g)))/\Ext W w'):=by
 have ej:=hf
 have ek:=hg
 have em:=hS
 have dQ:=hS.nodes
 obtain⟨an,cn,rfl⟩:=dQ.form
 have fk:=dQ.max
 have en:¬ RightF f g s (rdV f g)->((false:Bool)=true ↔ RightF f g s (rdV f g)):=fun hb=>⟨fun h=>(by cases h),fun h=>absurd h hb⟩
 refine znm Tryz.func15 O Tryz.ntmps15 O (znE (Vs 2 O (V.box 3 O O (fun b3=>?_))))
 refine V.box 4 O O (fun b4=>(V.box 5 O O (fun b5=>?_)))
 refine Vs 9 O (znZ Tryz.call34 O (fun w hI=>za2 (zgh f g s hk hz (by omega) dO _ _ _ _ _ _ D w (Tr1 hI.k0 ej) (Tr1 hI.k0 ek) (Tr1 hI.k0 em))) (znb O (fun w hI=>zmT O (by first | exact za | rfl)) (Vs 2 O (zlG O (fun n1=>?_) (fun n1=>?_)))))
 .
  have hb:¬ RightF f g s (rdV f g):=fun h=>n1 h.toFormF
  refine Vs 7 O (zlW tr15 O (fun w hI=>⟨_,rfl,⟨_,rfl,en hb⟩,hI.k0⟩))
 have hF:FormF f g s (rdV f g):=Classical.not_not.1 n1
 have eG:=hF.len
 have eo:=hF.nn
 have ep:¬ jR f g s->((false:Bool)=true ↔ RightF f g s (rdV f g)):=fun hb=>en fun h=>hb ⟨h.use,h.arg⟩
 refine Vs 7 O (zo1 Tryz.call35 O (fun w hI=>zjg f g s hk hF hz eD eE eF _ _ _ _ _ _ D w (Tr1 hI.k0 ej) (Tr1 hI.k0 ek) (Tr1 hI.k0 em)) ?_)
 rintro rr w1 w2 fm eH ⟨u1,u2,ins,outs,rfl,er,eu,dH,dR,di,da⟩ df
 obtain⟨b1,d1,rfl⟩:=di.form
 obtain⟨b2,d2,rfl⟩:=da.form
 have fp:=er.len
 have fq:=eu.len
 have eI:=er.row
 have eJ:=eu.row
 have ft:=di.max
 have fu:=da.max
 refine Vs 17 O (zoe (σ:=Nat) [7,8,30,31] [] [] O (fun e n=>(32,.int .i64 n)::e) (fun e n=>e) (fun n=>n<=s.nodes.length/\(∀ (m:Nat) x,m<n->s.nodes[m]?=some x->NodU f g s m x)) (fun n=>s.nodes.length - n) (0) (Sub.of O) (Has.of O) (fun _=>rfl) (fun _=>rfl) (fun _=>rfl) (⟨zpz _,fun m x h=>absurd h (zrZ _)⟩) ?_)
 rintro n ⟨hn,dI⟩
 refine Vs 6 O (zlG O (fun ln=>?_) (fun ln=>?_))
 .
  refine Vs 7 O ?_
  obtain⟨x,db,eK⟩:=gE_ s.nodes (n) (by omega)
  obtain⟨fv,fw,fy,dS,_,dT,dU⟩:=dQ.at db
  obtain⟨eL,eM,rfl,dk,dl⟩:=dU
  obtain⟨eN,eO,rfl⟩:=dk.form
  obtain⟨eP,eQ,rfl⟩:=dl.form
  refine zoa 1000 1 O O dT ?_
  refine znN 1000 tR28 ts59 O dS (by omega) (_) (rfl) O ?_
  have dg:=hF.nod n x db
  have fA:=dl.max
  have fB:=dk.max
  have eR:n<g.length:=by omega
  refine Vs 1 O (V.alloc 10 tz59 O O (fun b10=>?_))
  refine Vs 14 O (zoe (σ:=Nat) [7,8,9,10,30,31,32,38,39] [10] [10] O (fun e k=>(40,.int .i64 k)::e) (fun e k=>e) (fun k=>k<=x.uses.length/\(∀ (j:Nat) u,j<k->x.uses[j]?=some u->inV f g s n u.1=u.2)) (fun k=>x.uses.length - k) (0) (Sub.of O) (Has.of O) (fun _=>rfl) (fun _=>rfl) (fun _=>rfl) (⟨zpz _,fun j u h=>absurd h (zrZ _)⟩) ?_)
  rintro k ⟨fC,ew⟩
  refine Vs 6 O (zlG O (fun lk=>?_) (fun lk=>?_))
  .
   refine Vs 6 O ?_
   obtain⟨u,dJ,dK⟩:=gE_ x.uses (k) (by omega)
   obtain⟨fD,fE,fF,dV,_,dW,dX⟩:=dl.at dJ
   obtain rfl:=dX
   refine zoa 2000 1 O O dW ?_
   refine znN 2000 tR57 ts85 O dV (by omega) (_) (rfl) O ?_
   have eS:=za1 hF.of_ (dg.ver u dK)
   obtain⟨p1,p2⟩:=u
   dsimp only at eS
   obtain⟨v,rfl⟩:∃ v:Nat,p1=(v:Int):=⟨p1.toNat,by omega⟩
   obtain⟨r,dc,dm⟩:=gE_ ins (n) (by omega)
   obtain⟨eT,eU,eV,dr,dt,du,dw⟩:=di.atD dc
   obtain⟨dY,rfl,de⟩:=dw
   obtain⟨dZ,d5,rfl⟩:=de.form
   refine zob 3000 0 O O (fun h_=>by have dx:=df _ h_;have dy:=dt;first | omega | exact dx dy) du ?_
   have eW:=eI r dm
   obtain⟨y,hY,d6⟩:=gE_ r (v) (by omega)
   obtain⟨eX,eY,eZ,dz,d7,dA,dB⟩:=de.atD hY
   obtain rfl:=dB
   refine zob 4000 0 O O (fun h_=>by have dx:=df _ h_;have dy:=d7;first | omega | exact dx dy) dA ?_
   have d8:y=inV f g s n v:=by rw[<- zaG dc hY];exact dH.is eo (by omega) (by omega) eR
   refine Vs 1 O (V.alloc 12 tz85 O O (fun b12=>?_))
   refine Vs 4 O (Vq (by kernel_rfl) (Vs 2 O (znQ 3000 tR89 ts27 O dr (by omega) (n) (by omega) O (Vs 3 O (znQ 4000 tR27 ts3 O dz (by omega) (v) (by omega) O (Vs 6 O (zlG O (fun e1=>?_) (fun e1=>?_))))))))
   .
    have dC:¬ jR f g s:=fun h=>e1 (by rw[d8];exact h.1 n x db _ dK)
    refine Vs 16 O (zlW tr15 O (fun w hI=>⟨_,rfl,⟨_,rfl,ep dC⟩,hI.k1⟩))
   have dD:=yd ew dJ (show inV f g s n v=p2 by omega)
   refine Va 7 O (by omega) (V.back (k+1) (Sub.of O) (Has.of O) (⟨by omega,dD⟩) (by first | omega | (dsimp only;omega)) 0 O O)
  obtain rfl:k=x.uses.length:=by omega
  refine Vs 14 O (zoe (σ:=Nat) [7,8,30,31,32,57,58] [] [] O (fun e k=>(59,.int .i64 k)::e) (fun e k=>e) (fun k=>k<=x.phis.length/\(∀ (j:Nat) p,j<k->x.phis[j]?=some p->zkY f g s p)) (fun k=>x.phis.length - k) (0) (Sub.of O) (Has.of O) (fun _=>rfl) (fun _=>rfl) (fun _=>rfl) (⟨zpz _,fun j u h=>absurd h (zrZ _)⟩) ?_)
  rintro k ⟨fG,ey⟩
  refine Vs 6 O (zlG O (fun lp=>?_) (fun lp=>?_))
  .
   refine Vs 6 O ?_
   obtain⟨p,dL,dh⟩:=gE_ x.phis (k) (by omega)
   obtain⟨fH,fI,fJ,d9,_,ea,eb⟩:=dk.at dL
   obtain⟨e8,e9,rfl,dE,dF⟩:=eb
   obtain⟨fa,fb,rfl⟩:=dE.form
   obtain⟨fc,fe,rfl⟩:=dF.form
   refine zoa 5000 1 O O ea ?_
   refine znN 5000 tR56 ts88 O d9 (by omega) (_) (rfl) O ?_
   have fg:=dg.phi.frm p dh
   have fK:=dg.phi.len p dh
   have fL:=za1 hF.of_ (dg.phi.ver p dh)
   have fM:=dE.max
   have fN:=dF.max
   obtain⟨v,hv⟩:∃ v:Nat,p.var=(v:Int):=⟨p.var.toNat,by omega⟩
   refine Vs 1 O (V.alloc 14 tz88 O O (fun b14=>?_))
   refine Vs 12 O (zoe (σ:=Nat) [7,8,14,30,31,32,57,58,59,64,65] [14] [14] O (fun e j=>(66,.int .i64 j)::e) (fun e j=>e) (fun j=>j<=p.frm.length/\(∀ (m:Nat) y,m<j->p.frm[m]?=some y->∀ a,p.args[m]?=some a->zap f g s y.toNat p.var=a)) (fun j=>p.frm.length - j) (0) (Sub.of O) (Has.of O) (fun _=>rfl) (fun _=>rfl) (fun _=>rfl) (⟨zpz _,fun m y h=>absurd h (zrZ _)⟩) ?_)
   rintro j ⟨hj,ez⟩
   refine Vs 6 O (zlG O (fun lj=>?_) (fun lj=>?_))
   .
    refine Vs 7 O ?_
    obtain⟨y,hY,d6⟩:=gE_ p.frm (j) (by omega)
    obtain⟨eX,eY,eZ,dz,_,dA,dB⟩:=dE.at hY
    obtain rfl:=dB
    refine zoa 6000 1 O O dA ?_
    refine znN 6000 tR27 ts3 O dz (by omega) (_) (rfl) O ?_
    obtain⟨q,rfl,fO,eA⟩:=kZ (fg ▸ hY)
    obtain⟨r,dc,dm⟩:=gE_ outs (q) (by omega)
    obtain⟨eT,eU,eV,dr,dt,du,dw⟩:=da.atD dc
    obtain⟨dY,rfl,de⟩:=dw
    obtain⟨dZ,d5,rfl⟩:=de.form
    refine zob 7000 0 O O (fun h_=>by have dx:=df _ h_;have dy:=dt;first | omega | exact dx dy) du ?_
    have eW:=eJ r dm
    obtain⟨z,dM,fh⟩:=gE_ r (v) (by omega)
    obtain⟨fP,fQ,fR,ec,ed,ee,ef⟩:=de.atD dM
    obtain rfl:=ef
    refine zob 8000 0 O O (fun h_=>by have dx:=df _ h_;have dy:=ed;first | omega | exact dx dy) ee ?_
    obtain⟨a,dG,fi⟩:=gE_ p.args (j) (by omega)
    obtain⟨fS,fT,fU,eg,_,eh,ei⟩:=dF.at dG
    obtain rfl:=ei
    refine zoa 9000 1 O O eh ?_
    have eC:z=zap f g s q p.var:=by
     rw[hv,<- zaG dc dM,dR q eA v (by omega) (by omega)]
     exact zhy (dH.is eo (by omega) (by omega) eA)
    refine Vs 6 O (Vq (by kernel_rfl) (Vs 2 O (znQ 7000 tR89 ts27 O dr (by omega) (q) (by omega) O (Vs 3 O (znQ 8000 tR27 ts3 O ec (by omega) (v) (by omega) O (Vs 4 O (znQ 9000 tR27 ts3 O eg (by omega) (j) (by omega) O (Vs 4 O (zlG O (fun e1=>?_) (fun e1=>?_))))))))))
    .
     have dC:¬ jR f g s:=fun h=>e1 (by rw[eC];exact h.2 n x db p dh j _ a hY dG)
     refine Vs 19 O (zlW tr15 O (fun w hI=>⟨_,rfl,⟨_,rfl,ep dC⟩,hI.k1⟩))
    have dD:=yd ez hY (show ∀ a',p.args[j]?=some a'->zap f g s (Int.toNat (q:Int)) p.var=a' from fun a' fj=>by
     obtain rfl:a'=a:=Option.some.inj (fj.symm.trans dG)
     have e2:=zpt.1 e1
     rw[eC]at e2;exact e2)
    refine Va 7 O (by omega) (V.back (j+1) (Sub.of O) (Has.of O) (⟨by omega,dD⟩) (by first | omega | (dsimp only;omega)) 0 O O)
   obtain rfl:j=p.frm.length:=by omega
   have dD:=yd ey dL (show zkY f g s p from fun m y hm a ha=>ez m y (zpy.1 hm).1 hm a ha)
   refine Va 10 O (by omega) (V.back (k+1) (Sub.of O) (Has.of O) (⟨by omega,dD⟩) (by first | omega | (dsimp only;omega)) 0 O O)
  obtain rfl:k=x.phis.length:=by omega
  have dD:∀ (m:Nat) x',m<n+1->s.nodes[m]?=some x'->NodU f g s m x':=fun m x' hm hx=>by
   by_cases e:m=n
   .
    subst e
    obtain rfl:x'=x:=Option.some.inj (hx.symm.trans db)
    exact⟨fun u hu=>by obtain⟨q,hq⟩:=zre.1 hu;exact xP ew q u hq,fun p hp=>by obtain⟨q,hq⟩:=zre.1 hp;exact xP ey q p hq⟩
   exact dI m x' (by omega) hx
  refine Va 10 O (by omega) (V.back (n+1) (Sub.of O) (Has.of O) (⟨by omega,dD⟩) (by first | omega | (dsimp only;omega)) 0 O O)
 obtain rfl:n=s.nodes.length:=by omega
 have dN:jR f g s:=zed (xP dI)
 have hR:RightF f g s (rdV f g):=⟨hF,dN.1,dN.2⟩
 refine Vs 11 O (zlW tr15 O (fun w hI=>⟨_,rfl,⟨_,rfl,⟨fun _=>hR,fun _=>rfl⟩⟩,hI.k1⟩))
def addN (l:List Bool) (b:Bool) (k:Nat):List Bool × Bool:=if l[k]?=some true then (l,b) else (l.set k true,true)
end Go.Proofs.YtckdhgbepmpgiaaGreat
namespace Go.GL
theorem SlR.now {α:Type} {k:Nat} {R:Rel α} {D S:Nat->Prop} {w w':World} {v:Value} {l:List α} (h:SlR k R D w v l) (hs:zR R) (hn:qm R) [NeZero k] (hk:Keep S w w') (hD:∀ b,D b->¬ S b):SlR k R (fun q=>q<w'.heap.size) w' v l :=
 (SlR.narrow (Nat.pos_of_ne_zero (NeZero.ne k)) hn (h.keep hs hk fun b hb _=>hD b hb)).wide hs fun _ h=>h.2
theorem RFl.now {D:Nat->Prop} {w:World} {f:Fl} {v1 v2 v3:Value} (h:RFl D w f v1 v2 v3):RFl (fun q=>q<w.heap.size) w f v1 v2 v3 :=
 ⟨(SlR.narrow (by omega) zdo h.vars).wide xD fun _ h=>h.2,(SlR.narrow (by omega) zdn h.hatches).wide xE fun _ h=>h.2,(SlR.narrow (by omega) jd h.body).wide zd fun _ h=>h.2⟩
end Go.GL
namespace Go.Proofs.YtckdhgbepmpgiaaGreat
open Go.GL
theorem RSf.now {D:Nat->Prop} {w:World} {s:Sf} {u1 u2:Value} (h:RSf D w s u1 u2):RSf (fun q=>q<w.heap.size) w s u1 u2 :=
 ⟨(SlR.narrow (by omega) yl h.of_).wide zb fun _ h=>h.2,(SlR.narrow (by omega) zhl h.nodes).wide kX fun _ h=>h.2⟩
theorem zc2 {i n:Nat} (h:i<=n):List.range n=List.range i++List.range' i (n - i):=by
 have h1:=@List.range'_append_1 0 i (n - i)
 rw[zs3,show i+(n - i)=n by omega]at h1
 rw[zrr,zrr]
 exact h1.symm
theorem zlb (s:Sf) (n:Nat):(LP s n).length<=(LP s s.nodes.length).length:=by
 by_cases h:n<=s.nodes.length
 .
  have e:LP s s.nodes.length=LP s n++(List.range' n (s.nodes.length - n)).flatMap fun i=>dP (zj s i)++(zj s i).phis.map (·.ver):=by
   unfold LP
   rw[zc2 h,zqO]
  rw[e,zps];omega
 have e:LP s n=LP s s.nodes.length++(List.range' s.nodes.length (n - s.nodes.length)).flatMap fun i=>dP (zj s i)++(zj s i).phis.map (·.ver):=by
  unfold LP
  rw[zc2 (show s.nodes.length<=n by omega),zqO]
 have e2:((List.range' s.nodes.length (n - s.nodes.length)).flatMap fun i=>dP (zj s i)++(zj s i).phis.map (·.ver))=[]:=by
  rw[List.flatMap_eq_nil_iff]
  intro i hi
  have:=(List.mem_range'_1.1 hi).1
  rw[zaq (by omega)];rfl
 rw[e,e2,zqz];exact zpJ _
theorem FewS.big {s:Sf} (h:FewS s) (n:Nat):s.of_.length<=1000000/\(LP s n).length<=1000000:=by
 have:=h.lp
 have:=zlb s n
 have:=h.of_
 omega
theorem zjC (f:Fl) (v1 v2 v3:Value) (D:Nat->Prop) (W:World) (hf:RFl D W f v1 v2 v3) :
  Calls Tryz.prog 12 #[.agg #[v1,v2,v3]] W (Ret fun r w'=>(∃ q:Bool,r=.bool q/\(q=true->FitC f 16 4 4))/\Ext W w'):=by
 refine znk Tryz.func12 O Tryz.ntmps12 O (znE (Vs 2 O (V.box 1 O O (fun b1=>?_))))
 refine Vs 6 O (zo1 Tryz.call32 O (fun w hI=>zkv f 16 4 4 v1 v2 v3 D w (Tr1 hI.k0 hf)) ?_)
 rintro rr w1 w2 db hY ⟨q,rfl,hq⟩ da
 refine Vs 4 O (zlW Tryz.results12 O (fun w hI=>⟨_,rfl,⟨_,rfl,hq⟩,hI.k1⟩))
theorem zcz {f:Fl} (vd:Valid f):¬ yD f (zk f) ≠ 0:=zpH (by unfold yD;rw[zpu (zpH vd.ok),zpv rfl])
def RIn:Rel Ins:=fun D w x cs=>∃ a b c,cs=[a,b,c]/\SlR 1 zC D w a x.secret/\SlR 1 zC D w b x.pub/\SlR 1 zC D w c x.random
theorem zic:zR RIn:=fun _ _ _ _ hD hk _ _ ⟨u1,u2,u3,h0,h1,h2,h3⟩=>⟨u1,u2,u3,h0,h1.stable zb hD hk,h2.stable zb hD hk,h3.stable zb hD hk⟩
instance:StC RIn:=⟨zic⟩
theorem zjQ (D:Nat->Prop) {w:World} (x:Ins) (cs:List Value) (h:RIn D w x cs):∀ u ∈ cs,u.oneCell'=true:=by
 obtain⟨a,b,c,rfl,h1,h2,h3⟩:=h
 obtain⟨a1,c1,rfl⟩:=h1.form
 obtain⟨a2,c2,rfl⟩:=h2.form
 obtain⟨a3,c3,rfl⟩:=h3.form
 simp[Value.oneCell']
def inA (vs:List Vr) (s p r:Int):Ins:=⟨(zG (zf 1 vs) s).1,(zG (zf 2 vs) p).1,(zG (zf 3 vs) r).1⟩
def I3:=(Option Addr × Nat) × (Option Addr × Nat) × (Option Addr × Nat) × (Nat->Prop)
def inC (x:Ins) (y:I3):List Value:=[.slice y.1.1 x.secret.length y.1.2,.slice y.2.1.1 x.pub.length y.2.1.2,.slice y.2.2.1.1 x.random.length y.2.2.1.2]
theorem zlc {H:Hp} (k:Nat) (vs:List Vr) (s p r:Int) (vv:Value) (D:Nat->Prop) (w:World) (hg:∀ v ∈ vs,yr (v.low,v.high)) (hY:vs.length<=1000000) (h0:zhV vs s p r=0) (da:SlR 5 RVr D w vv vs) :
  Calls Tryz.prog 43 #[vv,.int .i64 s,.int .i64 p,.int .i64 r] w (Ret fun rr w'=>∃ y:I3,rr=.tuple #[.agg (inC (inA vs s p r) y).toArray,.int .i64 0]/\Hands H [] [(k,DaP RIn y.2.2.2 (inA vs s p r) (inC (inA vs s p r) y))] w w'):=by
 refine(zem vs s p r vv D w hg hY da).mono ?_
 rintro _ w' ⟨_,rfl,⟨a,b,c,rfl,_,hy⟩,hk⟩
 obtain⟨ha,hb,hc⟩:=hy h0
 obtain⟨a1,c1,rfl⟩:=ha.form
 obtain⟨a2,c2,rfl⟩:=hb.form
 obtain⟨a3,c3,rfl⟩:=hc.form
 rw[h0]
 refine⟨_,rfl,((a1,c1),(a2,c2),(a3,c3),fun q=>w.heap.size<=q/\q<w'.heap.size),rfl,hk.mono fun q _ h=>h.elim,fun x hx=>?_,zrq _ _⟩
 rw[zpC]at hx
 subst hx
 refine⟨⟨_,_,_,rfl,ha.narrow (by omega) yl,hb.narrow (by omega) yl,hc.narrow (by omega) yl⟩,DaP.loc,fun _ h=>h,fun q hq=>⟨.inr hq.1,hq.2⟩⟩
def inN (vs:List Vr) (b c i:Nat):Ins:=inA vs ((i / (b*c):Nat):Int) ((i / c % b:Nat):Int) ((i % c:Nat):Int)
theorem zld {f:Fl} (vd:Valid f) (b c i:Nat):InsOk f.vars (inN f.vars b c i):=zjs vd (zqs _) (zqs _) (zqs _)
theorem zid (f:Fl) (hc:FitC f 16 4 4) (v1 v2 v3:Value) (D:Nat->Prop) (W:World) (hf:RFl D W f v1 v2 v3) :
  Calls Tryz.prog 17 #[.agg #[v1,v2,v3]] W (Ret fun r w'=>(∃ l:List Ins,(∀ x ∈ l,InsOk f.vars x/\x.secret.length<=10/\x.pub.length<=10/\x.random.length<=10)/\SlR 3 RIn (fun q=>W.heap.size<=q) w' r l)/\Ext W w'):=by
 have vd:=hc.vd
 obtain⟨⟨m1,s1⟩,⟨m2,s2⟩,⟨m3,s3⟩⟩:=qT vd
 have p1:=zU 1 f.vars 1 m1 vd.good (by omega) (by omega) s1
 have p2:=zU 2 f.vars 1 m2 vd.good (by omega) (by omega) s2
 have p3:=zU 3 f.vars 1 m3 vd.good (by omega) (by omega) s3
 have q1:=hc.sp
 have q2:=hc.pb
 have q3:=hc.rn
 rw[<- (zjJ vd).1,s1,zs6]at q1
 rw[s2,zs6]at q2
 rw[<- (zjK vd).1,s3,zs6]at q3
 obtain⟨a,rfl⟩:∃ a:Nat,m1=(a:Int):=⟨m1.toNat,by omega⟩
 obtain⟨b,rfl⟩:∃ b:Nat,m2=(b:Int):=⟨m2.toNat,by omega⟩
 obtain⟨c,rfl⟩:∃ c:Nat,m3=(c:Int):=⟨m3.toNat,by omega⟩
 have df:1<=b*c:=Nat.mul_pos (by omega) (by omega)
 have dg:a*b<=64:=zpq (zrW (show a<=16 by omega) (show b<=4 by omega)) (by decide)
 have dr:b*c<=16:=zpq (zrW (show b<=4 by omega) (show c<=4 by omega)) (by decide)
 have dh:a*b*c<=256:=zpq (zrW dg (show c<=4 by omega)) (by decide)
 have e2:(a:Int)*(b:Int)*(c:Int)=((a*b*c:Nat):Int):=by rw[zqr,zqr]
 have e1:0<=(a:Int)*(b:Int)/\(a:Int)*(b:Int)<=64:=by rw[<- zqr];omega
 have e3:(b:Int)*(c:Int)=((b*c:Nat):Int):=by rw[zqr]
 generalize hT:a*b*c=T at *
 generalize hB:b*c=bc at *
 have hY:=hc.vars
 obtain⟨a1,n1,rfl⟩:=hf.vars.form
 obtain⟨a2,n2,rfl⟩:=hf.hatches.form
 obtain⟨a3,n3,rfl⟩:=hf.body.form
 refine znk Tryz.func17 O Tryz.ntmps17 O (znE (Vs 2 O (V.box 1 O O (fun b1=>?_))))
 refine Vs 7 O (znZ tc42 O (fun w hI=>yT f.vars 1 _ D w (by decide) vd.good (by omega) (Tr1 hI.k0 hf.vars)) ?_)
 rw[s1]
 refine Vs 11 O (znZ tc42 O (fun w hI=>yT f.vars 2 _ D w (by decide) vd.good (by omega) (Tr1 hI.k0 hf.vars)) ?_)
 rw[s2]
 refine Vs 11 O (znZ tc42 O (fun w hI=>yT f.vars 3 _ D w (by decide) vd.good (by omega) (Tr1 hI.k0 hf.vars)) ?_)
 rw[s3]
 refine Vs 19 O (znR 900 45 3 O (zoq 900 (e':=OwP 45 3 RIn (fun _=>False) (.slice none 0 0) []) O (fun w hI=>OwH.nil) OwP.loc (fun _ h=>h) (fun q hq=>hq.elim id False.elim) (zoe (σ:=Nat × Option Addr × Nat × (Nat->Prop)) [1] [1] [1] O (fun e ⟨i,aj,cj,F⟩=>(10,.int .i64 i)::(3,.int .i64 a)::(5,.int .i64 b)::(7,.int .i64 c)::(9,.slice aj ((List.range i).map (inN f.vars b c)).length cj)::e) (fun e ⟨i,aj,cj,F⟩=>(900,OwP 45 3 RIn F (.slice aj ((List.range i).map (inN f.vars b c)).length cj) ((List.range i).map (inN f.vars b c)))::e) (fun⟨i,aj,cj,F⟩=>i<=T) (fun⟨i,aj,cj,F⟩=>T - i) ((0,none,0,fun _=>False)) (Sub.of O) (Has.of O) (fun _=>rfl) (fun _=>rfl) (fun _=>rfl) (zpz _) ?_)))
 rintro⟨i,aj,cj,F⟩ hi
 show V _ _ _ _ _ ((10,.int .i64 i)::(3,.int .i64 a)::(5,.int .i64 b)::(7,.int .i64 c)::(9,.slice aj ((List.range i).map (inN f.vars b c)).length cj)::_) _ ((900,OwP 45 3 RIn F (.slice aj ((List.range i).map (inN f.vars b c)).length cj) ((List.range i).map (inN f.vars b c)))::_) _
 have dt:((List.range i).map (inN f.vars b c)).length=i:=by rw[zpE,zr0]
 refine Va 12 O (by omega) ?_
 rw[e2]
 refine zlG O (fun di=>?_) (fun di=>?_)
 .
  have dk:i<T:=by omega
  have dl:i / bc<a:=by
   refine(zrP (by omega)).2 ?_
   rw[<- hB,<- Nat.mul_assoc,hT]
   exact dk
  obtain⟨x,hx⟩:∃ x,i / bc=x:=⟨_,rfl⟩
  obtain⟨y,hy⟩:∃ y,i / c=y:=⟨_,rfl⟩
  obtain⟨z,hz⟩:∃ z,y % b=z:=⟨_,rfl⟩
  obtain⟨t,ht⟩:∃ t,i % c=t:=⟨_,rfl⟩
  have du:z<b:=by rw[<- hz];exact zrV _ (by omega)
  have dw:t<c:=by rw[<- ht];exact zrV _ (by omega)
  have u0:y<=i:=by rw[<- hy];exact Nat.div_le_self _ _
  have f1:(i:Int).tdiv (bc:Int)=(x:Int):=by rw[zqt (zqs _),<- hx];rfl
  have f2:(i:Int).tdiv (c:Int)=(y:Int):=by rw[zqt (zqs _),<- hy];rfl
  have f3:(y:Int).tmod (b:Int)=(z:Int):=by rw[zqu (zqs _),<- hz];rfl
  have f4:(i:Int).tmod (c:Int)=(t:Int):=by rw[zqu (zqs _),<- ht];rfl
  rw[hx]at dl
  have dc:zhV f.vars (x:Int) (z:Int) (t:Int)=0:=by
   have z1:zK 1 f.vars (x:Int)=0:=by unfold zK;rw[s1];simp only[zs9,if_true,zs6];exact zpu (by omega)
   have z2:zK 2 f.vars (z:Int)=0:=by unfold zK;rw[s2];simp only[zs9,if_true,zs6];exact zpu (by omega)
   have z3:zK 3 f.vars (t:Int)=0:=by unfold zK;rw[s3];simp only[zs9,if_true,zs6];exact zpu (by omega)
   unfold zhV
   rw[zpu (zpH z1),zpu (zpH z2),z3]
  have dm:inN f.vars b c i=inA f.vars (x:Int) (z:Int) (t:Int):=by unfold inN;rw[hB,hx,hy,hz,ht]
  have de:(List.range (i+1)).map (inN f.vars b c)=(List.range i).map (inN f.vars b c)++[inA f.vars (x:Int) (z:Int) (t:Int)]:=by rw[zrs,zr3,<- dm];rfl
  refine Vs 5 O (Vw [1] [] O (Vb [0,1,2,3,4,5,7,8,10,12,13] 0 (by kernel_rfl) O O O (by omega) ?_))
  rw[e3]
  refine zon 6 O (by kernel_rfl) O (fun w=>R.quo O O (by omega) (by omega)) ?_
  rw[f1]
  refine zon 9 O (by kernel_rfl) O (fun w=>R.quo O O (by omega) (by omega)) ?_
  rw[f2]
  refine zon 11 O (by kernel_rfl) O (fun w=>R.rem O O (by omega) (by omega)) ?_
  rw[f3]
  refine zon 14 O (by kernel_rfl) O (fun w=>R.rem O O (by omega) (by omega)) ?_
  rw[f4]
  refine zoX 15 19 11 0 [] (Hn:=fun y:I3=>[(901,DaP RIn y.2.2.2 (inA f.vars (x:Int) (z:Int) (t:Int)) (inC (inA f.vars (x:Int) (z:Int) (t:Int)) y))]) [(1,some (1,0)),(41,some (1,0))] Tryz.call43 O (by kernel_rfl) O O (fun _=>rfl) (fun _ _=>rfl) (fun _=>rfl) tz45 O (fun w hI=>zlc 901 f.vars _ _ _ _ D w vd.good (by omega) dc (Tr1 hI.k0 hf.vars)) ?_ (fun b11=>?_)
  .
   rintro _ ⟨⟨a5,c5⟩,⟨a6,c6⟩,⟨a7,c7⟩,G⟩ rfl
   refine Vd [16,17,18] 0 (by kernel_rfl) O O O (znK 19 11 0 O (by kernel_rfl) O O (fun _ _=>M.alloc tz45 O) (fun b11=>?_))
   refine Ve 20 0 O (by kernel_rfl) O O O (Vd [21] 0 (by kernel_rfl) O O O (VD.done (by kernel_rfl) (Vs 4 O (V.bs 61 [(0,_)] tR42 ts45 tz45 (by decide) O O (by kernel_rfl) (fun b61=>?_)))))
   refine zoN [900,901] (Hn:=fun u=>[(900,OwP 45 3 RIn (fun q=>F q\/G q) u ((List.range i).map (inN f.vars b c)++[inA f.vars (x:Int) (z:Int) (t:Int)]))]) (u:=fun u=>u) [(1,some (1,0)),(11,some (11,0)),(41,some (1,0))] O (fun _=>rfl) (fun _=>rfl) (fun w hI=>zoO 900 901 61 hI O O O O Tryz.underlying42 Tryz.el45 O (by decide) O O O (fun D x cs h=>zjQ D x cs h) (by omega) (by omega)) (fun u900=>(znG (p:=∃ ao c',u900=.slice ao ((List.range i).map (inN f.vars b c)++[inA f.vars (x:Int) (z:Int) (t:Int)]).length c') (fun w hI=>zfP (hI.at 900 O)) (fun hu=>?_)))
   obtain⟨an,cn,rfl⟩:=hu
   refine Va 9 O (by omega) ?_
   rw[<- de]at *
   refine V.back (⟨i+1,an,cn,fun q=>F q\/G q⟩) (Sub.of O) (Has.of O) (by omega) (by first | omega | (dsimp only;omega)) 0 O O
  refine zoA 15 0 [] (Hn:=fun y:I3=>[(901,DaP RIn y.2.2.2 (inA f.vars (x:Int) (z:Int) (t:Int)) (inC (inA f.vars (x:Int) (z:Int) (t:Int)) y))]) [(1,some (1,0)),(11,some (11,0)),(41,some (1,0))] Tryz.call43 O (by kernel_rfl) O O (fun _=>rfl) (fun _ _=>rfl) (fun _=>rfl) (fun w hI=>zlc 901 f.vars _ _ _ _ D w vd.good (by omega) dc (Tr1 hI.k0 hf.vars)) ?_
  rintro _ ⟨⟨a5,c5⟩,⟨a6,c6⟩,⟨a7,c7⟩,G⟩ rfl
  refine Vd [16,17,18] 0 (by kernel_rfl) O O O (Ve 20 0 O (by kernel_rfl) O O O (Vd [21] 0 (by kernel_rfl) O O O (VD.done (by kernel_rfl) (Vs 4 O (V.bs 1061 [(0,_)] tR42 ts45 tz45 (by decide) O O (by kernel_rfl) (fun b1061=>?_))))))
  refine zoN [900,901] (Hn:=fun u=>[(900,OwP 45 3 RIn (fun q=>F q\/G q) u ((List.range i).map (inN f.vars b c)++[inA f.vars (x:Int) (z:Int) (t:Int)]))]) (u:=fun u=>u) [(1,some (1,0)),(11,some (11,0)),(41,some (1,0))] O (fun _=>rfl) (fun _=>rfl) (fun w hI=>zoO 900 901 1061 hI O O O O Tryz.underlying42 Tryz.el45 O (by decide) O O O (fun D x cs h=>zjQ D x cs h) (by omega) (by omega)) (fun u900=>(znG (p:=∃ ao c',u900=.slice ao ((List.range i).map (inN f.vars b c)++[inA f.vars (x:Int) (z:Int) (t:Int)]).length c') (fun w hI=>zfP (hI.at 900 O)) (fun hu=>?_)))
  obtain⟨an,cn,rfl⟩:=hu
  refine Va 9 O (by omega) ?_
  rw[<- de]at *
  refine V.back (⟨i+1,an,cn,fun q=>F q\/G q⟩) (Sub.of O) (Has.of O) (by omega) (by first | omega | (dsimp only;omega)) 0 O O
 obtain rfl:i=T:=by omega
 have da:∀ k,(zf k f.vars).length<=10:=fun k=>zpq (xW k f.vars) hY
 have db:∀ x ∈ (List.range i).map (inN f.vars b c),InsOk f.vars x/\x.secret.length<=10/\x.pub.length<=10/\x.random.length<=10:=fun x hx=>by
  obtain⟨j,_,rfl⟩:=zrf.1 hx
  exact⟨zld vd b c j,by unfold inN inA;dsimp only;rw[xv];exact da 1,by unfold inN inA;dsimp only;rw[xv];exact da 2,by unfold inN inA;dsimp only;rw[xv];exact da 3⟩
 refine Vs 12 O (zlW Tryz.results17 O (fun w hI=>⟨_,rfl,⟨_,db,(show OwH _ _ _ _ _ _ _ from hI.at 900 O).sl (by omega) (fun q hq=>hI.own 900 0 O O q hq)⟩,hI.k0⟩))
theorem zie (a b:List Int) (va vb:Value) (Da Db:Nat->Prop) (w:World) (ha:SlR 1 zC Da w va a) (hb:SlR 1 zC Db w vb b) :
  Calls Tryz.prog 27 #[va,vb] w (Ret fun r w'=>r=.bool (decide (a=b))/\Ext w w'):=by
 obtain⟨aa,ca,rfl⟩:=ha.form
 obtain⟨ab,cb,rfl⟩:=hb.form
 have dt:=ha.max
 refine znl Tryz.func27 O Tryz.ntmps27 O (znE (Vs 15 O (zlG O (fun hl=>?_) (fun hl=>?_))))
 . refine Vs 7 O (zlW Tryz.results27 O (fun w hI=>⟨_,rfl,by rw[zpx (fun h=>by rw[h]at hl;omega)],hI.k0⟩))
 refine Vs 9 O (zoe (σ:=Nat) [0,1] [] [] O (fun e i=>(5,.int .i64 i)::e) (fun e i=>e) (fun i=>i<=a.length/\a.take i=b.take i) (fun i=>a.length - i) (0) (Sub.of O) (Has.of O) (fun _=>rfl) (fun _=>rfl) (fun _=>rfl) (⟨zpz _,by simp⟩) ?_)
 rintro i ⟨hi,da⟩
 refine Vs 9 O (zlG O (fun dk=>?_) (fun dk=>?_))
 .
  refine Vs 5 O (Vq (by kernel_rfl) (Vs 2 O ?_))
  obtain⟨x,hY,dl⟩:=gE_ a (i) (by omega)
  obtain⟨du,dw,dx,dc,_,de,df⟩:=ha.at hY
  obtain rfl:=df
  refine zoa 1000 0 O O de ?_
  refine znQ 1000 tR27 ts3 O dc (by omega) (_) (rfl) O (Vs 3 O ?_)
  obtain⟨y,db,dm⟩:=gE_ b (i) (by omega)
  obtain⟨dy,dz,dA,dg,_,dh,di⟩:=hb.at db
  obtain rfl:=di
  refine zoa 2000 0 O O dh ?_
  refine znQ 2000 tR27 ts3 O dg (by omega) (_) (rfl) O (Vs 4 O (zlG O (fun dr=>?_) (fun dr=>?_)))
  . refine Vs 11 O (zlW Tryz.results27 O (fun w hI=>⟨_,rfl,by rw[zpx (fun h=>by rw[h,db]at hY;cases hY;omega)],hI.k0⟩))
  obtain rfl:x=y:=by omega
  refine Va 8 O (by omega) (V.back (i+1) (Sub.of O) (Has.of O) (⟨by omega,by rw[ze hY,ze db,da]⟩) (by first | omega | (dsimp only;omega)) 0 O O)
 refine Vs 11 O (zlW Tryz.results27 O (fun w hI=>⟨_,rfl,by rw[zpw (by rw[zrF (by omega),zrF (by omega)]at da;exact da)],hI.k0⟩))
theorem zkG (a b:List Int) (t u:Int) (va vb:Value) (Da Db:Nat->Prop) (w:World) (ha:SlR 1 zC Da w va a) (hb:SlR 1 zC Db w vb b) :
  Calls Tryz.prog 20 #[.agg #[va,.int .i64 t],.agg #[vb,.int .i64 u]] w (Ret fun r w'=>r=.bool (decide (t=u/\a=b))/\Ext w w'):=by
 refine znl Tryz.func20 O Tryz.ntmps20 O (znE (Vs 2 O (V.box 2 O O (fun b2=>?_))))
 refine V.box 3 O O (fun b3=>(Vs 11 O (V.sp 10 O (fun e=>?_) (fun e=>?_))))
 . refine Vs 4 O (znZ Tryz.call27 O (fun w hI=>zie a b va vb Da Db w (Tr1 hI.k0 ha) (Tr1 hI.k0 hb)) (Vs 5 O (zlW Tryz.results20 O (fun w hI=>⟨_,rfl,by simp[e],hI.k0⟩))))
 refine Vs 10 O (zlW Tryz.results20 O (fun w hI=>⟨_,rfl,by rw[zpx (fun h=>e h.1)],hI.k0⟩))
end Go.Proofs.YtckdhgbepmpgiaaGreat
