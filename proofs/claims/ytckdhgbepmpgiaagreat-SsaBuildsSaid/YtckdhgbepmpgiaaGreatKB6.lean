/-
  Contracts and the mathematics that the proof needs. Nothing here is a claim.
-/
import Derived.Test.YtckdhgbepmpgiaaGreatKB5
theorem j8 {p:Prop}(h:p:=by exact fun q hq=>⟨by have h1:=hY.size;have h2:W.heap.size<=w3.heap.size:=(da.k1).size;rcases hq with hq | hq;(· have:=hD q hq;omega);omega,fun hs=>by have h1:=hC q hs;have h2:=da.hsE 1 O hs;rcases hq with hq | hq;(· have:=hD q hq;omega);omega⟩):p:=h
theorem iJ {p:Prop}(h:p:=by exact fun w hI=>yE f (zd f) vd.prOk tO tO _ _ _ _ D w (Tr1 hI.k1 hf) (Tr1 hI.k1 hg) (fun q hq=>zvP (hD q hq) (Keep.size hI.k1))):p:=h
theorem iM {p:Prop}(h:p:=by exact fun w w' T h hk hT=>GrO.keep h hk (fun b hb _=>hT b hb)):p:=h
theorem iZ {p:Prop}(h:p:=by exact zoV tr32 O (fun w hI=>⟨_,rfl,⟨_,rfl,fun h=>tD⟩,hI.k0⟩)):p:=h
theorem ix {p:Prop}(h:p:=by exact fun b_ d_ h_=>by have dt:=db _ h_;first | omega | exact dt d_):p:=h
theorem JJ {p:Prop}(h:p:=by exact congrArg some (Eq.symm (show q=b from hq))):p:=h
theorem JX {p:Prop}(h:p:=by exact zal (hI.all O) (fun q h=>h)):p:=h
theorem UO {p:Prop}(h:p:=by rw[<- dz];exact(zt5.1 hq).1):p:=h
theorem UW {p:Prop}(h:p:=by exact zoX tr99 O O ⟨_,rfl,.pointer none,tD,fun _=>rfl,fun h=>tO,dE⟩):p:=h
theorem Ud {p:Prop}(h:p:=by exact VD.done tK (zs7 904 0 (F:=fun q=>D q\/(w3.heap.size<=q/\q<w4.heap.size)) (p:=fun w=>GrO (fun q=>D q\/(w3.heap.size<=q/\q<w4.heap.size)) w f (zd f) gb) O O iM (hG) j8 (zoS ⟨w3.heap.size,w4.heap.size,gb,b45,b49,b51⟩ j2 j3 trivial 1 O O))):p:=h
theorem Uo {p:Prop}(h:p:=by exact zrk 902 O (e':=.row 3 1 u902 (yx f g s (i+1)).length ((yx f g s (i+1)).map zb)) (by rw[jJ d9,dw,zsZ,zuT,zdM]) (Va 8 O tO (V.back ⟨i+1,hs,u902,G⟩ j2 j3 ⟨tO,dt⟩ tD 0 O O))):p:=h
open Go.Proofs.Tryz
variable {α σ β:Type} {P:Go.Program} {Q:Go.Exit->Go.Act->Go.World->Prop} {ks:List Go.GL.Fr} {env E1:Go.GL.Env} {A A1:Go.GL.Tgs} {H H1:Go.GL.Hp} {Bs Bs0:Go.GL.zn} {ops:Array Go.Oper} {fuel d i m k q j b c root x y p a0 b0 a bw bp bt k' B:Nat} {listed:Array Bool} {v a1 a2 nv bv ov:Go.Value} {aft:Array Go.Edge} {g:Option (Nat × Bool)} {ts:Array Go.TypeId} {vs xs hs rv:List Go.Value} {t e:Go.TypeId} {s:Go.Proofs.YtckdhgbepmpgiaaGreat.Sf} {w W w':Go.World} {D:Nat->Prop} {fl rows R Rw Pw:List (List Int)} {l pl T ra r:List Int} {args:Array Go.Value} {f:Go.GL.Fl} {fn:Go.Func} {order:List Nat} {es:List (Int × Int)} {N:Nat->Nat->Prop}
namespace Go.GL
section
variable {n:Fm} {Hs:Hp} {B0:zn} {L:List Nat}
def VT (P:Program) (n:Fm) (Q:Exit->Act->World->Prop) (ks:List Fr) (ops:Array Oper) (Hs:Hp) (B0:zn) (L:List Nat) (fuel:Nat) (listed:Array Bool) (env:Env) (A:Tgs) (H:Hp) (Bs:zn) (i:Nat):Prop :=
 Has Hs H->TgOk A env H->∀ w,VI Bs H w->∀ a,Ok n env a->wpOp P ops (NQ (QK P Q ks)) i (fun a' w'=>(i ∉ L->VI B0 Hs w->VI B0 Hs w')/\ki P .any ops (NQ (QK P Q ks)) (VI B0 Hs) L fuel (listed.setIfInBounds i true) a' w') a w
def VTs (P:Program) (n:Fm) (Q:Exit->Act->World->Prop) (ks:List Fr) (ops:Array Oper) (Hs:Hp) (B0:zn) (L:List Nat) (fuel:Nat) (listed:Array Bool) (env:Env) (A:Tgs) (H:Hp) (Bs:zn):List Nat->Prop
 | []=>True
 | i::r=>VT P n Q ks ops Hs B0 L fuel listed env A H Bs i/\VTs P n Q ks ops Hs B0 L fuel listed env A H Bs r
theorem VTs.all:∀ {l:List Nat},VTs P n Q ks ops Hs B0 L fuel listed env A H Bs l->∀ i ∈ l,VT P n Q ks ops Hs B0 L fuel listed env A H Bs i
 | x::r,h,i,hi=>by
  rcases zt7.1 hi with rfl | hi
  . exact h.1
  exact VTs.all h.2 i hi
theorem zsq (i:Nat) (r:List Nat) (hr:Region.ready .any ops listed=i::r) (h:VTs P n Q ks ops Hs B0 L fuel listed env A H Bs (i::r)):VD P n Q ks ops Hs B0 L (fuel+1) listed env A H Bs:=by
 intro hH hA w hI a ha;exact⟨fun h0=>tD,fun k hk=>h.all k (hr ▸ hk) hH hA w hI a ha⟩
variable {op:Op} {ty:TypeId} {ps:String}
theorem zrb (hi:ops[i]?=some ⟨some d,op,ty,ps,aft,g⟩) (hn:Nat.blt d n=true) (hg:gd ops env g=some true) {R:World->Value->World->Prop}
  (hm:∀ w,VI Bs H w->Does P ⟨some d,op,ty,ps,aft,g⟩ env w (R w)) (h:Has Hs H->TgOk A env H->∀ w,VI Bs H w->∀ v w',R w v w'->VI B0 Hs w'/\WD P n ops (QK P Q ks) (VI B0 Hs) L fuel (listed.setIfInBounds i true) ((d,v)::env) w'):VT P n Q ks ops Hs B0 L fuel listed env A H Bs i:=by
 intro hH hA w hI a ha;have hd:=hm w hI;have h:=h hH hA w hI;unfold wpOp;simp only[hi];rw[zt2 (xW hg a ha)];refine .inl ?_;unfold Oper.wp;rcases hd with⟨v,w',hC,hR⟩ | ⟨f,args,hm,hc⟩
 .
  rw[hC n a ha,Oper.upon_value];exact iX
 rw[hm n a ha,Oper.upon_enter];refine hc.mono ?_;rintro e w' ⟨v,rfl,hR⟩;exact iX
theorem zr6 (i j:Nat) {f:FuncId} {xs:Array Operand} {Φ:Value->World->World->Prop} (hf:∀ args w,(callFunc f args).run P w=.ok (.enter f args) w) (hi:ops[i]?=some ⟨some d,.call ⟨.value (.func f),xs,ts⟩,ty,ps,aft,g⟩) (hn:(Nat.blt d n,gd ops env g,qG env xs.toList,xX (Hs.map (·.1)))=(true,some true,some vs,true)) (hB:Bs.drop j=B0)
  (hc:∀ w,VI Bs H w->Calls P f vs.toArray w (Ret fun r w'=>Φ r w w'/\Ext w w'))
  (h:∀ r w w',VI Bs H w->Ext w w'->Φ r w w'->(∀ q,HS H q->q<w.heap.size)->VD P n Q ks ops Hs B0 L fuel (listed.setIfInBounds i true) ((d,r)::env) ((d,none)::A) H ((w',HS H)::Bs)):VT P n Q ks ops Hs B0 L fuel listed env A H Bs i:=by
 simp only[Prod.mk.injEq]at hn;subst hB;refine zrb hi hn.1 hn.2.1 (fun w hI=>.inr ⟨f,_,F.call hf (yo hn.2.2.1),hc w hI⟩) fun hH hA w hI=>?_;rintro r w' ⟨hP,hk⟩;exact JH
theorem zpy (i k j:Nat) {kk by':Nat} {z:Value} {x y:Operand} {kl kc:IntKind} {zs:List Value} (hu:P.underlying t=some (.slice e)) (he:(P.info? e).map (fun i=>(i.zero,i.size,i.bytes))=some (some z,kk,by'))
  (hi:ops[i]?=some ⟨some d,.makeSlice t x y,ty,ps,aft,g⟩) (hn:(Nat.blt d n,gd ops env g,(hget H k).isNone,ev env x,ev env y,xX (Hs.map (·.1)))=(true,some true,true,some (.int kl (m:Int)),some (.int kc (m:Int)),true)) (hB:Bs.drop j=B0)
  (hb:by'*m<=281474976710656) (hm:m<=9223372036854775807) (hz:madeCells z.cells (m*kk)=zs.toArray) (hl:zs.length=m*kk)
  (h:∀ b,VD P n Q ks ops Hs B0 L fuel (listed.setIfInBounds i true) ((d,.slice (some ⟨b,0,none⟩) m m)::env) ((d,none)::A) ((k,.row e kk (.slice (some ⟨b,0,none⟩) m m) m zs)::H) Bs):VT P n Q ks ops Hs B0 L fuel listed env A H Bs i:=by
 simp only[Prod.mk.injEq,zw1]at hn;subst hB;obtain⟨h1,h2,h3,h4,h5,h6⟩:=hn;refine zrb hi h1 h2 (fun w hI=>.inl (zpv hu he h4 h5 hb hm hz)) fun hH hA w hI=>?_;rintro _ w1 ⟨b,rfl,hN⟩;have hC:=hI.row k hm hl hN;have hY:Has Hs ((k,.row e kk (.slice (some ⟨b,0,none⟩) m m) m zs)::H):=hH.new h3;exact⟨(hC.drop j).pick hY h6,h b hY (TgOk.none (hA.new h3)) w1 hC⟩
end
end Go.GL
namespace Go.Proofs.YtckdhgbepmpgiaaGreat
open Go.GL
noncomputable def zfL (f:Fl) (g:List Nd) (s:Sf) (r:Ins):Int:=if yK f g s ≠ 0 then yK f g s else zz f.vars r
theorem zjv (f:Fl) (g:List Nd) (s:Sf) (hR:RightF f g s (rdV f g)) (n:Nat) (hn:n<g.length) (y:Nat) (hy:(zh s n).phis ≠ []->y ∈ zw g n) (db:g.length<=100000) (dc:(zh s n).phis.length<=1000000) (vl:List Int) (m:Nat) (hm:vl.length=m) (hC:m=s.of_.length) (dg:m<=1000000) (b gb bv cv:Nat) (ofv nodv hv rv ov tv:Value) (D:Nat->Prop) (W:World) (hc:Cells W b 0 (rnr gb ofv nodv (.slice (some ⟨bv,0,none⟩) m cv) hv rv ov tv)) (hS:RSf D W s ofv nodv) (hY:(qc (.slice (some ⟨bv,0,none⟩) m cv) vl).holds W) (dh:∀ q,D q->bv ≠ q) (da:bv ≠ b) :
  Calls prog 47 #[.pointer (some ⟨b,0,none⟩),.int .i64 y,.int .i64 n] W (Ret fun r w'=>∃ _x:Unit,r=.tuple #[]/\(qc (.slice (some ⟨bv,0,none⟩) m cv) (jr f g s y vl (zh s n).phis)).holds w'/\Keep (qc (.slice (some ⟨bv,0,none⟩) m cv) vl).S W w'/\∀ q,(qc (.slice (some ⟨bv,0,none⟩) m cv) (jr f g s y vl (zh s n).phis)).S q->((qc (.slice (some ⟨bv,0,none⟩) m cv) vl).S q\/W.heap.size<=q)/\q<w'.heap.size):=by
 subst hm;exact zl8 f g s hR n hn y hy db dc vl hC dg b gb bv cv ofv nodv hv rv ov tv D W hc hS hY dh da
theorem zmR {n:Nat} (h:(LP s m).length<=1000000) (hn:n<m):(zh s n).phis.length<=1000000:=by
 unfold LP at h;have h1:=(zvw (l:=dP (zh s n)++(zh s n).phis.map (·.ver)) (L:=(List.range m).map fun i=>dP (zh s i)++(zh s i).phis.map (·.ver)) (zv6.2 ⟨n,zva.2 hn,rfl⟩)).length_le
 grind
theorem zmS (f:Fl) (g:List Nd) (s:Sf) (r:Ins) (dO:snodes f.body+zx f.hatches<=1024) (dQ:sbulk f.body<=1000000) (dc:s.of_.length<=1000000/\(LP s g.length).length<=1000000) (hb:∀ k,(xZ r k).length<=1000000000) (v1 v2 v3 gv ofv nodv s1 s2 s3:Value) (D:Nat->Prop) (W:World) (hf:RFl D W f v1 v2 v3) (hg:SlR 4 RNd D W gv g) (hS:RSf D W s ofv nodv) (dR:SlR 1 zG D W s1 r.secret) (dS:SlR 1 zG D W s2 r.pub) (dT:SlR 1 zG D W s3 r.random) (hD:∀ q,D q->q<W.heap.size) :
  Calls prog 18 #[.agg #[v1,v2,v3],.agg #[gv],.agg #[ofv,nodv],.agg #[s1,s2,s3]] W (Ret fun rr w'=>(∃ ov t,rr=.tuple #[.agg #[ov,.int .i64 t],.int .i64 (zfL f g s r)]/\(zfL f g s r ≠ 0->ov=.slice none 0 0/\t=0)/\(zfL f g s r=0->SlR 1 zG (fun b=>W.heap.size<=b) w' ov (zhk f r).outs/\t=(zhk f r).time))/\Ext W w'):=by
 obtain⟨a1,c1,rfl⟩:=hf.vars.form;obtain⟨a2,c2,rfl⟩:=hf.hatches.form;obtain⟨a3,c3,rfl⟩:=hf.body.form;obtain⟨ag,cg,rfl⟩:=hg.form;obtain⟨ao,co,rfl⟩:=hS.of_.form;obtain⟨an,cn,rfl⟩:=hS.nodes.form;obtain⟨b1,d1,rfl⟩:=dR.form;obtain⟨b2,d2,rfl⟩:=dS.form;obtain⟨b3,d3,rfl⟩:=dT.form;have eM:=hg.max;have eN:=hS.of_.max;refine zqt func18 O ntmps18 O (V.inn (Vs 2 O (V.box 4 O O (fun b4=>?_))));refine V.box 5 O O (fun b5=>(V.box 6 O O (fun b6=>?_)));refine V.box 7 O O (fun b7=>(V.alloc 8 zeroValue47 O O (fun b8=>?_)));refine Vs 9 O (zr2 call16 O (fun w hI=>zaj f g s dO dQ dc _ _ _ _ _ _ D w Jp (Tr1 hI.k0 hg) (Tr1 hI.k0 hS) iq) (Vs 9 O (zoE O (fun c0=>?_) (fun c0=>?_))))
 .
  have hc:zfL f g s r=yK f g s:=zt2 c0;refine Vs 2 O (zru [Value.slice none 0 0,Value.int IntKind.i64 0] [(0,1),(1,1)] [] O O (fun _=>tK) (Vs 7 O (zp7 results18 tg47 ts47 O O O O (fun w hI=>⟨_,rfl,⟨_,_,tD,fun _=>⟨rfl,rfl⟩,fun h=>absurd (hc ▸ h) c0⟩,hI.k0⟩))))
 have hc:zfL f g s r=zz f.vars r:=zt1 c0;obtain⟨d9,hR⟩:=zjd (zt0.1 c0);obtain⟨eb,ec⟩:=jq (zte d9);subst ec;have vd:Valid f:=⟨eb,dO,dQ⟩;have dU:=vd.lens;have eO:=vd.ssize;have eP:=yA f vd.plain;have eQ:=xj f.body;rw[hc];refine Vs 6 O (zr4 call44 O (fun w hI=>zln f r _ _ _ _ _ _ D w Jp (Tr1 hI.k0 dR) (Tr1 hI.k0 dS) (Tr1 hI.k0 dT) vd.kinds tO hb) ?_);rintro rr w1 w2 eR ed ⟨u,rfl,hu⟩ ee;refine Vs 14 O (zoE O (fun e0=>?_) (fun e0=>?_))
 . refine Vs 2 O (zru [Value.slice none 0 0,Value.int IntKind.i64 0] [(0,1),(1,1)] [] O O (fun _=>tK) (Vs 7 O (zp7 results18 tg47 ts47 O O O O (fun w hI=>⟨_,rfl,⟨_,_,rfl,fun _=>⟨rfl,rfl⟩,fun h=>absurd h e0⟩,hI.k1⟩))))
 have e0':zz f.vars r=0:=zt0.1 e0;have dV:=hu e0';obtain⟨au,cu,rfl⟩:=dV.form;have ef:=(zc2 e0').len;have eh:=hR.of_.len;refine Vs 3 O (V.dat 906 0 O O O (dV) (fun b hb _ hs=>tD) (zrm (σ:=Nat × Nat × Nat × Nat × Nat × Nat) [4,8,11] [4,8,906] [4,8] O (fun e ⟨la,lz,gb,b45,b49,b51⟩=>(13,.pointer (some ⟨b51,0,none⟩))::e) (fun e ⟨la,lz,gb,b45,b49,b51⟩=>(904,.dat (fun q=>D q\/(la<=q/\q<lz)) (fun w=>GrO (fun q=>D q\/(la<=q/\q<lz)) w f (zd f) gb))::(45,.row 3 1 (.slice (some ⟨b45,0,none⟩) s.of_.length s.of_.length) s.of_.length (List.replicate s.of_.length (.int .i64 0)))::(49,.row 3 1 (.slice (some ⟨b49,0,none⟩) (zd f).length (zd f).length) (zd f).length (List.replicate (zd f).length (.int .i64 0)))::(51,.own b51 [.pointer (some ⟨gb,0,none⟩),.slice ao s.of_.length co,.slice an s.nodes.length cn,.slice (some ⟨b45,0,none⟩) s.of_.length s.of_.length,.slice none 0 0,.slice (some ⟨b49,0,none⟩) (zd f).length (zd f).length,.slice none 0 0,.int .i64 0] 107)::e) (fun⟨la,lz,gb,b45,b49,b51⟩=>True) j1 j1 ?_ ?_))
 .
  refine Vw [4,5,6,7,8] [] O (Vd [0,1,3,4,5,6,8,9,10] 0 tK O O O (zsq 2 [7,11] tK ⟨zr6 2 0 tc37 O O O iJ ?_,zpy 7 45 0 tu27 Tryz.el3 O O O tO tO (by exact yL _ _ O:madeCells _ _=(List.replicate s.of_.length (Value.int .i64 0)).toArray) tR (fun b45=>?_),zpy 11 49 0 tu27 Tryz.el3 O O O tO tO (by exact yL _ _ O:madeCells _ _=(List.replicate (zd f).length (Value.int .i64 0)).toArray) tR (fun b49=>?_),True.intro⟩))
  .
   rintro gp w3 w4 da hY ⟨gb,rfl,hG⟩ hC;refine zsq 7 [11] tK ⟨zpy 7 45 1 tu27 Tryz.el3 O O O tO tO (by exact yL _ _ O:madeCells _ _=(List.replicate s.of_.length (Value.int .i64 0)).toArray) tR (fun b45=>?_),zpy 11 49 1 tu27 Tryz.el3 O O O tO tO (by exact yL _ _ O:madeCells _ _=(List.replicate (zd f).length (Value.int .i64 0)).toArray) tR (fun b49=>?_),True.intro⟩
   .
    refine zsq 11 [] tK ⟨zpy 11 49 1 tu27 Tryz.el3 O O O tO tO (by exact yL _ _ O:madeCells _ _=(List.replicate (zd f).length (Value.int .i64 0)).toArray) tR (fun b49=>?_),True.intro⟩
    .
     refine zrv 12 [Value.pointer none,Value.slice none 0 0,Value.slice none 0 0,Value.slice none 0 0,Value.slice none 0 0,Value.slice none 0 0,Value.slice none 0 0,Value.int IntKind.i64 0] [(0,1),(1,2),(3,1),(4,1),(5,1),(6,2)] [(0,_),(1,_),(2,_),(4,_)] O tK O O (fun _=>tK) (zqM 13 51 1 O tK O O (fun _ _=>M.box O O) (fun b51=>?_));refine Vd [14] 1 tK O O O Ud
   refine zsq 7 [] tK ⟨zpy 7 45 1 tu27 Tryz.el3 O O O tO tO (by exact yL _ _ O:madeCells _ _=(List.replicate s.of_.length (Value.int .i64 0)).toArray) tR (fun b45=>?_),True.intro⟩
   .
    refine zrv 12 [Value.pointer none,Value.slice none 0 0,Value.slice none 0 0,Value.slice none 0 0,Value.slice none 0 0,Value.slice none 0 0,Value.slice none 0 0,Value.int IntKind.i64 0] [(0,1),(1,2),(3,1),(4,1),(5,1),(6,2)] [(0,_),(1,_),(2,_),(4,_)] O tK O O (fun _=>tK) (zqM 13 51 1 O tK O O (fun _ _=>M.box O O) (fun b51=>?_));refine Vd [14] 1 tK O O O Ud
  .
   refine zsq 2 [11] tK ⟨zr6 2 0 tc37 O O O iJ ?_,zpy 11 49 0 tu27 Tryz.el3 O O O tO tO (by exact yL _ _ O:madeCells _ _=(List.replicate (zd f).length (Value.int .i64 0)).toArray) tR (fun b49=>?_),True.intro⟩
   .
    rintro gp w3 w4 da hY ⟨gb,rfl,hG⟩ hC;refine zsq 11 [] tK ⟨zpy 11 49 1 tu27 Tryz.el3 O O O tO tO (by exact yL _ _ O:madeCells _ _=(List.replicate (zd f).length (Value.int .i64 0)).toArray) tR (fun b49=>?_),True.intro⟩
    .
     refine zrv 12 [Value.pointer none,Value.slice none 0 0,Value.slice none 0 0,Value.slice none 0 0,Value.slice none 0 0,Value.slice none 0 0,Value.slice none 0 0,Value.int IntKind.i64 0] [(0,1),(1,2),(3,1),(4,1),(5,1),(6,2)] [(0,_),(1,_),(2,_),(4,_)] O tK O O (fun _=>tK) (zqM 13 51 1 O tK O O (fun _ _=>M.box O O) (fun b51=>?_));refine Vd [14] 1 tK O O O Ud
   refine zsq 2 [] tK ⟨zr6 2 0 tc37 O O O iJ ?_,True.intro⟩
   .
    rintro gp w3 w4 da hY ⟨gb,rfl,hG⟩ hC;refine zrv 12 [Value.pointer none,Value.slice none 0 0,Value.slice none 0 0,Value.slice none 0 0,Value.slice none 0 0,Value.slice none 0 0,Value.slice none 0 0,Value.int IntKind.i64 0] [(0,1),(1,2),(3,1),(4,1),(5,1),(6,2)] [(0,_),(1,_),(2,_),(4,_)] O tK O O (fun _=>tK) (zqM 13 51 1 O tK O O (fun _ _=>M.box O O) (fun b51=>?_));refine Vd [14] 1 tK O O O Ud
  refine zsq 2 [7] tK ⟨zr6 2 0 tc37 O O O iJ ?_,zpy 7 45 0 tu27 Tryz.el3 O O O tO tO (by exact yL _ _ O:madeCells _ _=(List.replicate s.of_.length (Value.int .i64 0)).toArray) tR (fun b45=>?_),True.intro⟩
  .
   rintro gp w3 w4 da hY ⟨gb,rfl,hG⟩ hC;refine zsq 7 [] tK ⟨zpy 7 45 1 tu27 Tryz.el3 O O O tO tO (by exact yL _ _ O:madeCells _ _=(List.replicate s.of_.length (Value.int .i64 0)).toArray) tR (fun b45=>?_),True.intro⟩
   .
    refine zrv 12 [Value.pointer none,Value.slice none 0 0,Value.slice none 0 0,Value.slice none 0 0,Value.slice none 0 0,Value.slice none 0 0,Value.slice none 0 0,Value.int IntKind.i64 0] [(0,1),(1,2),(3,1),(4,1),(5,1),(6,2)] [(0,_),(1,_),(2,_),(4,_)] O tK O O (fun _=>tK) (zqM 13 51 1 O tK O O (fun _ _=>M.box O O) (fun b51=>?_));refine Vd [14] 1 tK O O O Ud
  refine zsq 2 [] tK ⟨zr6 2 0 tc37 O O O iJ ?_,True.intro⟩
  .
   rintro gp w3 w4 da hY ⟨gb,rfl,hG⟩ hC;refine zrv 12 [Value.pointer none,Value.slice none 0 0,Value.slice none 0 0,Value.slice none 0 0,Value.slice none 0 0,Value.slice none 0 0,Value.slice none 0 0,Value.int IntKind.i64 0] [(0,1),(1,2),(3,1),(4,1),(5,1),(6,2)] [(0,_),(1,_),(2,_),(4,_)] O tK O O (fun _=>tK) (zqM 13 51 1 O tK O O (fun _ _=>M.box O O) (fun b51=>?_));refine Vd [14] 1 tK O O O Ud
 rintro⟨la,lz,gb,b45,b49,b51⟩ _;refine zqO 13 51 0 O O ?_;have dW:(zK f.vars r).map (Value.int .i64)++(List.replicate s.of_.length (Value.int .i64 0)).drop (zK f.vars r).length=(zK f.vars r++List.replicate (s.of_.length - f.vars.length) 0).map zb:=by rw[zuT,List.drop_replicate,zuY,ef]
 generalize dh:zK f.vars r++List.replicate (s.of_.length - f.vars.length) 0=vl0 at dW;have dX:vl0.length=s.of_.length:=by rw[<- dh,zsZ,zuR];omega
 refine Vs 8 O (V.opM 45 (e':=.row 3 1 (.slice (some ⟨b45,0,none⟩) s.of_.length s.of_.length) s.of_.length (vl0.map zb)) (r:=.int .i64 ((zK f.vars r).length:Int)) O trivial (fun _ h=>h) (fun w hI=>zsp tu27 Tryz.el3 O O (hI.at 45 O) (hI.at 906 O).1 tO dW) (Vs 11 O (zqU 907 3 1 O (Vs 1 O (zrl (σ:=Nat × Value) [4,8,11,13,59,60] [4,8,904,906] [4,8,13] O (fun e ⟨i,hv⟩=>(61,.int .i64 i)::e) (fun e ⟨i,hv⟩=>(51,.own b51 [.pointer (some ⟨gb,0,none⟩),.slice ao s.of_.length co,.slice an s.nodes.length cn,.slice (some ⟨b45,0,none⟩) s.of_.length s.of_.length,hv,.slice (some ⟨b49,0,none⟩) (zd f).length (zd f).length,.slice none 0 0,.int .i64 0] 107)::(907,.row 3 1 hv i ((zkJ (zK f.vars r) (f.hatches.take i)).map zb))::(45,.row 3 1 (.slice (some ⟨b45,0,none⟩) s.of_.length s.of_.length) s.of_.length (vl0.map zb))::(49,.row 3 1 (.slice (some ⟨b49,0,none⟩) (zd f).length (zd f).length) (zd f).length (List.replicate (zd f).length (.int .i64 0)))::e) (fun⟨i,hv⟩=>i<=f.hatches.length) (fun⟨i,hv⟩=>f.hatches.length - i) (0,.slice none 0 0) j2 j3 j1 j1 j1 (zt6 _) ?_)))));rintro⟨i,hv⟩ hi;change V _ _ _ _ _ ((61,.int .i64 i)::_) _ ((51,.own b51 [.pointer (some ⟨gb,0,none⟩),.slice ao s.of_.length co,.slice an s.nodes.length cn,.slice (some ⟨b45,0,none⟩) s.of_.length s.of_.length,hv,.slice (some ⟨b49,0,none⟩) (zd f).length (zd f).length,.slice none 0 0,.int .i64 0] 107)::(907,.row 3 1 hv i ((zkJ (zK f.vars r) (f.hatches.take i)).map zb))::(45,.row 3 1 (.slice (some ⟨b45,0,none⟩) s.of_.length s.of_.length) s.of_.length (vl0.map zb))::(49,.row 3 1 (.slice (some ⟨b49,0,none⟩) (zd f).length (zd f).length) (zd f).length (List.replicate (zd f).length (.int .i64 0)))::_) _;refine Vs 6 O (zoE O (fun ei=>?_) (fun ei=>?_))
 .
  refine Vs 6 O (zri 1000 1 i tO hf.hatches O O O (fun x eS eT eU dA dB dC dD=>?_));obtain⟨ej,rfl,dl⟩:=dD;obtain⟨ek,em,rfl⟩:=dl.form;refine zqQ 1000 tR23 ts109 O dC tO _ rfl O ?_;obtain⟨g1,g2,g3,g4⟩:=vd.hatch x dB;refine Vs 1 O (V.alloc 15 tz109 O O (fun b15=>?_));refine Vs 10 O (zr2 call45 O (fun w hI=>zc0 vd.good (zc2 e0') x.term g1 g2 g3 _ D D (fun b=>w1.heap.size<=b/\b<w2.heap.size) w _ _ (Tr1 hI.k1 hf.vars) (hI.at 906 O).1 (RTm.put (Tr1 hI.k1 dl))) (Vs 7 O (Vw [4,8,51,1000,15] [15] O (Vd [0,1,2,3,4,5,6,7,8,9] 0 tK O O O (zr3 10 0 call46 O tK O O (fun w hI=>zeS _ x.low x.high w g4) (zrp 11 85 0 [(0,_)] tR27 ts3 tz3 tS O tK O O tK (fun b85=>?_)))))));refine zqW 12 907 85 0 tu27 Tryz.el3 O tS O tK O O O tO tO (fun u907=>(Vd [13,14] 0 tK O O O (zqY 907 O tO ?_)));rintro bh chh rfl dm;refine Vl 15 O tK O (VDx.done tK (Va 6 O tO (zrk 907 O (e':=.row 3 1 (.slice (some ⟨bh,0,none⟩) (i+1) chh) (i+1) ((zkJ (zK f.vars r) (f.hatches.take (i+1))).map zb)) (by rw[ziK dA,zuT];rfl) (V.back ⟨i+1,_⟩ j2 j3 tO tZ 0 O O))))
 obtain rfl:i=f.hatches.length:=tO;rw[zsW];have er:(ym f r).length=f.hatches.length:=by simp[zkJ]
 refine zs9 907 O (p:=fun w=>SlR 1 zG (fun q=>hv.ownBlock=some q) w hv (ym f r)) (fun w w' T h hk hT=>h.keep zc hk fun b hb _=>hT b hb) (fun w hI=>zpK zb iA (show w.ownsRow 0 3 1 hv (ym f r).length ((ym f r).map zb) by rw[er];exact hI.at 907 O) (fun g hg=>hg)) (fun wp ew eV=>(V.ren [(51,900),(45,901),(49,902)] [(4,some (4,0)),(8,some (8,0)),(13,some (900,0))] O O (zsg 904 907 O (fun w0 dY ez dE db dr=>?_))));obtain⟨v1',v2',v3',gv',sv',pv',eA,dg,eW,dt,_,_⟩:=id dY;obtain⟨ag',cg',rfl⟩:=dt.form;refine zrg 909 0 O O (fun h=>db _ h eA) dg ?_;obtain⟨K,rdK,eX,dZ⟩:=vd.walk (ym f r) (zkK f r);have hK:GoesAll f r K:=⟨rdK,dZ⟩;refine Vs 6 O (zqU 903 3 1 O (zrk 901 O (e':=.row 3 1 (.slice (some ⟨b45,0,none⟩) s.of_.length s.of_.length) vl0.length (vl0.map zb)) (by rw[dX]) (zrk 902 O (e':=.row 3 1 (.slice (some ⟨b49,0,none⟩) (zd f).length (zd f).length) (List.replicate (zd f).length (0:Int)).length ((List.replicate (zd f).length (0:Int)).map zb)) (by rw[zuY,zuR]) (Vs 7 O (zrl (σ:=Nat × List Int × List Int × Value) [8,13] [8,904,906,907,909] [8,13] O (fun e ⟨i,vl,ro,ov⟩=>(18,.int .i64 (xi f r (i - 1)).at_)::(19,.int .i64 (xi f r i).at_)::e) (fun e ⟨i,vl,ro,ov⟩=>(900,.own b51 [.pointer (some ⟨gb,0,none⟩),.slice ao s.of_.length co,.slice an s.nodes.length cn,.slice (some ⟨b45,0,none⟩) s.of_.length s.of_.length,hv,.slice (some ⟨b49,0,none⟩) (zd f).length (zd f).length,ov,.int .i64 (xi f r i).σ.time] 107)::(901,.row 3 1 (.slice (some ⟨b45,0,none⟩) s.of_.length s.of_.length) vl.length (vl.map zb))::(902,.row 3 1 (.slice (some ⟨b49,0,none⟩) (zd f).length (zd f).length) ro.length (ro.map zb))::(903,.row 3 1 ov (xi f r i).σ.outs.length ((xi f r i).σ.outs.map zb))::e) (fun⟨i,vl,ro,ov⟩=>i<=K/\vl.length=s.of_.length/\ro.length=(zd f).length/\zmN f s r i vl/\CtOk f ro (xi f r i).rd) (fun⟨i,vl,ro,ov⟩=>K - i) (0,vl0,List.replicate (zd f).length 0,.slice none 0 0) j2 j3 j1 j1 j1 ⟨zt6 _,dX,zuR,⟨fun _ v hv=>by rw[<- dh,zth tO],fun j hj=>tO⟩,zhK f⟩ ?_)))));rintro⟨i,vl,ro,ov⟩ ⟨hi,dF,d5,dG,eC⟩;obtain⟨n,x,hw⟩:=zj6 vd hK hi;have d6:=(zt5.1 hw.nd).1;have dH:=hw.at_;refine zrh 2000 0 n tO dt O O O (fun b_ d_ h_=>by have eD:=db _ h_;first | omega | exact eD d_) (fun x2 eE eF eG du d7 dw d8 dx=>?_);obtain rfl:=dx;obtain rfl:x2=x:=Option.some.inj (du.symm.trans hw.nd);refine Vs 7 O (zqO 93 909 0 O O (Vs 4 O (zqQ 2000 tR34 ts65 O dw tO (n) (dH) O (Vs 5 O (zoE O (fun c=>?_) (fun c=>?_))))))
 .
  have dI:i<K:=by
   rcases zvQ i K with h | h
   . exact h
   have:=(hw.fin tO).2;omega
  obtain⟨y,hy⟩:∃ y:Nat,(xi f r (i - 1)).at_=(y:Int):=by
   obtain⟨n0,x0,eH⟩:=zj6 vd hK (show i - 1<=K by omega);exact⟨n0,eH.at_⟩
  obtain⟨dJ,eI⟩:=zlk vd hR hK hi hw hy dF dG;refine Vs 8 O (zr7 901 (E:=fun _:Unit=>qc (.slice (some ⟨b45,0,none⟩) s.of_.length s.of_.length) (jr f (zd f) s y vl (zh s n).phis)) call47 O iF (fun w hI=>hy ▸ dH ▸ zjv f (zd f) s hR n d6 y eI tO (zmR dc.2 d6) vl _ dF O dc.1 b51 gb b45 _ _ _ _ _ _ _ D w (hI.at 900 O).cells (Tr1 hI.k3 hS) (hI.at 901 O) (fun q hq e=>by have h1:=hI.own 901 3 O O q (congrArg some e);have:=hD q hq;omega) (fun e=>hI.sep (k:=901) (k2:=900) O O tS (q:=b51) (congrArg some e) O)) ?_);rintro _ ⟨⟩ rfl;have eJ:=zc8 (f:=f) (g:=zd f) (s:=s) (y:=y) (vl:=vl) (zh s n).phis;refine Vs 6 O (zrM [900,901,902,903] (Hn:=fun z:List Int × List Int × Value=>[(900,.own b51 [.pointer (some ⟨gb,0,none⟩),.slice ao s.of_.length co,.slice an s.nodes.length cn,.slice (some ⟨b45,0,none⟩) s.of_.length s.of_.length,hv,.slice (some ⟨b49,0,none⟩) (zd f).length (zd f).length,z.2.2,.int .i64 (xi f r (i+1)).σ.time] 107),(901,.row 3 1 (.slice (some ⟨b45,0,none⟩) s.of_.length s.of_.length) z.1.length (z.1.map zb)),(902,.row 3 1 (.slice (some ⟨b49,0,none⟩) (zd f).length (zd f).length) z.2.1.length (z.2.1.map zb)),(903,.row 3 1 z.2.2 (xi f r (i+1)).σ.outs.length ((xi f r (i+1)).σ.outs.map zb))]) [(8,some (8,0)),(13,some (900,0)),(90,some (900,0)),(91,some (900,0)),(92,some (900,0)),(93,some (909,0)),(94,some (909,0)),(95,some (909,3)),(98,some (2000,0)),(99,some (2000,0)),(102,some (900,0)),(107,some (900,0))] call48 O iA j1 (fun w hI=>xc O O (dH ▸ zlm f s vd hR r e0' K hK i dI n x2 hw (jr f (zd f) s y vl (zh s n).phis) ro tO d5 dJ eC b51 gb _ _ _ _ _ ov (fun q=>D q\/(la<=q/\q<lz)) (fun q=>hv.ownBlock=some q) w (fun q hq=>zvP (dE q hq) (Keep.size hI.k0)) (hI.held O O O) ((Tr1 hI.k3 hS).wide fun q h=>.inl h) (dY.keep hI.k0 fun q hq _ h=>db q h hq) (ez.keep zc hI.k0 fun q hq _ h=>dr q h hq) (fun q hq hd=>hI.offF 904 O q hd (zfJ O hq)) (fun q hq hd=>hI.offF 907 O q hd (zfJ O hq)))) ?_);rintro _ ⟨vl',ro',ov'⟩ ⟨rfl,eK,dy,dK,dL⟩;have eL:vl'.length=s.of_.length:=eK.trans (eJ.trans dF);have dM:ro'.length=(zd f).length:=dK.trans d5;refine Vs 4 O (V.back ⟨i+1,vl',ro',ov'⟩ j2 j3 ⟨tO,eL,dM,zll hw dy,dL⟩ tZ 0 O O)
 have dI:i=K:=by
  rcases zvQ i K with h | h
  . have:=(hw.go h).2;omega
  omega
 have dN:(xi f r i).σ=zhk f r:=by rw[dI];exact congrArg Mc.σ dZ.1
 dsimp only;rw[dN];refine zqI (p:=∃ a c,ov=.slice a (zhk f r).outs.length c) (fun w hI=>yb (hI.at 903 O)) (fun dz=>?_);obtain⟨oa,oc,rfl⟩:=dz;refine Vs 16 O (zp7 results18 tg47 ts47 O O O O (fun w hI=>⟨_,rfl,⟨_,_,by rw[e0'],fun h=>absurd e0' h,fun _=>⟨zpK (R:=zG) (D:=fun b=>W.heap.size<=b) zb (fun _ _=>rfl) (hI.at 903 O) (fun q hq=>hI.own 903 3 O O q hq),rfl⟩⟩,hI.k3⟩))
theorem zjw {n:Nat} (h:w.ownsRow 0 e k v n xs):∃ ao c,v=.slice ao n c/\(0<n->∃ b,ao=some ⟨b,0,none⟩):=by
 rcases h.2 with⟨rfl,rfl⟩ | ⟨g,cap,cur,rfl,_⟩
 . grind
 grind
def FdOk (D:Nat->Prop) (W:World) (hs:List Value) (fl:List (List Int)) (G:Nat->Prop) (w:World):Prop:=hs.length=fl.length/\∀ (j:Nat) l,fl[j]?=some l->∃ v,hs[j]?=some v/\(SlR 1 zG D W v l\/SlR 1 zG G w v l)
abbrev FdP (D:Nat->Prop) (W:World) (hs:List Value) (fl:List (List Int)) (G:Nat->Prop):HE:=.res G (FdOk D W hs fl G)
theorem FdP.loc {G:Nat->Prop}:(FdP D W hs fl G).loc:=fun w w' T h hk hT=>by
 have h:FdOk D W hs fl G w:=h;refine⟨h.1,fun j l hj=>?_⟩;obtain⟨v,h1,h2⟩:=h.2 j l hj;exact⟨v,h1,h2.imp id fun h3=>h3.keep zc hk fun b hb hC=>hT b hC hb⟩
theorem FdOk.start (n:Nat):FdOk D W (List.replicate n (.slice none 0 0)) (List.replicate n []) (fun _=>False) w:=by
 refine⟨tR,fun j l hj=>?_⟩;rw[zuD]at hj;split at hj
 .
  rename_i h;cases hj;exact⟨_,by rw[zuD,zt2 h],.inl SlR.nil⟩
 cases hj
theorem FdOk.set {G G':Nat->Prop} (h:FdOk D W hs fl G w) (hG:∀ b,G b->G' b) (hv:SlR 1 zG D W v l\/SlR 1 zG G' w v l):FdOk D W (hs.set q v) (fl.set q l) G' w:=by
 refine⟨by rw[zuS,zuS];exact h.1,fun j l' hj=>?_⟩;by_cases e:q=j
 .
  subst e;have hC:q<fl.length:=by have:=(zt5.1 hj).1;rw[zuS]at this;exact this
  rw[zuH hC]at hj;cases hj;exact⟨v,zuH (by rw[h.1];exact hC),hv⟩
 rw[zuG e]at hj;obtain⟨v',h1,h2⟩:=h.2 j l' hj;exact⟨v',by rw[zuG e];exact h1,h2.imp id fun h3=>h3.wide zc hG⟩
theorem FdOk.get {G:Nat->Prop} (h:FdOk D W hs fl G w) (hE:Ext W w) (hj:fl[j]?=some l) (hv:hs[j]?=some v):SlR 1 zG (fun q=>D q\/G q) w v l:=by
 obtain⟨v',h1,h2⟩:=h.2 j l hj;rw[hv]at h1;cases h1;rcases h2 with h2 | h2
 . exact(h2.ext zc hE).wide zc fun _ h=>.inl h
 exact h2.wide zc fun _ h=>.inr h
theorem FdOk.form {G:Nat->Prop} (h:FdOk D W hs fl G w) (hj:fl[j]?=some l):∃ a c,hs[j]?=some (.slice a l.length c):=by
 obtain⟨v',h1,h2⟩:=h.2 j l hj;rcases h2 with h2 | h2
 . obtain⟨a,c,rfl⟩:=h2.form;exact⟨a,c,h1⟩
 obtain⟨a,c,rfl⟩:=h2.form;exact⟨a,c,h1⟩
theorem zdM (l:List Int):l.flatMap (fun x=>[zb x])=l.map zb:=by
 induction l with
 | nil=>rfl
 | cons x l ih=>rw[zur,ih];rfl
theorem zlo (h:w.ownsRow 0 t 1 (.slice (some ⟨b,0,none⟩) m c) m xs) (hj:j<=m):w.ownsRow 0 t 1 (.slice (some ⟨b,0,none⟩) j c) j (xs.take j):=by
 obtain⟨sp,hB,hc,hY,hC⟩:=xr h;have hx:=h.1;have:=zN (k:=1) (n:=j) (cap:=c) hB tO hY hC
 grind
theorem zhL (f:Fl) (g:List Nd) (s:Sf) (ee:snodes f.body+zx f.hatches<=1024) (ef:sbulk f.body<=1000000) (dK:s.of_.length<=1000000/\(LP s g.length).length<=1000000) (hM:(yx f g s g.length).length+muN s g.length (List.replicate s.of_.length false)<=1000000000) (eK:∀ x ∈ s.nodes,x.uses.length<=1000000) (v1 v2 v3 gv ofv nodv:Value) (D:Nat->Prop) (W:World) (hf:RFl D W f v1 v2 v3) (hg:SlR 4 RNd D W gv g) (hS:RSf D W s ofv nodv) (hD:∀ q,D q->q<W.heap.size) :
  Calls prog 21 #[.agg #[v1,v2,v3],.agg #[gv],.agg #[ofv,nodv]] W (Ret fun rr w'=>(∃ u,rr=.tuple #[u,.int .i64 (yK f g s)]/\(yK f g s ≠ 0->u=.slice none 0 0)/\(yK f g s=0->SlR 1 znp (fun b=>W.heap.size<=b) w' u (zaW f g s)))/\Ext W w'):=by
 obtain⟨a1,c1,rfl⟩:=hf.vars.form;obtain⟨a2,c2,rfl⟩:=hf.hatches.form;obtain⟨a3,c3,rfl⟩:=hf.body.form;have fH:=hg;obtain⟨ag,cg,rfl⟩:=hg.form;have dl:=hS.of_;have da:=hS.nodes;obtain⟨ao,co,rfl⟩:=dl.form;obtain⟨an,cn,rfl⟩:=da.form;have fI:=hg.max;have fJ:=dl.max;have fK:=da.max;refine zqs func21 O ntmps21 O (V.inn (Vs 2 O (V.box 3 O O (fun b3=>?_))));refine V.box 4 O O (fun b4=>(V.box 5 O O (fun b5=>?_)));refine Vs 10 O (zr2 call16 O (fun w hI=>zaj f g s ee ef dK _ _ _ _ _ _ D w Jp (Tr1 hI.k0 hg) (Tr1 hI.k0 hS) iq) (Vs 9 O (zoE O (fun c0=>?_) (fun c0=>?_))))
 . refine Vs 9 O (zoY results21 O O (fun w hI=>⟨_,rfl,⟨_,rfl,fun _=>rfl,fun h=>absurd h c0⟩,hI.k0⟩))
 have c0':yK f g s=0:=zt0.1 c0;obtain⟨eL,hR⟩:=zjd c0';obtain⟨eM,eh⟩:=jq (zte eL);have vd:Valid f:=⟨eM,ee,ef⟩;have hF:=hR.toFormF;have eN:=hF.len;have ei:=vd.lens;have fL:=vd.ssize;have hp:PrOk f g:=by rw[eh];exact vd.prOk
 have hk:GOk f g:=by rw[eh];exact vd.gOk
 have eO:g.length<=8000:=by
  have h1:=yA f vd.plain;have h2:=xj f.body
  grind
 refine Vs 6 O (zr4 tc37 O (fun w hI=>yE f g hp tO tO _ _ _ _ D w Jp (Tr1 hI.k0 hg) iq) ?_);rintro gp w1 w2 eP eQ ⟨gb,rfl,hG⟩ dL
 have db:∀ q,HS _ q->¬ (D q\/(w1.heap.size<=q/\q<w2.heap.size)):=fun q hs hq=>by
  have h1:=dL q hs;have h2:=eP.hsE 0 rfl hs;rcases hq with hq | hq
  . have:=hD q hq;omega
  omega
 obtain⟨v1',v2',v3',gv',sv',pv',eR,dc,fM,dm,dr,_⟩:=id hG;obtain⟨ag',cg',rfl⟩:=dm.form;obtain⟨as',cs',rfl⟩:=dr.form;have eS:(g.map (stN f)).length=g.length:=ztb _;generalize dM:g.map (stN f)=gm at *;refine zrg 909 0 O O (fun h=>db _ h eR) dc (Vs 4 O (zqO 9 909 0 O O (Vs 4 O (zpw 34 tu89 Tryz.el27 O tO tO (zs:=List.replicate s.of_.length (.slice none 0 0)) JU tR (fun b34=>?_)))));refine Vs 4 O (zqU 902 3 1 O (zqU 904 3 1 O (zrB 904 (e':=FdP D W (List.replicate s.of_.length (.slice none 0 0)) (xI s 0) (fun _=>False)) O (fun w hI=>FdOk.start _) (FdP.loc) (fun _ h=>h) (fun q hq=>hq.elim) (Vs 14 O (zrl (σ:=Nat × List Value × Value × (Nat->Prop)) [5,9,10,36,37] [5,909] [5,9] O (fun e ⟨i,hs,wv,G⟩=>(38,.int .i64 i)::(11,wv)::e) (fun e ⟨i,hs,wv,G⟩=>(34,.row 27 1 (.slice (some ⟨b34,0,none⟩) s.of_.length s.of_.length) s.of_.length hs)::(902,.row 3 1 wv (yx f g s i).length ((yx f g s i).map zb))::(904,FdP D W hs (xI s i) G)::e) (fun⟨i,hs,wv,G⟩=>i<=s.nodes.length/\hs.length=s.of_.length) (fun⟨i,hs,wv,G⟩=>s.nodes.length - i) (0,List.replicate s.of_.length (.slice none 0 0),.slice none 0 0,fun _=>False) j2 j3 j1 j1 j1 ⟨zt6 _,zuR⟩ ?_)))));rintro⟨i,hs,wv,G⟩ ⟨hi,dt⟩;refine Vs 6 O (zoE O (fun li=>?_) (fun li=>?_))
 .
  refine Vs 7 O (zri 1000 1 i tO da O O O (fun x fN fO fP hC dN dO dQ=>?_));obtain⟨eT,eU,rfl,dg,du⟩:=dQ;obtain⟨eV,eW,rfl⟩:=dg.form;obtain⟨eX,eY,rfl⟩:=du.form;refine zqQ 1000 tR28 ts59 O dO tO _ rfl O ?_;have dw:zh s i=x:=yC hC;have hY:=hF.nod i x hC;have eZ:i<g.length:=tO;have dx:=hF.dfn eZ;rw[dw]at dx;have fb:=eK x dN;refine Vs 1 O (V.alloc 13 tz59 O O (fun b13=>?_));refine Vs 5 O (zqU 903 3 1 O (Vs 14 O (zrl (σ:=Nat × Value) [5,9,10,11,12,13,36,37,38,44,45] [5,13,909] [5,9,13] O (fun e ⟨j,uv⟩=>(46,.int .i64 j)::(14,uv)::e) (fun e ⟨j,uv⟩=>(903,.row 3 1 uv ((x.uses.take j).map (·.2)).length (((x.uses.take j).map (·.2)).map zb))::(34,.row 27 1 (.slice (some ⟨b34,0,none⟩) s.of_.length s.of_.length) s.of_.length hs)::(902,.row 3 1 wv (yx f g s i).length ((yx f g s i).map zb))::(904,FdP D W hs (xI s i) G)::e) (fun⟨j,uv⟩=>j<=x.uses.length) (fun⟨j,uv⟩=>x.uses.length - j) (0,.slice none 0 0) j2 j3 j1 j1 j1 (zt6 _) ?_)));rintro⟨j,uv⟩ hj;have dR:((x.uses.take j).map (·.2)).length<=1000000:=tD;refine Vs 6 O (zoE O (fun lj=>?_) (fun lj=>?_))
  .
   refine Vs 6 O (zri 2000 1 j tO du O O O (fun u fQ fR fS dS fe dT dU=>?_));obtain rfl:=dU;refine zqQ 2000 tR57 ts85 O dT tO _ rfl O (Vs 1 O (V.alloc 16 tz85 O O (fun b16=>?_)));refine Vs 7 O (zro 53 [(0,_)] tR27 ts3 tz3 tS O O tK (fun b53=>?_));refine zqV 903 53 tu27 Tryz.el3 O tS O O tO tO (fun u903=>(Va 8 O tO (zrk 903 O (e':=.row 3 1 u903 ((x.uses.take (j+1)).map (·.2)).length (((x.uses.take (j+1)).map (·.2)).map zb)) (by rw[ze dS];simp[zb]) (V.back ⟨j+1,u903⟩ j2 j3 tO tD 0 O O))))
  obtain rfl:j=x.uses.length:=tO;rw[zsW]at dR;refine zrk 903 O (e':=.row 3 1 uv (x.uses.map (·.2)).length ((x.uses.map (·.2)).map zb)) tD (Vs 15 O (zrl (σ:=Nat × List Value) [5,9,10,11,12,13,14,36,37,38,57,58] [5,13,909] [5,9,13] O (fun e ⟨j,hs⟩=>(59,.int .i64 j)::e) (fun e ⟨j,hs⟩=>(34,.row 27 1 (.slice (some ⟨b34,0,none⟩) s.of_.length s.of_.length) s.of_.length hs)::(904,FdP D W hs (zct s i x j) G)::(903,.row 3 1 uv (x.uses.map (·.2)).length ((x.uses.map (·.2)).map zb))::(902,.row 3 1 wv (yx f g s i).length ((yx f g s i).map zb))::e) (fun⟨j,hs⟩=>j<=x.phis.length/\hs.length=s.of_.length) (fun⟨j,hs⟩=>x.phis.length - j) (0,hs) j2 j3 j1 j1 j1 ⟨zt6 _,dt⟩ ?_));rintro⟨j,hs⟩ ⟨hj,dt⟩;have fg:=dg.max;refine Vs 6 O (zoE O (fun lj=>?_) (fun lj=>?_))
  .
   refine Vs 6 O (zri 3000 1 j tO dg O O O (fun p fT fU fV dV dW dX dY=>?_));obtain⟨fm,fp,rfl,dZ,dy⟩:=dY;obtain⟨fq,ft,rfl⟩:=dZ.form;obtain⟨dz,dA,rfl⟩:=dy.form;refine zqQ 3000 tR56 ts88 O dX tO _ rfl O ?_;obtain⟨q,hq,fu⟩:=qQ (hY.phi.ver p dW);refine Vs 1 O (V.alloc 18 tz88 O O (fun b18=>?_));refine Va 10 O tO (zr0 34 (q) ts27 O tO tO (zrB 904 (e':=FdP D W (hs.set q (.slice dz p.args.length dA)) (zct s i x (j+1)) G) O (fun w hI=>(by rw[zhD dV,hq,ztd];exact(show FdOk _ _ _ _ _ _ from hI.at 904 O).set (fun _ h=>h) (.inl dy))) (FdP.loc) (fun _ h=>h) (fun q h=>h) (Va 7 O tO (V.back ⟨j+1,hs.set q (.slice dz p.args.length dA)⟩ j2 j3 Ua tD 0 O O))))
  obtain rfl:j=x.phis.length:=tO;refine zqI (p:=∃ a c,uv=.slice a (x.uses.map (·.2)).length c) (fun w hI=>yb (hI.at 903 O)) (fun dB=>?_);obtain⟨au,cu,rfl⟩:=dB;refine Vs 12 O (zoE O (fun d0=>?_) (fun d0=>?_))
  .
   obtain⟨q,hq,fu⟩:=qQ (hY.yes (dx.1 d0));refine Va 6 O tO (zr0 34 (q) ts27 O tO tO (zs6 904 903 (e':=FdP D W (hs.set q (.slice au (x.uses.map (·.2)).length cu)) (xI s (i+1)) (fun b=>G b\/(Value.slice au (x.uses.map (·.2)).length cu).ownBlock=some b)) [(5,some (5,0)),(9,some (909,0)),(13,some (13,0)),(70,some (13,2)),(74,some (13,2))] O O O (fun w hI=>(by rw[zjn hC d0,hq,ztd];exact(show FdOk _ _ _ _ _ _ from hI.at 904 O).set (fun _ h=>.inl h) (.inr (zpK zb iA (hI.at 903 O) fun b hb=>.inr hb)))) (FdP.loc) (fun _ h=>h) (fun b hb=>hb) ?_));have d5:¬ kf f g s i=true:=by unfold kf;rw[dw];simp[d0]
   refine zrk 902 O (e':=.row 3 1 wv (yx f g s (i+1)).length ((yx f g s (i+1)).map zb)) (by rw[zak d5]) (Va 7 O tO (V.back ⟨i+1,hs.set q (.slice au (x.uses.map (·.2)).length cu),wv,fun b=>G b\/(Value.slice au (x.uses.map (·.2)).length cu).ownBlock=some b⟩ j2 j3 Ua tD 0 O O))
  refine zrh 4000 0 i tO dm O O O (fun b_ d_ h_=>by have d6:=db _ h_;first | omega | exact d6 d_) (fun y fW fX fY dh fw d7 fx d8=>?_);obtain rfl:=d8;have fy:yP g i=y:=zM dh;have ej:kf f g s i=decide (y.kind ≠ 2\/(ya f y.at_).act=1):=by unfold kf;rw[dw,fy];simp[d0]
  have fZ:=zjo (f:=f) (g:=g) (s:=s) i;have f0:=zli (f:=f) (g:=g) (s:=s) (show i<=g.length by omega);refine zrh 5000 0 i tO dr O O O (fun b_ d_ h_=>by have d6:=db _ h_;first | omega | exact d6 d_) (fun st fA fB fC dC ek dD em dE=>?_);obtain⟨er,ew,ez,eA,rfl,dF,dG,dH,dI⟩:=dE.get;obtain⟨eC,eD,rfl⟩:=dF.form;obtain⟨eE,eF,rfl⟩:=dG.form;obtain⟨eG,eH,rfl⟩:=dH.form;obtain⟨eI,eJ,rfl⟩:=dI.form;refine Vs 7 O ?_;refine zqQ 4000 tR34 ts65 O d7 tO _ rfl O (Vs 4 O (V.sp 87 O (fun k2=>?_) (fun k2=>?_)))
  .
   have d9:kf f g s i=true:=by rw[ej];simp[k2]
   refine Vs 16 O (zrr 902 (fun x=>[zb x]) j1 tX zdz tu27 Tryz.el3 O tS O (fun w hI=>⟨_,zpK (D:=fun _=>True) zb (fun _ _=>rfl) (hI.at 903 O) (fun _ _=>trivial)⟩) tO tO (fun u902=>?_));refine zrk 904 O (e':=FdP D W hs (xI s (i+1)) G) (by rw[zdI hC d0]) Uo
  refine Vs 5 O ?_;refine zqQ 5000 tR24 ts72 O dD tO _ rfl O ?_
  have eb:st.act=(ya f y.at_).act:=by
   have h1:gm[i]?=some (stN f y):=by rw[<- dM,zt8,dh];rfl
   rw[Option.some.inj (dC.symm.trans h1)];have h2:=(hk.at dh (.inl tO)).1;unfold stN;rw[zt2 h2]
  refine Vs 6 O (zoE O (fun a1=>?_) (fun a1=>?_))
  .
   have d9:kf f g s i=true:=by rw[ej,<- eb];simp[a1]
   refine Vs 3 O (zrr 902 (fun x=>[zb x]) j1 tX zdz tu27 Tryz.el3 O tS O (fun w hI=>⟨_,zpK (D:=fun _=>True) zb (fun _ _=>rfl) (hI.at 903 O) (fun _ _=>trivial)⟩) tO tO (fun u902=>?_));refine zrk 904 O (e':=FdP D W hs (xI s (i+1)) G) (by rw[zdI hC d0]) Uo
  have d5:¬ kf f g s i=true:=by
   grind
  refine zrk 904 O (e':=FdP D W hs (xI s (i+1)) G) (by rw[zdI hC d0]) (zrk 902 O (e':=.row 3 1 wv (yx f g s (i+1)).length ((yx f g s (i+1)).map zb)) (by rw[zak d5]) (Va 7 O tO (V.back ⟨i+1,hs,wv,G⟩ j2 j3 ⟨tO,dt⟩ tD 0 O O)))
 obtain rfl:i=s.nodes.length:=tO;refine Vs 10 O (zpw 105 tu52 Tryz.el4 O tO tO (zs:=List.replicate s.of_.length (.bool false)) JU tR (fun b105=>?_));refine zrk 105 O (e':=.row 4 1 (.slice (some ⟨b105,0,none⟩) s.of_.length s.of_.length) s.of_.length ((List.replicate s.of_.length false).map Value.bool)) (by rw[zuY]) (zrk 902 O (e':=.row 3 1 wv (yx f g s g.length).length ((yx f g s g.length).map zb)) tD (zrk 904 O (e':=FdP D W hs (xI s g.length) G) tD (Vs 5 O (zrl (σ:=List Bool × List Int × Value) [10,19] [] [] O (fun e ⟨nl,wl,wv⟩=>(11,wv)::e) (fun e ⟨nl,wl,wv⟩=>(105,.row 4 1 (.slice (some ⟨b105,0,none⟩) s.of_.length s.of_.length) s.of_.length (nl.map Value.bool))::(902,.row 3 1 wv wl.length (wl.map zb))::(34,.row 27 1 (.slice (some ⟨b34,0,none⟩) s.of_.length s.of_.length) s.of_.length hs)::(904,FdP D W hs (xI s g.length) G)::e) (fun⟨nl,wl,wv⟩=>WkN f g s nl wl/\wl.length+muN s g.length nl<=1000000000) (fun⟨nl,wl,wv⟩=>wl.length+muN s g.length nl) (List.replicate s.of_.length false,yx f g s g.length,wv) j2 j3 j1 j1 j1 ⟨WkN.start hF,hM⟩ ?_))));rintro⟨nl,wl,wv⟩ ⟨hW,f4⟩;have ec:=hW.len;refine zqI (p:=∃ a c,wv=.slice a wl.length c/\(0<wl.length->∃ b,a=some ⟨b,0,none⟩)) (fun w hI=>zjw (hI.at 902 O)) (fun fD=>?_);obtain⟨aw,cw,rfl,fE⟩:=fD;refine Vs 8 O (zoE O (fun lw=>?_) (fun lw=>?_))
 .
  obtain⟨wl',v0,rfl⟩:∃ a b,wl=a++[b]:=by
   rcases zuh wl with h | ⟨a,b,h⟩
   . grind
   grind
  obtain⟨hN,v,rfl,fF⟩:=hW.wrk v0 tR;have fG:(wl'++[(v:Int)]).length=wl'.length+1:=tR;obtain⟨b,hb⟩:∃ b,nl[v]?=some b:=j9;obtain⟨l,hl⟩:∃ l,(xI s g.length)[v]?=some l:=⟨_,zsR (by rw[zeU];exact fF)⟩;obtain⟨bw,rfl⟩:=fE tO;refine zqI (p:=(wl'++[(v:Int)]).length<=cw) (fun w hI=>(xr (show w.ownsRow 0 3 1 (.slice (some ⟨bw,0,none⟩) (wl'++[(v:Int)]).length cw) (wl'++[(v:Int)]).length ((wl'++[(v:Int)]).map zb) from hI.at 902 O)).choose_spec.2.1) (fun f5=>(Va 10 O tO (zqZ 902 (wl'.length) tg3 O tO (show _=some (Value.int .i64 (v:Int)) by grind) (Va 9 O tO (zqh O (fun w hI=>zpM tR27 ts3 O O tO) (V.eq 119 (v:=.slice (some ⟨bw,0,none⟩) wl'.length cw) O tD (zrB 902 (e':=.row 3 1 (.slice (some ⟨bw,0,none⟩) wl'.length cw) wl'.length (wl'.map zb)) O (fun w hI=>(by have h:=zlo (j:=wl'.length) (show w.ownsRow 0 3 1 (.slice (some ⟨bw,0,none⟩) (wl'++[(v:Int)]).length cw) (wl'++[(v:Int)]).length ((wl'++[(v:Int)]).map zb) from hI.at 902 O) tO;rwa [zuT,List.take_left' tR]at h)) trivial (fun _ h=>h) (fun q h=>h) ?_)))))));refine Va 8 O tO (zqZ 105 (v) tg4 O tO (show _=some (Value.bool b) by rw[zt8,hb];rfl) ?_);refine zqh O (fun w hI=>zpS O j6) (Vs 2 O (V.bool O (fun n0=>?_) (fun n0=>?_)))
  .
   obtain rfl:b=false:=by cases b<;>simp_all
   refine Va 5 O tO (zr0 105 (v) ts4 O tO tD (zrk 105 O (e':=.row 4 1 (.slice (some ⟨b105,0,none⟩) s.of_.length s.of_.length) s.of_.length ((nl.set v true).map Value.bool)) (by rw[zuZ]) (zqI (p:=∃ a c,hs[v]?=some (.slice a l.length c)) (fun w hI=>(show FdOk _ _ _ _ _ _ from hI.at 904 O).form hl) (fun dJ=>?_))));obtain⟨al,cl,dJ⟩:=dJ;have f7:=zmL hl (by rw[hb];exact fun e=>by cases e) (show v<nl.length by omega);refine Va 7 O tO (zqZ 34 (v) tg27 O tO (dJ) (zrr 902 (fun x=>[zb x]) j1 tX zdz tu27 Tryz.el3 O tS O (fun w hI=>⟨_,(show FdOk _ _ _ _ _ _ from hI.at 904 O).get hI.k1 hl dJ⟩) tO tO (fun u902=>?_)));refine zrk 902 O (e':=.row 3 1 u902 (wl'++l).length ((wl'++l).map zb)) (by rw[zsZ,zuT,zdM]) (Vs 3 O (V.back ⟨nl.set v true,wl'++l,u902⟩ j2 j3 ⟨hW.take hF hl,by rw[zsZ];omega⟩ (by simp only[zsZ];omega) 0 O O))
  obtain rfl:b=true:=by cases b<;>simp_all
  refine Vs 2 O (V.back ⟨nl,wl',.slice (some ⟨bw,0,none⟩) wl'.length cw⟩ j2 j3 ⟨hW.skip hb,tO⟩ (by simp only[];omega) 0 O O)
 obtain rfl:wl=[]:=by cases wl;(· rfl);simp at lw
 have ed:=hW.fin hF;refine Vs 13 O (zoY results21 O O (fun w hI=>⟨_,rfl,⟨_,by rw[c0'],fun h=>absurd c0' h,fun _=>by rw[<- ed];exact zpK (R:=znp) (D:=fun b=>W.heap.size<=b) Value.bool (fun _ _=>rfl) (show w.ownsRow 0 4 1 (.slice (some ⟨b105,0,none⟩) s.of_.length s.of_.length) nl.length (nl.map Value.bool) by rw[ec];exact hI.at 105 O) (fun q hq=>hI.own 105 1 O O q hq)⟩,hI.k1⟩))
end Go.Proofs.YtckdhgbepmpgiaaGreat
namespace Go.GL
section
variable {n:Nat} {Hs:Hp} {B0:zn} {L:List Nat}
variable {ty:TypeId} {ps:String}
theorem zss (i k q j:Nat) {ts:TypeId} {x y:Operand} {o:Nat} {cs:List Value} (db:∀ w,(sizeOf ts).run P w=.ok 1 w) (hi:ops[i]?=some ⟨none,.store ts x y,ty,ps,aft,g⟩) (hr:Region.ready .any ops listed=[i])
  (hn:(gd ops env g,hget H k,ev env x,ev env y,xX (Hs.map (·.1)),qm k (Hs.map (·.1)))=(some true,some (.own b cs e),some (.pointer (some ⟨b,o,none⟩)),some v,true,true)) (h1:Go.GL.one v=true) (hj:o=q) (hl:q<cs.length) (hB:Bs.drop j=B0)
  (h:VD P n Q ks ops Hs B0 L fuel (listed.setIfInBounds i true) env A (hset H k (.own b (cs.set q v) e)) Bs):VD P n Q ks ops Hs B0 L (fuel+1) listed env A H Bs:=by
 simp only[Prod.mk.injEq]at hn;subst hj hB;obtain⟨h2,h3,h4,h5,h6,h7⟩:=hn;intro hH hA w hI;have hB:Blk w b cs e:=hI.at k h3;obtain⟨c1,c2⟩:=xL h1;have hC:Has Hs (hset H k (.own b (cs.set o v) e)):=hH.set h3 h7;refine zrd i hi hr h2 (M.store db h4 h5 c1 c2 hB hl) ?_;rintro w2 ⟨_,hY,dc⟩;have da:VI Bs (hset H k (.own b (cs.set o v) e)) w2:=hI.set h3 dc hY trivial (fun _ h=>h) fun q hq=>⟨.inl hq,by have hq:q=b:=hq;rw[hq];exact hY.lt⟩;exact⟨(da.drop j).pick hC h6,h hC (hA.set h3) w2 da⟩
end
section
theorem VI.all {E:Hp} (hI:VI Bs H w) (h:E.map (fun x=>hget H x.1)=E.map (fun x=>some x.2)):∀ x ∈ E,x.2.holds w:=fun x hx=>hI.at x.1 (Has.of h x hx)
end
end Go.GL
namespace Go.Proofs.YtckdhgbepmpgiaaGreat
open Go.GL
theorem zcX {f:FuncId} {k k':Int} (h:k=k') (hc:Calls P f args w (Ret fun r w'=>r=.int .i64 k/\Ext w w')):Calls P f args w (Ret fun r w'=>r=.int .i64 k'/\Ext w w'):=h ▸ hc
theorem zhM (W:World):Calls prog 11 #[] W (Ret fun r w'=>r=.bool true/\Ext W w'):=by
 have dw:=zjk;have dx:=zjl;have hY:exS22.of_.length<=1000000/\(LP exS22 exG22.length).length<=1000000:=by decide +kernel
 have db:exT22.of_.length<=1000000/\(LP exT22 exG22.length).length<=1000000:=by decide +kernel
 have dG:∀ k,(xZ zjq k).length<=1000000000:=fun k=>by unfold xZ;split<;>(try split)<;>decide
 refine zqp func11 O ntmps11 (V.inn (Vs 7 O (zrM [] (Hn:=fun b:B22=>[(906,.own b.1 [.string ⟨#[120]⟩,.int .i64 1,.int .i64 0,.int .i64 1,.int .i64 0,.string ⟨#[121]⟩,.int .i64 0,.int .i64 0,.int .i64 1,.int .i64 0] 142),(910,.own b.2.1 [.int .i64 0,.int .i64 0,.int .i64 1,.int .i64 0,.int .i64 0,.int .i64 1,.slice none 0 0,.slice none 0 0,.slice none 0 0,.slice none 0 0] 72),(914,.own b.2.2.1 [.int .i64 3,.int .i64 0,.int .i64 0,.int .i64 0,.int .i64 24,.int .i64 0,.slice none 0 0,.slice (some ⟨b.2.1,0,none⟩) 1 1,.slice none 0 0,.slice none 0 0,.int .i64 1,.int .i64 0,.int .i64 0,.int .i64 0,.int .i64 24,.int .i64 1,.slice none 0 0,.slice none 0 0,.slice none 0 0,.slice none 0 0] 72),(916,.own b.2.2.2.1 [.int .i64 0,.int .i64 1,.int .i64 1,.int .i64 1] 3),(919,.own b.2.2.2.2.1 [.int .i64 0,.int .i64 0] 85),(922,.own b.2.2.2.2.2.1 [.int .i64 1,.int .i64 2] 3),(923,.own b.2.2.2.2.2.2.1 [.int .i64 1,.int .i64 2] 3),(925,.own b.2.2.2.2.2.2.2.1 [.int .i64 1,.int .i64 3,.slice (some ⟨b.2.2.2.2.2.1,0,none⟩) 2 2,.slice (some ⟨b.2.2.2.2.2.2.1,0,none⟩) 2 2] 88),(927,.own b.2.2.2.2.2.2.2.2.1 [.int .i64 1,.int .i64 3] 85),(930,.own b.2.2.2.2.2.2.2.2.2 [.slice none 0 0,.slice none 0 0,.int .i64 (-1),.slice none 0 0,.slice (some ⟨b.2.2.2.2.1,0,none⟩) 1 1,.int .i64 (-1),.slice none 0 0,.slice none 0 0,.int .i64 2,.slice (some ⟨b.2.2.2.2.2.2.2.1,0,none⟩) 1 1,.slice (some ⟨b.2.2.2.2.2.2.2.2.1,0,none⟩) 1 1,.int .i64 (-1),.slice none 0 0,.slice none 0 0,.int .i64 (-1)] 59)]) [] call31 O iA j1 (fun w hI=>xc O O (zeV w)) ?_)));rintro _ ⟨bv,bb,bx,bo,b9,bf,ba,bp,bu,bn⟩ rfl;refine Vs 3 O (V.alloc 1 tz26 O O (fun b1=>?_));refine V.alloc 2 tz30 O O (fun b2=>(Vs 7 O (zr4 call14 O (fun w hI=>zeW exF22 _ _ _ (fun q=>q<w.heap.size) w JX tS) ?_)));rintro rr w1 w2 dX dH ⟨nv,rfl,hnv⟩ dI;rw[zcS]at hnv;obtain⟨an,cn,rfl⟩:=hnv.form;refine V.alloc 3 tz36 O O (fun b3=>(Vs 8 O (zro 18 [(0,_)] tR27 ts3 tz3 tS O O tK (fun b18=>?_))));refine zru [Value.slice none 0 0,Value.slice none 0 0,Value.slice none 0 0] [(0,1),(1,1),(2,1)] [(0,_)] O O (fun _=>tK) (zr4 call18 O (fun w hI=>zmS exF22 exG22 exS22 zjq dw dx hY dG _ _ _ _ _ _ _ _ _ (fun q=>q<w.heap.size) w JX ((SlR.narrow tO qP (hnv.keep zC hI.k0 (fun b hb _ hs=>tD))).wide zC fun q h=>h.2) (zdJ (hI.all O) (fun q h=>h)) (zsh (R:=zG) (l:=[(1:Int)]) [[.int .i64 1]] (hI.at 18 O) (Blk.lt (hI.at 18 O)) (fun c hc=>tD) tS ⟨rfl,trivial⟩) SlR.nil SlR.nil (fun q h=>h)) ?_);rintro rr w3 w4 dY dJ ⟨ov,t,rfl,_,hov⟩ dc;have hc:zfL exF22 exG22 exS22 zjq=0:=by unfold zfL;rw[zt1 (by rw[zca];decide)];exact zhH
 rw[hc]at hov ⊢;obtain⟨hov,_⟩:=hov rfl;rw[zjr]at hov;obtain⟨ovl,hO⟩:∃ ovl:List Int,ovl=[1]:=⟨_,rfl⟩;rw[<- hO]at hov;obtain⟨ao,co,rfl⟩:=hov.form;have dZ:ovl.length=1:=tD;have dK:(zaW exF22 exG22 exS22).length=4:=(zjm _ _ _).trans rfl;have dA:=zhI;have dB:=zhJ;refine Vs 3 O (V.alloc 4 zeroValue47 O O (fun b4=>?_));refine Vs 9 O (zr4 call21 O (fun w hI=>zhL exF22 exG22 exS22 dw dx hY zmM tS _ _ _ _ _ _ (fun q=>q<w.heap.size) w JX ((SlR.narrow tO qP (hnv.keep zC hI.k1 (fun b hb _ hs=>tD))).wide zC fun q h=>h.2) (zdJ (hI.all O) (fun q h=>h)) (fun q h=>h)) ?_);rintro rr w5 w6 d5 dL ⟨nu,rfl,_,da⟩ hC;rw[zca]at da ⊢;have da:=da rfl;obtain⟨N,dM⟩:∃ N,N=zaW exF22 exG22 exS22:=⟨_,rfl⟩;rw[<- dM]at da dK dA dB;obtain⟨au,cu,rfl⟩:=da.form;refine Vs 13 O (zr2 call16 O (fun w hI=>(zcX zca (zaj exF22 exG22 exS22 dw dx hY _ _ _ _ _ _ (fun q=>q<w.heap.size) w JX ((SlR.narrow tO qP (hnv.keep zC hI.k2 (fun b hb _ hs=>tD))).wide zC fun q h=>h.2) (zdJ (hI.all O) (fun q h=>h)) (fun q h=>h)))) (Vs 2 O (V.sp 35 O (fun q1=>?_) (fun q1=>?_))))
 . omega
 refine Vs 4 O (V.sp 39 O (fun q2=>?_) (fun q2=>?_))
 . omega
 refine Vs 6 O (V.sp 45 O (fun q3=>?_) (fun q3=>?_))
 . omega
 refine zrh 1000 1 0 tO hov O O O (fun b_ d_ h_=>by have dg:=dc _ h_;first | omega | exact dg d_) (fun z d6 d7 d8 dN dO dy dQ dz=>?_);obtain rfl:=dz;obtain rfl:z=1:=tD;refine Vs 2 O ?_;refine zqQ 1000 tR27 ts3 O dy tO _ rfl O (Vs 4 O (V.sp 52 O (fun q4=>?_) (fun q4=>?_)))
 . omega
 refine Vs 4 O (V.sp 56 O (fun q5=>?_) (fun q5=>?_))
 . omega
 refine Vs 5 O (V.sp 61 O (fun q6=>?_) (fun q6=>?_))
 . omega
 refine zrh 2000 0 0 tO da O O O (fun b_ d_ h_=>by have dg:=hC _ h_;first | omega | exact dg d_) (fun x0 dR dS dT dh dC dl dD dm=>?_);obtain rfl:=dm;obtain rfl:x0=true:=Option.some.inj (dh.symm.trans dA);refine Vs 1 O ?_;refine zqQ 2000 tR52 ts4 O dl tO _ rfl O (Vs 1 O (zqh O (fun w hI=>zpS O j6) (Vs 2 O (zqb 67 O (fun q7=>?_) (fun q7=>?_)))))
 . cases q7
 refine zrh 3000 0 3 tO da O O O (fun b_ d_ h_=>by have dg:=hC _ h_;first | omega | exact dg d_) (fun x3 dU dV dW dr dE dt dF du=>?_);obtain rfl:=du;obtain rfl:x3=true:=Option.some.inj (dr.symm.trans dB);refine Vs 1 O ?_;refine zqQ 3000 tR52 ts4 O dt tO _ rfl O (Vs 1 O (zqh O (fun w hI=>zpS O j6) (Vs 3 O (V.bool O (fun q8=>?_) (fun q8=>?_)))))
 . cases q8
 refine Vs 3 O (Vw [906,910,914,916,919,922,923,925,1,2,3,18,4,1000,2000,3000] [] O (Vd [0,1,2,3] 0 tK O O O (zrx 4 O tK O (fun w=>zph tR28 ts59 O O O tS) (Vd [5] 0 tK O O O (zqi 6 0 O tK O O (fun w hI=>R.load isAgg57 O (v:=.slice (some ⟨bu,0,none⟩) 1 1) (by exact Blk.cells (hI.at 930 O) 10 _ O)) (zrx 7 O tK O (fun w=>zph tR28 ts59 O O O tS) (Vd [8] 0 tK O O O ?_)))))));refine zss 9 930 9 0 ts56 O tK O O O tR O (zrx 10 O tK O (fun w=>zph tR57 ts85 O O O tS) (Vd [11] 0 tK O O O (zss 12 927 1 0 ts3 O tK O O O tR O (VD.done tK (Vs 6 O (zr2 call16 O (fun w hI=>(zcX zhC (zaj exF22 exG22 exT22 dw dx db _ _ _ _ _ _ (fun q=>q<w.heap.size) w JX ((SlR.narrow tO qP (hnv.keep zC hI.k2 (fun b hb _ hs=>tD))).wide zC fun q h=>h.2) (zjp (hI.all O) (fun q h=>h)) (fun q h=>h)))) ?_))))));refine Vs 5 O (zoV results11 O (fun w hI=>⟨_,rfl,rfl,hI.k3⟩))
attribute [local instance 1] Classical.propDecidable
theorem zjx (f:Fl) (g:List Nd) (s:Sf) (hk:GOk f g) (hz:ssize f.body<=10000) (eA:1<=g.length) (eC:g.length<=100000) (eD:f.vars.length<=1000) (dH:s.of_.length<=1000000/\(LP s s.nodes.length).length<=1000000) (v1 v2 v3 gv ofv nodv:Value) (D:Nat->Prop) (W:World) (hf:RFl D W f v1 v2 v3) (hg:SlR 4 RNd D W gv g) (hS:RSf D W s ofv nodv) :
  Calls prog 15 #[.agg #[v1,v2,v3],.agg #[gv],.agg #[ofv,nodv]] W (Ret fun r w'=>(∃ q:Bool,r=.bool q/\(q=true ↔ RightF f g s (rdV f g)))/\Ext W w'):=by
 have ec:=hf;have ed:=hg;have ee:=hS;have dI:=hS.nodes;obtain⟨an,cn,rfl⟩:=dI.form;have fw:=dI.max;have ef:¬ RightF f g s (rdV f g)->((false:Bool)=true ↔ RightF f g s (rdV f g)):=fun hb=>⟨fun h=>tD,fun h=>absurd h hb⟩;refine zqs func15 O ntmps15 O (V.inn (Vs 2 O (V.box 3 O O (fun b3=>?_))));refine V.box 4 O O (fun b4=>(V.box 5 O O (fun b5=>?_)));refine Vs 9 O (zr2 call34 O (fun w hI=>zai (zhw f g s hk hz tO dH _ _ _ _ _ _ D w (Tr1 hI.k0 ec) (Tr1 hI.k0 ed) (Tr1 hI.k0 ee))) (zqh O (fun w hI=>zpS O j6) (Vs 2 O (zoE O (fun n1=>?_) (fun n1=>?_)))))
 .
  have hb:¬ RightF f g s (rdV f g):=fun h=>n1 h.toFormF;refine Vs 7 O (zoV tr15 O (fun w hI=>⟨_,rfl,⟨_,rfl,ef hb⟩,hI.k0⟩))
 have hF:FormF f g s (rdV f g):=Classical.not_not.1 n1;have eE:=hF.len;have eh:=hF.nn;have ei:¬ kq f g s->((false:Bool)=true ↔ RightF f g s (rdV f g)):=fun hb=>ef fun h=>hb ⟨h.use,h.arg⟩;refine Vs 7 O (zr4 call35 O (fun w hI=>zl7 f g s hk hF hz eA eC eD _ _ _ _ _ _ D w (Tr1 hI.k0 ec) (Tr1 hI.k0 ed) (Tr1 hI.k0 ee)) ?_);rintro rr w1 w2 fx eF ⟨u1,u2,ins,outs,rfl,ej,ek,dE,dJ,dl,hC⟩ db;obtain⟨b1,d1,rfl⟩:=dl.form;obtain⟨b2,d2,rfl⟩:=hC.form;have fy:=ej.len;have fA:=ek.len;have eG:=ej.row;have hor:=ek.row;have fB:=dl.max;have fC:=hC.max;refine Vs 17 O (zrl (σ:=Nat) [7,8,30,31] [] [] O (fun e n=>(32,.int .i64 n)::e) (fun e n=>e) (fun n=>n<=s.nodes.length/\(∀ (m:Nat) x,m<n->s.nodes[m]?=some x->NodU f g s m x)) (fun n=>s.nodes.length - n) 0 j2 j3 j1 j1 j1 ⟨zt6 _,fun m x h=>absurd h (zvV _)⟩ ?_);rintro n ⟨hn,dK⟩;refine Vs 6 O (zoE O (fun ln=>?_) (fun ln=>?_))
 .
  refine Vs 7 O (zri 1000 1 n tO dI O O O (fun x fD fE fF dc eH dL dM=>?_));obtain⟨eI,eJ,rfl,dm,dr⟩:=dM;obtain⟨eK,eL,rfl⟩:=dm.form;obtain⟨eM,eN,rfl⟩:=dr.form;refine zqQ 1000 tR28 ts59 O dL tO _ rfl O ?_;have dg:=hF.nod n x dc;have fG:=dr.max;have fH:=dm.max;have eO:n<g.length:=tO;refine Vs 1 O (V.alloc 10 tz59 O O (fun b10=>?_));refine Vs 14 O (zrl (σ:=Nat) [7,8,9,10,30,31,32,38,39] [10] [10] O (fun e k=>(40,.int .i64 k)::e) (fun e k=>e) (fun k=>k<=x.uses.length/\(∀ (j:Nat) u,j<k->x.uses[j]?=some u->inV f g s n u.1=u.2)) (fun k=>x.uses.length - k) 0 j2 j3 j1 j1 j1 JQ ?_);rintro k ⟨fI,em⟩;refine Vs 6 O (zoE O (fun lk=>?_) (fun lk=>?_))
  .
   refine Vs 6 O (zri 2000 1 k tO dr O O O (fun u fJ fK fL dN dF dO dQ=>?_));obtain rfl:=dQ;refine zqQ 2000 tR57 ts85 O dO tO _ rfl O ?_;have eP:=zah hF.of_ (dg.ver u dF);obtain⟨p1,p2⟩:=u;dsimp only at eP;obtain⟨v,rfl⟩:∃ v:Nat,p1=(v:Int):=⟨p1.toNat,tO⟩;refine zrh 3000 0 n tO dl O O O ix (fun r eQ eR eS du dw dx dR dy=>?_);obtain⟨dS,rfl,hY⟩:=dy;obtain⟨dT,dU,rfl⟩:=hY.form;have eT:=eG r dw;refine zrh 4000 0 v tO hY O O O ix (fun y eU eV fM da dV dz eW dW=>?_);obtain rfl:=dW;have dX:y=inV f g s n v:=by rw[<- zaU du da];exact dE.is eh tO tO eO
   refine Vs 1 O (V.alloc 12 tz85 O O (fun b12=>?_));refine Vs 4 O (Vq tK (Vs 2 O (zqT 3000 tR89 ts27 O dx tO (n) tO O (Vs 3 O (zqT 4000 tR27 ts3 O dz tO (v) tO O (Vs 6 O (zoE O (fun e1=>?_) (fun e1=>?_))))))))
   .
    have dA:¬ kq f g s:=fun h=>e1 (by rw[dX];exact h.1 n x dc _ dF);refine Vs 16 O (zoV tr15 O (fun w hI=>⟨_,rfl,⟨_,rfl,ei dA⟩,hI.k1⟩))
   have dB:=yi em dN (show inV f g s n v=p2 by omega);refine Va 7 O tO (V.back (k+1) j2 j3 ⟨tO,dB⟩ tO 0 O O)
  obtain rfl:k=x.uses.length:=tO;refine Vs 14 O (zrl (σ:=Nat) [7,8,30,31,32,57,58] [] [] O (fun e k=>(59,.int .i64 k)::e) (fun e k=>e) (fun k=>k<=x.phis.length/\(∀ (j:Nat) p,j<k->x.phis[j]?=some p->znE f g s p)) (fun k=>x.phis.length - k) 0 j2 j3 j1 j1 j1 JQ ?_);rintro k ⟨fN,er⟩;refine Vs 6 O (zoE O (fun lp=>?_) (fun lp=>?_))
  .
   refine Vs 6 O (zri 5000 1 k tO dm O O O (fun p fO fP fQ dY dh dZ d5=>?_));obtain⟨eX,eY,rfl,dC,dD⟩:=d5;obtain⟨eZ,fb,rfl⟩:=dC.form;obtain⟨fe,fg,rfl⟩:=dD.form;refine zqQ 5000 tR56 ts88 O dZ tO _ rfl O ?_;have fm:=dg.phi.frm p dh;have fR:=dg.phi.len p dh;have fS:=zah hF.of_ (dg.phi.ver p dh);have fT:=dC.max;have fU:=dD.max;obtain⟨v,hv⟩:∃ v:Nat,p.var=(v:Int):=⟨p.var.toNat,tO⟩;refine Vs 1 O (V.alloc 14 tz88 O O (fun b14=>?_));refine Vs 12 O (zrl (σ:=Nat) [7,8,14,30,31,32,57,58,59,64,65] [14] [14] O (fun e j=>(66,.int .i64 j)::e) (fun e j=>e) (fun j=>j<=p.frm.length/\(∀ (m:Nat) y,m<j->p.frm[m]?=some y->∀ a,p.args[m]?=some a->zab f g s y.toNat p.var=a)) (fun j=>p.frm.length - j) 0 j2 j3 j1 j1 j1 ⟨zt6 _,fun m y h=>absurd h (zvV _)⟩ ?_);rintro j ⟨hj,ew⟩;refine Vs 6 O (zoE O (fun lj=>?_) (fun lj=>?_))
   .
    refine Vs 7 O (zrj 6000 1 j tO dC O O (fun y eU eV da dV dz=>?_));refine zqQ 6000 tR27 ts3 O dz tO _ rfl O ?_;obtain⟨q,rfl,fV,ez⟩:=zag (fm ▸ da);refine zrh 7000 0 q tO hC O O O ix (fun r eQ eR eS du dw dx dR dy=>?_);obtain⟨dS,rfl,hY⟩:=dy;obtain⟨dT,dU,rfl⟩:=hY.form;have eT:=hor r dw;refine zrh 8000 0 v tO hY O O O ix (fun z fW fX fY d6 fp d7 fq d8=>?_);obtain rfl:=d8;refine zrj 9000 1 j tO dD O O (fun a fZ f0 d9 ft eb=>?_)
    have fu:z=zab f g s q p.var:=by
     rw[hv,<- zaU du d6,dJ q ez v tO tO];exact zj0 (dE.is eh tO tO ez)
    refine Vs 6 O (Vq tK (Vs 2 O (zqT 7000 tR89 ts27 O dx tO (q) tO O (Vs 3 O (zqT 8000 tR27 ts3 O d7 tO (v) tO O (Vs 4 O (zqT 9000 tR27 ts3 O eb tO (j) tO O (Vs 4 O (zoE O (fun e1=>?_) (fun e1=>?_))))))))))
    .
     have dA:¬ kq f g s:=fun h=>e1 (by rw[fu];exact h.2 n x dc p dh j _ a da d9);refine Vs 19 O (zoV tr15 O (fun w hI=>⟨_,rfl,⟨_,rfl,ei dA⟩,hI.k1⟩))
    have dB:=yi ew da (show ∀ a',p.args[j]?=some a'->zab f g s (Int.toNat (q:Int)) p.var=a' from fun a' f4=>by
     grind)
    refine Va 7 O tO (V.back (j+1) j2 j3 ⟨tO,dB⟩ tO 0 O O)
   obtain rfl:j=p.frm.length:=tO;have dB:=yi er dY (show znE f g s p from fun m y hm a ha=>ew m y (zt5.1 hm).1 hm a ha);refine Va 10 O tO (V.back (k+1) j2 j3 ⟨tO,dB⟩ tO 0 O O)
  obtain rfl:k=x.phis.length:=tO
  have dB:∀ (m:Nat) x',m<n+1->s.nodes[m]?=some x'->NodU f g s m x':=fun m x' hm hx=>by
   by_cases e:m=n
   .
    subst e;obtain rfl:x'=x:=Option.some.inj (hx.symm.trans dc);exact⟨fun u hu=>by obtain⟨q,hq⟩:=zv5.1 hu;exact qd em q u hq,fun p hp=>by obtain⟨q,hq⟩:=zv5.1 hp;exact qd er q p hq⟩
   grind
  refine Va 10 O tO (V.back (n+1) j2 j3 ⟨tO,dB⟩ tO 0 O O)
 obtain rfl:n=s.nodes.length:=tO;have dG:kq f g s:=zeN (qd dK);have hR:RightF f g s (rdV f g):=⟨hF,dG.1,dG.2⟩;refine Vs 11 O (zoV tr15 O (fun w hI=>⟨_,rfl,⟨_,rfl,⟨fun _=>hR,fun _=>rfl⟩⟩,hI.k1⟩))
def addN (l:List Bool) (b:Bool) (k:Nat):List Bool × Bool:=if l[k]?=some true then (l,b) else (l.set k true,true)
theorem kJ (vs:List Vr) (k:Int) (vv:Value) (D:Nat->Prop) (W:World) (hk:0<=k/\k<=3) (hg:∀ v ∈ vs,xz (v.low,v.high)) (db:vs.length<=1000000) (dA:SlR 5 RVr D W vv vs) :
  Calls prog 42 #[vv,.int .i64 k] W (Ret fun r w'=>r=.tuple #[.int .i64 ((zm k vs).getD 0),.int .i64 (if (zm k vs).isSome then 0 else 4)]/\Ext W w'):=by
 have dr:∀ v ∈ zq k vs,xz (v.low,v.high):=fun v hv=>hg v (zv2.1 hv).1;have dy:yy k (zq k vs) 1=zm k vs:=qe k vs 1;have dt:∀ v ∈ zq k vs,v.kind=k:=fun v hv=>by simpa using (zv2.1 hv).2
 have dG:=zsX (jU k vs) db;refine zqr func42 O ntmps42 O (V.inn (Vs 8 O (zrm (σ:=Unit) [0,1] [] [] O (fun e u=>(23,.bool (decide (¬ (0<=k/\k<=3))))::e) (fun e u=>e) (fun u=>True) j1 j1 ?_ ?_)))
 .
  refine Vs 4 O (V.sp 12 O (fun k1_=>?_) (fun k1_=>?_))
  .
   refine Vs 4 O (V.sp 16 O (fun k2_=>?_) (fun k2_=>?_))
   .
    refine Vs 4 O (V.sp 20 O (fun k3_=>?_) (fun k3_=>?_))
    . refine Vs 4 O (zoS () Uf j3 trivial 0 O O)
    refine Vs 4 O (zoS () Uf j3 trivial 0 O O)
   refine Vs 8 O (zoS () Uf j3 trivial 0 O O)
  refine Vs 12 O (zoS () Uf j3 trivial 0 O O)
 rintro u _;refine Vs 1 O (zoE O (fun h0=>?_) (fun h0=>?_))
 . omega
 refine Vs 6 O (zr4 call85 O (fun w hI=>zkZ vs k vv D w (Tr1 hI.k0 dA) db) ?_);rintro l w1 w2 dH dB dl dc;obtain⟨al,cl,rfl⟩:=dl.form;have dI:=dl.max;refine Vs 10 O (zrl (σ:=Nat) [6] [] [] O (fun e i=>(7,.int .i64 i)::e) (fun e i=>e) (fun i=>i<=(zq k vs).length) (fun i=>(zq k vs).length - i) 0 j2 j3 j1 j1 j1 (zt6 _) ?_);rintro i hi;refine Vs 9 O (zoE O (fun dC=>?_) (fun dC=>?_))
 .
  refine Vs 5 O (zrh 1000 0 i tO dl O O O (fun b_ d_ h_=>by have du:=dc _ h_;first | omega | exact du d_) (fun x dD dE dF dg hY hC dw da=>?_));obtain rfl:=da;have dh:=dr x hY;unfold xz at dh;dsimp only at dh;refine Vq tK (Vs 2 O ?_);refine zqT 1000 tR22 ts142 O hC tO _ rfl O (Vs 4 O ?_);refine zqT 1000 tR22 ts142 O hC tO _ rfl O (Vs 4 O (V.sp 44 O (fun b1=>?_) (fun b1=>?_)))
  . omega
  refine Vs 2 O ?_;refine zqT 1000 tR22 ts142 O hC tO _ rfl O (Vs 5 O (V.sp 52 O (fun b2=>?_) (fun b2=>?_)))
  . omega
  refine Vs 2 O ?_;refine zqT 1000 tR22 ts142 O hC tO _ rfl O (Vs 6 O (zoE O (fun b3=>?_) (fun b3=>?_)))
  . omega
  refine Va 8 O tO (V.back (i+1) j2 j3 tO tO 0 O O)
 refine Vs 17 O (zrl (σ:=Nat × Int) [6] [] [] O (fun e ⟨j,n⟩=>(8,.int .i64 n)::(9,.int .i64 j)::e) (fun e ⟨j,n⟩=>e) (fun⟨j,n⟩=>j<=(zq k vs).length/\yy k ((zq k vs).take j) 1=some n) (fun⟨j,n⟩=>(zq k vs).length - j) (0,1) j2 j3 j1 j1 j1 JF ?_);rintro⟨j,n⟩ ⟨hj,hs⟩;have hn:=xl k ((zq k vs).take j) 1 n (fun v hv=>dr v (zv8 hv)) tO tO hs;refine Vs 9 O (zoE O (fun dx=>?_) (fun dx=>?_))
 .
  refine Vs 5 O (zrh 2000 0 j tO dl O O O (fun b_ d_ h_=>by have du:=dc _ h_;first | omega | exact du d_) (fun x dD dE dF dg hY hC dw da=>?_));obtain rfl:=da;have dh:=dr x hY;unfold xz at dh;dsimp only at dh;have hp:=zfq (n:=n) (s:=x.high - x.low+1) hn.1 hn.2 tO tO
  have dm:yy k ((zq k vs).take (j+1)) 1=if 4096<n*(x.high - x.low+1) then none else some (n*(x.high - x.low+1)):=by
   rw[ze dg,yh,hs];simp[yy,dt x hY]
  refine Vq tK (Vs 3 O ?_);refine zqT 2000 tR22 ts142 O hC tO _ rfl O (Vs 4 O ?_);refine zqT 2000 tR22 ts142 O hC tO _ rfl O (Va 14 O tO (zoE O (fun hb=>?_) (fun hb=>?_)))
  .
   rw[zt2 hb]at dm
   have dz:zm k vs=none:=by
    rw[<- dy,<- zvz (j+1) (zq k vs),yh,dm];rfl
   refine Vs 12 O (zoY results42 O O (fun w hI=>⟨_,rfl,tD,hI.k1⟩))
  rw[zt1 hb]at dm;refine Va 8 O tO (V.back (j+1,n*(x.high - x.low+1)) j2 j3 ⟨tO,dm⟩ tD 0 O O)
 have:j=(zq k vs).length:=tO;subst this;rw[zsW,dy]at hs;refine Vs 13 O (zoY results42 O O (fun w hI=>⟨_,rfl,tD,hI.k1⟩))
def spN (f:Fl):Nat:=((zm 1 f.vars).getD 0).toNat
theorem kK (vd:Valid f):(∃ m,zm 1 f.vars=some m)/\(∃ m,zm 2 f.vars=some m)/\∃ m,zm 3 f.vars=some m:=by
 have h:=(zZ vd.ok).2.1;unfold zp at h;split at h
 . omega
 split at h
 . cases h
 rename_i h2;unfold xh at h2;cases h3:zm 1 f.vars<;>cases h4:zm 2 f.vars<;>cases h5:zm 3 f.vars<;>simp[h3,h4,h5]at h2 ⊢
def rnN (f:Fl):Nat:=((zm 3 f.vars).getD 0).toNat
theorem znQ (vd:Valid f):(zm 1 f.vars).getD 0=(spN f:Int)/\1<=spN f/\spN f<=4096:=by
 obtain⟨⟨m,h⟩,_⟩:=kK vd;have h1:=xl 1 f.vars 1 m vd.good tO tO h;unfold spN
 grind
theorem znR (vd:Valid f):(zm 3 f.vars).getD 0=(rnN f:Int)/\1<=rnN f/\rnN f<=4096:=by
 obtain⟨_,_,m,h⟩:=kK vd;have h1:=xl 3 f.vars 1 m vd.good tO tO h;unfold rnN
 grind
structure FitC (f:Fl) (a b c:Int):Prop where
 vd:Valid f
 vars:f.vars.length<=10
 hatches:f.hatches.length<=10
 small:sbulk f.body+zx f.hatches<=80
 sp:(spN f:Int)<=a
 pb:(zm 2 f.vars).getD 0<=b
 rn:(rnN f:Int)<=c
theorem zmT (f:Fl) (a b c:Int) (v1 v2 v3:Value) (D:Nat->Prop) (W:World) (hf:RFl D W f v1 v2 v3) :
  Calls prog 32 #[.agg #[v1,v2,v3],.int .i64 a,.int .i64 b,.int .i64 c] W (Ret fun r w'=>(∃ q:Bool,r=.bool q/\(q=true->FitC f a b c))/\Ext W w'):=by
 obtain⟨a1,n1,rfl⟩:=hf.vars.form;obtain⟨a2,n2,rfl⟩:=hf.hatches.form;obtain⟨a3,n3,rfl⟩:=hf.body.form;refine zqt func32 O ntmps32 O (V.inn (Vs 2 O (V.box 4 O O (fun b4=>?_))));refine Vs 7 O (zr2 call28 O (fun w hI=>zkl f 10 80 _ _ _ D w Jp tS tS) (zqd (p:=(f.vars.length:Int)<=10/\(f.hatches.length:Int)<=10/\((sbulk f.body+zx f.hatches:Nat):Int)<=80) (fun hC=>?_) (fun hC=>?_)))
 .
  have h1:=zaE f.body;have da:snodes f.body+zx f.hatches<=1024:=tO;have hY:sbulk f.body<=1000000:=tO;refine zqh O (fun w hI=>zpS O j6) (Vs 1 O (V.sp 21 O (fun q1=>?_) (fun q1=>?_)))
  . omega
  refine Vs 1 O (zr2 call29 O (fun w hI=>zfv f _ _ _ D w Jp da hY) (Vs 4 O (zoE O (fun c0=>?_) (fun c0=>?_))))
  . refine Vs 7 O iZ
  have c0':yO f=0:=tO;have vd:Valid f:=⟨c0',da,hY⟩;have db:=(zZ c0').2.2.2.1;obtain⟨s1,s2,s3⟩:=kK vd;refine Vs 6 O (zr2 call42 O (fun w hI=>kJ f.vars 1 _ D w tS vd.good tO (Tr1 hI.k0 hf.vars)) (Vs 11 O (zr2 call42 O (fun w hI=>kJ f.vars 2 _ D w tS vd.good tO (Tr1 hI.k0 hf.vars)) (Vs 11 O (zr2 call42 O (fun w hI=>kJ f.vars 3 _ D w tS vd.good tO (Tr1 hI.k0 hf.vars)) (Vs 11 O (zr2 call65 O (fun w hI=>zaM f.vars f.hatches.length f.body _ D w true db (Tr1 hI.k0 hf.body) hY) ?_)))))));have e1:=(znQ vd).1;have e3:=(znR vd).1;refine Vs 15 O (V.sp 54 O (fun g1=>?_) (fun g1=>?_))
  .
   refine Vs 5 O (V.sp 59 O (fun g2=>?_) (fun g2=>?_))
   .
    refine Vs 5 O (V.sp 64 O (fun g3=>?_) (fun g3=>?_))
    . refine Vs 7 O (zoV tr32 O (fun w hI=>⟨_,rfl,⟨_,rfl,fun _=>⟨vd,tO,tO,tO,tO,tO,tO⟩⟩,hI.k0⟩))
    refine Vs 7 O iZ
   refine Vs 12 O iZ
  refine Vs 17 O iZ
 refine zqh O (fun w hI=>zpS O j6) (Vs 1 O (V.sp 21 O (fun q1=>?_) (fun q1=>?_)))
 . refine Vs 14 O iZ
 omega
end Go.Proofs.YtckdhgbepmpgiaaGreat
namespace Go.GL
theorem SlR.now {R:Rel α} {S:Nat->Prop} {l:List α} (h:SlR k R D w v l) (hs:yq R) (hn:qv R) [NeZero k] (hk:Keep S w w') (hD:∀ b,D b->¬ S b):SlR k R (fun q=>q<w'.heap.size) w' v l :=
 (SlR.narrow (Nat.pos_of_ne_zero (NeZero.ne k)) hn (h.keep hs hk fun b hb _=>hD b hb)).wide hs fun _ h=>h.2
theorem RFl.now {v1 v2 v3:Value} (h:RFl D w f v1 v2 v3):RFl (fun q=>q<w.heap.size) w f v1 v2 v3 :=
 ⟨(SlR.narrow tO zea h.vars).wide yG fun _ h=>h.2,(SlR.narrow tO ze9 h.hatches).wide yN fun _ h=>h.2,(SlR.narrow tO kQ h.body).wide zf fun _ h=>h.2⟩
end Go.GL
namespace Go.Proofs.YtckdhgbepmpgiaaGreat
open Go.GL
theorem RSf.now {u1 u2:Value} (h:RSf D w s u1 u2):RSf (fun q=>q<w.heap.size) w s u1 u2 :=
 ⟨(SlR.narrow tO qJ h.of_).wide zc fun _ h=>h.2,(SlR.narrow tO ziO h.nodes).wide zae fun _ h=>h.2⟩
theorem zlp (f:Fl) (v1 v2 v3:Value) (D:Nat->Prop) (W:World) (hf:RFl D W f v1 v2 v3) :
  Calls prog 12 #[.agg #[v1,v2,v3]] W (Ret fun r w'=>(∃ q:Bool,r=.bool q/\(q=true->FitC f 16 4 4))/\Ext W w'):=by
 refine zqq func12 O ntmps12 O (V.inn (Vs 2 O (V.box 1 O O (fun b1=>?_))));refine Vs 6 O (zr4 call32 O (fun w hI=>zmT f 16 4 4 v1 v2 v3 D w Jp) ?_);rintro rr w1 w2 da hC ⟨q,rfl,hq⟩ hY;refine Vs 4 O (zoV results12 O (fun w hI=>⟨_,rfl,⟨_,rfl,hq⟩,hI.k1⟩))
theorem zhN (vd:Valid f):¬ yt f (zd f) ≠ 0:=zte (by unfold yt;rw[zt1 (zte vd.ok),zt2 rfl])
end Go.Proofs.YtckdhgbepmpgiaaGreat
namespace Go.GL
def Fm.push (n:Fm) (d:Deferred):Fm:=⟨n.sz,d::n.ds⟩
section
variable {n:Fm} {rest:List Oper}
theorem WO.defer {o:Oper} {d:Deferred} (hg:o.guard=none) (hd:o.dst=none) (hr:∀ a,Ok n env a->(execOp a.eval o).run P w=.ok (.defer d) w) (h:WO P (n.push d) ops Q rest env w):WO P n ops Q (o::rest) env w:=by
 intro a ha;refine wpList_plain hg fun K hK=>?_;unfold Oper.wp;rw[hr a ha,Oper.upon_defer,hd];exact hK _ _ (h _ ⟨ha.size,congrArg (d::·) ha.defs,ha.get⟩)
theorem V.defer {x:Operand} {fn:Fn} {fs cs:Array Value} {ty:TypeId} {ps:String} (hx:ev env x=some (.func fn fs cs)) (h:V P (n.push ⟨.fn fn cs,fs⟩) Q ks (.o ops rest) env A H Bs):V P n Q ks (.o ops (⟨none,.defer ⟨.value x,#[],ts⟩,ty,ps,aft,none⟩::rest)) env A H Bs :=
 fun hA w hI=>WO.defer rfl rfl (fun a ha=>by simp[execOp,resolve,Deferred.ofValue,ha.eval hx]) (h hA w hI)
def zmU {σ:Type} (N:σ->Fm) (env':σ->Env) (I:σ->World->Prop) (μ:σ->Nat) (m:Nat) (a:Act) (w:World):Prop:=∃ s,Ok (N s) (env' s) a/\I s w/\μ s<m
theorem zst (N:σ->Fm) (env':σ->Env) (I:σ->World->Prop) (μ:σ->Nat) {c:Code} (s₀:σ) (hN:N s₀=n) (h₀:Sub (env' s₀) env) (hI:I s₀ w)
  (h:∀ s w',I s w'->WC P (N s) c (Exit.then (zmU N env' I μ (μ s)) Q) (env' s) w'):WC P n (.loop c) Q env w:=by
 intro a ha;refine wp_loop_ghost (fun m a w=>∃ s,μ s=m/\Ok (N s) (env' s) a/\I s w) (μ s₀) ⟨s₀,rfl,hN ▸ ha.sub h₀,hI⟩ ?_;rintro m a w ⟨s,rfl,hC,hY⟩;refine Code.wp_mono ?_ (h s w hY a hC);intro e a' w' hq;cases e<;>first | exact hq | skip;obtain⟨s',h1,h2,h3⟩:=hq;exact⟨μ s',h3,s',rfl,h1,h2⟩
theorem zsu (N:σ->Fm) (es hs ts:List Nat) (_hp:(zi5 env es,zdb H hs,zi6 A ts)=(some E1,some H1,some A1)) (env':Env->σ->Env) (H':Hp->σ->Hp) (I:σ->Prop) (μ:σ->Nat) {c:Code} (s₀:σ) (hN:N s₀=n) (h₀:Sub (env' E1 s₀) env) (hH:Has (H' H1 s₀) H) (hu:∀ s,xX ((H' H1 s).map (·.1))=true)
  (hC:∀ s,A1.map (fun p=>zd7 (env' E1 s) p.1)=A1.map (fun p=>jw (H' H1 s) p.2)) (hY:∀ s,A1.all (fun p=>(jw (H' H1 s) p.2).isSome)=true) (hI:I s₀)
  (h:∀ s,I s->V P (N s) Q (.k (zmU N (env' E1) (fun s w=>I s/\VI Bs (H' H1 s) w) μ (μ s))::ks) (.c c) (env' E1 s) A1 (H' H1 s) Bs):V P n Q ks (.c (.loop c)) env A H Bs :=
 fun _ _ hw=>zst N (env' E1) (fun s w=>I s/\VI Bs (H' H1 s) w) μ s₀ hN h₀ ⟨hI,hw.pick hH (hu s₀)⟩ (fun s w' hs=>h s hs.1 (TgOk.of (hC s) (hY s)) w' hs.2)
theorem zsv {N:σ->Fm} {env':σ->Env} {H':σ->Hp} {I:σ->Prop} {μ:σ->Nat} (s:σ) (hN:N s=n) (h0:Sub (env' s) env) (hH:Has (H' s) H) (hI:I s) (hm:μ s<m) (j:Nat) (hB:Bs.drop j=Bs0) (hu:xX ((H' s).map (·.1))=true) :
  V P n Q (.k (zmU N env' (fun s w=>I s/\VI Bs0 (H' s) w) μ m)::ks) (.e .normal) env A H Bs:=by
 subst hB;exact fun _ w hw a ha=>⟨s,hN ▸ ha.sub h0,⟨hI,(hw.drop j).pick hH hu⟩,hm⟩
def znS {σ:Type} (N:σ->Fm) (env':σ->Env) (I:σ->World->Prop) (a:Act) (w:World):Prop:=∃ s,Ok (N s) (env' s) a/\I s w
theorem zsw (N:σ->Fm) (es hs ts:List Nat) (_hp:(zi5 env es,zdb H hs,zi6 A ts)=(some E1,some H1,some A1)) (env':Env->σ->Env) (H':Hp->σ->Hp) (I:σ->Prop) {c:Code}
  (hC:∀ s,A1.map (fun p=>zd7 (env' E1 s) p.1)=A1.map (fun p=>jw (H' H1 s) p.2)) (hY:∀ s,A1.all (fun p=>(jw (H' H1 s) p.2).isSome)=true)
  (h:V P n Q (.k (znS N (env' E1) (fun s w=>I s/\VI Bs (H' H1 s) w))::ks) (.c c) env A H Bs) (hk:∀ s,I s->V P (N s) Q ks (.e .normal) (env' E1 s) A1 (H' H1 s) Bs):V P n Q ks (.c c) env A H Bs:=by
 intro hA w hw a ha;refine Code.wp_mono ?_ (h hA w hw a ha);intro e a' w' hq;cases e<;>first | exact hq | skip;obtain⟨s,h1,h2,h3⟩:=hq;exact hk s h2 (TgOk.of (hC s) (hY s)) w' h3 a' h1
theorem zsx {N:σ->Fm} {env':σ->Env} {H':σ->Hp} {I:σ->Prop} (s:σ) (hN:N s=n) (h0:Sub (env' s) env) (hH:Has (H' s) H) (hI:I s) (j:Nat) (hB:Bs.drop j=Bs0) (hu:xX ((H' s).map (·.1))=true) :
  V P n Q (.k (znS N env' (fun s w=>I s/\VI Bs0 (H' s) w))::ks) (.e .normal) env A H Bs:=by
 subst hB;exact fun _ w hw a ha=>⟨s,hN ▸ ha.sub h0,hI,(hw.drop j).pick hH hu⟩
theorem zsy {R:Ending->World->Prop} (hR:∀ w,VI Bs H w->∀ tmps,Leaves P fn tmps R n.ds .returning w):V P n (bodyPostD P fn R) [] (.e .normal) env A H Bs:=fun _ w hw a ha=>by
 show Leaves P fn a.tmps R a.defers .returning w;rw[ha.defs];exact hR w hw a.tmps
end
section
variable {f:FuncId} {c:Code} {R:Ending->World->Prop} {n:Nat}
theorem znT (hn:args.size<=n/\fn.ntmps=n) (hC:∀ k v,get env k=some v->args[k]?=some v):Ok (n:Fm) env { tmps:=args++Array.replicate (fn.ntmps - args.size) undef,defers:=[] }:=by
 refine⟨?_,rfl,?_⟩
 . grind
 intro k v hk;have h1:=hC k v hk
 have hY:k<args.size:=by
  rcases zvQ k args.size with h' | h'
  . exact h'
  rw[zts h']at h1;cases h1
 simp[Array.getElem?_append,hY];simpa[hY] using h1
theorem G.inD (hf:P.funcs[f]?=some fn) (hb:fn.body=some c) (hn:fn.ntmps=n) (hl:Nat.ble vs.length n=true) (h:G P n (bodyPostD P fn R) [] (.c c) ((List.range vs.length).zip vs) w):Calls P f vs.toArray w R :=
 calls_of_wp_defers hf hb (h _ (znT ⟨by simpa using zvN hl,hn⟩ (zhZ fun _ _ h=>h)))
theorem G.inC (hf:P.funcs[f]?=some fn) (hb:fn.body=some c) (hn:fn.ntmps=n) (hl:Nat.ble vs.length n=true) (h:G P n (bodyPost P fn R) [] (.c c) ((List.range vs.length).zip vs) w):CallsD P f vs.toArray .returning w (fun e u w'=>u=.returning/\R e w') :=
 callsD_of_wp hf hb (h _ (znT ⟨by simpa using zvN hl,hn⟩ (zhZ fun _ _ h=>h)))
theorem zsz (hf:P.funcs[f]?=some fn) (hb:fn.body=some c) (hn:fn.ntmps=n) (hl:Nat.ble 2 n=true) (h:G P n (bodyPostD P fn R) [] (.c c) [(0,a1),(1,a2)] w):Calls P f #[a1,a2] w R:=G.inD (vs:=[a1,a2]) hf hb hn hl h
theorem zsA (hf:P.funcs[f]?=some fn) (hb:fn.body=some c) (hn:fn.ntmps=n) (hl:Nat.ble 2 n=true) (h:G P n (bodyPost P fn R) [] (.c c) [(0,a1),(1,a2)] w):CallsD P f #[a1,a2] .returning w (fun e u w'=>u=.returning/\R e w'):=G.inC (vs:=[a1,a2]) hf hb hn hl h
end
theorem zsB {n:Fm} {pos:Pos} (k:Nat) (hn:(hget H k,qK H k)=(some (.row t 1 (.slice (some ⟨b,0,none⟩) m c) m xs),none)) (h:∀ sp:List Value,(xs++sp).length=c->m<=c/\c<=9223372036854775807->V P n Q ks pos env A (hset H k (.own b (xs++sp) t)) Bs):V P n Q ks pos env A H Bs:=by
 simp only[Prod.mk.injEq]at hn;intro hA w hI;obtain⟨sp,h1,h2,h3,h4⟩:=xr (show w.ownsRow 0 t 1 (.slice (some ⟨b,0,none⟩) m c) m xs from hI.at k hn.1);exact h sp tO ⟨h2,h3⟩ (hA.res hn.1 hn.2) w (hI.set hn.1 i3 h1 trivial (fun _ h=>h) fun q hq=>⟨.inl JJ,hI.low _ (zl hn.1) q JJ⟩)
end Go.GL
namespace Go.Proofs.YtckdhgbepmpgiaaGreat
open Go.GL
abbrev rnm (gb:Nat) (ofv ndv chv cuv:Value):List Value:=[.pointer (some ⟨gb,0,none⟩),ofv,ndv,chv,cuv]
abbrev zok (b gb:Nat) (ofv ndv chv cuv:Value) (ofl:List Int):Hp:=[(900,.own b (rnm gb ofv ndv chv cuv) 123),(901,.row 3 1 ofv ofl.length (ofl.map zb))]
theorem yj (v:Int) (ofl:List Int) (hl:ofl.length<=1000000000) (b gb:Nat) (ofv ndv chv cuv:Value) (W:World) (hE:Held (zok b gb ofv ndv chv cuv ofl) W) :
  Calls prog 53 #[.pointer (some ⟨b,0,none⟩),.int .i64 v] W (Ret fun r w'=>∃ u:Value,r=.int .i64 ofl.length/\GBack (zok b gb ofv ndv chv cuv ofl) (zok b gb u ndv chv cuv (ofl++[v])) W w'):=by
 refine zqr func53 O ntmps53 O (zrL [(900,.own b [.pointer (some ⟨gb,0,none⟩),ofv,ndv,chv,cuv] 123),(901,.row 3 1 ofv ofl.length (ofl.map zb))] hE.1 hE.2 (zqO 0 900 0 O O (Vs 14 O (zro 12 [(0,_)] tR27 ts3 tz3 tS O O tK (fun b12=>?_)))));refine zqV 901 12 tu27 Tryz.el3 O tS O O tO tO (fun u901=>(Vs 3 O (zqX 901 O tO ?_)));rintro bo co rfl hC;refine Va 16 O tO (zrk 901 O (e':=.row 3 1 (.slice (some ⟨bo,0,none⟩) (ofl.length+1) co) (ofl++[v]).length ((ofl++[v]).map zb)) tD (zoV results53 O (fun w hI=>⟨_,rfl,.slice (some ⟨bo,0,none⟩) (ofl.length+1) co,tD,hI.back 0 O O O rfl⟩)))
theorem zeZ (v:Nat) (rows:List (List Int)) (r:List Int) (k:Int) (hr:rows[v]?=some r) (hk:r[r.length - 1]?=some k) (b gb:Nat) (ofv ndv chv cuv:Value) (D:Nat->Prop) (W:World) (hc:Cells W b 0 (rnm gb ofv ndv chv cuv)) (da:SlR 1 (RSl 1 zG) D W cuv rows) :
  Calls prog 103 #[.pointer (some ⟨b,0,none⟩),.int .i64 v] W (Ret fun rr w'=>rr=.int .i64 k/\Ext W w'):=by
 obtain⟨ac,cc,rfl⟩:=da.form;have dB:=da.max;have dC:=(zt5.1 hr).1;have dD:=(zt5.1 hk).1;refine zqr func103 O ntmps103 O (V.inn (V.fr 904 0 O O hc (zqO 0 904 0 O O (zri 1000 0 v tO da O O O (fun r2 dw dx dy db dl hY dc=>?_)))));obtain⟨dm,rfl,hC⟩:=dc;obtain⟨dr,dt,rfl⟩:=hC.form;obtain rfl:r=r2:=Option.some.inj (hr.symm.trans db);have dE:=hC.max;refine zrj 2000 0 (r.length-1) tO hC O O (fun k2 dz dA dg du dh=>?_);obtain rfl:k=k2:=Option.some.inj (hk.symm.trans dg);refine Vs 6 O (Vq tK (Vs 5 O (zqT 1000 tR89 ts27 O hY tO (v) tO O (Vs 6 O (zqT 1000 tR89 ts27 O hY tO (v) tO O (Va 3 O tO (zqT 2000 tR27 ts3 O dh tO (r.length-1) tO O (Vs 5 O (zr9 0 results103 O O rfl)))))))))
theorem zgJ {v:Nat} {sp:List Value} {u:Value} (h:(HE.own b ((rv++sp).set v u) e).holds w) (hv:v<rv.length) (hl:(rv++sp).length=c) (hc:rv.length<=c/\c<=9223372036854775807):(HE.row e 1 (.slice (some ⟨b,0,none⟩) rv.length c) (rv.set v u).length (rv.set v u)).holds w:=by
 have h1:Blk w b ((rv++sp).set v u) e:=h;have h2:=zN (k:=1) (n:=rv.length) h1 hc.1 hc.2 tD;rw[zvs _ _ hv,zvU,zvA tD,zvB tD]at h2;show w.ownsRow 0 e 1 _ _ _
 grind
abbrev zhO (b gb:Nat) (ofv ndv chv cuv:Value) (rv:List Value) (rows:List (List Int)):Hp:=[(900,.own b (rnm gb ofv ndv chv cuv) 123),(902,.row 27 1 cuv rv.length rv),(903,RowsP zb 3 rv rows)]
theorem zcY (v:Nat) (k:Int) (rows:List (List Int)) (rv:List Value) (r:List Int) (hr:rows[v]?=some r) (dc:r.length<=1000000000) (dg:rv.length=rows.length) (b gb:Nat) (ofv ndv chv cuv:Value) (W:World) (hE:Held (zhO b gb ofv ndv chv cuv rv rows) W) :
  Calls prog 102 #[.pointer (some ⟨b,0,none⟩),.int .i64 v,.int .i64 k] W (Ret fun rr w'=>∃ y:Nat × Nat × Value,rr=.func (.func 149) #[] #[.pointer (some ⟨y.1,0,none⟩),.pointer (some ⟨y.2.1,0,none⟩)]/\GBack (zhO b gb ofv ndv chv cuv rv rows) (zhO b gb ofv ndv chv cuv (rv.set v y.2.2) (rows.set v (r++[k]))++[(905,.own y.1 [.pointer (some ⟨b,0,none⟩)] 121),(906,.own y.2.1 [.int .i64 v] 3)]) W w'):=by
 have dh:=(zt5.1 hr).1;obtain⟨u,hu⟩:∃ u,rv[v]?=some u:=j9;refine zqs func102 O ntmps102 O (zrL [(900,.own b [.pointer (some ⟨gb,0,none⟩),ofv,ndv,chv,cuv] 123),(902,.row 27 1 cuv rv.length rv),(903,RowsP zb 3 rv rows)] hE.1 hE.2 (zqO 0 900 0 O O (zqX 902 O tO ?_)));rintro bc cc rfl hY;refine zsB 902 O fun sp da db=>(Vs 2 O (V.box 3 O O (fun b3=>?_)));refine V.box 4 O O (fun b4=>(Vs 4 O (Vw [900,902,3,4] [16] O (Vd [0,1,2,4,5,6,7,9,12] 0 tK O O O (zrC 3 O tK O 0 O O (fun w hI=>R.load tg89 O (v:=.slice (some ⟨bc,0,none⟩) rv.length cc) (by exact Blk.cells (hI.at 900 O) 4 _ O)) (zrC 8 O tK O 0 O O (fun w hI=>R.load tg89 O (v:=.slice (some ⟨bc,0,none⟩) rv.length cc) (by exact Blk.cells (hI.at 900 O) 4 _ O)) (zrx 10 O tK O (fun w=>zph tR89 ts27 O O O tO) ?_)))))));refine zrC 11 O tK O 0 O O (fun w hI=>R.load tg27 O (zqS (hI.at 902 O) (by rw[zth tO];exact hu))) ?_;refine zrp 13 20 0 [(0,_)] tR27 ts3 tz3 tS O tK O O tK (fun b20=>(zrE 14 903 20 0 (v) tu27 Tryz.el3 O O tK O O (hu) (hr) tO (fun u903 hC=>?_)));refine zrx 15 O tK O (fun w=>zph tR89 ts27 O O O tO) (zrF 16 902 (v) ts27 O tK O (hC) tO tO (VDx.done tK (Vs 8 O (V.as 902 (e':=.row 27 1 (.slice (some ⟨bc,0,none⟩) rv.length cc) (rv.set v u903).length (rv.set v u903)) O O (fun w h=>zgJ h tO da db) trivial (fun _ h=>h) (fun q hq=>by cases hq;rfl) (V.ren [(3,905),(4,906)] [(0,some (900,0)),(3,some (905,0)),(4,some (906,0))] O O (zoV results102 O (fun w hI=>⟨_,rfl,(b3,b4,u903),rfl,hI.back 0 O O O rfl⟩)))))))
theorem zjy {g n:Nat} (h:w.ownsRow 0 e 1 (.slice (some ⟨g,0,none⟩) n c) n xs) (hm:m<=n):w.ownsRow 0 e 1 (.slice (some ⟨g,0,none⟩) m c) m (xs.take m):=by
 have hl:xs.length=n:=by have:=h.1;omega
 obtain⟨sp,hB,hc,hY,hC⟩:=xr h;have h2:=zN (k:=1) (n:=m) (cap:=c) hB tO hY hC
 grind
theorem zhP {v:Nat} {r0:List Int} {k:Int} {g:Nat} (h:RowsOk zb 3 w rv rows) (hu:rv[v]?=some (.slice (some ⟨g,0,none⟩) (r0++[k]).length c)) (hr:rows[v]?=some (r0++[k])):RowsOk zb 3 w (rv.set v (.slice (some ⟨g,0,none⟩) r0.length c)) (rows.set v r0):=by
 refine h.put hu ?_ (.inl O) i3;have h1:=zjy (h.row v _ _ hu hr) (m:=r0.length) tD;rw[<- List.map_take,List.take_left]at h1;exact h1
theorem zjz (v:Nat) (k:Int) (rows:List (List Int)) (rv:List Value) (r0:List Int) (hr:rows[v]?=some (r0++[k])) (dl:r0.length<=1000000000) (dm:rv.length=rows.length) (b gb:Nat) (ofv ndv chv cuv:Value) (W:World) (hE:Held (zhO b gb ofv ndv chv cuv rv rows) W) (bx by':Nat) (hx:Cells W bx 0 [.pointer (some ⟨b,0,none⟩)]) (hy:Cells W by' 0 [.int .i64 v]) (db:∀ q,HS (zhO b gb ofv ndv chv cuv rv rows) q->q ≠ bx/\q ≠ by') :
  CallsD prog 149 #[.pointer (some ⟨bx,0,none⟩),.pointer (some ⟨by',0,none⟩)] .returning W (fun e u w'=>u=.returning/\Ret (fun rr w'=>∃ y:Value,rr=.tuple #[]/\GBack (zhO b gb ofv ndv chv cuv rv rows) (zhO b gb ofv ndv chv cuv (rv.set v y) (rows.set v r0)) W w') e w'):=by
 have dr:=(zt5.1 hr).1;have hC:RowsOk zb 3 W rv rows:=(hE.1 (903,RowsP zb 3 rv rows) tR).1;obtain⟨u,hu⟩:∃ u,rv[v]?=some u:=j9;obtain⟨ao,c,rfl,hg⟩:=qq hC hu hr;obtain⟨g,rfl⟩:=hg tR;have da:(r0++[k]).length=r0.length+1:=tR
 have dc:r0.length+1<=c:=by
  obtain⟨_,_,h1,_⟩:=xr (hC.row v _ _ hu hr);omega
 rw[da]at hu;refine zsA func149 O ntmps149 O (zrL [(900,.own b [.pointer (some ⟨gb,0,none⟩),ofv,ndv,chv,cuv] 123),(902,.row 27 1 cuv rv.length rv),(903,RowsP zb 3 rv rows)] hE.1 hE.2 (zrg 905 0 O O (fun h=>(db _ h).1 O) hx (zrg 906 0 O O (fun h=>(db _ h).2 O) hy (zqO 0 905 0 O O (zqO 1 906 0 O O (zqX 902 O tO ?_))))));rintro bc cc rfl hY;refine zsB 902 O fun sp dg dh=>(Vw [900,902,905,906] [23] O (Vd [0] 0 tK O O O (zqP 2 900 0 O O (Vd [1,2,3,4,5] 0 tK O O O (zqP 7 900 0 O O (Vb [6,7,8,9,10,12] 0 tK O O O tO (zqP 14 900 0 O O (Vb [13,14,15,16,17] 0 tK O O O tO (zrC 11 O tK O 0 O O (fun w hI=>R.load tg27 O (zqS (hI.at 902 O) (by rw[zth tO];exact hu))) ?_)))))))));refine zrC 18 O tK O 0 O O (fun w hI=>R.load tg27 O (zqS (hI.at 902 O) (by rw[zth tO];exact hu))) ?_;refine Vb [19,20] 0 tK O O O tO (zrx 21 O tK O (fun w=>zpM tR27 ts3 O O tO) (Vb [22] 0 tK O O O tO (zrF 23 902 (v) ts27 O tK O rfl tO tO (VDx.done tK ?_))));have hz:((((r0.length+1:Nat):Int) - 1).toNat)=r0.length:=tO;rw[hz];refine V.as 902 (e':=.row 27 1 (.slice (some ⟨bc,0,none⟩) rv.length cc) (rv.set v (.slice (some ⟨g,0,none⟩) r0.length c)).length (rv.set v (.slice (some ⟨g,0,none⟩) r0.length c))) O O (fun w h=>zgJ h tO dg dh) trivial (fun _ h=>h) (fun q hq=>by cases hq;rfl) ?_
 refine zrB 903 (e':=RowsP zb 3 (rv.set v (.slice (some ⟨g,0,none⟩) r0.length c)) (rows.set v r0)) O (fun w hI=>zhP (hI.at 903 O) tD hr) RowsP.loc (fun _ h=>h) (fun q hq=>by
   obtain⟨i,z,hz,he⟩:=hq;by_cases e:v=i
   .
    subst e;rw[zuH tO]at hz;obtain rfl:=Option.some.inj hz;exact⟨v,_,hu,he⟩
   .
    rw[zuG e]at hz
    exact⟨i,z,hz,he⟩) ?_
 refine zpa results149 (fun w hI=>⟨_,rfl,.slice (some ⟨g,0,none⟩) r0.length c,rfl,hI.back 0 O O O rfl⟩)
theorem qs (l:List (Int × Int)):(l.flatMap qW).length=l.length*2:=zQ yB l
theorem zjA (es:List (Int × Int)) (v:Value) (D:Nat->Prop) (w:World) (dh:SlR 2 xq D w v es) (dl:es.length<=1048576):Calls prog 175 #[v] w (Ret fun u w'=>w'.ownsRow 0 169 2 u es.length (es.flatMap qW)/\(∀ g,u.ownBlock=some g->w.heap.size<=g)/\Ext w w'):=by
 obtain⟨ao,cap,rfl,du,dw,db⟩:=dh;refine zqq func175 O ntmps175 O (Gs 9 O (zqg O O (zpO tu124 O) (Gs 2 O (zqf O (fun h=>?_) (fun h=>?_)))))
 .
  refine Gs 7 O ?_
  have:es=[]:=by
   cases es with
   | nil=>rfl
   | cons x r =>
    obtain⟨b,o,cs,hY,_⟩:=db 0 x rfl;rw[hY]at h;cases h
  subst this;refine zoU results175 O ⟨_,rfl,qF _ _ _,by simp[Value.ownBlock],Keep.refl _ _⟩
 obtain⟨a0,rfl⟩:∃ a0,ao=some a0:=by cases ao with
  | none=>cases h
  | some a0=>exact⟨a0,rfl⟩
 refine Gs 4 O (G.mem O O (zpP tR124 ts169) ?_);rintro _ w1 ⟨b,rfl,hb,hs,hB,hk⟩;refine Gs 1 O ?_;have da:w1.ownsRow 0 169 2 (.slice (some ⟨b,0,none⟩) 0 0) 0 []:=zN hB (ztg _) tO rfl
 have hC:∀ q u,(es.flatMap qW)[q]?=some u->w1.cell? (a0.add q)=some u:=by
  intro q u hq;have dx:q<es.length*2:=by rw[<- qs];exact(zt5.1 hq).1
  obtain⟨x,hx⟩:∃ x,es[q / 2]?=some x:=j9;obtain⟨b',o',cs,hY,_,dy,dm,rfl⟩:=db (q / 2) x hx;cases hY;have h1:∃ u',(qW x)[q % 2]?=some u':=⟨_,zsR (by rw[yB];omega)⟩;obtain⟨u',dc⟩:=h1;have h2:=zbk yB hx [] (q % 2) u' dc;rw[zu1,show q / 2*2+q % 2=q from tO,hq]at h2;cases h2;have h3:=dm (q % 2) u dc;rw[xg];rw[show o'+q / 2*2+q % 2=o'+q from tO]at h3;exact hk.cell h3 (fun h=>h)
 refine G.mem O O (M.append tu124 Tryz.el169 O tS O O da (qs es) hC (by intro u hu;obtain⟨x,_,hx⟩:=zv3.1 hu;exact zb4 x u hx) tO tO) ?_;rintro u w2 ⟨dg,dr,dt,_⟩;refine Gs 4 O (zoU results175 O ⟨_,rfl,tD,?_,hk.trans dt (fun q hq h=>by simp[Value.ownBlock]at h;omega)⟩);intro g hg;rcases dr with h' | ⟨g',h',h''⟩
 . rw[h']at hg;simp[Value.ownBlock]at hg;omega
 grind
theorem znU (m:Nat):Builtin.zeroCells (Value.agg #[.int .i64 0,.int .i64 0]).cells m=(List.replicate (m*2) (.int .i64 0)).toArray:=by
 apply Array.ext
 . simp[Builtin.zeroCells,Value.cells]
 intro i h1 h2;have:i % 2=0\/i % 2=1:=tO;rcases this with h | h<;>simp[Builtin.zeroCells,Value.cells,h]
theorem zfM (es:List (Int × Int)) (v:Value) (n:Nat) (w:World) (hC:w.ownsRow 0 169 2 v n (es.flatMap qW)) (dE:es.length<=1048576):Calls prog 178 #[v] w (Ret fun u w'=>w'.ownsRow 0 169 2 u (Gr.compactL es).length ((Gr.compactL es).flatMap qW)/\u.ownBlock=v.ownBlock/\Keep (fun q=>v.ownBlock=some q) w w'):=by
 have hn:n=es.length:=by
  have:=hC.1;rw[qs]at this;omega
 subst hn;by_cases h0:es=[]
 .
  subst h0
  obtain⟨l,c,hv⟩:∃ ao c,v=.slice ao 0 c:=by
   rcases hC.2 with⟨rfl,_⟩ | ⟨g,cap,cur,rfl,_⟩<;>exact⟨_,_,rfl⟩
  subst hv;refine zqq func178 O ntmps178 O (Gs 13 O (zoG O rfl (Gs 8 O (zoU tr178 O ⟨_,rfl,hC,rfl,Keep.refl _ _⟩))))
 obtain⟨g,cap,sp,rfl,_,dX,dF,hB,dG⟩:=qu yB tO hC h0;refine zqq func178 O ntmps178 O (Gs 13 O (zqe O (fun h2=>?_) (fun h2=>?_)))
 .
  refine Gs 8 O ?_
  have e1:Gr.compactL es=es:=by
   match es,h0,h2 with
   | [x],_,_=>rfl
   | x::y::r,_,h=>simp at h;omega
  refine zoU tr178 O ⟨_,rfl,tD,rfl,Keep.refl _ _⟩
 refine Gs 9 O ?_
 have e1:Gr.compactL (es.take 1)=es.take 1:=by
  match es,h0 with
  | x::r,_=>rfl
 refine G.loop (σ:=Nat) (fun k=>[(0,.slice (some ⟨g,0,none⟩) es.length cap),(3,.int .i64 k)]) (fun k=>fun w'=>1<=k/\k<=es.length/\Gr.compactL (es.take k)=es.take k/\Ext w w') (fun k=>es.length - k) 1 j2 ⟨tO,tO,e1,Keep.refl _ _⟩ ?_;rintro k w2 ⟨dY,dZ,dm,da⟩;have dr:=da.blk hB (fun h=>h);refine Gs 9 O (zqe O (fun d5=>?_) (fun d6=>?_))
 .
  refine Gs 5 O (Qt tK (Gs 2 O ?_));obtain⟨x,hx⟩:∃ e,es[k]?=some e:=j9;obtain⟨y,hy⟩:∃ e,es[k - 1]?=some e:=j9;refine Ga 1 O tO (zqj O O (fun w1 hY=>zpj tg169 ts169 O (by rfl) (hY.cells (yT yB dr hx) (fun h=>h))) (Ga 4 O tO (zqj O O (fun w1 hY=>zpj tg169 ts169 O (by rfl) (hY.cells (show Cells w2 g (0+((k:Int) - 1).toNat*2) (qW y) from by rw[show ((k:Int) - 1).toNat=k - 1 from tO];exact yT yB dr hy) (fun h=>h))) (zqj O O (fun w1 hY=>R.eqP underlying169 tu3 tK tK tg3 tK O O) (zqn (fun w3 dt=>?_))))));have dH:=dt.blk dr (fun h=>h)
  have dA:(Gr.compactL (es.take k)).getLast?=some y:=by
   grind
  refine Gs 1 O (zqe O (fun dI=>?_) (fun d7=>?_))
  .
   refine Gs 4 O ?_;have d8:x=y:=dI;refine zqg O O (zpN tR124 ts169 O O O tO tO) (Gs 10 O ?_)
   have dJ:Gr.compactL (es.take (k+1))=es.take k:=by
    rw[Gr.compactL_take hx];unfold Gr.cstep
    grind
   refine G.loop (σ:=Nat × Nat × List (Int × Int)) (fun⟨q,k2,L⟩=>[(0,.slice (some ⟨g,0,none⟩) es.length cap),(3,.int .i64 q),(4,.slice (some ⟨g,0+k*2,none⟩) (es.length - k) (cap - k)),(5,.int .i64 k2)]) (fun⟨q,k2,L⟩=>fun w'=>Blk w' g (L.flatMap qW++sp) 169/\L.length=es.length/\k<=q/\q+1<=k+k2/\1<=k2/\k2<=es.length - k/\L.take q=Gr.compactL (es.take (k+k2))/\L.drop (k+k2 - 1)=es.drop (k+k2 - 1)/\Keep (fun b=>b=g) w w') (fun⟨q,k2,L⟩=>es.length - k - k2) (k,1,es) j2 UB ?_;rintro⟨q,k2,L⟩ w4 ⟨dc,hL,d9,eb,dK,dL,dg,dh,du⟩;have dM:(L.flatMap qW++sp).length=cap*2:=by rw[<- dG,zsZ,zsZ,qs,qs,hL]
   refine Gs 9 O (zqe O (fun dN=>?_) (fun dO=>?_))
   .
    refine Gs 5 O (Qt tK (Gs 2 O ?_));obtain⟨x2,dw⟩:∃ e,es[k+k2]?=some e:=j9;obtain⟨y2,dB⟩:∃ e,es[k+k2 - 1]?=some e:=j9
    have dQ:L[k+k2]?=some x2:=by
     have:=congrArg (fun l=>l[1]?) dh;simp only[zuz]at this;rw[show k+k2 - 1+1=k+k2 from tO]at this;rw[this];exact dw
    have dR:L[k+k2 - 1]?=some y2:=by
     have:=congrArg (fun l=>l[0]?) dh;simp only[zuz,zvK]at this;rw[this];exact dB
    have dC:Cells w4 g (0+k*2+(k2:Int).toNat*2) (qW x2):=by
     have:=yT yB dc dQ
     grind
    have dS:Cells w4 g (0+k*2+((k2:Int) - 1).toNat*2) (qW y2):=by
     have:=yT yB dc dR
     grind
    refine Ga 1 O tO (zqj O O (fun w1 hY=>zpj tg169 ts169 O (by rfl) (hY.cells dC (fun h=>h))) (Ga 4 O tO (zqj O O (fun w1 hY=>zpj tg169 ts169 O (by rfl) (hY.cells dS (fun h=>h))) (zqj O O (fun w1 hY=>R.neP underlying169 tu3 tK tK tg3 tK O O) (zqn (fun w5 dl=>?_))))));have dD:=dl.blk dc (fun h=>h)
    have dx:(Gr.compactL (es.take (k+k2))).getLast?=some y2:=by
     have:=Gr.compactL_last dB
     grind
    refine Gs 1 O (zqe O (fun dT=>?_) (fun dU=>?_))
    .
     refine Ga 7 O tO (zqm O tg169 ts169 (dl.cells dC (fun h=>h)) O (Ga 1 O tO (zpt O (zpu ts169 O O O O (zb4 x2) dD tO) ?_)));rintro w6 ⟨dV,db,dy⟩;rw[ztd,zvY,zd5 yB tO]at db;refine Ga 14 O tO (G.back (q+1,k2+1,L.set q x2) j2 ⟨db,tD,tO,tO,tO,tO,?_,?_,(du.ext dl).trans dy (fun _ _ h=>h)⟩ tD)
     .
      rw[show k+(k2+1)=k+k2+1 from tO,Gr.compactL_take dw,<- dg];unfold Gr.cstep;rw[zt1 tD];rw[zvD tD];simp[zvC]
     rw[zue tO];have:=congrArg (List.drop 1) dh;simp only[zub]at this
     grind
    refine Ga 8 O tO (G.back (q,k2+1,L) j2 ⟨dD,hL,tO,tO,tO,tO,?_,?_,du.ext dl⟩ tD)
    .
     rw[show k+(k2+1)=k+k2+1 from tO,Gr.compactL_take dw,<- dg];unfold Gr.cstep
     grind
    have:=congrArg (List.drop 1) dh;simp only[zub]at this
    grind
   refine Gs 9 O (zqg O O (zpN tR124 ts169 O O O tO tO) (zpq O (M.clear (k:=2) (zs:=List.replicate ((es.length - q)*2) (.int .i64 0)) tR124 tz169 O tO (znU _) tR (by intro u hu;rw[zui hu];rfl) dc tO) ?_));rintro _ w6 ⟨rfl,dV,db,dy⟩;refine Gs 6 O (zqg O O (zpM tR124 ts169 O O tO) (Gs 9 O (zoU tr178 O ⟨_,rfl,?_,rfl,(du.trans dy (fun _ _ h=>h)).mono Jq⟩)));have dz:k+k2=es.length:=tO;rw[dz,zsW]at dg;have dW:(Gr.compactL es).length=q:=tD;have ec:q*2<=(L.flatMap qW++sp).length:=tO;rw[dW];rw[ztd,zvY]at db;have h7:=zN (k:=2) (n:=q) (cap:=cap) db tO dF tD;rw[zu0,zvA tD,List.take_take,Nat.min_self,zvA (by rw[qs];omega),jy yB,dg]at h7;exact h7
  refine Ga 8 O tO (G.back (k+1) j2 ⟨tO,tO,?_,da.ext dt⟩ tO);rw[Gr.compactL_take hx];unfold Gr.cstep;rw[zt1 tD,dm];rw[zvD tO];rw[zsR tO]at hx;cases hx;rfl
 refine Gs 12 O ?_;have:k=es.length:=tO;subst this;rw[zsW]at dm;refine zoU tr178 O J0
end Go.Proofs.YtckdhgbepmpgiaaGreat
namespace Go.GL
open Go.Sort Go.Proofs
theorem zlq (h:Ext w w'):∃ q os,w'=grow (w.drewN q) os:=by
 refine⟨w'.drawn - w.drawn,w'.heap.extract w.heap.size w'.heap.size,?_⟩;have hd:=h.drawn
 have hh:w'.heap=w.heap++w'.heap.extract w.heap.size w'.heap.size:=by
  apply zto;intro i;by_cases hi:i<w.heap.size
  .
   rw[ztq hi];exact h.block i hi (fun h=>h)
  rw[Array.getElem?_append_right tO,Array.getElem?_extract];by_cases hC:i<w'.heap.size
  . grind
  rw[zt1 tO,zts tO]
 have:∀ (a b:World),a.heap=b.heap->a.tape=b.tape->a.drawn=b.drawn->a.os=b.os->a.output=b.output->a=b:=by
  intro a b h1 h2 h3 h4 h5;cases a;cases b;simp at h1 h2 h3 h4 h5;subst h1 h2 h3 h4 h5;rfl
 refine this _ _ hh h.tape ?_ h.os h.output;show w'.drawn=w.drawn+(w'.drawn - w.drawn);omega
section
variable [Inhabited α] {enc:α->List Value}
theorem zcZ (hk:∀ x,(enc x).length=k) (d:Array α):(flatK enc k d).toList=d.toList.flatMap enc:=by
 apply zuj;intro t;have hl:(d.toList.flatMap enc).length=d.size*k:=by rw[zQ hk,ztw]
 by_cases ht:t<d.size*k
 .
  have hC:0<k:=by
   grind
  have hd:t / k<d.size:=Nat.div_lt_of_lt_mul tD;have hm:t % k<k:=Nat.mod_lt _ hC;have h1:=get_flatK enc k d t ht
  have h2:(flatK enc k d).toList[t]?=some ((flatK enc k d)[t]!):=by
   rw[ztv,getElem!_pos _ t (by simpa using ht)];exact ztr (by simpa using ht)
  rw[h2,h1]
  have h3:d.toList[t / k]?=some d[t / k]!:=by
   rw[ztv,getElem!_pos _ (t / k) hd];exact ztr hd
  have h4:(enc d[t / k]!)[t % k]?=some ((enc d[t / k]!)[t % k]!):=by
   rw[getElem!_pos _ (t % k) tD];exact zsR tD
  have h5:=zbk hk h3 [] (t % k) _ h4;rw[zu1,Nat.mul_comm,Nat.div_add_mod]at h5;rw[h5]
 rw[ztf (by rw[ztw,size_flatK];omega),ztf tO]
theorem zdN (hk:∀ x,(enc x).length=k) (l:List α) (d:Array α) (sp:List Value) (hs:d.size=l.length):putCells id 0 (flatK enc k d) (l.flatMap enc++sp).toArray=(d.toList.flatMap enc++sp).toArray:=by
 have hl:=zQ hk l;have hY:(d.toList.flatMap enc).length=d.size*k:=by rw[zQ hk,ztw]
 have hC:=size_flatK enc k d;apply zto;intro j;rw[<- zcZ hk d];simp only[putCells,Array.getElem?_mapIdx,List.getElem?_toArray];by_cases hj:j<d.size*k
 .
  rw[zth tD,zth tD];rw[zsR tD];simp only[zw4,zt6,zvY,hC,hj,and_self,if_true,Nat.sub_zero,id];rw[ztv,getElem!_pos _ j tO];exact(ztr tO).symm
 rw[zti tD,zti tD];simp only[hl,<- hs,ztw,hC,zvY,hj,and_false,if_false,Option.map_id']
theorem zhQ (hk:∀ x,(enc x).length=k) {l:List α} {sp:List Value} (hb:Blk w b (l.flatMap enc++sp) e):HoldsK enc k w b 0 l.toArray:=by
 intro j hj;rw[size_flatK]at hj;refine⟨?_,hb.frozen⟩
 have h1:(flatK enc k l.toArray).toList[j]?=some ((flatK enc k l.toArray)[j]!):=by
  rw[ztv,getElem!_pos _ j (by simpa using hj)];exact ztr (by simpa using hj)
 rw[zcZ hk]at h1;refine hb.cells j _ ?_;rw[zth (zt5.1 h1).1];exact h1
theorem zf0 (hk:∀ x,(enc x).length=k) {l:List α} {sp:List Value} (hb:Blk w b (l.flatMap enc++sp) e) (d:Array α) (hs:d.size=l.length) (m:Nat) (os:Array Obj) :
  Blk (sortWorldK enc k w b 0 m d os) b (d.toList.flatMap enc++sp) e/\Keep (fun q=>q=b) w (sortWorldK enc k w b 0 m d os):=by
 have hC:=hb.lt;have db:(putRow id (Sort.ahead w m) b 0 (flatK enc k d)).heap.size=w.heap.size:=by simp[Sort.ahead]
 have hY:∀ i,i<w.heap.size->(sortWorldK enc k w b 0 m d os).heap[i]?=(putRow id (Sort.ahead w m) b 0 (flatK enc k d)).heap[i]?:=by
  intro i hi;show ((putRow id (Sort.ahead w m) b 0 (flatK enc k d)).heap++os)[i]?=_;rw[ztq tO]
 refine⟨?_,rfl,rfl,rfl,Nat.le_add_right _ _,?_,?_⟩
 .
  unfold Blk at *;rw[hY b hC];show (w.heap.modify b _)[b]?=_;rw[ztu,zt2 rfl,hb];simp only[zw4,onCells];rw[zdN hk l d sp hs]
 . grind
 intro i hi da;rw[hY i hi];show (w.heap.modify b _)[i]?=_;rw[ztu,zt1 (fun h=>da h.symm)]
theorem zfN {l:List α} {d:Array α} (h:PermIn 0 l.toArray.size l.toArray d):d.toList.Perm l:=by
 obtain⟨h1,_,h3⟩:=h;have e1:l.toArray.extract 0 l.toArray.size=l.toArray:=tR;have e2:d.extract 0 l.toArray.size=d:=tD
 grind
theorem zdO {lt:α->α->Bool} {d:Array α} {n:Nat} (hn:d.size=n) (h:SortedIn lt 0 n d):d.toList.Pairwise (fun a b=>lt b a=false):=by
 subst hn;rw[zvi];intro i j hi hj hC;have:=h i j (zt6 _) hC tO
 grind
end
theorem zgK {α:Type} {p:α->Prop}:∀ {l:List α},(∀ x ∈ l,p x)->∃ m:List { x // p x },m.map Subtype.val=l
 | [],_=>⟨[],rfl⟩
 | x::r,h=>by
  obtain⟨m,hm⟩:=zgK (l:=r) (fun y hy=>h y iu);exact⟨⟨x,h x (zsV ..)⟩::m,tD⟩
end Go.GL
namespace Go.Proofs
open Go.Shelf
def Tryz.laysSlF06P_ren:Go.Shelf.Ren:=⟨fun | 6=>176 | 15=>155 | 14=>207 | 28=>193 | 29=>194 | 20=>216 | 21=>217 | 22=>218 | 23=>219 | 24=>220 | 25=>221 | 26=>222 | 27=>223 | 46=>225 | 47=>209 | 48=>210 | 49=>226 | 50=>227 | 57=>228 | n=>n,fun | 22=>124 | 24=>169 | 25=>237 | 3=>3 | 39=>222 | 0=>0 | 53=>252 | 55=>254 | 4=>4 | 46=>246 | 45=>245 | 50=>207 | 5=>5 | 9=>9 | 66=>262 | 70=>266 | 76=>274 | 77=>201 | n=>n,fun | n=>n⟩
theorem Tryz.laysSlF06P:Go.Proofs.SlLaysF0.n6 prog Tryz.laysSlF06P_ren:={
 mixed:=tK
 f6:=⟨Tryz.f176.name,tS,Tryz.func176.trans iD⟩
 f14:=⟨Tryz.f207.name,tS,Tryz.func207.trans iD⟩
 f15:=Tryz.func155.trans iD
 f20:=⟨Tryz.f216.name,tS,Tryz.func216.trans iD⟩
 f21:=⟨Tryz.f217.name,tS,Tryz.func217.trans iD⟩
 f22:=⟨Tryz.f218.name,tS,Tryz.func218.trans iD⟩
 f23:=⟨Tryz.f219.name,tS,Tryz.func219.trans iD⟩
 f24:=⟨Tryz.f220.name,tS,Tryz.func220.trans iD⟩
 f25:=⟨Tryz.f221.name,tS,Tryz.func221.trans iD⟩
 f26:=⟨Tryz.f222.name,tS,Tryz.func222.trans iD⟩
 f27:=⟨Tryz.f223.name,tS,Tryz.func223.trans iD⟩
 f28:=Tryz.func193.trans iD
 f29:=Tryz.func194.trans iD
 f46:=⟨Tryz.f225.name,tS,Tryz.func225.trans iD⟩
 f47:=Tryz.func209.trans iD
 f48:=Tryz.func210.trans iD
 f49:=⟨Tryz.f226.name,tS,Tryz.func226.trans iD⟩
 f50:=⟨Tryz.f227.name,tS,Tryz.func227.trans iD⟩
 f57:=⟨Tryz.f228.name,tS,Tryz.func228.trans iD⟩
 t0:=underlying0
 a0:=isAgg0
 z0:=sizeOf0
 v0:=zeroValue0
 t3:=tu3
 a3:=tg3
 z3:=ts3
 v3:=tz3
 t4:=tu4
 a4:=tg4
 z4:=ts4
 v4:=zeroValue4
 t5:=underlying5
 a5:=isAgg5
 z5:=sizeOf5
 v5:=zeroValue5
 t9:=tu9
 a9:=tg9
 z9:=ts9
 v9:=zeroValue9
 t22:=tu124
 a22:=isAgg124
 z22:=sizeOf124
 v22:=zeroValue124
 t25:=underlying237
 a25:=isAgg237
 z25:=sizeOf237
 v25:=zeroValue237
 t39:=underlying222
 a39:=isAgg222
 z39:=sizeOf222
 v39:=zeroValue222
 t45:=underlying245
 a45:=isAgg245
 z45:=sizeOf245
 v45:=zeroValue245
 t46:=underlying246
 a46:=isAgg246
 z46:=sizeOf246
 v46:=zeroValue246
 t50:=underlying207
 a50:=isAgg207
 z50:=sizeOf207
 v50:=zeroValue207
 t53:=underlying252
 a53:=isAgg252
 z53:=sizeOf252
 v53:=zeroValue252
 t55:=underlying254
 a55:=isAgg254
 z55:=sizeOf254
 v55:=zeroValue254
 t66:=underlying262
 a66:=isAgg262
 z66:=sizeOf262
 v66:=zeroValue262
 t70:=underlying266
 a70:=isAgg266
 z70:=sizeOf266
 v70:=zeroValue266
 t76:=underlying274
 a76:=isAgg274
 z76:=sizeOf274
 v76:=zeroValue274
 t77:=underlying201
 a77:=isAgg201
 z77:=sizeOf201
 v77:=zeroValue201 }
open Go.RowKit Go.Lib Go.Sort in
theorem Tryz.slices_SortFuncP [Inhabited α] (k:Nat) (aE:∀ w,(isAgg 169).run prog w=.ok true w) (zE:∀ w,(Go.sizeOf 169).run prog w=.ok k w) (enc:α->List Value) (hk:∀ x,(enc x).length=k) (h1:∀ x,∀ v ∈ enc x,v.oneCell'=true) (cf:α->α->Int) (hO:SWO (ltOf cf)) (g:Nat) (cb:Array Value) (blk off cap:Nat) (d:Array α) (w:World) (eg:∀ args w,(callFunc g args).run prog w=.ok (.enter g args) w) (hC:CmpLays prog g cb enc k cf blk off d.size w) (hH:HoldsK enc k w blk off d) (hY:blk<w.heap.size) (da:d.size<4611686018427387904) :
  Calls prog 176 #[.slice (some ⟨blk,off,none⟩) d.size cap,.func (.func g) #[] cb] w fun e w' =>
   e=.returned (.tuple #[])/\∃ d' n os,PermIn 0 d.size d d'/\SortedIn (ltOf cf) 0 d.size d'/\w'=sortWorldK enc k w blk off n d' os:=AnyQ.slices_SortFunc Tryz.laysSlF06P k aE zE enc hk h1 cf hO g cb blk off cap d w eg hC hH hY da
open Go.RowKit Go.Lib Go.Sort in
theorem Tryz.slices_SortFuncP_none [Inhabited α] (p:Option Addr) (cap:Nat) (fv:Value) (w:World) :
  Calls prog 176 #[.slice p 0 cap,fv] w fun e w'=>e=.returned (.tuple #[])/\w'=w:=AnyF.slices_SortFunc_none Tryz.laysSlF06P p cap fv w
end Go.Proofs
namespace Go.Proofs.YtckdhgbepmpgiaaGreat
open Go.GL
def bd (p:Int × Int):Prop := -4611686018427387904<=p.1/\p.1<=4611686018427387903 /\ -4611686018427387904<=p.2/\p.2<=4611686018427387903
def zaX (x y:Int × Int):Prop:=x.1<y.1\/x.1=y.1/\x.2<y.2
theorem zlr (f:FuncId) (hf:∀ args w,(callFunc f args).run prog w=.ok (.enter f args) w) (cf:Int × Int->Int × Int->Int)
  (dr:∀ x y W,bd x->bd y->Calls prog f #[.agg #[.int .i64 x.1,.int .i64 x.2],.agg #[.int .i64 y.1,.int .i64 y.2]] W (Ret fun v w'=>v=.int .i64 (cf x y)/\Ext W w'))
  (dy:∀ x y,bd x->bd y->(cf x y<0 ↔ zaX x y)) (es:List (Int × Int)) (hb:∀ e ∈ es,bd e) (dt:es.length<=1048576) (v:Value) (n:Nat) (w:World) (hC:w.ownsRow 0 169 2 v n (es.flatMap qW)) :
  Calls prog 176 #[v,.func (.func f) #[] #[]] w (Ret fun u w'=>u=.tuple #[]/\∃ es':List (Int × Int),es'.Perm es/\es'.Pairwise (fun a b=>¬ zaX b a)/\w'.ownsRow 0 169 2 v n (es'.flatMap qW)/\Keep (fun q=>v.ownBlock=some q) w w'):=by
 have hn:n=es.length:=by
  have:=hC.1;rw[qs]at this;omega
 subst hn;by_cases h0:es=[]
 .
  subst h0;obtain⟨ao,c,rfl⟩:=yb hC;refine(Tryz.slices_SortFuncP_none (α:=Nat) ao c (.func (.func f) #[] #[]) w).mono ?_;rintro e w' ⟨rfl,rfl⟩;exact⟨_,rfl,rfl,[],List.Perm.refl _,List.Pairwise.nil,hC,Keep.refl _ _⟩
 obtain⟨g,cap,sp,rfl,_,du,dw,hB,dz⟩:=qu yB tO hC h0;obtain⟨m,hm⟩:=zgK hb;have dl:m.length=es.length:=tD;haveI:Inhabited { x // bd x }:=⟨⟨(0,0),by unfold bd;omega⟩⟩
 have hY:∀ x y:{ x // bd x },Go.Proofs.ltOf (fun x y:{ x // bd x }=>cf x.1 y.1) x y=true ↔ zaX x.1 y.1:=by
  intro x y;unfold Go.Proofs.ltOf
  grind
 have da:∀ x y:{ x // bd x },Go.Proofs.ltOf (fun x y:{ x // bd x }=>cf x.1 y.1) x y=false ↔ ¬ zaX x.1 y.1:=by
  grind
 have dh:Go.Sort.SWO (Go.Proofs.ltOf fun x y:{ x // bd x }=>cf x.1 y.1):=by
  refine⟨?_,?_,?_⟩
  . intro x;rw[da];unfold zaX;omega
  . intro x y z;rw[hY,hY,hY];unfold zaX;omega
  intro x y z;rw[da,da,da];unfold zaX;omega
 have db:∀ l:List { x // bd x },l.flatMap (fun x=>qW x.1)=(l.map Subtype.val).flatMap qW:=fun l=>by rw[zus]
 have dm:Blk w g (m.flatMap (fun x=>qW x.1)++sp) 169:=tD
 have dc:=Tryz.slices_SortFuncP (α:={ x // bd x }) 2 tg169 ts169 (fun x=>qW x.1) j1 (fun x v hv=>zb4 x.1 v hv) (fun x y=>cf x.1 y.1) dh f #[] g 0 cap m.toArray w hf
  (fun q os dk _ x y=>by
   refine(dr x.1 y.1 _ x.2 y.2).mono ?_;rintro e w' ⟨v,rfl,rfl,hk⟩
   exact⟨rfl,zlq hk⟩)
  (zhQ (enc:=fun x:{ x // bd x }=>qW x.1) (k:=2) j1 dm) hB.lt tD
 rw[show m.toArray.size=es.length from tO]at dc;refine dc.mono ?_;rintro e w' ⟨rfl,d',q,os,hp,hs,rfl⟩;have dx:d'.size=m.length:=by have:=hp.1;simpa using this
 have hw:=zf0 (enc:=fun x:{ x // bd x }=>qW x.1) (k:=2) j1 dm d' dx q os
 have dg:(d'.toList.map Subtype.val).Perm es:=by
  have h1:d'.toList.Perm m:=zfN tD
  grind
 refine⟨_,rfl,rfl,d'.toList.map Subtype.val,dg,?_,?_,hw.2.mono Jq⟩
 .
  rw[zvj];refine(zdO tO hs).imp ?_;intro a b h;exact(da _ _).1 h
 have h3:=hw.1;rw[db]at h3;have h4:=qY (enc:=qW) (cap:=cap) yB h3 tD (k:=es.length) tD du dw;rw[zvB tD]at h4;exact h4
def zaS (es s:List (Int × Int)):Prop:=s.Pairwise zaX/\(∀ e,e ∈ s ↔ e ∈ es)/\s.length<=es.length
theorem zf1 (n:Int) (es:List (Int × Int)) (ev:Value) (D:Nat->Prop) (w:World) (dm:SlR 2 xq D w ev es) (da:es.length<=1048576) (hb:∀ e ∈ es,bd e):Calls prog 143 #[.int .i64 n,ev] w (Ret fun u w'=>∃ s v,zaS es s/\u=.agg #[.int .i64 n,v]/\SlR 2 xq (fun b=>w.heap.size<=b) w' v s/\Ext w w'):=by
 have dC:ev.oneCell'=true/\ev.cells=#[ev]:=by obtain⟨ao,cap,rfl,_⟩:=dm;exact x1
 refine zqr func143 O ntmps143 O (Gs 2 O (G.mem O O (M.alloc (cs:=_) tz126 O) ?_));rintro _ w1 ⟨b,rfl,dD,dE,du,dr⟩;refine Gs 5 O (G.call O call175 (zjA es ev D w1 (dm.ext zU dr) da) ?_);rintro v2 w2 ⟨db,dw,dx⟩;refine Gs 6 O (G.call O call176 (zlr 177 call177 (fun a b=>if a.1 ≠ b.1 then a.1 - b.1 else a.2 - b.2) (fun x y W hx hy=>zh3 x y W hx hy) (fun x y _ _=>by unfold zaX;split<;>omega) es hb da v2 es.length w2 db) ?_);rintro _ w3 ⟨rfl,es',hY,dc,dg,dy⟩;refine Gs 6 O (G.call O call178 (zfM es' v2 es.length w3 dg (by rw[hY.length_eq];exact da)) ?_);rintro v4 w4 ⟨hC,dz,dA⟩;have dh:Ext w1 w4:=(dx.trans dy (fun q hq h=>tD)).trans dA (fun q hq h=>tD)
 have dF:v4.oneCell'=true/\v4.cells=#[v4]:=by
  rcases hC.2 with⟨rfl,_⟩ | ⟨g,cap,cur,rfl,_⟩<;>exact x1
 obtain⟨a4,l4,c4,rfl⟩:∃ a l c,v4=.slice a l c:=by
  rcases hC.2 with⟨rfl,_⟩ | ⟨g,cap,cur,rfl,_⟩<;>exact⟨_,_,_,rfl⟩
 refine zqg O O (R.build (v:=.agg #[.int .i64 n,.slice a4 l4 c4]) [(0,_),(1,_)] O (fun _=>tK)) (zpt O (zpu ts126 O O O O tX (dh.blk du (fun h=>h)) tR) ?_);rintro w5 ⟨dG,dB,dt⟩;refine Gs 3 O (zp3 results143 O (kM tg126 ts126 O dB.cells) ?_);have dl:Ext w w5:=(dr.ext dh).trans dt (fun q hq h=>tO);have dH:b<w4.heap.size:=by have:=dh.size;omega
 refine⟨_,rfl,Gr.compactL es',.slice a4 l4 c4,⟨?_,?_,by rw[<- hY.length_eq];exact Gr.compactL_len _⟩,rfl,?_,dl⟩
 .
  have h1:=Gr.compactL_strict (le:=fun a b=>¬ zaX b a) (fun a b h1 h2=>by unfold zaX at h1 h2;apply Prod.ext<;>omega) dc;refine h1.imp ?_;rintro a b ⟨h2,h3⟩;unfold zaX at *;by_cases h4:a.1=b.1
  . grind
  omega
 .
  intro e;rw[Gr.compactL_mem]
  grind
 have h5:=zj hC dt (fun g hg h=>tD);exact zpL tO qW yB J4 h5 (fun g hg=>tD)
structure Succs (n:Nat) (es:List (Int × Int)) (R:List (List Int)):Prop where
 len:R.length=n
 mem:∀ (a:Nat) r,R[a]?=some r->∀ b,b ∈ r ↔ ((a:Int),b) ∈ es
 sorted:∀ (a:Nat) r,R[a]?=some r->r.Pairwise (·<·)
theorem zce (n:Nat):madeCells (Value.slice none 0 0).cells (n*1)=(List.replicate n (.slice none 0 0)).toArray:=yL _ n rfl
theorem zls (n:Nat) (es:List (Int × Int)) (ev:Value) (D:Nat->Prop) (w:World) (dJ:SlR 2 xq D w ev es) (dx:es.length<=1048576) (hn:n<=4096) (dK:es.all (Gr.okE n)=true):Calls prog 179 #[.int .i64 n,ev] w (Ret fun u w'=>∃ R,Succs n es R/\SlR 1 (RSl 1 zG) (fun b=>w.heap.size<=b) w' u R/\Ext w w'):=by
 have dE:∀ e ∈ es,0<=e.1/\e.1<n/\0<=e.2/\e.2<n:=by
  intro e he;have:=ztX.1 dK e he;simp[Gr.okE]at this;omega
 refine zqr func179 O ntmps179 O (Gs 8 O (G.mem O O (zpv tu89 Tryz.el27 O O tO tO (zce n)) ?_));rintro _ w1 ⟨bo,rfl,d9,eb,dL,du⟩;refine Gs 8 O (G.call O call143 (zf1 n es ev D w1 (dJ.ext zU du) dx (fun e he=>by have:=dE e he;unfold bd;omega)) ?_);rintro _ w2 ⟨s,v,⟨dM,dF,dN⟩,rfl,dO,dw⟩;obtain⟨ao,cap,rfl,ec,ed,dQ⟩:=dO;refine zqg O O (R.field runUnderlying126 O isAgg124 O O) (Gs 5 O ?_)
 have dR:Mat (Value.int .i64) 3 27 w2.heap.size w2 bo (List.replicate n (.slice none 0 0)) (Gr.rowsOf n []):=by
  rw[Gr.rowsOf_nil];exact(Mat.start dL).ext dw
 refine G.loop (σ:=Nat × List Value) (fun⟨k,rv⟩=>[(5,.slice (some ⟨bo,0,none⟩) n n),(13,.slice ao s.length cap),(14,.int .i64 s.length),(15,.int .i64 k)]) (fun⟨k,rv⟩=>fun w'=>k<=s.length/\Mat (Value.int .i64) 3 27 w2.heap.size w' bo rv (Gr.rowsOf n (s.take k))/\(∀ b,w1.heap.size<=b->b<w2.heap.size->w'.heap[b]?=w2.heap[b]?)/\Ext w w'/\w2.heap.size<=w'.heap.size) (fun⟨k,rv⟩=>s.length - k) (0,List.replicate n (.slice none 0 0)) j2 ⟨zt6 _,dR,fun _ _ _=>rfl,du.ext dw,ztg _⟩ ?_;rintro⟨k,rv⟩ w3 ⟨ee,hM,dg,dG,dS⟩;refine Gs 6 O (zqe O (fun dH=>?_) (fun ef=>?_))
 .
  refine Gs 6 O ?_;obtain⟨e,he⟩:∃ e,s[k]?=some e:=j9;obtain⟨be,oe,ce,dT,dU,eh,dV,rfl⟩:=dQ k e he;have ei:=dE e ((dF e).1 (zsS he));obtain⟨a,ha⟩:∃ a:Nat,e.1=(a:Int):=⟨e.1.toNat,tO⟩;have dW:s[k]?=some ((a:Int),e.2):=tD;refine zqg O O (zph tR124 ts169 O O dT tO) (zqm O tg169 ts169 (dV.same (fun dH=>dg be dU dH)) O (G.mem O O (M.alloc (cs:=_) tz169 O) ?_));rintro _ w4 ⟨b4,rfl,ej,ek,dX,dY⟩;refine zpt O (zpu ts169 O O O O (zb4 e) dX tR) ?_;rintro w5 ⟨em,dZ,d5⟩;have dh:Ext w3 w5:=dY.trans d5 (fun q hq h=>tO);have dI:=hM.ext dh;have hm:=Mat.at (i:=a) dI (by rw[Gr.rowsOf_len];omega);obtain⟨v,r,hv,hr⟩:=hm;refine Gs 2 O (Dw (fun w'=>Blk w' b4 (qW e) 169/\Blk w' bo rv 27) [13] (fun w6 dy er=>?_));have db:=dy.blk dZ (fun h=>h);have dc:=dI.ext dy;refine Ds [0] tK O (zpG 1 O tK O O O (fun w1=>zpi tR169 ts3 O O tO) (WD.take 2 O tK O O O ⟨db,dc.out⟩ (fun w1 hY=>R.load tg3 O (hY.1.cells 0 _ O)) (Ds [3] tK O (zpG 4 O tK O O O (fun w1=>zpi tR169 ts3 O O tO) (WD.take 5 O tK O O O ⟨db,dc.out⟩ (fun w1 hY=>R.load tg3 O (hY.1.cells 0 _ O)) (Da [6] tK O tO (WD.take 7 O tK O O O ⟨db,dc.out⟩ (fun w1 hY=>R.load tg27 O (hY.2.cells.el1 a ha hv)) ?_)))))));refine zpG 8 O tK O O O (fun w1=>zpi tR169 ts3 O O tO) (WD.take 9 O tK O O O ⟨db,dc.out⟩ (fun w1 hY=>R.load tg3 O (hY.1.cells 1 _ O)) (WD.mem 10 O tK O O O (M.buildSlice (cs:=[.int .i64 e.2]) [(0,_)] tR27 ts3 tz3 tS O tK) ?_));rintro _ w7 ⟨b7,rfl,ew,ez,d6,dl⟩;refine⟨fun _=>⟨dl.blk db (fun h=>h),dl.blk dc.out (fun h=>h)⟩,?_⟩;have dm:=dc.ext dl;have dz:=dm.row a v r hv hr
  have eA:r.length<=1048576:=by
   have h1:r.length<=s.length:=by
    rw[Gr.rowsOf_at tO]at hr
    grind
   omega
  refine WD.mem 11 O tK O O O (M.append tu27 Tryz.el3 O tS O O dz O (Cells.add d6.cells) (by simp;rfl) tO tO) ?_;rintro v' w8 ⟨hC,dA,dr,_⟩;obtain⟨av,cv,rfl⟩:=yb hC;have dt:v.ownBlock ≠ some bo:=fun h=>(dm.far a v bo hv h).2 rfl;have dB:v.ownBlock ≠ some b4:=fun h=>by have:=hM.blk hv h;omega
  refine⟨fun _=>⟨dr.blk (dl.blk db (fun h=>h)) dB,dr.blk dm.out dt⟩,?_⟩;refine Da [12] tK O tO (zps 13 O tK O O (M.store ts27 O O O O (dr.blk dm.out dt) tD) ?_);rintro w9 dC;refine⟨fun h=>absurd (zt9.2 O) h,?_⟩;rw[show 0+e.1.toNat*1=a from tO]at dC;have dD:Keep (fun q=>v.ownBlock=some q\/q=bo) w7 w9:=(dr.mono (fun _ _ h=>.inl h)).trans dC.2.2 (fun _ _ h=>.inr h);have da:Keep (fun q=>v.ownBlock=some q\/q=bo) w3 w9:=((dh.ext (dy.ext dl)).mono (fun _ _ h=>h.elim)).trans dD (fun _ _ h=>h);refine G.done tK ?_ _;refine Ga 6 O tO (G.back (k+1,rv.set a (.slice av (r.length+1) cv)) j2 ⟨tO,?_,?_,?_,?_⟩ tD)
  .
   show Mat _ _ _ _ _ _ _ (Gr.rowsOf n (s.take (k+1)));rw[Gr.rowsOf_take dW hr];exact dm.push tD hv hr hC dA dr dC
  .
   intro q d7 d8;rw[da.block q tO (fun h=>by rcases h with h | h<;>first | omega | (have:=hM.far a v q hv h;omega))];exact dg q d7 d8
  . exact dG.trans da (fun q hq h=>by have:=du.size;rcases h with h | h<;>first | omega | (have:=(hM.far a v q hv h).1;have:=dw.size;omega))
  have:=da.size;omega
 refine Gs 12 O (zoU results179 O ⟨_,rfl,Gr.rowsOf n s,⟨Gr.rowsOf_len n s,?_,?_⟩,?_,dG⟩)
 .
  intro a r hr b;rw[Gr.rowsOf_mem hr,dF]
 .
  intro a r hr;exact Gr.rowsOf_sorted hr dM
 have:k=s.length:=tO;subst this;rw[zsW]at hM;exact hM.sl j1 tO (fun i v g hv hg=>by have:=(hM.far i v g hv hg).1;have:=du.size;have:=dw.size;omega) (by rw[Gr.rowsOf_len]) (by rw[Gr.rowsOf_len];omega) tO
theorem zdP (n:Int) (es:List (Int × Int)) (ev:Value) (D:Nat->Prop) (w:World) (da:SlR 2 xq D w ev es):Calls prog 144 #[.agg #[.int .i64 n,ev]] w (Ret fun v w'=>∃ u,v=.tuple #[u,.int .i64 (Gr.check n es)]/\(Gr.check n es ≠ 0->u=.slice none 0 0)/\(Gr.check n es=0->∃ R,Succs n.toNat es R/\SlR 1 (RSl 1 zG) (fun b=>w.heap.size<=b) w' u R)/\Ext w w'):=by
 have db:=da;obtain⟨ao,cap,rfl,_⟩:=db;refine zqq func144 O ntmps144 O (Gs 2 O (G.mem O O (M.box O O) ?_));rintro _ w1 ⟨b,rfl,hb,dm,dc,hC⟩;refine Gs 7 O (zqm O tg126 ts126 dc.cells O (G.call O call142 (zga n es _ D w1 (da.ext zU hC)) ?_));rintro _ w2 ⟨rfl,hY⟩;have dg:=hY.blk dc (fun h=>h);refine Gs 9 O (zqe O (fun hc=>?_) (fun hc=>?_))
 . refine Gs 9 O (zoX results144 O O ⟨_,rfl,_,rfl,fun _=>rfl,fun h=>absurd h hc,hC.ext hY⟩)
 have dh:Gr.check n es=0:=by simpa using hc
 obtain⟨h1,h2,h3,h4⟩:=Gr.check_zero dh;obtain⟨m,rfl⟩:=ztN h1;refine Gs 5 O (zqk O tg3 (dg.cells 0 _ O) (Gs 1 O (zqk O isAgg124 (dg.cells 1 _ O) (G.call O call179 (zls m es _ D w2 ((da.ext zU hC).ext zU hY) h3 tO h4) ?_))));rintro u w3 ⟨Rw,hR,hu,dl⟩;refine Gs 5 O ?_;rw[dh];refine zoX results144 O O ⟨_,rfl,u,rfl,fun h=>absurd O h,fun _=>⟨Rw,hR,hu.wide (zP zc) (fun b h=>by have:=hC.size;have:=hY.size;omega)⟩,(hC.ext hY).ext dl⟩
end Go.Proofs.YtckdhgbepmpgiaaGreat
namespace Go.GL.Dom
def lk (l:List Int) (i:Nat):Int:=l[i]?.getD (-1)
theorem xJ {x:Int} (h:l[i]?=some x):lk l i=x:=by simp[lk,h]
theorem kr (h:0<=lk l i):l[i]?=some (lk l i):=by
 unfold lk at *
 grind
theorem yF {x:Int} (h:i<l.length):lk (l.set i x) i=x:=by simp[lk,h]
theorem yJ {x:Int} (h:i ≠ j):lk (l.set i x) j=lk l j:=by simp[lk,zuG h]
structure Chain (pl T:List Int) (root:Nat):Prop where
 rootT:lk T root=root
 rootP:lk pl root=0
 inj:∀ a b:Nat,0<=lk pl a->lk pl a=lk pl b->a=b
 proc:∀ b:Nat,0<=lk T b->0<=lk pl b
 par:∀ b:Nat,0<=lk T b->b ≠ root->∃ p:Nat,lk T b=p/\lk pl p<lk pl b/\0<=lk T p
inductive Anc (T:List Int) (root:Nat):Nat->Nat->Prop
 | refl (b:Nat):Anc T root b b
 | up {x b p:Nat}:b ≠ root->lk T b=(p:Int)->Anc T root x p->Anc T root x b
section
theorem Anc.place (hc:Chain pl T root) (h:Anc T root x b) (hb:0<=lk T b):lk pl x<=lk pl b/\0<=lk T x:=by
 induction h with
 | refl=>exact⟨Int.le_refl _,hb⟩
 | up hne hp _ ih =>
  obtain⟨p',h1,h2,h3⟩:=hc.par _ hb hne;rw[hp]at h1;have:(p':Int)=_:=h1.symm;have e:=Int.ofNat.inj this;subst e;obtain⟨h4,h5⟩:=ih h3;exact⟨tO,h5⟩
theorem Anc.trans (h:Anc T root x y) (h':Anc T root y b):Anc T root x b:=by
 induction h' with
 | refl=>exact h
 | up h1 h2 _ ih=>exact .up h1 h2 ih
theorem Anc.of_root (h:Anc T root x root):x=root:=by
 cases h with
 | refl=>rfl
 | up h1 _ _=>exact absurd rfl h1
theorem Anc.parent (h:Anc T root x b) (hC:x ≠ b) (hp:lk T b=(p:Int)):Anc T root x p:=by
 cases h with
 | refl=>exact absurd rfl hC
 | up h1 h2 h3 =>
  rw[hp]at h2;have e:=Int.ofNat.inj h2;subst e;exact h3
structure zhY (T:List Int) (root a b m:Nat):Prop where
 l:Anc T root m a
 r:Anc T root m b
 top:∀ x,Anc T root x a->Anc T root x b->Anc T root x m
structure MeetInv (T:List Int) (root a0 b0 a b:Nat):Prop where
 l:Anc T root a a0
 r:Anc T root b b0
 top:∀ x,Anc T root x a0->Anc T root x b0->Anc T root x a/\Anc T root x b
theorem MeetInv.start (a b:Nat):MeetInv T root a b a b:=⟨.refl _,.refl _,fun _ h1 h2=>⟨h1,h2⟩⟩
theorem MeetInv.done (h:MeetInv T root a0 b0 a a):zhY T root a0 b0 a:=⟨h.l,h.r,fun x h1 h2=>(h.top x h1 h2).1⟩
theorem MeetInv.left (hc:Chain pl T root) (h:MeetInv T root a0 b0 a b) (ha:0<=lk T a) (hb:0<=lk T b) (hC:lk pl b<lk pl a) (hp:lk T a=(p:Int)):MeetInv T root a0 b0 p b:=by
 have hY:a ≠ root:=by
  rintro rfl;have:=hc.proc b hb;rw[hc.rootP]at hC;omega
 refine⟨Anc.trans (.up hY hp (.refl _)) h.l,h.r,fun x h1 h2=>?_⟩;obtain⟨h3,h4⟩:=h.top x h1 h2;refine⟨h3.parent ?_ hp,h4⟩;rintro rfl;have:=(h4.place hc hb).1;omega
theorem MeetInv.right (hc:Chain pl T root) (h:MeetInv T root a0 b0 a b) (ha:0<=lk T a) (hb:0<=lk T b) (hC:a ≠ b) (hY:¬ lk pl b<lk pl a) (hp:lk T b=(p:Int)):MeetInv T root a0 b0 a p:=by
 have da:lk pl a<lk pl b:=by
  rcases Int.lt_or_eq_of_le (Int.not_lt.1 hY) with h | h
  . exact h
  exact absurd (hc.inj a b (hc.proc a ha) h) hC
 have db:b ≠ root:=by
  rintro rfl;have:=hc.proc a ha;rw[hc.rootP]at da;omega
 refine⟨h.l,Anc.trans (.up db hp (.refl _)) h.r,fun x h1 h2=>?_⟩;obtain⟨h3,h4⟩:=h.top x h1 h2;refine⟨h3,h4.parent ?_ hp⟩;rintro rfl;have:=(h3.place hc ha).1;omega
end
end Go.GL.Dom
namespace Go.Proofs.YtckdhgbepmpgiaaGreat
open Go.GL Go.GL.Dom
theorem qS {f:α->β} {l:List α} {x:α} (h:l[i]?=some x):(l.map f)[i]?=some (f x):=tD
theorem zmV {n:Nat} (w:World) (hc:Chain pl T root) (hW:Blk w bw [nv,bv,ov,.slice (some ⟨bp,0,none⟩) n n,.slice (some ⟨bt,0,none⟩) n n] 175) (hP:Blk w bp (pl.map (.int .i64)) 3) (hT:Blk w bt (T.map (.int .i64)) 3)
  (dl:pl.length=n) (dE:T.length=n) (a b:Nat) (ha:0<=lk T a) (hb:0<=lk T b) :
  Calls prog 181 #[.pointer (some ⟨bw,0,none⟩),.int .i64 a,.int .i64 b] w (Ret fun v w'=>∃ m:Nat,v=.int .i64 m/\zhY T root a b m/\0<=lk T m/\Ext w w'):=by
 refine zqs func181 O ntmps181 O (Gs 7 O (G.loop (σ:=Nat × Nat) (fun⟨x,y⟩=>[(0,.pointer (some ⟨bw,0,none⟩)),(1,.int .i64 x),(2,.int .i64 y)]) (fun⟨x,y⟩=>fun w'=>MeetInv T root a b x y/\0<=lk T x/\0<=lk T y/\Ext w w') (fun⟨x,y⟩=>(lk pl x+lk pl y).toNat) (a,b) j2 ⟨.start a b,ha,hb,Keep.refl _ _⟩ ?_));rintro⟨x,y⟩ w1 ⟨hI,hx,hy,hY⟩;have dg:=hY.blk hW (fun h=>h);have dm:=hY.blk hP (fun h=>h);have dy:=hY.blk hT (fun h=>h);have dh:=hc.proc x hx;have dr:=hc.proc y hy;have dF:x<n:=by rw[<- dl];exact(zt5.1 (kr dh)).1
 have dG:y<n:=by rw[<- dl];exact(zt5.1 (kr dr)).1
 refine Gs 8 O (zqe O (fun dH=>?_) (fun dI=>?_))
 .
  refine Gs 4 O (Qt tK (Gs 3 O (zql O tg27 (fun w1 hC=>(hC.cell (dg.cells 3 _ O) (fun h=>h))) (Ga 2 O tO (zql O tg3 (fun w1 hC=>(hC.cell (dm.cells.el1 x O (qS (kr dh))) (fun h=>h))) (Gs 3 O (zql O tg27 (fun w1 hC=>(hC.cell (dg.cells 3 _ O) (fun h=>h))) (Ga 2 O tO (zql O tg3 (fun w1 hC=>(hC.cell (dm.cells.el1 y O (qS (kr dr))) (fun h=>h))) (Gs 1 O (zqn (fun w2 dc=>?_))))))))))));have dt:=dc.blk dg (fun h=>h);have du:=dc.blk dy (fun h=>h);have dw:x ≠ y:=tO;refine Gs 1 O (zqe O (fun dx=>?_) (fun dz=>?_))
  .
   have dA:x ≠ root:=by rintro rfl;rw[hc.rootP]at dx;omega
   obtain⟨p,da,dB,db⟩:=hc.par x hx dA;have hp:T[x]?=some (p:Int):=by rw[<- da];exact kr hx
   have dC:=hc.proc p db;refine Gs 4 O (zqk O tg27 (dt.cells 4 _ O) (Ga 2 O tO (zqk O tg3 (du.cells.el1 x O (qS hp)) (Gs 3 O (G.back (p,y) j2 ⟨hI.left hc hx hy dx da,db,hy,hY.ext dc⟩ tD)))))
  have dJ:lk pl x ≠ lk pl y:=fun h=>dw (hc.inj x y dh h);have dD:y ≠ root:=by rintro rfl;rw[hc.rootP]at *;omega
  obtain⟨p,da,dB,db⟩:=hc.par y hy dD;have hp:T[y]?=some (p:Int):=by rw[<- da];exact kr hy
  have dC:=hc.proc p db;refine Gs 4 O (zqk O tg27 (dt.cells 4 _ O) (Ga 2 O tO (zqk O tg3 (du.cells.el1 y O (qS hp)) (Gs 3 O (G.back (x,p) j2 ⟨hI.right hc hx hy dw dz da,hx,db,hY.ext dc⟩ tD)))))
 refine Gs 12 O ?_;have e:x=y:=tO;subst e;refine zoU results181 O ⟨_,rfl,x,rfl,hI.done,hx,hY⟩
theorem zjB (f:α->β) (l:List α) (sp:List β) (i:Nat) (x:α) (h:i<l.length):(l.map f++sp).set i (f x)=(l.set i x).map f++sp:=by
 rw[zvs _ _ tD,zuZ]
structure RevInv (l L:List Int) (i j:Nat):Prop where
 len:L.length=l.length
 sum:i+j+1=l.length
 at':∀ k:Nat,k<l.length->L[k]?=if k<i\/j<k then l.reverse[k]? else l[k]?
theorem RevInv.step {L:List Int} {x y:Int} (h:RevInv l L i j) (dc:i<j) (hx:L[i]?=some x) (hy:L[j]?=some y):RevInv l ((L.set i y).set j x) (i+1) (j - 1):=by
 have hs:=h.sum
 have da:l[i]?=some x:=by
  have:=h.at' i tO
  grind
 have db:l[j]?=some y:=by
  have:=h.at' j tO
  grind
 refine⟨by simp[h.len],tO,?_⟩;intro k hk;by_cases hC:j=k
 .
  subst hC;rw[zuH tD,zt2 tO,zuE tO];rw[show l.length - 1 - j=i from tO,da]
 rw[zuG hC];by_cases hY:i=k
 .
  subst hY;rw[zuH tD,zt2 tO,zuE tO];rw[show l.length - 1 - i=j from tO,db]
 rw[zuG hY,h.at' k hk];by_cases h1:k<i\/j<k
 . grind
 grind
theorem RevInv.done {L:List Int} (h:RevInv l L i j) (hC:j<=i):L=l.reverse:=by
 have hs:=h.sum;apply zuj;intro k;by_cases hk:k<l.length
 .
  rw[h.at' k hk];by_cases h1:k<i\/j<k
  . grind
  rw[zt1 h1,zuE hk,show l.length - 1 - k=k from tO]
 rw[ztf (by rw[h.len];omega),ztf tD]
theorem zfO (l:List Int) (v:Value) (n:Nat) (w:World) (hC:w.ownsRow 0 3 1 v n (l.map (.int .i64))) (dl:l.length<=1048576):Calls prog 180 #[v] w (Ret fun u w'=>u=.tuple #[]/\w'.ownsRow 0 3 1 v n (l.reverse.map (.int .i64))/\Keep (fun q=>v.ownBlock=some q) w w'):=by
 have hn:=zg3 hC;subst hn;by_cases h0:l=[]
 .
  subst h0;obtain⟨ao,c,rfl⟩:=yb hC;refine zqq func180 O ntmps180 O (Ga 10 O tO (G.loop (σ:=Unit) (fun _u=>[(0,.slice ao 0 c),(2,.int .i64 0),(3,.int .i64 (-1))]) (fun _u=>fun w'=>w'=w) (fun _u=>0) () j2 rfl ?_));rintro _u w1 rfl;refine Gs 8 O (zqe O (fun h=>?_) (fun h=>?_))
  . omega
  refine Gs 4 O (zp9 results180 ⟨_,rfl,rfl,hC,Keep.refl _ _⟩)
 obtain⟨g,cap,sp,rfl,_,dB,dm,hB,dC⟩:=jz hC h0;have dr:0<l.length:=List.length_pos_iff.2 h0;refine zqq func180 O ntmps180 O (Ga 10 O tO (G.loop (σ:=Nat × Int × List Int) (fun⟨i,j,L⟩=>[(0,.slice (some ⟨g,0,none⟩) l.length cap),(2,.int .i64 i),(3,.int .i64 j)]) (fun⟨i,j,L⟩=>fun w'=>(∃ jn:Nat,j=(jn:Int)/\RevInv l L i jn\/j=(jn:Int) - 1/\L=l.reverse/\jn<=i)/\L.length=l.length/\i<=l.length/\Blk w' g (L.map (.int .i64)++sp) 3/\Keep (fun q=>q=g) w w') (fun⟨i,j,L⟩=>(j - i+2).toNat) (0,(l.length:Int) - 1,l) j2 ⟨⟨l.length - 1,.inl ⟨tO,rfl,tO,fun k hk=>tD⟩⟩,rfl,tO,hB,Keep.refl _ _⟩ ?_));rintro⟨i,j,L⟩ w1 ⟨⟨jn,hj⟩,hL,dD,db,dc⟩;refine Gs 8 O (zqe O (fun dE=>?_) (fun dF=>?_))
 .
  rcases hj with⟨rfl,hI⟩ | ⟨rfl,_,dG⟩
  .
   have hs:=hI.sum;obtain⟨x,hx⟩:∃ x,L[i]?=some x:=j9;obtain⟨y,hy⟩:∃ y,L[jn]?=some y:=j9;have dt:(L.map (Value.int .i64)++sp)[i]?=some (.int .i64 x):=by rw[zth tD];exact qS hx
   have du:(L.map (Value.int .i64)++sp)[jn]?=some (.int .i64 y):=by rw[zth tD];exact qS hy
   refine Gs 4 O (Dw (fun w'=>Blk w' g (L.map (.int .i64)++sp) 3) [12,13,14,15] (fun w2 dg dH=>?_));have hY:=dg.blk db (fun h=>h);refine Da [0,1,2,3,4,5,6] tK O tO (WD.take 7 O tK O O O hY (fun w1 da=>R.load tg3 O (da.cells.el1 jn O du)) (Da [8,9,10] tK O tO (WD.take 11 O tK O O O hY (fun w1 da=>R.load tg3 O (da.cells.el1 i O dt)) (Da [12] tK O tO (zps 13 O tK O O (M.store ts3 O O O O hY tD) ?_)))));rintro w3 ⟨dI,dw,dx⟩;refine⟨fun h=>absurd tS h,?_⟩;refine Da [14] tK O tO (zps 15 O tK O O (M.store ts3 O O O O dw tD) ?_);rintro w4 ⟨dJ,dh,dy⟩;refine⟨fun h=>absurd tS h,?_⟩;rw[show 0+(i:Int).toNat*1=i from tO,show 0+(jn:Int).toNat*1=jn from tO,zjB _ _ _ _ _ tO,zjB _ _ _ _ _ tD]at dh;refine G.done tK ?_ _;refine Ga 10 O tO (G.back (i+1,(jn:Int) - 1,(L.set i y).set jn x) j2 ⟨?_,tD,tO,dh,((dc.ext dg).trans dx (fun _ _ h=>h)).trans dy (fun _ _ h=>h)⟩ tD);have dz:=hI.step tO hx hy;exact⟨jn - 1,.inl ⟨tO,dz⟩⟩
  omega
 have dA:L=l.reverse:=by
  rcases hj with⟨rfl,hI⟩ | ⟨_,h,_⟩
  . exact hI.done tO
  exact h
 refine Gs 4 O (zp9 results180 ⟨_,rfl,rfl,?_,dc.mono Jq⟩);have:=zbl db (cap:=cap) tD dm;rw[hL,dA]at this;exact this
open Go.GL Go.GL.Dom Go.GL.Dfs
def zhX (f:Nat × Nat):List Value:=[.int .i64 f.1,.int .i64 f.2]
theorem js (f:Nat × Nat):(zhX f).length=2:=rfl
theorem zlt (f:Nat × Nat):∀ u ∈ zhX f,u.oneCell'=true:=by simp[zhX,Value.oneCell']
def qE (x:Nat):Value:=.int .i64 x
theorem zf2 (l:List (Nat × Nat)):(l.flatMap zhX).length=l.length*2:=zQ js l
theorem zfP (l:List Bool) (i:Nat):(l.map Value.bool).set i (.bool true)=(l.set i true).map Value.bool:=by rw[zuZ]
structure SearchI (Rw:List (List Int)) (root n bw bs:Nat) (nv bv pv tv:Value) (w:World) (seen:List Bool) (st:List (Nat × Nat)) (out:List Nat) (vs vo:Value) (w':World):Prop where
 inv:Dfs.Inv Rw root seen st out
 hs:Blk w' bs (seen.map .bool) 4
 stk:w'.ownsRow 0 240 2 vs st.length (st.flatMap zhX)
 lst:w'.ownsRow 0 3 1 vo out.length (out.map qE)
 hw:Blk w' bw [nv,bv,vo,pv,tv] 175
 fs:∀ g,vs.ownBlock=some g->w.heap.size<=g/\g ≠ bs
 fo:∀ g,vo.ownBlock=some g->w.heap.size<=g/\g ≠ bs
 apart:∀ g,vs.ownBlock=some g->vo.ownBlock ≠ some g
 keep:Keep (fun b=>b=bw) w w'
theorem zjC (Rw:List (List Int)) (root n bw bp:Nat) (nv bv tv:Value) (D:Nat->Prop) (w:World) (hR:Dfs.Rows Rw) (hn:Rw.length=n) (f4:n<=4096) (hroot:root<n) (dU:∀ (a:Nat) r,Rw[a]?=some r->r.Pairwise (·<·))
  (hnv:SlR 1 (RSl 1 zG) D w nv Rw) (hD:∀ b,D b->b ≠ bw/\b ≠ bp) (er:bw ≠ bp) (hW:Blk w bw [nv,bv,.slice none 0 0,.slice (some ⟨bp,0,none⟩) n n,tv] 175) (hP:Blk w bp (List.replicate n (.int .i64 (-1))) 3) :
  Calls prog 146 #[.pointer (some ⟨bw,0,none⟩),.int .i64 root] w (Ret fun u w'=>u=.tuple #[]/\∃ (order:List Nat) (pl:List Int) (ov:Value),Dfs.Order Rw root order/\Dfs.Place n order pl/\Blk w' bw [nv,bv,ov,.slice (some ⟨bp,0,none⟩) n n,tv] 175/\w'.ownsRow 0 3 1 ov order.length (order.map qE)/\(∀ g,ov.ownBlock=some g->w.heap.size<=g)/\Blk w' bp (pl.map (.int .i64)) 3/\Keep (fun b=>b=bw\/b=bp) w w'):=by
 have ew:∀ (a:Nat) r,Rw[a]?=some r->r.length<=n:=by
  intro a r hr
  have h1:=nodup_le n (r.map Int.toNat) (by
   rw[List.Nodup,zvj];refine(dU a r hr).imp_of_mem ?_;intro x y hx hy f5;obtain⟨b,rfl,_⟩:=hR.ok a r hr x hx;obtain⟨c,rfl,_⟩:=hR.ok a r hr y hy;omega) (by
   intro x hx;obtain⟨y,hy,rfl⟩:=zv6.1 hx;obtain⟨b,rfl,hb⟩:=hR.ok a r hr y hy
   omega)
  simpa using h1
 obtain⟨na,nc,rfl,f7,f8,ez⟩:=hnv;have f9:=hW.lt;have fp:=hP.lt;refine zqr func146 O ntmps146 O (Gs 5 O (zqk O tg89 (hW.cells 0 _ O) (Gs 1 O (G.mem O O (zpv tu52 Tryz.el4 O O tO tO (yL _ Rw.length O)) ?_))));rintro _ w1 ⟨bs,rfl,gc,gf,fq,ft⟩;refine Ga 8 O tO (zpt O (M.store ts4 O O O O fq tD) ?_);rintro w2 ⟨gh,eV,fu⟩;rw[show 0+(root:Int).toNat*1=root from tO]at eV;refine Gs 5 O (zqg O O (R.build (v:=.agg #[.int .i64 root,.int .i64 0]) [(0,_),(1,_)] O (fun _=>tK)) (G.mem O O (M.buildSlice (cs:=zhX (root,0)) [(0,_)] tR241 ts240 zeroValue240 tS O tK) ?_));rintro _ w3 ⟨b3,rfl,gl,gq,fw,eA⟩;refine Gs 5 O ?_;have dV:Ext w w2:=ft.trans fu (fun q hq h=>tO)
 have dB:SearchI Rw root n bw bs (.slice na Rw.length nc) bv (.slice (some ⟨bp,0,none⟩) n n) tv w ((List.replicate Rw.length false).set root true) [(root,0)] [] (.slice (some ⟨b3,0,none⟩) 1 1) (.slice none 0 0) w3:=by
  refine⟨Dfs.Inv.start tO,?_,?_,qF _ _ _,(dV.ext eA).blk hW (fun h=>h),?_,?_,?_,(dV.ext eA).mono (fun _ _ h=>h.elim)⟩
  .
   have:=eA.blk eV (fun h=>h);rw[zuZ,zuY];omega
  .
   have:=zN (k:=2) (n:=1) (cap:=1) fw tO tO rfl;exact this
  .
   intro g hg;simp[Value.ownBlock]at hg;omega
  . intro g hg;simp[Value.ownBlock]at hg
  intro g _ h;simp[Value.ownBlock]at h
 refine G.loop (σ:=List Bool × List (Nat × Nat) × List Nat × Value × Value) (fun⟨seen,st,out,vs,vo⟩=>[(0,.pointer (some ⟨bw,0,none⟩)),(4,.slice (some ⟨bs,0,none⟩) Rw.length Rw.length),(5,vs)]) (fun⟨seen,st,out,vs,vo⟩=>fun w'=>SearchI Rw root n bw bs (.slice na Rw.length nc) bv (.slice (some ⟨bp,0,none⟩) n n) tv w seen st out vs vo w') (fun⟨seen,st,out,vs,vo⟩=>zoi Rw seen+zo3 Rw st) ((List.replicate Rw.length false).set root true,[(root,0)],[],.slice (some ⟨b3,0,none⟩) 1 1,.slice none 0 0) j2 (dB) ?_;rintro⟨seen,st,out,vs,vo⟩ w4 hI;obtain⟨hY,eC,dW,dh,dQ,fx,dl,eW,dy⟩:=hI;have fy:=hY.nodup
 have dC:∀ x ∈ st.map Prod.fst++out,x<n:=by
  intro x hx;have:=(hY.mark x).2 (zta.1 hx);have h2:=(zt5.1 this).1;rw[hY.len,hn]at h2;exact h2
 have dD:=nodup_le n _ fy dC;rw[zsZ,ztb]at dD;have fA:=dy.size;obtain⟨av,cv,dX⟩:=yb dW;rw[dX];refine Gs 8 O (zqe O (fun gr=>?_) (fun fB=>?_))
 .
  obtain⟨st',x,e,rfl⟩:∃ st' x e,st=st'++[(x,e)]:=by
   rcases zuh st with rfl | ⟨s,⟨x,e⟩,rfl⟩
   . grind
   grind
  have eD:st'++[(x,e)] ≠ []:=tR;obtain⟨g,cap,sp,dY,fC,eE,dZ,dE,ej⟩:=qu js tO dW eD;rw[dX]at dY;cases dY;have fD:(st'++[(x,e)]).length=st'.length+1:=tR;have eF:=fx g (by rw[dX];rfl);have fE:=dE.lt;have fF:=eC.lt;have d5:(st'++[(x,e)])[st'.length]?=some (x,e):=tR;have eG:Cells w4 g (0+st'.length*2) (zhX (x,e)):=yT js dE d5;obtain⟨r,hr,gs,eX⟩:=hY.part x e tR;have eY:x<n:=dC x tR;have gt:=ew x r hr;obtain⟨bo,oo,cs,d6,eH,fG,fH,fI⟩:=ez x r hr;obtain⟨rv,rfl,ra,rc,rfl,fJ,fK,eI⟩:=fI;have eZ:∀ b,D b->¬ b=bw:=fun b hb=>(hD b hb).1;have d7:=dy.cells fH (eZ bo eH);rw[fD];refine Ga 10 O tO ?_;rw[show 0+((((st'.length+1:Nat):Int) - 1).toNat)*2=0+st'.length*2 from tO];refine Gs 5 O (Qt tK (Gs 3 O (zql O tg3 (fun w1 hC=>(hC.cell (eG 1 _ O) (fun h=>h))) (Gs 3 O (zql O tg89 (fun w1 hC=>(hC.cell (dQ.cells 0 _ O) (fun h=>h))) (Gs 3 O (zql O tg3 (fun w1 hC=>(hC.cell (eG 0 _ O) (fun h=>h))) (zqj O O (fun w1 hC=>zph tR89 ts27 O O d6 tO) (zql O tg27 (fun w1 hC=>(hC.cell (d7.el1 (cs:=[_]) 0 O O) (fun h=>h))) (Gs 2 O (zqn (fun w5 dF=>?_))))))))))));refine Gs 1 O ?_;have eJ:=dF.blk dE (fun h=>h);have db:=dF.blk dQ (fun h=>h);have du:=dF.cells eG (fun h=>h);refine zqe O (fun fL=>?_) (fun eK=>?_)
  .
   have he:e=r.length:=by have:=fL;simp at this;omega
   have d8:=hY.pop hr he;refine Gs 1 O (Dw (fun w'=>Blk w' bw [.slice na Rw.length nc,bv,vo,.slice (some ⟨bp,0,none⟩) n n,tv] 175/\Cells w' g (0+st'.length*2) (zhX (x,e))) [13] (fun w6 dG gw=>?_));have dw:=dG.blk db (fun h=>h);have dc:=dG.cells du (fun h=>h);refine Ds [0,1,2,3] tK O (WD.take 4 O tK O O O ⟨dw,dc⟩ (fun w1 hC=>R.load tg27 O (hC.1.cells 2 _ O)) (Ds [5,6,7] tK O (WD.take 8 O tK O O O ⟨dw,dc⟩ (fun w1 hC=>R.load tg3 O (hC.2 0 _ O)) (WD.mem 9 O tK O O O (M.buildSlice (cs:=[.int .i64 x]) [(0,_)] tR27 ts3 tz3 tS O tK) ?_))));rintro _ w7 ⟨b7,rfl,gx,fb,dH,dx⟩;refine⟨fun _=>⟨dx.blk dw (fun h=>h),dx.cells dc (fun h=>h)⟩,?_⟩;have dI:=dF.ext (dG.ext dx);have fM:=dI.size;have d9:=zj dh dI (fun _ _ h=>h);refine WD.mem 10 O tK O O O (M.append tu27 Tryz.el3 O tS O O d9 O (Cells.add dH.cells) (by simp;rfl) tO tO) ?_;rintro vo' w8 ⟨dz,dJ,dR,_⟩;obtain⟨a8,c8,rfl⟩:=yb dz;have eL:vo.ownBlock ≠ some bw:=fun h=>tD;have dA:vo.ownBlock ≠ some g:=eW g (by rw[dX];rfl);have eb:=dR.blk (dx.blk dw (fun h=>h)) eL;refine⟨fun _=>⟨eb,dR.cells (dx.cells dc (fun h=>h)) dA⟩,?_⟩;refine Ds [11,12] tK O (zps 13 O tK O O (M.store ts27 O O O O eb tR) ?_);rintro w9 ⟨fN,eM,dS⟩;refine⟨fun h=>absurd (zt9.2 O) h,?_⟩;refine G.done tK ?_ _;refine Ga 7 O tO (zqg O O (zpM tR241 ts240 O O tO) (Gs 6 O ?_));have dg:Keep (fun q=>vo.ownBlock=some q\/q=bw) w4 w9:=((dI.mono (fun _ _ h=>h.elim)).trans (dR.mono (fun _ _ h=>.inl h)) (fun _ _ h=>h)).trans dS (fun _ _ h=>.inr h);have ec:∀ q,vo.ownBlock ≠ some q->q ≠ bw->¬ (vo.ownBlock=some q\/q=bw):=fun q h1 h2 h=>h.elim h1 h2;rw[show (((st'.length+1:Nat):Int) - 1).toNat=st'.length from tO];refine G.back (seen,st',out++[x],.slice (some ⟨g,0,none⟩) st'.length cv,.slice a8 (out.length+1) c8) j2 ⟨d8,?_,?_,?_,?_,?_,?_,?_,?_⟩ (?_)
   . exact dg.blk eC (ec bs (fun h=>(dl bs h).2 O) tO)
   .
    have h1:=qY js (k:=st'.length) (dg.blk dE (ec g dA tO)) ej tR tO (by simpa[maxLen] using dZ);rw[List.take_left]at h1;exact h1
   .
    have h1:=zj dz dS (fun q hq h=>by
     rcases dJ with h2 | ⟨q',h2,h3⟩
     . rw[h2]at hq;have:=(dl q hq).1;omega
     .
      rw[h2]at hq;cases hq;omega)
    rw[zuT,zsZ];exact h1
   . exact eM
   .
    intro q hq;cases hq;exact eF
   .
    intro q hq;rcases dJ with h2 | ⟨q',h2,h3⟩
    . rw[h2]at hq;exact dl q hq
    rw[h2]at hq;cases hq;omega
   .
    intro q hq h;obtain rfl:g=q:=Option.some.inj hq;rcases dJ with h2 | ⟨q',h2,h3⟩
    . rw[h2]at h;exact dA h
    rw[h2]at h;cases h;omega
   .
    exact dy.trans dg (fun q hq h=>by
     rcases h with h | h
     . have:=(dl q h).1;omega
     .
      exact h)
   dsimp only;rw[qR];omega
  have he:e<r.length:=by have:=eK;simp at this;omega
  obtain⟨y,hy⟩:∃ y,r[e]?=some y:=⟨_,zsR he⟩;obtain⟨b,rfl,gy⟩:=hR.ok x r hr y (zsS hy);obtain⟨be,oe,ce,fO,fP,fQ,fR,rfl⟩:=eI e _ hy;have eN:=dF.cells (dy.cells fR (eZ be fP)) (fun h=>h);have eO:=dF.cells d7 (fun h=>h);refine Gs 3 O (Qt tK (Gs 3 O (zql O tg89 (fun w1 hC=>(hC.cell (db.cells 0 _ O) (fun h=>h))) (Gs 3 O (zql O tg3 (fun w1 hC=>(hC.cell (du 0 _ O) (fun h=>h))) (zqj O O (fun w1 hC=>zph tR89 ts27 O O d6 tO) (zql O tg27 (fun w1 hC=>(hC.cell (eO.el1 (cs:=[_]) 0 O O) (fun h=>h))) (Gs 3 O (zql O tg3 (fun w1 hC=>(hC.cell (du 1 _ O) (fun h=>h))) (zqj O O (fun w1 hC=>zph tR27 ts3 O O fO tO) ?_))))))))));refine zql O tg3 (fun w1 hC=>(hC.cell (eN.el1 (cs:=[_]) 0 O O) (fun h=>h))) (Gs 1 O (zqn (fun w6 dG=>?_)));refine Gs 6 O ?_;have eP:=dG.blk eJ (fun h=>h);have dc:=dG.cells du (fun h=>h);refine zqk O tg3 (dc 1 _ O) (Ga 3 O tO (zpt O (M.store ts3 O O O O eP (by rw[zsZ,zf2];simp;omega)) ?_));rintro w7 ⟨fb,dH,dx⟩
  have ed:Blk w7 g ((st'++[(x,e+1)]).flatMap zhX++sp) 240:=by
   have h1:=zc3 js (v:=.int .i64 ((e:Int)+1)) (j:=1) (x:=(x,e)) (y:=(x,e+1)) tS rfl (st'++[(x,e)]) st'.length sp d5;rw[zvt _ _ (ztg _),zvW]at h1;rw[show 0+st'.length*2=st'.length*2 from tO]at dH;have h2:Blk w7 g (((st'++[(x,e)]).flatMap zhX++sp).set (st'.length*2+1) (.int .i64 ((e:Int)+1))) 240:=dH;rw[h1]at h2;exact h2
  have ee:((st'++[(x,e+1)]).flatMap zhX++sp).length=cv*2:=by
   rw[<- ej];simp only[zsZ,zf2,ztk,List.length_nil]
  have dK:bs ≠ g:=fun h=>eF.2 h.symm;have dm:Keep (fun q=>q=g) w4 w7:=((dF.ext dG).mono (fun _ _ h=>h.elim)).trans dx (fun _ _ h=>h);have dL:=dm.blk eC dK;have gz:seen.length=n:=by rw[hY.len,hn]
  obtain⟨s,ek⟩:∃ s,seen[b]?=some s:=j9;have eQ:(seen.map Value.bool)[b]?=some (.bool s):=by rw[zt8,ek];rfl
  have fS:bw ≠ g:=tO;have eR:=dm.blk dQ fS;have dA:vo.ownBlock ≠ some g:=eW g (by rw[dX];rfl);refine Ga 7 O tO (zqk O tg4 (dL.cells.el1 b O eQ) (zqg O O (R.not O) (Gs 2 O (zqf O (fun hs=>?_) (fun hs=>?_)))))
  .
   have fT:s=false:=by simpa using hs
   subst fT;have d8:=hY.push hr hy ek;refine Ga 5 O tO (zpt O (M.store ts4 O O O O dL (by rw[ztb];omega)) ?_);rintro w8 ⟨gA,fe,dR⟩;rw[show 0+(b:Int).toNat*1=b from tO,zfP]at fe;refine Gs 5 O (zqg O O (R.build (v:=.agg #[.int .i64 b,.int .i64 0]) [(0,_),(1,_)] O (fun _=>tK)) (G.mem O O (M.buildSlice (cs:=zhX (b,0)) [(0,_)] tR241 ts240 zeroValue240 tS O tK) ?_));rintro _ w9 ⟨b9,rfl,gB,fN,eM,dS⟩;have dr:=qY js (k:=(st'++[(x,e+1)]).length) (dS.blk (dR.blk ed (fun h=>dK h.symm)) (fun h=>h)) (cap:=cv) ee (ztg _) (by simp at eE ⊢;omega) (by simpa[maxLen] using dZ);rw[zsW,zsZ]at dr;refine G.mem O O (M.append underlying241 Tryz.el240 O tS O O dr O (Cells.add eM.cells) (zlt _) tY tY) ?_;rintro vs' w10 ⟨dM,ef,eh,_⟩;have dg:Keep (fun q=>q=g\/q=bs) w4 w9:=((dm.mono (fun _ _ h=>.inl h)).trans dR (fun _ _ h=>.inr h)).ext dS;have dt:Keep (fun q=>q=g\/q=bs) w4 w10:=dg.trans eh (fun q _ h=>.inl (Option.some.inj h).symm);have fU:=dg.size
   have fg:∀ q,vs'.ownBlock=some q->q=g\/w9.heap.size<=q:=by
    intro q hq;rcases ef with h2 | ⟨q',h2,h3⟩
    . rw[h2]at hq;exact .inl (Option.some.inj hq).symm
    rw[h2]at hq;cases hq;exact .inr h3
   refine Gs 3 O (G.back (seen.set b true,st'++[(x,e+1)]++[(b,0)],out,vs',vo) j2 ⟨d8,?_,?_,?_,?_,?_,?_,?_,?_⟩ (?_))
   . exact(dS.blk fe (fun h=>h) |> fun h=>eh.blk h (fun h=>dK (Option.some.inj h).symm))
   .
    have:=dM;simp only[zuq,zsZ]at this ⊢;exact this
   .
    exact zj dh dt (fun q hq h=>by
     rcases h with rfl | rfl
     . exact dA hq
     .
      exact(dl _ hq).2 O)
   . exact dt.blk dQ (fun h=>tO)
   .
    intro q hq;have:=fg q hq;omega
   . exact dl
   .
    intro q hq h;rcases fg q hq with rfl | h2
    . exact dA h
    have:=xB dh h;omega
   . exact dy.trans dt (fun q hq h=>tO)
   dsimp only;rw[qR,qR,qR,zlb hY.len ek,zmb hr];omega
  have fV:s=true:=by simpa using hs
  subst fV;have d8:=hY.skip hr hy ek;refine Gs 2 O (G.back (seen,st'++[(x,e+1)],out,.slice (some ⟨g,0,none⟩) (st'.length+1) cv,vo) j2 ⟨d8,?_,?_,?_,?_,?_,?_,?_,?_⟩ (?_))
  . exact dL
  .
   have dr:=qY js (k:=(st'++[(x,e+1)]).length) ed (cap:=cv) ee (ztg _) (by simp at eE ⊢;omega) (by simpa[maxLen] using dZ);rw[zsW,zsZ]at dr;rw[zsZ];exact dr
  . exact zj dh dm (fun q hq h=>by subst h;exact dA hq)
  . exact eR
  .
   intro q hq;cases hq;exact eF
  . exact dl
  .
   intro q hq;obtain rfl:g=q:=Option.some.inj hq;exact dA
  . exact dy.trans dm (fun q hq h=>tO)
  dsimp only;rw[qR,qR,zmb hr];omega
 have eS:st=[]:=by
  cases st with
  | nil=>rfl
  | cons a l=>exact absurd fB tR
 subst eS;have hO:=hY.finish
 have ei:w4.ownsRow 0 3 1 vo out.length ((out.map fun x:Nat=>(x:Int)).map (.int .i64)):=by
  rw[zuW];exact dh
 refine Gs 10 O (zqk O tg27 (dQ.cells 2 _ O) (G.call O call180 (zfO _ vo out.length w4 ei (by rw[ztb];omega)) ?_));rintro _ w5 ⟨rfl,da,fW⟩;rw[<- List.map_reverse,zuW]at da;have da:w5.ownsRow 0 3 1 vo out.length (out.reverse.map qE):=da
 have eD:out.reverse ≠ []:=by
  intro h;have:=hO.head;rw[h]at this;cases this
 obtain⟨g,cap,sp,rfl,gC,eE,dZ,dE,ej⟩:=jz da eD;have eT:bw ≠ g:=fun h=>by have:=(dl g rfl).1;omega
 have dN:bp ≠ g:=fun h=>by have:=(dl g rfl).1;omega
 have dO:Keep (fun q=>q=g) w4 w5:=fW.mono (fun _ _ h=>(Option.some.inj h).symm);have db:=dO.blk dQ eT;have fX:=dO.blk (dy.blk hP (fun h=>er h.symm)) dN;refine Gs 7 O (zqk O tg27 (db.cells 2 _ O) (Gs 5 O ?_));have fY:Blk w5 bp ((List.replicate n (-1:Int)).map (.int .i64)) 3:=by rw[zuY];exact fX
 refine G.loop (σ:=Nat × List Int) (fun⟨k,pl⟩=>[(0,.pointer (some ⟨bw,0,none⟩)),(108,.slice (some ⟨g,0,none⟩) out.length cap),(109,.int .i64 out.length),(110,.int .i64 k)]) (fun⟨k,pl⟩=>fun w'=>k<=out.length/\Dfs.Place n (out.reverse.take k) pl/\Blk w' bp (pl.map (.int .i64)) 3/\Keep (fun q=>q=bp) w5 w') (fun⟨k,pl⟩=>out.length - k) (0,List.replicate n (-1)) j2 ⟨zt6 _,Dfs.Place.start n,fY,Keep.refl _ _⟩ ?_;rintro⟨k,pl⟩ w6 ⟨gD,em,fm,dT⟩;refine Gs 6 O (zqe O (fun gE=>?_) (fun gF=>?_))
 .
  refine Gs 7 O ?_;obtain⟨x,hx⟩:∃ x,out.reverse[k]?=some x:=⟨_,zsR tY⟩
  have eY:x<n:=dC x (by
   have:=zsS hx;simp at this
   simp[this])
  have fZ:(out.reverse.map qE++sp)[k]?=some (qE x):=by
   rw[zth tY,zt8,hx];rfl
  refine Ga 1 O tO (zqk O tg3 ((dT.blk dE (fun h=>dN h.symm)).cells.el1 k O fZ) (Gs 8 O (zqk O tg27 ((dT.blk db er).cells 3 _ O) (Ga 3 O tO (zpt O (M.store ts3 O O O O fm (by rw[ztb,em.len];omega)) ?_)))));rintro w7 ⟨fb,dH,dx⟩;rw[show 0+(x:Int).toNat*1=x from tO,<- zuZ]at dH;refine Ga 7 O tO (G.back (k+1,pl.set x (k:Int)) j2 ⟨tO,em.step hO.nodup hx eY,dH,dT.trans dx (fun _ _ h=>h)⟩ tZ)
 refine Gs 4 O ?_;have eU:k=out.length:=tO;subst eU;rw[zvB tR]at em;have f0:Keep (fun q=>q=g\/q=bp) w4 w6:=(dO.mono (fun _ _ h=>.inl h)).trans dT (fun _ _ h=>.inr h);refine zp9 results146 ⟨_,rfl,rfl,out.reverse,pl,_,hO,em,dT.blk db er,?_,fun q hq=>?_,fm,?_⟩
 .
  have:=zbl (dT.blk dE (fun h=>dN h.symm)) (cap:=cap) ej dZ;rw[List.length_reverse]at this ⊢;exact this
 . exact(dl q hq).1
 exact(dy.mono (fun _ _ h=>.inl h)).trans f0 (fun q hq h=>by
  rcases h with h | h
  . have:=(dl g rfl).1;omega
  .
   exact .inr h)
end Go.Proofs.YtckdhgbepmpgiaaGreat
namespace Go.GL.Dom
open Go.GL.Dfs
inductive AvN (R:List (List Int)) (root x:Nat):Nat->Nat->Prop
 | start:root ≠ x->AvN R root x 0 root
 | step {k a b:Nat}:AvN R root x k a->Dfs.Edge R a b->b ≠ x->AvN R root x (k+1) b
def Dom (R:List (List Int)) (root x b:Nat):Prop:=∀ k,¬ AvN R root x k b
section
theorem AvN.ne (h:AvN R root x k b):b ≠ x:=by
 cases h with
 | start h=>exact h
 | step _ _ h=>exact h
theorem AvN.reach (h:AvN R root x k b):Dfs.Reach R root b:=by
 induction h with
 | start=>exact .refl
 | step _ h _ ih=>exact .step ih h
theorem AvN.thru (d:Nat) (h:AvN R root x j c):AvN R root d j c\/∃ j',j'<=j/\AvN R root x j' d:=by
 induction h with
 | start h =>
  by_cases e:root=d
  . subst e;exact .inr ⟨0,ztg _,.start h⟩
  exact .inl (.start e)
 | @step k a b ha he hb ih =>
  rcases ih with ih | ⟨j',h1,h2⟩
  .
   by_cases e:b=d
   . subst e;exact .inr ⟨k+1,ztg _,.step ha he hb⟩
   exact .inl (.step ih he e)
  grind
theorem Dom.refl (b:Nat):Dom R root b b:=fun _ h=>h.ne rfl
theorem Dom.pred (h:Dom R root x b) (hC:x ≠ b) (he:Dfs.Edge R a b):Dom R root x a:=fun k ha=>h (k+1) (.step ha he (fun e=>hC e.symm))
theorem zsC (h:Dom R root x root):x=root:=by
 by_cases e:root=x
 . exact e.symm
 exact absurd (.start e) (h 0)
theorem zsE (hb:b ≠ root) (h:∀ p,Dfs.Reach R root p->Dfs.Edge R p b->Dom R root x p):Dom R root x b:=by
 intro k hk;cases hk with
 | start=>exact hb rfl
 | step ha he _=>exact h _ ha.reach he _ ha
theorem Dom.trans (h:Dom R root x y) (h':Dom R root y b):Dom R root x b:=by
 intro k hk;rcases hk.thru y with h1 | ⟨j,_,h1⟩
 . exact h' _ h1
 exact h _ h1
structure Up (R:List (List Int)) (root:Nat) (pl T:List Int):Prop extends Chain pl T root where
 sdom:∀ b:Nat,0<=lk T b->b ≠ root->∀ x,x ≠ b->Dom R root x b->∀ p:Nat,lk T b=(p:Int)->Dom R root x p
theorem Up.anc (hu:Up R root pl T):∀ (k:Nat) {b x:Nat},lk pl b<=k->0<=lk T b->Dom R root x b->Anc T root x b
 | k,b,x,hk,hb,hd=>by
  by_cases e:b=root
  .
   subst e;rw[zsC hd];exact .refl _
  by_cases ex:x=b
  . subst ex;exact .refl _
  obtain⟨p,h1,h2,h3⟩:=hu.par b hb e;have h4:=hu.proc p h3;have h5:=hu.sdom b hb e x ex hd p h1
  match k with
  | 0=>omega
  | k+1=>exact .up e h1 (Up.anc hu k tO h3 h5)
theorem Up.anc' (hu:Up R root pl T) (hb:0<=lk T b) (hd:Dom R root x b):Anc T root x b:=hu.anc (lk pl b).toNat tO hb hd
theorem zsF (hc:Chain pl T root) (h:Anc T root x y) (h':Anc T root y x) (hy:0<=lk T y):x=y:=by
 obtain⟨h1,h2⟩:=h.place hc hy;obtain⟨h3,_⟩:=h'.place hc h2;exact hc.inj x y (hc.proc x h2) tO
theorem Up.side (hu:Up R root pl T) (h:Anc T root y p) (hp:0<=lk T p) (hd:Dom R root x p):Dom R root x y\/(Anc T root x p/\Anc T root y x):=by
 induction h with
 | refl=>exact .inl hd
 | @up b q hne hq h3 ih =>
  by_cases e:x=b
  . subst e;exact .inr ⟨.refl _,.up hne hq h3⟩
  obtain⟨q',h4,_,h5⟩:=hu.par b hp hne;rw[hq]at h4;have e4:=Int.ofNat.inj h4;subst e4;rcases ih h5 (hu.sdom b hp hne x e hd q hq) with h6 | ⟨h6,h7⟩
  . grind
  exact .inr ⟨.up hne hq h6,h7⟩
structure MeetAll (T:List Int) (root:Nat) (ps:List Nat) (m:Nat):Prop where
 l:∀ p ∈ ps,Anc T root m p
 top:∀ x,(∀ p ∈ ps,Anc T root x p)->Anc T root x m
 ok:0<=lk T m
theorem MeetAll.one (h:0<=lk T p):MeetAll T root [p] p:=⟨fun q hq=>by rw[zt9.1 hq];exact .refl _,fun x hx=>hx p (zt9.2 rfl),h⟩
theorem MeetAll.step {ps:List Nat} {m':Nat} (h:MeetAll T root ps m) (hm:zhY T root m p m') (ho:0<=lk T m'):MeetAll T root (ps++[p]) m':=by
 refine⟨fun q hq=>?_,fun x hx=>?_,ho⟩
 .
  rcases zta.1 hq with hq | hq
  . exact hm.l.trans (h.l q hq)
  rw[zt9.1 hq];exact hm.r
 exact hm.top x (h.top x (fun q hq=>hx q (zta.2 (.inl hq)))) (hx p (zta.2 (.inr (zt9.2 O))))
theorem MeetAll.dom (hu:Up R root pl T) {ps:List Nat} (h:MeetAll T root ps m) (hp:∀ p ∈ ps,0<=lk T p/\Dom R root x p):Dom R root x m:=by
 by_cases hd:Dom R root x m
 . exact hd
 have hY:∀ p ∈ ps,Anc T root x p/\Anc T root m x:=by
  intro p hC;rcases hu.side (h.l p hC) (hp p hC).1 (hp p hC).2 with h1 | h1
  . grind
  exact h1
 have h1:=h.top x (fun p hC=>(hY p hC).1);cases ps with
 | nil =>
  have h2:=((h.top T.length (fun p hC=>tD)).place hu.toChain h.ok).2;unfold lk at h2;rw[ztf (ztg _)]at h2;exact absurd h2 tS
 | cons p r =>
  have h2:=(hY p (zsV ..)).2;have h3:=zsF hu.toChain h1 h2 h.ok;rw[h3];exact Dom.refl _
section
theorem Anc.of_set (hd:d<T.length) (h:Anc (T.set d (m:Int)) root x c):Anc T root x c\/(Anc T root d c/\Anc (T.set d (m:Int)) root x d):=by
 induction h with
 | refl=>exact .inl (.refl _)
 | @up b p hne hp h3 ih =>
  by_cases e:b=d
  . subst e;exact .inr ⟨.refl _,.up hne hp h3⟩
  rw[yJ (fun e'=>e e'.symm)]at hp;rcases ih with h4 | ⟨h4,h5⟩
  . exact .inl (.up hne hp h4)
  exact .inr ⟨.up hne hp h4,h5⟩
theorem Up.update (hu:Up R root pl T) (hd:d<T.length) (hr:d ≠ root) (dh:0<=lk pl d) {ps:List Nat} (hm:MeetAll T root ps m) (hY:∀ p ∈ ps,0<=lk T p/\Dfs.Edge R p d) (dc:lk pl m<lk pl d):Up R root pl (T.set d (m:Int)):=by
 have dg:m ≠ d:=tD;refine⟨⟨?_,hu.rootP,hu.inj,?_,?_⟩,?_⟩
 . rw[yJ hr];exact hu.rootT
 .
  intro b hb;by_cases e:d=b
  . grind
  rw[yJ e]at hb;exact hu.proc b hb
 .
  intro b hb hC;by_cases e:d=b
  .
   subst e;refine⟨m,yF hd,dc,?_⟩;rw[yJ (fun e=>dg e.symm)];exact hm.ok
  rw[yJ e]at hb ⊢;obtain⟨p,h1,h2,h3⟩:=hu.par b hb hC;refine⟨p,h1,h2,?_⟩;by_cases e':d=p
  . subst e';rw[yF hd];omega
  rw[yJ e'];exact h3
 intro b hb hC x hx da p hp;by_cases e:d=b
 .
  subst e;rw[yF hd]at hp;have e2:=Int.ofNat.inj hp;subst e2;exact hm.dom hu (fun p db=>⟨(hY p db).1,da.pred hx (hY p db).2⟩)
 rw[yJ e]at hb hp;exact hu.sdom b hb hC x hx da p hp
def Pk (R:List (List Int)) (root:Nat) (T:List Int) (k b:Nat):Prop:=∀ x j,j<k->Anc T root x b->¬ AvN R root x j b
theorem Pk.zero (b:Nat):Pk R root T 0 b:=fun _ _ h=>absurd h (zvV _)
theorem zsD (k:Nat):Pk R root T k root:=fun x j _ h h'=>by rw[h.of_root]at h';exact h'.ne rfl
theorem Pk.less (h:Pk R root T k b) (hk:k'<=k):Pk R root T k' b:=fun x j hj=>h x j tO
theorem Pk.new (hu:Up R root pl T) (hd:d<T.length) (hr:d ≠ root) {ps:List Nat} (hm:MeetAll T root ps m) (da:lk pl m<lk pl d) (hC:0<k->∀ p,Dfs.Reach R root p->Dfs.Edge R p d->p ∈ ps) (hP:∀ p ∈ ps,Pk R root T k p):Pk R root (T.set d (m:Int)) (k+1) d:=by
 intro x j hj hA hY;cases hY with
 | start=>exact hr rfl
 | @step j a _ ha he hne =>
  have hp:=hC tO a ha.reach he;cases hA with
  | refl=>exact hne rfl
  | @up _ p _ hp2 hA2 =>
   rw[yF hd]at hp2;have e2:=Int.ofNat.inj hp2;subst e2;rcases hA2.of_set hd with h1 | ⟨h1,_⟩
   . exact hP a hp x j tO (h1.trans (hm.l a hp)) ha
   have:=(h1.place hu.toChain hm.ok).1;omega
theorem Pk.old (hd:d<T.length) (hn:Pk R root (T.set d (m:Int)) (k+1) d) (hk:k'<=k+1) (h:Pk R root T k' c):Pk R root (T.set d (m:Int)) k' c:=by
 intro x j hj hA hC;rcases hA.of_set hd with h1 | ⟨h1,h2⟩
 . exact h x j hj h1 hC
 rcases hC.thru d with h3 | ⟨j',h3,h4⟩
 . exact h d j hj h1 h3
 exact hn x j' tO h2 h4
end
theorem zjD (P:Nat->Nat->Prop) (hP:∀ i k k',P i k->k<=k'->P i k'):∀ n,(∀ i,i<n->∃ k,P i k)->∃ k,∀ i,i<n->P i k
 | 0,_=>⟨0,fun i h=>absurd h (zvV _)⟩
 | n+1,h=>by
  obtain⟨k,hk⟩:=zjD P hP n (fun i hi=>h i tO);obtain⟨k',hC⟩:=h n tO;refine⟨max k k',fun i hi=>?_⟩;by_cases e:i=n
  . subst e;exact hP _ _ _ hC (Nat.le_max_right ..)
  grind
theorem zol (R:List (List Int)) (root n:Nat):∃ K,0<K/\∀ x,x<n->∀ b,b<n->∀ k,AvN R root x k b->∃ j,j<K/\AvN R root x j b:=by
 have h1:∃ K,∀ x,x<n->∀ b,b<n->∀ k,AvN R root x k b->∃ j,j<K/\AvN R root x j b:=by
  refine zjD (fun x K=>∀ b,b<n->∀ k,AvN R root x k b->∃ j,j<K/\AvN R root x j b) (fun x k k' h hk b hb i hi=>?_) n (fun x _=>?_)
  . grind
  refine zjD (fun b K=>∀ k,AvN R root x k b->∃ j,j<K/\AvN R root x j b) (fun b k k' h hk i hi=>?_) n (fun b _=>?_)
  . grind
  by_cases h:∃ k,AvN R root x k b
  .
   obtain⟨k,hk⟩:=h;exact⟨k+1,fun _ _=>⟨k,tO,hk⟩⟩
  exact⟨0,fun k hk=>absurd ⟨k,hk⟩ h⟩
 obtain⟨K,hK⟩:=h1;refine⟨K+1,tO,fun x hx b hb k hk=>?_⟩;obtain⟨j,h1,h2⟩:=hK x hx b hb k hk;exact⟨j,tO,h2⟩
theorem zom (hu:Up R root pl T) {n K:Nat} {ps:List Nat} (hK:∀ x,x<n->∀ b,b<n->∀ k,AvN R root x k b->∃ j,j<K/\AvN R root x j b) (hn:∀ x:Nat,0<=lk T x->x<n)
  (hP:∀ b:Nat,0<=lk T b->Pk R root T K b) (hr:d ≠ root) (hd:0<=lk T d) (hm:MeetAll T root ps m) (hY:∀ p ∈ ps,0<=lk T p/\Dfs.Edge R p d) (hC:∀ p,Dfs.Reach R root p->Dfs.Edge R p d->p ∈ ps) (dc:lk pl m<lk pl d) (hq:lk T d=(q:Int)):m=q:=by
 have dom:∀ x b,0<=lk T b->Anc T root x b->Dom R root x b:=by
  intro x b hb h k hk;obtain⟨j,h1,h2⟩:=hK x (hn x (h.place hu.toChain hb).2) b (hn b hb) k hk;exact hP b hb x j h1 h h2
 obtain⟨q',h1,h2,h3⟩:=hu.par d hd hr;rw[hq]at h1;have e1:=Int.ofNat.inj h1;subst e1;have da:q ≠ d:=tD;have db:m ≠ d:=tD;have h4:Anc T root q m:=hm.top q (fun p hp=>hu.anc' (hY p hp).1 ((dom q d hd (.up hr hq (.refl _))).pred da (hY p hp).2));have h5:Dom R root m d:=zsE hr (fun p h6 h7=>dom m p (hY p (hC p h6 h7)).1 (hm.l p (hC p h6 h7)));have h6:=hu.sdom d hd hr m db h5 q hq;exact(zsF hu.toChain h4 (hu.anc' h3 h6) hm.ok).symm
theorem Up.fixed (hu:Up R root pl T) (hC:∀ b q:Nat,b ≠ root->0<=lk T b->lk T b=(q:Int)->∀ p,Dfs.Reach R root p->Dfs.Edge R p b->Anc T root q p) (hY:∀ b,Dfs.Reach R root b->0<=lk T b) (h:Anc T root x b) (hb:Dfs.Reach R root b):Dom R root x b:=by
 intro k hk;induction hk with
 | start h1=>exact h1 h.of_root.symm
 | @step k a b ha he hne ih =>
  have da:b ≠ root:=by rintro rfl;exact hne h.of_root.symm
  obtain⟨q,h1,_,_⟩:=hu.par b (hY b hb) da;exact ih ((h.parent (fun e=>hne e.symm) h1).trans (hC b q da (hY b hb) h1 a ha.reach he)) ha.reach
end
end Go.GL.Dom
namespace Go.GL.Dom
open Go.GL.Dfs
structure Solved (R:List (List Int)) (root n:Nat) (pl T:List Int):Prop where
 len:T.length=n
 out:∀ b,b<n->¬ Dfs.Reach R root b\/b=root->T[b]?=some (-1)
 idom:∀ b,Dfs.Reach R root b->b ≠ root->∃ p:Nat,T[b]?=some (p:Int)/\p ≠ b/\Dom R root p b/\(∀ x,x ≠ b->Dom R root x b->Dom R root x p)/\lk pl p<lk pl b/\Dfs.Reach R root p
theorem zay {n:Nat} (h:Dfs.Place n order pl) (ha:0<=lk pl a):order[(lk pl a).toNat]?=some a/\a<n:=by
 have h1:=kr ha;have h2:a<n:=by rw[<- h.len];exact(zt5.1 h1).1
 refine⟨?_,h2⟩;by_cases hm:a ∈ order
 .
  obtain⟨i,hi⟩:=zv5.1 hm;have:=h.inn i a hi
  grind
 have:=h.out a h2 hm
 grind
section
variable {n K:Nat} {ch:Bool}
theorem Up.init (hO:Order R root order) (hP:Dfs.Place n order pl) (hr:root<n):Up R root pl ((List.replicate n (-1)).set root (root:Int)):=by
 have hC:root<(List.replicate n (-1:Int)).length:=tD
 have hT:∀ b,0<=lk ((List.replicate n (-1)).set root (root:Int)) b->b=root:=by
  intro b hb;by_cases e:root=b
  . exact e.symm
  rw[yJ e]at hb;unfold lk at hb;by_cases h:b<n
  . grind
  rw[ztf tD]at hb;simp at hb
 have hY:lk pl root=0:=xJ (hP.inn 0 root hO.head);refine⟨⟨yF hC,hY,?_,?_,?_⟩,?_⟩
 .
  intro a b ha da;have h1:=(zay hP ha).1;have h2:=(zay hP (a:=b) tO).1
  grind
 . grind
 . grind
 grind
structure L1 (R:List (List Int)) (root n:Nat) (pl:List Int) (K k:Nat) (ch:Bool) (T:List Int):Prop where
 up:Up R root pl T
 len:T.length=n
 neg:∀ b,b<n->lk T b<0->lk T b=-1
 all:k=0\/∀ b,Dfs.Reach R root b->0<=lk T b
 old:∀ b:Nat,0<=lk T b->Pk R root T k b
 big:ch=true->k<=K
 fix:ch=false->(∀ b,Dfs.Reach R root b->0<=lk T b)/\∀ b q:Nat,b ≠ root->Dfs.Reach R root b->lk T b=(q:Int)->∀ p,0<=lk T p->Dfs.Edge R p b->Anc T root q p
structure L2 (R:List (List Int)) (root n:Nat) (pl:List Int) (order:List Nat) (K k i:Nat) (ch:Bool) (T:List Int):Prop where
 up:Up R root pl T
 len:T.length=n
 neg:∀ b,b<n->lk T b<0->lk T b=-1
 all:k=0\/∀ b,Dfs.Reach R root b->0<=lk T b
 old:∀ b:Nat,0<=lk T b->Pk R root T k b
 done:∀ j c:Nat,j<=i->order[j]?=some c->0<=lk T c/\Pk R root T (k+1) c
 big:ch=true->k<K
 fix:ch=false->∀ j d q:Nat,1<=j->j<=i->order[j]?=some d->lk T d=(q:Int)->∀ p,0<=lk T p->Dfs.Edge R p d->Anc T root q p
theorem L1.init (hO:Order R root order) (hP:Dfs.Place n order pl) (hr:root<n):L1 R root n pl K 0 true ((List.replicate n (-1)).set root (root:Int)):=by
 refine⟨Up.init hO hP hr,tR,?_,.inl rfl,fun b _=>Pk.zero b,fun _=>zt6 _,fun h=>tD⟩;intro b hb hC;by_cases e:root=b
 .
  subst e;rw[yF tD]at hC;omega
 rw[yJ e]at hC ⊢;unfold lk at *
 grind
theorem L2.start (hO:Order R root order) (h:L1 R root n pl K k ch T):L2 R root n pl order K k 0 false T:=by
 refine⟨h.up,h.len,h.neg,h.all,h.old,?_,fun h=>tD,fun _ j d q h1 h2=>tO⟩;intro j c hj hc;obtain rfl:j=0:=tO;rw[hO.head]at hc;cases hc;exact⟨by rw[h.up.rootT];omega,zsD _⟩
theorem L2.last (hO:Order R root order) (h:L2 R root n pl order K k i ch T) (hi:i+1=order.length):L1 R root n pl K (k+1) ch T:=by
 have hC:∀ b,Dfs.Reach R root b->0<=lk T b/\Pk R root T (k+1) b:=by
  intro b hb;obtain⟨j,hj⟩:=zv5.1 ((hO.mem b).2 hb);have:=(zt5.1 hj).1;exact h.done j b tO hj
 refine⟨h.up,h.len,h.neg,.inr (fun b hb=>(hC b hb).1),?_,fun hc=>h.big hc,fun hc=>⟨fun b hb=>(hC b hb).1,?_⟩⟩
 .
  intro b hb;by_cases e:b=root
  . subst e;exact zsD _
  by_cases hr:Dfs.Reach R root b
  . grind
  intro x j _ _ hY;exact hr hY.reach
 intro b q da hb hq p hp he;obtain⟨j,hj⟩:=zv5.1 ((hO.mem b).2 hb);have db:=(zt5.1 hj).1
 have h0:j ≠ 0:=by
  rintro rfl;rw[hO.head]at hj
  grind
 exact h.fix hc j b q tO tO hj hq p hp he
theorem L2.facts (hO:Order R root order) (hP:Dfs.Place n order pl) (h:L2 R root n pl order K k i ch T) (hd:order[i+1]?=some d) {ps:List Nat} (db:∀ p,p ∈ ps ↔ 0<=lk T p/\Dfs.Edge R p d) :
  d ≠ root/\d<n/\0<=lk pl d/\ps ≠ []/\∀ m,MeetAll T root ps m->lk pl m<lk pl d:=by
 have hC:=hP.inn _ _ hd
 have hr:d ≠ root:=by
  rintro rfl;have h1:=hP.inn _ _ hO.head
  grind
 obtain⟨j,p,hj,hp,he⟩:=hO.par _ _ hd hr;have da:=(h.done j p tO hp).1;have hY:p ∈ ps:=(db p).2 ⟨da,he⟩;have dc:=hP.inn _ _ hp;refine⟨hr,?_,by rw[xJ hC];omega,fun e=>tD,fun m hm=>?_⟩
 . rw[<- hP.len];exact(zt5.1 hC).1
 have:=((hm.l p hY).place h.up.toChain da).1;rw[xJ dc]at this;rw[xJ hC];omega
theorem set_same {x:Int} (h:T[d]?=some x):T.set d x=T:=by
 apply zuj;intro j;by_cases e:d=j
 .
  subst e;rw[zuH (zt5.1 h).1,h]
 rw[zuG e]
theorem L2.core (hO:Order R root order) (hP:Dfs.Place n order pl) (h:L2 R root n pl order K k i ch T) {ps:List Nat} (hd:order[i+1]?=some d) (da:∀ p,p ∈ ps ↔ 0<=lk T p/\Dfs.Edge R p d) (hm:MeetAll T root ps m) (ch':Bool) (dc:ch'=true->k<K)
  (dg:ch'=false->∀ j d' q:Nat,1<=j->j<=i+1->order[j]?=some d'->lk (T.set d (m:Int)) d'=(q:Int)->∀ p,0<=lk (T.set d (m:Int)) p->Dfs.Edge R p d'->Anc (T.set d (m:Int)) root q p):L2 R root n pl order K k (i+1) ch' (T.set d (m:Int)):=by
 obtain⟨hr,dm,dr,_,db⟩:=h.facts hO hP hd da;have db:=db m hm;have hY:d<T.length:=by rw[h.len];exact dm
 have hC:Pk R root (T.set d (m:Int)) (k+1) d:=Pk.new h.up hY hr hm db (fun hk p h1 h2=>(da p).2 ⟨h.all.resolve_left tO p h1,h2⟩) (fun p hp=>h.old p ((da p).1 hp).1)
 have dl:∀ b:Nat,0<=lk T b->0<=lk (T.set d (m:Int)) b:=by
  intro b hb;by_cases e:d=b
  . subst e;rw[yF hY];omega
  rw[yJ e];exact hb
 refine⟨h.up.update hY hr dr hm (fun p hp=>(da p).1 hp) db,by rw[zuS];exact h.len,?_,h.all.imp id (fun ha b hb=>dl b (ha b hb)),?_,?_,dc,dg⟩
 .
  intro b hb dh;by_cases e:d=b
  . subst e;rw[yF hY]at dh;omega
  rw[yJ e]at dh ⊢;exact h.neg b hb dh
 .
  intro b hb;by_cases e:d=b
  . subst e;exact hC.less (Nat.le_succ _)
  rw[yJ e]at hb;exact Pk.old hY hC (Nat.le_succ _) (h.old b hb)
 intro j c hj hc;by_cases e:d=c
 . subst e;exact⟨by rw[yF hY];omega,hC⟩
 have dt:j<=i:=by
  grind
 obtain⟨h1,h2⟩:=h.done j c dt hc;exact⟨dl c h1,Pk.old hY hC (ztg _) h2⟩
theorem L2.change (hO:Order R root order) (hP:Dfs.Place n order pl) (dh:0<K) (hK:∀ x,x<n->∀ b,b<n->∀ k,AvN R root x k b->∃ j,j<K/\AvN R root x j b) (h:L2 R root n pl order K k i ch T) {ps:List Nat} (hd:order[i+1]?=some d) (hY:∀ p,p ∈ ps ↔ 0<=lk T p/\Dfs.Edge R p d) (hm:MeetAll T root ps m) (db:lk T d ≠ (m:Int)) :
  L2 R root n pl order K k (i+1) true (T.set d (m:Int)):=by
 refine h.core hO hP hd hY hm true (fun _=>?_) (fun h=>tD);obtain⟨hr,dl,dm,_,dc⟩:=h.facts hO hP hd hY;apply Nat.lt_of_not_le;intro hk;have hC:=h.all.resolve_left tO;have dg:Dfs.Reach R root d:=(hO.mem d).1 (zsS hd);have da:=hC d dg;obtain⟨q,hq⟩:=ztN da;have:=zom h.up hK (fun x hx=>(zay hP (h.up.proc x hx)).2) (fun b hb=>(h.old b hb).less hk) hr da hm (fun p hp=>(hY p).1 hp) (fun p h1 h2=>(hY p).2 ⟨hC p h1,h2⟩) (dc m hm) hq;exact db tO
theorem L2.same (hO:Order R root order) (hP:Dfs.Place n order pl) (h:L2 R root n pl order K k i ch T) {ps:List Nat} (hd:order[i+1]?=some d) (hC:∀ p,p ∈ ps ↔ 0<=lk T p/\Dfs.Edge R p d) (hm:MeetAll T root ps m) (he:lk T d=(m:Int)) :
  L2 R root n pl order K k (i+1) ch T:=by
 have hT:T.set d (m:Int)=T:=by
  have:=kr (l:=T) (i:=d) tO;rw[he]at this;exact set_same this
 have:=h.core hO hP hd hC hm ch h.big;rw[hT]at this;refine this (fun hc j d' q h1 h2 hj hq p hp hE=>?_);by_cases e:j=i+1
 .
  subst e;rw[hd]at hj;have e1:=Option.some.inj hj;subst e1;rw[he]at hq;have e2:=Int.ofNat.inj hq;subst e2;exact hm.l p ((hC p).2 ⟨hp,hE⟩)
 exact h.fix hc j d' q h1 tO hj hq p hp hE
theorem L1.solved (hO:Order R root order) (hP:Dfs.Place n order pl) (hr:root<n) (h:L1 R root n pl K k false T):Solved R root n pl (T.set root (-1)):=by
 obtain⟨hC,dc⟩:=h.fix rfl
 have da:∀ {x b},Anc T root x b->Dfs.Reach R root b->Dom R root x b:=fun hA hb=>h.up.fixed (fun b q h1 h2 h3 p h4 h5=>by
  by_cases hb:Dfs.Reach R root b
  . grind
  .
   exact absurd (.step h4 h5) hb) hC hA hb
 have db:∀ b:Nat,0<=lk T b->Dfs.Reach R root b:=fun b hb=>(hO.mem b).1 (zsS (zay hP (h.up.proc b hb)).1);have dg:root<T.length:=by rw[h.len];exact hr
 refine⟨by rw[zuS];exact h.len,?_,?_⟩
 .
  intro b hb hor;by_cases e:root=b
  . subst e;rw[zuH dg]
  rw[zuG e];have h1:¬ 0<=lk T b:=fun h1=>hor.elim (fun h2=>h2 (db b h1)) (fun h2=>e h2.symm);have h2:=h.neg b hb tO;unfold lk at h2;have dh:b<T.length:=by rw[h.len];exact hb
  have h3:T[b]?=some T[b]:=zsR dh;rw[h3]at h2 ⊢;exact congrArg some h2
 intro b hb hY;obtain⟨p,h1,h2,h3⟩:=h.up.par b (hC b hb) hY;have h4:=kr (l:=T) (i:=b) tO;rw[h1]at h4;refine⟨p,by rw[zuG (fun e=>hY e.symm)];exact h4,tD,da (.up hY h1 (.refl _)) hb,fun x hx hd=>h.up.sdom b (hC b hb) hY x hx hd p h1,h2,db p h3⟩
end
end Go.GL.Dom
namespace Go.GL
theorem R.loE {dst:Option Tmp} {ty:TypeId} {pos:String} {x lo:Operand} {ao ao1:Option Addr} {l:Nat} {kd:IntKind} {i:Int} (hu:∀ w,(underlying t).run P w=.ok (.slice e) w) (hs:∀ w,(sizeOf e).run P w=.ok k w) (hx:ev env x=some (.slice ao l c)) (hy:ev env lo=some (.int kd i)) (hE:(if c=i.toNat then ao else ao.map (·.add (i.toNat*k)))=ao1) (h0:0<=i/\i<=l) :
  yu P ⟨dst,.slice t x (some lo) none none,ty,pos,aft,g⟩ env w (.slice ao1 (l - i.toNat) (c - i.toNat)) w:=hE ▸ zpk hu hs hx hy h0
end Go.GL
namespace Go.Proofs.YtckdhgbepmpgiaaGreat
open Go.GL Go.GL.Dom Go.GL.Dfs
structure BackRows (R P:List (List Int)):Prop where
 len:P.length=R.length
 mem:∀ (b:Nat) r,P[b]?=some r->∀ y:Int,y ∈ r ↔ ∃ a:Nat,y=(a:Int)/\Dfs.Edge R a b
 short:∀ (b:Nat) r,P[b]?=some r->r.length<=R.length
theorem zfQ (h:i<l.length):l[i]?=some (lk l i):=by simp[lk,h]
theorem zlu (Rw Pw:List (List Int)) (root n bw bp bt:Nat) (nv bv ov:Value) (order:List Nat) (pl:List Int) (D:Nat->Prop) (w:World) (hn:Rw.length=n) (hroot:root<n) (hO:Dfs.Order Rw root order) (dc:Dfs.Place n order pl) (hB:BackRows Rw Pw)
  (hbv:SlR 1 (RSl 1 zG) D w bv Pw) (hD:∀ b,D b->b ≠ bt) (hW:Blk w bw [nv,bv,ov,.slice (some ⟨bp,0,none⟩) n n,.slice (some ⟨bt,0,none⟩) n n] 175) (hov:w.ownsRow 0 3 1 ov order.length (order.map qE)) (hog:∀ g,ov.ownBlock=some g->g ≠ bt)
  (hP:Blk w bp (pl.map (.int .i64)) 3) (hT:Blk w bt (List.replicate n (.int .i64 (-1))) 3) (dh:bw ≠ bt) (dx:bp ≠ bt) :
  Calls prog 147 #[.pointer (some ⟨bw,0,none⟩)] w (Ret fun u w'=>u=.tuple #[]/\∃ T,Solved Rw root n pl T/\Blk w' bt (T.map (.int .i64)) 3/\Keep (fun q=>q=bt) w w'):=by
 obtain⟨nb,cb,rfl,d7,d8,dy⟩:=hbv
 have dT:order ≠ []:=by
  intro h;have:=hO.head
  grind
 have eK:0<order.length:=List.length_pos_iff.2 dT;obtain⟨g,cap,sp,rfl,_,eL,eM,dU,eN⟩:=jz hov dT;have dz:g ≠ bt:=hog g rfl
 have d9:(order.map qE++sp)[0]?=some (qE root):=by
  rw[zth tD,zt8,hO.head];rfl
 obtain⟨K,eb,hK⟩:=zol Rw root n;refine zqq func147 O ntmps147 O (Gs 5 O (zqk O tg27 (hW.cells 2 _ O) (Ga 1 O tO (zqk O tg3 (dU.cells.el1 0 O d9) (Gs 8 O (zqk O tg27 (hW.cells 4 _ O) (Ga 3 O tO (zpt O (M.store ts3 O O O O hT tD) ?_))))))));rintro w1 ⟨eO,dV,ec⟩;rw[show 0+(root:Int).toNat*1=root from tO]at dV;have dA:Blk w1 bt (((List.replicate n (-1)).set root (root:Int)).map (.int .i64)) 3:=by rw[zuZ,zuY];exact dV
 refine Gs 9 O (G.loop (σ:=Nat × Bool × List Int) (fun⟨k,ch,T⟩=>[(0,.pointer (some ⟨bw,0,none⟩)),(2,.int .i64 root),(3,.bool ch)]) (fun⟨k,ch,T⟩=>fun w'=>L1 Rw root n pl K k ch T/\Blk w' bt (T.map (.int .i64)) 3/\Keep (fun q=>q=bt) w w') (fun⟨k,ch,T⟩=>(if ch then K+1 - k else 0)) (0,true,(List.replicate n (-1)).set root (root:Int)) j2 ⟨L1.init hO dc hroot,dA,ec⟩ ?_);rintro⟨k,ch,T⟩ w2 ⟨hL,dW,du⟩;refine Gs 6 O (zqf O (fun dB=>?_) (fun dB=>?_))
 .
  subst dB;have dC:=du.blk hW dh;have eP:=hL.big rfl
  obtain⟨ao1,hE,hF⟩:∃ ao1:Option Addr,(if cap=(1:Int).toNat then some ⟨g,0,none⟩ else (some (⟨g,0,none⟩:Addr)).map (·.add ((1:Int).toNat*1)))=ao1/\(1<order.length->ao1=some ⟨g,1,none⟩):=by
   refine⟨_,rfl,fun h=>?_⟩;rw[zt1 tO];rfl
  refine Gs 13 O (zqk O tg27 (dC.cells 2 _ O) (zqg O O (R.loE tR27 ts3 O O hE tO) (Gs 5 O (G.loop (σ:=Nat × Bool × List Int) (fun⟨i,ch,T⟩=>[(0,.pointer (some ⟨bw,0,none⟩)),(2,.int .i64 root),(3,.bool ch),(27,.slice ao1 (order.length - 1) (cap - 1)),(28,.int .i64 (order.length - 1:Nat)),(29,.int .i64 i)]) (fun⟨i,ch,T⟩=>fun w'=>L2 Rw root n pl order K k i ch T/\i+1<=order.length/\Blk w' bt (T.map (.int .i64)) 3/\Keep (fun q=>q=bt) w w') (fun⟨i,ch,T⟩=>order.length - i) (0,false,T) j2 ⟨L2.start hO hL,tO,dW,du⟩ ?_))));rintro⟨i,ch,T⟩ w3 ⟨dg,eQ,dt,db⟩;have dX:=dg.len;refine Gs 6 O (zqe O (fun eR=>?_) (fun eS=>?_))
  .
   obtain⟨d,hd⟩:∃ d,order[i+1]?=some d:=j9
   have ed:((order.map qE++sp).drop 1)[i]?=some (qE d):=by
    rw[zuz,zth tD,zt8,zvG,hd];rfl
   have ee:=db.blk dU dz;have dD:=db.blk hW dh;have ef:=db.blk hP dx;have eh:Cells w3 g 1 ((order.map qE++sp).drop 1):=ee.cells.part 1 (fun j u h=>by rwa [zuz]at h);have eT:d<n:=by rw[<- dc.len];exact(zt5.1 (dc.inn _ _ hd)).1
   obtain⟨r,hr⟩:∃ r,Pw[d]?=some r:=⟨_,zsR (by rw[hB.len];omega)⟩;obtain⟨bo,oo,cs,dE,dF,ei,ej,ek⟩:=dy d r hr;obtain⟨rv,rfl,ra,rc,rfl,em,er,dG⟩:=ek;have dH:=db.cells ej (hD bo dF);have eU:=hB.len;refine Gs 6 O (zqg O O (zph tR27 ts3 O O (hF tO) tO) (zqk O tg3 (eh.el1 i O ed) (Gs 14 O (zqk O tg89 (dD.cells 1 _ O) (Gs 1 O (zqg O O (zph tR89 ts27 O O dE tO) (zqk O tg27 (dH.el1 (cs:=[_]) 0 O O) (Gs 5 O (G.loop (σ:=Nat × Int) (fun⟨j,new⟩=>[(0,.pointer (some ⟨bw,0,none⟩)),(2,.int .i64 root),(3,.bool ch),(27,.slice ao1 (order.length - 1) (cap - 1)),(28,.int .i64 (order.length - 1:Nat)),(29,.int .i64 i),(5,.int .i64 d),(6,.int .i64 new),(39,.slice ra r.length rc),(40,.int .i64 r.length),(41,.int .i64 j)]) (fun⟨j,new⟩=>fun w'=>j<=r.length/\Ext w3 w'/\∃ ps:List Nat,(∀ p:Nat,p ∈ ps ↔ 0<=lk T p/\(p:Int) ∈ r.take j)/\((new=-1/\ps=[])\/∃ m:Nat,new=(m:Int)/\MeetAll T root ps m)) (fun⟨j,new⟩=>r.length - j) (0,-1) j2 ⟨zt6 _,Keep.refl _ _,[],tR,.inl x1⟩ ?_)))))))));rintro⟨j,new⟩ w4 ⟨eV,da,ps,dI,dl⟩;refine Gs 6 O (zqe O (fun eW=>?_) (fun eX=>?_))
   .
    obtain⟨y,hy⟩:∃ y,r[j]?=some y:=j9;obtain⟨p,rfl,ew⟩:=(hB.mem d r hr y).1 (zsS hy)
    have ez:p<n:=by
     obtain⟨r',h1,_⟩:=ew;rw[<- hn];exact(zt5.1 h1).1
    obtain⟨be,oe,ce,eA,eC,eD,eE,rfl⟩:=dG j _ hy;have dJ:=da.cells (db.cells eE (hD be eC)) (fun h=>h);have dm:=da.blk dD (fun h=>h);have dY:=da.blk ef (fun h=>h);have dr:=da.blk dt (fun h=>h)
    have dZ:∀ q:Nat,(q:Int) ∈ r.take (j+1) ↔ (q:Int) ∈ r.take j\/q=p:=by
     intro q;obtain⟨dK,eF⟩:=zt5.1 hy;rw[zvD dK,zta,zt9,eF];constructor
     . grind
     grind
    refine Gs 6 O (zqg O O (zph tR27 ts3 O O eA tO) (zqk O tg3 (dJ.el1 (cs:=[_]) 0 O O) (Gs 9 O (zqk O tg27 (dm.cells 3 _ O) (Ga 2 O tO (zqk O tg3 (dY.cells.el1 p O (qS (zfQ (by rw[dc.len];exact ez)))) (Gs 2 O (zqc (p:=0<=lk T p) (fun dw=>?_) (fun dw=>?_)))))))))
    .
     have eY:=dg.up.proc p dw;refine G.yes O O (zt4 tO) (Gs 1 O (G.yes O O (zt4 tO) (Gs 1 O (G.yes O O (zt4 tO) (Gs 1 O (G.yes O O (zt4 tO) (zqk O tg27 (dm.cells 4 _ O) (G.yes O O (zt4 tO) (Gs 1 O (G.yes O O (zt4 tO) (Ga 1 O tO (G.yes O O (zt4 tO) (zqk O tg3 (dr.cells.el1 p O (qS (zfQ tO))) (G.yes O O (zt4 tO) (Gs 1 O (zqg O O (zpc O (zt4 tO) O) ?_))))))))))))))));refine Gs 3 O (G.ff O (zt4 tO) (Gs 7 O (zqe O (fun eG=>?_) (fun eG=>?_))))
     .
      have dL:ps=[]:=by
       grind
      subst dL;refine Ga 11 O tO (G.back (j+1,(p:Int)) j2 ⟨tO,da,[p],?_,.inr ⟨p,rfl,.one dw⟩⟩ tD);intro q;rw[zt9,dZ];have:=dI q;constructor
      . grind
      grind
     obtain⟨m,rfl,hm⟩:∃ m:Nat,new=(m:Int)/\MeetAll T root ps m:=by
      grind
     refine Gs 4 O (G.call O call181 (zmV w4 dg.up.toChain dm dY dr dc.len dX m p hm.ok dw) ?_);rintro _ w5 ⟨m',rfl,eH,eI,dM⟩;refine Ga 9 O tO (G.back (j+1,(m':Int)) j2 ⟨tO,da.ext dM,ps++[p],?_,.inr ⟨m',rfl,hm.step eH eI⟩⟩ tD);intro q;rw[zta,zt9,dZ,dI];constructor
     . grind
     grind
    have hY:∀ q:Nat,q ∈ ps ↔ 0<=lk T q/\(q:Int) ∈ r.take (j+1):=by
     grind
    refine zqc (p:=lk pl p<0) (fun hC=>?_) (fun hC=>?_)
    . refine G.no O O (zt3 hC) O (G.no O O (zt3 hC) O (G.no O O (zt3 hC) O (G.no O O (zt3 hC) O (G.no O O (zt3 hC) O (G.no O O (zt3 hC) O (G.no O O (zt3 hC) O (G.no O O (zt3 hC) O (zqg O O (zpb O (zt3 hC) O) (Gs 3 O (zoG O rfl (Ga 8 O tO (G.back (j+1,new) j2 ⟨tO,da,ps,hY,dl⟩ tD))))))))))))
    refine G.yes O O (zt4 hC) (Gs 1 O (G.yes O O (zt4 hC) (Gs 1 O (G.yes O O (zt4 hC) (Gs 1 O (G.yes O O (zt4 hC) (zqk O tg27 (dm.cells 4 _ O) (G.yes O O (zt4 hC) (Gs 1 O (G.yes O O (zt4 hC) (Ga 1 O tO (G.yes O O (zt4 hC) (zqk O tg3 (dr.cells.el1 p O (qS (zfQ tO))) (G.yes O O (zt4 hC) (Gs 1 O (zqg O O (zpc O (zt4 hC) O) (Gs 3 O (zoG O (zt3 tO) ?_))))))))))))))))));refine Ga 8 O tO (G.back (j+1,new) j2 ⟨tO,da,ps,hY,dl⟩ tD)
   have dN:j=r.length:=tO;subst dN
   have hY:∀ p,p ∈ ps ↔ 0<=lk T p/\Dfs.Edge Rw p d:=by
    intro p;rw[dI,zsW,hB.mem d r hr];constructor
    .
     rintro⟨h1,a,h2,h3⟩;have:=Int.ofNat.inj h2;subst this;exact⟨h1,h3⟩
    rintro⟨h1,h2⟩;exact⟨h1,p,rfl,h2⟩
   obtain⟨eZ,_,fb,dO,eJ⟩:=dg.facts hO dc hd hY
   obtain⟨m,rfl,hm⟩:∃ m:Nat,new=(m:Int)/\MeetAll T root ps m:=by
    rcases dl with⟨_,h⟩ | h
    . exact absurd h dO
    exact h
   have dm:=da.blk dD (fun h=>h);have dr:=da.blk dt (fun h=>h);refine Gs 10 O (zqk O tg27 (dm.cells 4 _ O) (Ga 2 O tO (zqk O tg3 (dr.cells.el1 d O (qS (zfQ tO))) (Gs 4 O ?_))));have d5:i+1+1<=order.length:=(zt5.1 hd).1;refine zqe O (fun dQ=>?_) (fun dR=>?_)
   .
    refine Gs 4 O (zqk O tg27 (dm.cells 4 _ O) (Ga 3 O tO (zpt O (M.store ts3 O O O O dr tY) ?_)));rintro w5 ⟨fe,d6,dM⟩;rw[show 0+(d:Int).toNat*1=d from tO,<- zuZ]at d6;refine Ga 8 O tO (G.back (i+1,true,T.set d (m:Int)) j2 ⟨dg.change hO dc eb hK hd hY hm dQ,d5,d6,(db.ext da).trans dM (fun _ _ h=>h)⟩ (by show order.length - (i+1)<order.length - i;omega))
   refine Ga 7 O tO (G.back (i+1,ch,T) j2 ⟨dg.same hO dc hd hY hm (by simpa using dR),d5,dr,db.ext da⟩ tZ)
  refine Gs 5 O (G.back (k+1,ch,T) j2 ⟨dg.last hO tO,dt,db⟩ (?_));dsimp only;cases ch with
  | true=>have:=dg.big rfl;simp;omega
  | false=>simp;omega
 have dS:ch=false:=by simpa using dB
 subst dS;have hS:=hL.solved hO dc hroot;have dX:=hL.len;have dC:=du.blk hW dh;refine Gs 9 O (zqk O tg27 (dC.cells 4 _ O) (Ga 2 O tO (zpt O (M.store ts3 O O O O dW tY) ?_)));rintro w3 ⟨fg,dt,db⟩;rw[show 0+(root:Int).toNat*1=root from tO,<- zuZ]at dt;refine Gs 1 O (zp9 results147 ⟨_,rfl,rfl,_,hS,dt,du.trans db (fun _ _ h=>h)⟩)
end Go.Proofs.YtckdhgbepmpgiaaGreat
namespace Go.GL
theorem zsG {R:Rel α} {l:List α} (hk:0<k) (hR:∀ x cs,R D w x cs->R (fun b=>D b/\b<w.heap.size) w x cs) (h:SlR k R D w v l):SlR k R (fun b=>D b/\b<w.heap.size) w v l:=by
 obtain⟨ao,c,rfl,h1,h2,h3⟩:=h;refine⟨ao,c,rfl,h1,h2,fun i x hx=>?_⟩;obtain⟨b,o,cs,h4,h5,h6,h7,h8⟩:=h3 i x hx;refine⟨b,o,cs,h4,⟨h5,?_⟩,h6,h7,hR x cs h8⟩;have h9:=h7 0 cs[0] (zsR tO);exact zsT w _ h9
end Go.GL
namespace Go.Proofs.YtckdhgbepmpgiaaGreat
open Go.GL Go.GL.Dom Go.GL.Dfs
structure Prep (B:Nat) (w:World) (n root:Nat) (es:List (Int × Int)) (bw:Nat) (Rw Pw:List (List Int)) (order:List Nat) (pl T:List Int) (nv bv ov:Value) (bp bt:Nat):Prop where
 hn:n<=4096
 hroot:root<n
 rows:Dfs.Rows Rw
 succ:Succs n es Rw
 back:BackRows Rw Pw
 ord:Dfs.Order Rw root order
 place:Dfs.Place n order pl
 sol:Solved Rw root n pl T
 hw:Blk w bw [nv,bv,ov,.slice (some ⟨bp,0,none⟩) n n,.slice (some ⟨bt,0,none⟩) n n] 175
 hnv:SlR 1 (RSl 1 zG) (fun b=>B<=b) w nv Rw
 hbv:SlR 1 (RSl 1 zG) (fun b=>B<=b) w bv Pw
 hov:w.ownsRow 0 3 1 ov order.length (order.map qE)
 hog:∀ g,ov.ownBlock=some g->B<=g
 hP:Blk w bp (pl.map (.int .i64)) 3
 hT:Blk w bt (T.map (.int .i64)) 3
 ge:B<=bw/\B<=bp/\B<=bt
def yk (n:Int) (es:List (Int × Int)) (root:Int):Int:=if Gr.check n es ≠ 0 then Gr.check n es else if root<0\/n<=root then 3 else 0
theorem zjE {n:Nat} (h:Succs n es Rw) (hc:es.all (Gr.okE n)=true):Dfs.Rows Rw:=by
 refine⟨fun a r hr y hy=>?_⟩;have h1:=(h.mem a r hr y).1 hy;have h2:=ztX.1 hc _ h1;simp[Gr.okE]at h2;refine⟨y.toNat,tO,?_⟩;rw[h.len];omega
structure Half (Rw:List (List Int)) (a j:Nat) (rows:List (List Int)):Prop where
 len:rows.length=Rw.length
 mem:∀ (b:Nat) r,rows[b]?=some r->∀ y:Int,y ∈ r ↔ ∃ c:Nat,y=(c:Int)/\((c<a/\Dfs.Edge Rw c b)\/(c=a/\∃ r',Rw[a]?=some r'/\(b:Int) ∈ r'.take j))
 short:∀ (b:Nat) r,rows[b]?=some r->r.length<=a+1/\((∀ ra,Rw[a]?=some ra->(b:Int) ∉ ra.take j)->r.length<=a)
theorem Half.start (Rw:List (List Int)):Half Rw 0 0 (List.replicate Rw.length []):=by
 refine⟨tR,fun b r hr y=>?_,fun b r hr=>?_⟩
 . grind
 grind
theorem Half.next (h:Half Rw a ra.length rows) (hC:Rw[a]?=some ra):Half Rw (a+1) 0 rows:=by
 refine⟨h.len,fun b r hr y=>?_,fun b r hr=>?_⟩
 .
  rw[h.mem b r hr y];constructor
  .
   rintro⟨c,rfl,h1 | ⟨rfl,r',h2,h3⟩⟩
   . grind
   rw[hC]at h2;cases h2;rw[zsW]at h3;exact⟨c,rfl,.inl ⟨tO,ra,hC,h3⟩⟩
  rintro⟨c,rfl,⟨h1,h2⟩ | ⟨_,r',_,h3⟩⟩
  .
   by_cases e:c=a
   .
    subst e;obtain⟨r',h3,h4⟩:=h2
    grind
   grind
  grind
 have h5:=h.short b r hr;omega
theorem Half.push (h:Half Rw a j rows) (hC:Rw[a]?=some ra) (hj:ra[j]?=some (b:Int)) (hs:ra.Pairwise (·<·)) (hr:rows[b]?=some r):Half Rw a (j+1) (rows.set b (r++[(a:Int)])):=by
 obtain⟨hY,db⟩:=zt5.1 hj
 have da:∀ y,y ∈ ra.take (j+1) ↔ y ∈ ra.take j\/y=(b:Int):=by
  intro y;rw[zvD hY,zta,zt9,db]
 refine⟨by rw[zuS];exact h.len,fun d q hq y=>?_,fun d q hq=>?_⟩
 .
  by_cases e:b=d
  .
   subst e;rw[zuH (zt5.1 hr).1]at hq;cases hq;rw[zta,zt9,h.mem b r hr y];constructor
   . grind
   grind
  rw[zuG e]at hq;rw[h.mem d q hq y];constructor
  . grind
  grind
 by_cases e:b=d
 .
  subst e;rw[zuH (zt5.1 hr).1]at hq;cases hq
  have h5:=(h.short b r hr).2 (fun ra' h6 h7=>by
   rw[hC]at h6;cases h6;obtain⟨k,hk,dc⟩:=zv4.1 h7;rw[ztl]at hk;rw[List.getElem_take]at dc;have:=zvi.1 hs k j tO hY tO
   omega)
  rw[zsZ,ztc];refine⟨tO,fun h6=>absurd ((da _).2 (.inr O)) (h6 ra hC)⟩
 rw[zuG e]at hq;have h5:=h.short d q hq;refine⟨h5.1,fun h6=>h5.2 (fun ra' h7 h8=>?_)⟩;rw[hC]at h7;cases h7;exact h6 ra hC ((da _).2 (.inl h8))
theorem Half.back (h:Half Rw Rw.length 0 rows):BackRows Rw rows:=by
 refine⟨h.len,fun b r hr y=>?_,fun b r hr=>(h.short b r hr).2 (fun ra _=>tR)⟩;rw[h.mem b r hr y];constructor
 . grind
 rintro⟨c,rfl,h1⟩;obtain⟨r',h2,h3⟩:=h1;exact⟨c,rfl,.inl ⟨(zt5.1 h2).1,r',h2,h3⟩⟩
set_option maxRecDepth 100000 in
theorem zd0 (n root:Int) (es:List (Int × Int)) (ev:Value) (D:Nat->Prop) (w:World) (eH:SlR 2 xq D w ev es):Calls prog 99 #[.agg #[.int .i64 n,ev],.int .i64 root] w (Ret fun v w'=>∃ u,v=.tuple #[u,.int .i64 (yk n es root)]/\(yk n es root ≠ 0->u=.pointer none)/\(yk n es root=0->∃ bw Rw Pw order pl T nv bv ov bp bt,u=.pointer (some ⟨bw,0,none⟩)/\Prep w.heap.size w' n.toNat root.toNat es bw Rw Pw order pl T nv bv ov bp bt)/\Ext w w'):=by
 have d5:=eH;obtain⟨ao,cap,rfl,_⟩:=d5;refine zqr func99 O ntmps99 O (Gs 2 O (G.mem O O (M.box O O) ?_));rintro _ w1 ⟨b,rfl,hb,fI,eI,d6⟩;refine Gs 6 O (zqm O tg126 ts126 eI.cells O (G.call O call144 (zdP n es _ D w1 (eH.ext zU d6)) ?_));rintro _ w2 ⟨u,rfl,fJ,eR,eJ⟩;have dE:=d6.ext eJ;have eK:=eJ.blk eI (fun h=>h);refine Gs 14 O (zqe O (fun hc=>?_) (fun hc=>?_))
 .
  have hY:yk n es root=Gr.check n es:=by unfold yk;rw[zt2 hc]
  refine Gs 9 O (zoX tr99 O O ⟨_,rfl,.pointer none,tD,fun _=>rfl,fun h=>absurd (hY ▸ h) hc,dE⟩)
 have eL:Gr.check n es=0:=by simpa using hc
 obtain⟨h1,h2,h3,h4⟩:=Gr.check_zero eL;obtain⟨m,rfl⟩:=ztN h1;refine Gs 8 O (zqc (p:=root<0) (fun da=>?_) (fun da=>?_))
 .
  have hY:yk m es root=3:=by unfold yk;rw[zt1 tO,zt2 (.inl da)]
  refine G.no O O (zt3 da) O (G.no O O (zt3 da) O (G.no O O (zt3 da) O (G.no O O (zt3 da) O (zqg O O (zpb O (zt3 da) O) (Gs 2 O (zoG O rfl (Gs 8 O UW)))))))
 refine G.yes O O (zt4 da) (Gs 1 O (G.yes O O (zt4 da) (Gs 1 O (G.yes O O (zt4 da) (zqk O tg3 (eK.cells 0 _ O) (G.yes O O (zt4 da) (Gs 1 O (zqg O O (zpc O (zt4 da) O) (Gs 2 O (zqe O (fun eS=>?_) (fun eS=>?_)))))))))))
 .
  have hY:yk m es root=3:=by unfold yk;rw[zt1 tO,zt2 (.inr tO)]
  refine Gs 8 O UW
 have hY:yk m es root=0:=by unfold yk;rw[zt1 tO,zt1 tO]
 obtain⟨rt,rfl⟩:=ztN (by omega:0<=root);obtain⟨Rw,hR,hu⟩:=eR eL;simp only[ztd]at hR;have hC:=zjE hR h4;have eT:=hu;obtain⟨an,cn,rfl,fK,fL,d7⟩:=eT;have dX:=hR.len;have eM:m<=4096:=tO;refine Gs 3 O (Dw (fun w'=>Blk w' b [.int .i64 m,.slice ao es.length cap] 126) [] (fun w3 dt fM=>?_));have dF:=dt.blk eK (fun h=>h);refine Ds [0,1] tK O (WD.take 2 O tK O O O dF (fun w1 db=>R.load tg3 O (db.cells 0 _ O)) (Ds [4] tK O (WD.take 5 O tK O O O dF (fun w1 db=>R.load tg3 O (db.cells 0 _ O)) (Ds [7] tK O (WD.take 8 O tK O O O dF (fun w1 db=>R.load tg3 O (db.cells 0 _ O)) (zq2 (Ri:=fun w v w'=>∃ b,v=.slice (some ⟨b,0,none⟩) m m/\New w (List.replicate m (.slice none 0 0)) 27 b w') (Rj:=fun w v w'=>∃ b,v=.slice (some ⟨b,0,none⟩) m m/\w.heap.size<=b/\Blk w' b (List.replicate m (.int .i64 (-1))) 3/\Ext w w') (Rk:=fun w v w'=>∃ b,v=.slice (some ⟨b,0,none⟩) m m/\w.heap.size<=b/\Blk w' b (List.replicate m (.int .i64 (-1))) 3/\Ext w w') 3 6 9 O O O tK tK tK tK tK tK O O O O O O O O O O O O O O O O O O (fun w' dY=>dY.blk dF (fun h=>h)) (fun w' dY=>?_) (fun w' dY=>?_) (fun w' dY=>?_) ?_ ?_ ?_ ?_))))))
 . exact .of (zpv tu89 Tryz.el27 O O tO tO (zce m))
 . exact .call (F.call (vs:=[_]) call145 O) (zem m tO w')
 . exact .call (F.call (vs:=[_]) call145 O) (zem m tO w')
 .
  rintro a v a' ⟨b,rfl,hN⟩;exact⟨hN.2.2.2,b,rfl,by have:=hN.1;omega,by have:=hN.1;have:=hN.2.1;omega⟩
 .
  rintro a v a' ⟨b,rfl,hN,hB,hk⟩;exact⟨hk,b,rfl,hN,hB.lt⟩
 .
  rintro a v a' ⟨b,rfl,hN,hB,hk⟩;exact⟨hk,b,rfl,hN,hB.lt⟩
 rintro _ _ _ w4 d8 ⟨a1,a1',k1,⟨bo,rfl,eN⟩,k1'⟩ ⟨a2,a2',k2,⟨bp,rfl,fN,eU,k2''⟩,k2'⟩ ⟨a3,a3',k3,⟨bt,rfl,fO,eV,k3''⟩,k3'⟩ eW eX eY;have dx:=k1'.blk eN.2.2.1 (fun h=>h);have dG:=k2'.blk eU (fun h=>h);have dH:=k3'.blk eV (fun h=>h);have eO:bo ≠ bp:=fun h=>eW (by rw[h]);have eZ:bo ≠ bt:=fun h=>eX (by rw[h]);have d9:bp ≠ bt:=fun h=>eY (by rw[h]);have fP:w3.heap.size<=bo:=by have:=eN.1;have:=k1.size;omega
 have fQ:w3.heap.size<=bp:=by have:=k2.size;omega
 have fR:w3.heap.size<=bt:=by have:=k3.size;omega
 refine zpG 10 O tK O O O (fun w1=>R.build (v:=.agg #[.slice an Rw.length cn,.slice (some ⟨bo,0,none⟩) m m,.slice none 0 0,.slice (some ⟨bp,0,none⟩) m m,.slice (some ⟨bt,0,none⟩) m m]) [(0,_),(1,_),(3,_),(4,_)] O (fun _=>tK)) (WD.mem 11 O tK O O O (M.box O O) ?_);rintro _ w5 ⟨bw,rfl,fS,fT,eb,dI⟩;refine⟨fun _=>(d8.ext dI).blk dF (fun h=>h),?_⟩;refine Ds [12] tK O (G.done tK ?_ _);refine Gs 10 O ?_;have fb:=dt.size;have fe:=d8.size;have ec:Ext w3 w5:=d8.ext dI
 have fg:Mat (Value.int .i64) 3 27 w5.heap.size w5 bo (List.replicate m (.slice none 0 0)) (List.replicate Rw.length ([]:List Int)):=by
  rw[dX];exact Mat.start (dI.blk dx (fun h=>h))
 have dy:bw ≠ bo:=by have:=dx.lt;omega
 have fm:bo<w5.heap.size:=by have:=dx.lt;omega
 refine G.loop (σ:=Nat × List Value × List (List Int)) (fun⟨a,rv,rows⟩=>[(8,.pointer (some ⟨bw,0,none⟩)),(1,.int .i64 rt),(41,.slice an Rw.length cn),(42,.int .i64 Rw.length),(43,.int .i64 a)]) (fun⟨a,rv,rows⟩=>fun w'=>a<=Rw.length/\Half Rw a 0 rows/\Mat (Value.int .i64) 3 27 w5.heap.size w' bo rv rows/\Keep (fun q=>q=bo) w5 w') (fun⟨a,rv,rows⟩=>Rw.length - a) (0,List.replicate m (.slice none 0 0),List.replicate Rw.length []) j2 ⟨zt6 _,Half.start Rw,fg,Keep.refl _ _⟩ ?_;rintro⟨a,rv,rows⟩ w6 ⟨fU,hH,hM,dz⟩;refine Gs 6 O (zqe O (fun dJ=>?_) (fun fV=>?_))
 .
  obtain⟨r,hr⟩:∃ r,Rw[a]?=some r:=j9;obtain⟨b1,o1,cs1,ed,fp,fq,ft,fu⟩:=d7 a r hr;obtain⟨rv1,rfl,ra,rc,rfl,fw,fx,ee⟩:=fu;have ef:=(ft.same (fun dJ=>by rw[dz.block b1 (by have:=dt.size;omega) tO,ec.block b1 tO (fun h=>h),dt.block b1 dJ (fun h=>h)]));refine Gs 7 O (zqg O O (zph tR89 ts27 O O ed tO) (zqk O tg27 (ef.el1 (cs:=[_]) 0 O O) (Gs 12 O ?_)))
  have fW:r.length<=4096:=by
   have h5:=nodup_le m (r.map Int.toNat) (by
    rw[List.Nodup,zvj];refine(hR.sorted a r hr).imp_of_mem ?_;intro x y hx hy fX;obtain⟨q,rfl,_⟩:=hC.ok a r hr x hx;obtain⟨q',rfl,_⟩:=hC.ok a r hr y hy;omega) (by
    intro x hx;obtain⟨y,hy,rfl⟩:=zv6.1 hx;obtain⟨q,rfl,hq⟩:=hC.ok a r hr y hy
    omega)
   rw[ztb]at h5;omega
  refine G.loop (σ:=Nat × List Value × List (List Int)) (fun⟨j,rv,rows⟩=>[(8,.pointer (some ⟨bw,0,none⟩)),(1,.int .i64 rt),(41,.slice an Rw.length cn),(42,.int .i64 Rw.length),(43,.int .i64 a),(9,.int .i64 a),(48,.slice ra r.length rc),(49,.int .i64 r.length),(50,.int .i64 j)]) (fun⟨j,rv,rows⟩=>fun w'=>j<=r.length/\Half Rw a j rows/\Mat (Value.int .i64) 3 27 w5.heap.size w' bo rv rows/\Keep (fun q=>q=bo) w5 w') (fun⟨j,rv,rows⟩=>r.length - j) (0,rv,rows) j2 ⟨zt6 _,hH,hM,dz⟩ ?_;rintro⟨j,rv,rows⟩ w7 ⟨fY,dK,dA,dm⟩;refine Gs 6 O (zqe O (fun fZ=>?_) (fun f0=>?_))
  .
   obtain⟨y,hy⟩:∃ y,r[j]?=some y:=j9;obtain⟨b,rfl,f4⟩:=hC.ok a r hr y (zsS hy);obtain⟨be,oe,ce,fy,f5,fA,fB,rfl⟩:=ee j _ hy;have eh:=(fB.same (fun dJ=>by rw[dm.block be (by have:=dt.size;omega) tO,ec.block be tO (fun h=>h),dt.block be dJ (fun h=>h)]));have dr:=dm.blk eb dy;have hm:=Mat.at (i:=b) dA (by rw[dK.len];omega);obtain⟨v,q,hv,hq⟩:=hm;refine Gs 6 O (zqg O O (zph tR27 ts3 O O fy tO) (zqk O tg3 (eh.el1 (cs:=[_]) 0 O O) (Gs 3 O (Dw (fun w'=>Blk w' bw [.slice an Rw.length cn,.slice (some ⟨bo,0,none⟩) m m,.slice none 0 0,.slice (some ⟨bp,0,none⟩) m m,.slice (some ⟨bt,0,none⟩) m m] 175/\Blk w' bo rv 27) [16] (fun w8 dZ f7=>?_)))));have dc:=dZ.blk dr (fun h=>h);have dL:=dA.ext dZ;refine Ds [0,1,2] tK O (WD.take 3 O tK O O O ⟨dc,dL.out⟩ (fun w1 db=>R.load tg89 O (db.1.cells 1 _ O)) (Ds [4,5,6,7] tK O (WD.take 8 O tK O O O ⟨dc,dL.out⟩ (fun w1 db=>R.load tg89 O (db.1.cells 1 _ O)) (Da [9,10] tK O tO (WD.take 11 O tK O O O ⟨dc,dL.out⟩ (fun w1 db=>R.load tg27 O (db.2.cells.el1 b O hv)) (Ds [12] tK O (WD.mem 13 O tK O O O (M.buildSlice (cs:=[.int .i64 a]) [(0,_)] tR27 ts3 tz3 tS O tK) ?_)))))));rintro _ w9 ⟨b9,rfl,f8,f9,fC,dD⟩;refine⟨fun _=>⟨dD.blk dc (fun h=>h),dD.blk dL.out (fun h=>h)⟩,?_⟩;have dB:=dL.ext dD;have ei:=dB.row b v q hv hq;have fD:=dK.short b q hq;have gc:q.length<=20000:=by have:=fD.1;omega
   refine WD.mem 14 O tK O O O (M.append tu27 Tryz.el3 O tS O O ei O (Cells.add fC.cells) (by simp;rfl) tO tO) ?_;rintro v' w10 ⟨dg,dM,dh,_⟩;obtain⟨av,cv,rfl⟩:=yb dg;have du:v.ownBlock ≠ some bo:=fun h=>(dB.far b v bo hv h).2 rfl;have dN:v.ownBlock ≠ some bw:=fun h=>by have:=(dB.far b v bw hv h).1;have:=eb.lt;omega
   have dO:=dh.blk (dD.blk dc (fun h=>h)) dN;refine⟨fun _=>⟨dO,dh.blk dB.out du⟩,?_⟩;refine Da [15] tK O tO (zps 16 O tK O O (M.store ts27 O O O O (dh.blk dB.out du) (by rw[dB.len,dK.len];omega)) ?_);rintro w11 dC;refine⟨fun h=>absurd (zt9.2 O) h,?_⟩;rw[show 0+(b:Int).toNat*1=b from tO]at dC;have dQ:Keep (fun q=>v.ownBlock=some q\/q=bo) w9 w11:=(dh.mono (fun _ _ h=>.inl h)).trans dC.2.2 (fun _ _ h=>.inr h);have dR:Keep (fun q=>v.ownBlock=some q\/q=bo) w7 w11:=((dZ.ext dD).mono (fun _ _ h=>h.elim)).trans dQ (fun _ _ h=>h);refine G.done tK ?_ _;refine Ga 6 O tO (G.back (j+1,rv.set b (.slice av (q.length+1) cv),rows.set b (q++[(a:Int)])) j2 ⟨tO,dK.push hr hy (hR.sorted a r hr) hq,?_,?_⟩ tZ)
   . exact dB.push (by have:=dD.size;have:=dZ.size;have:=dm.size;omega) hv hq dg dM dh dC
   exact dm.trans dR (fun q' gf h=>by
    rcases h with h | h
    . have:=(dA.far b v q' hv h).1;omega
    .
     exact h)
  have ej:j=r.length:=tO;subst ej;refine Ga 10 O tO (G.back (a+1,rv,rows) j2 ⟨tO,dK.next hr,dA,dm⟩ tZ)
 have ek:a=Rw.length:=tO;subst ek;have eP:=hH.back;have em:=dz.blk eb dy;have er:=dz.blk (dI.blk dG (fun h=>h)) (fun h=>eO h.symm);have ew:=dz.blk (dI.blk dH (fun h=>h)) (fun h=>eZ h.symm);have dS:Keep (fun q=>q=bo) w3 w6:=(ec.mono (fun _ _ h=>h.elim)).trans dz (fun _ _ h=>h);have ez:Keep (fun q=>q=bo) w2 w6:=(dt.mono (fun _ _ h=>h.elim)).trans dS (fun _ _ h=>h)
 have eA:=(zsG tS (fun x cs h=>by
  obtain⟨v,h1,h2⟩:=h
  exact⟨v,h1,zsG tS (fun _ _ h=>h) h2⟩) hu).keep (zP zc) ez (fun q hq dJ h=>by have h2:q<w2.heap.size:=hq.2;have h3:q=bo:=h;omega)
 have fE:=dG.lt;have fF:=dH.lt;refine Gs 9 O (G.call O call146 (zjC Rw rt m bw bp _ _ _ (fun b=>w1.heap.size<=b/\b<w2.heap.size) w6 hC dX eM tO hR.sorted eA (fun q hq=>tO) tO em er) ?_);rintro _ w7 ⟨rfl,order,pl,ov,hO,eQ,dr,dT,eC,dU,dm⟩;have eD:Keep (fun q=>q=bo\/q=bw\/q=bp) w3 w7:=(dS.mono (fun _ _ h=>.inl h)).trans dm (fun _ _ h=>.inr h)
 have dA:=hM.keep dm (fun h=>h.elim (fun h=>dy h.symm) eO) (fun i v q hv hq h=>by
  have:=(hM.far i v q hv hq).1
  rcases h with h | h<;>omega)
 have eE:=dm.blk ew (fun h=>h.elim (fun h=>tO) (fun h=>d9 h.symm))
 have dV:SlR 1 (RSl 1 zG) (fun q=>q=bo\/w5.heap.size<=q) w7 (.slice (some ⟨bo,0,none⟩) m m) rows:=by
  refine dA.sl j1 (.inl O) (fun i v g hv hg=>.inr (dA.far i v g hv hg).1) ?_ ?_ tO
  . rw[hH.len];exact dX.symm
  rw[hH.len];omega
 have fG:=dz.size;have dl:∀ g,ov.ownBlock=some g->w5.heap.size<=g:=fun g hg=>by have:=eC g hg;omega
 refine Gs 5 O (G.call O call147 (zlu Rw rows rt m bw bp bt _ _ _ order pl (fun q=>q=bo\/w5.heap.size<=q) w7 dX tO hO eQ eP dV (fun q hq=>by rcases hq with h | h<;>omega) dr dT (fun g hg=>by have:=dl g hg;omega) dU eE tO d9) ?_);rintro _ w8 ⟨rfl,T,hS,eF,dW⟩;have fH:bw ≠ bt:=tO;have eG:Keep (fun q=>q=bo\/q=bw\/q=bp\/q=bt) w3 w8:=(eD.mono (fun _ _ h=>by rcases h with h | h | h<;>simp[h])).trans dW (fun _ _ h=>.inr (.inr (.inr h)));have dw:Ext w2 w8:=dt.trans eG (fun q hq h=>by rcases h with h | h | h | h<;>omega);refine Gs 10 O ?_;rw[hY];refine zoX tr99 O O ⟨_,rfl,.pointer (some ⟨bw,0,none⟩),rfl,fun h=>absurd O h,fun _=>⟨bw,Rw,rows,order,pl,T,.slice an Rw.length cn,.slice (some ⟨bo,0,none⟩) m m,ov,bp,bt,rfl,?_⟩,dE.ext dw⟩;have db:=dE.size;refine⟨eM,tY,hC,hR,eP,hO,eQ,hS,dW.blk dr fH,?_,?_,?_,?_,dW.blk dU d9,eF,?_⟩
 . exact(hu.ext (zP zc) dw).wide (zP zc) (fun b h=>by have:=d6.size;omega)
 . exact(dV.keep (zP zc) dW (fun q hq _ h=>by rcases hq with h' | h'<;>omega)).wide (zP zc) (fun b h=>by rcases h with h | h<;>omega)
 . exact zj dT dW (fun g hg h=>by have:=dl g hg;omega)
 . exact fun g hg=>by have:=dl g hg;omega
 omega
open Go.GL
theorem zf3 (es:List Int) (v:Value) (D:Nat->Prop) (w:World) (dh:SlR 1 zG D w v es) (dl:es.length<=1048576):Calls prog 101 #[v] w (Ret fun u w'=>w'.ownsRow 0 3 1 u es.length (es.flatMap zdl)/\(∀ g,u.ownBlock=some g->w.heap.size<=g)/\Ext w w'):=by
 obtain⟨ao,cap,rfl,du,dw,db⟩:=dh;refine zqq func101 O ntmps101 O (Gs 9 O (zqg O O (zpO tu27 O) (Gs 2 O (zqf O (fun h=>?_) (fun h=>?_)))))
 .
  refine Gs 7 O ?_
  have:es=[]:=by
   cases es with
   | nil=>rfl
   | cons x r =>
    obtain⟨b,o,cs,hY,_⟩:=db 0 x rfl;rw[hY]at h;cases h
  subst this;refine zoU results101 O ⟨_,rfl,qF _ _ _,by simp[Value.ownBlock],Keep.refl _ _⟩
 obtain⟨a0,rfl⟩:∃ a0,ao=some a0:=by cases ao with
  | none=>cases h
  | some a0=>exact⟨a0,rfl⟩
 refine Gs 4 O (G.mem O O (zpP tR27 ts3) ?_);rintro _ w1 ⟨b,rfl,hb,hs,hB,hk⟩;refine Gs 1 O ?_;have da:w1.ownsRow 0 3 1 (.slice (some ⟨b,0,none⟩) 0 0) 0 []:=zN hB (ztg _) tO rfl
 have hC:∀ q u,(es.flatMap zdl)[q]?=some u->w1.cell? (a0.add q)=some u:=by
  intro q u hq;have dx:q<es.length*1:=by rw[<- qL];exact(zt5.1 hq).1
  obtain⟨x,hx⟩:∃ x,es[q / 1]?=some x:=j9;obtain⟨b',o',cs,hY,_,dy,dm,rfl⟩:=db (q / 1) x hx;cases hY;have h1:∃ u',(zdl x)[q % 1]?=some u':=⟨_,zsR (by rw[xN];omega)⟩;obtain⟨u',dc⟩:=h1;have h2:=zbk xN hx [] (q % 1) u' dc;rw[zu1,show q / 1*1+q % 1=q from tO,hq]at h2;cases h2;have h3:=dm (q % 1) u dc;rw[xg];rw[show o'+q / 1*1+q % 1=o'+q from tO]at h3;exact hk.cell h3 (fun h=>h)
 refine G.mem O O (M.append tu27 Tryz.el3 O tS O O da (qL es) hC (by intro u hu;obtain⟨x,_,hx⟩:=zv3.1 hu;rw[zt9.1 hx];rfl) tO tO) ?_;rintro u w2 ⟨dg,dr,dt,_⟩;refine Gs 4 O (zoU results101 O ⟨_,rfl,tD,?_,hk.trans dt (fun q hq h=>by simp[Value.ownBlock]at h;omega)⟩);intro g hg;rcases dr with h' | ⟨g',h',h''⟩
 . rw[h']at hg;simp[Value.ownBlock]at hg;omega
 grind
end Go.Proofs.YtckdhgbepmpgiaaGreat
namespace Go.GL.Dom
open Go.GL.Dfs
section
variable {n:Nat}
theorem Solved.up (h:Solved R root n pl T) (hb:Dfs.Reach R root b) (hd:Dom R root x b):x=b\/∃ p:Nat,b ≠ root/\T[b]?=some (p:Int)/\Dom R root x p/\lk pl p<lk pl b/\Dfs.Reach R root p:=by
 by_cases e:x=b
 . omega
 have hC:b ≠ root:=by rintro rfl;exact e (zsC hd)
 obtain⟨p,h1,h2,h3,h4,h5,h6⟩:=h.idom b hb hC
 grind
theorem xK (hO:Order R root order) (hP:Dfs.Place n order pl) (hb:Dfs.Reach R root b):0<=lk pl b:=by
 obtain⟨i,hi⟩:=zv5.1 ((hO.mem b).2 hb);rw[xJ (hP.inn i b hi)];omega
theorem Solved.before (h:Solved R root n pl T) (hO:Order R root order) (hP:Dfs.Place n order pl):∀ (k:Nat) {x b:Nat},lk pl b<=k->Dfs.Reach R root b->Dom R root x b->x=b\/lk pl x<lk pl b
 | k,x,b,hk,hb,hd=>by
  rcases h.up hb hd with h1 | ⟨p,h1,h2,h3,h4,h5⟩
  . omega
  have h6:=xK hO hP h5
  match k with
  | 0=>omega
  | k+1 =>
   rcases Solved.before h hO hP k tO h5 h3 with h7 | h7
   . grind
   omega
theorem Solved.lt (h:Solved R root n pl T) (hO:Order R root order) (hP:Dfs.Place n order pl) (hb:Dfs.Reach R root b) (hd:Dom R root x b) (hC:x ≠ b):lk pl x<lk pl b :=
 (h.before hO hP (lk pl b).toNat tO hb hd).resolve_left hC
def Vis (R:List (List Int)) (root:Nat) (x:Int) (a y:Nat):Prop:=Dom R root y a/\∀ c:Nat,x=(c:Int)->¬ Dom R root y c
def zo4 (R:List (List Int)) (root:Nat) (b a y:Nat):Prop:=Dom R root y a/\¬ (y ≠ b/\Dom R root y b)
structure At (R:List (List Int)) (root:Nat) (T:List Int) (b a:Nat) (x:Int):Prop where
 pos:(x=-1/\lk T b=-1)\/∃ c:Nat,x=(c:Int)/\Dfs.Reach R root c/\Dom R root c a/\∀ q:Nat,lk T b=(q:Int)->Dom R root q c
theorem Solved.tree_or (h:Solved R root n pl T) (hb:Dfs.Reach R root b) (hC:b<n):(b=root/\lk T b=-1)\/∃ q:Nat,b ≠ root/\lk T b=(q:Int)/\q ≠ b/\Dom R root q b/\(∀ x,x ≠ b->Dom R root x b->Dom R root x q)/\Dfs.Reach R root q/\lk pl q<lk pl b:=by
 by_cases e:b=root
 . exact .inl ⟨e,xJ (h.out b hC (.inr e))⟩
 obtain⟨p,h1,h2,h3,h4,h5,h6⟩:=h.idom b hb e;exact .inr ⟨p,e,xJ h1,h2,h3,h4,h6,h5⟩
theorem At.start (h:Solved R root n pl T) (hC:Dfs.Edge R a b) (ha:Dfs.Reach R root a) (hY:b<n):At R root T b a a:=by
 refine⟨.inr ⟨a,rfl,ha,Dom.refl a,fun q hq=>?_⟩⟩;rcases h.tree_or (.step ha hC) hY with⟨_,h1⟩ | ⟨q',_,h1,h2,h3,_⟩
 . omega
 rw[h1]at hq;have:=Int.ofNat.inj hq;subst this;exact h3.pred h2 hC
theorem Vis.start (a y:Nat):¬ Vis R root a a y:=fun h=>h.2 a rfl h.1
theorem At.step (h:Solved R root n pl T) (hA:At R root T b a c) (da:(c:Int) ≠ lk T b) (hn:∀ x,Dfs.Reach R root x->x<n):At R root T b a (lk T c):=by
 rcases hA.pos with⟨h1,_⟩ | ⟨c',h1,h2,h3,h4⟩
 . omega
 have:=Int.ofNat.inj h1;subst this;rcases h.tree_or h2 (hn _ h2) with⟨e,h5⟩ | ⟨p,e,h5,h6,h7,h8,h9,_⟩
 .
  subst e;refine⟨.inl ⟨h5,?_⟩⟩;by_cases hb:0<=lk T b
  .
   obtain⟨q,hq⟩:=ztN hb;have:=zsC (h4 q hq);omega
  have:lk T b=-1:=by
   unfold lk at hb ⊢;cases hx:T[b]? with
   | none=>rfl
   | some x =>
    rw[hx]at hb;have hC:b<n:=by rw[<- h.len];exact(zt5.1 hx).1
    by_cases hr:Dfs.Reach R c b
    .
     by_cases hY:b=c
     . have:=h.out b hC (.inr hY);rw[hx]at this;simpa using this
     obtain⟨p,h1,_⟩:=h.idom b hr hY
     grind
    have:=h.out b hC (.inl hr);rw[hx]at this;simpa using this
  exact this
 rw[h5];refine⟨.inr ⟨p,rfl,h9,h7.trans h3,fun q hq=>h8 q (fun e=>da tO) (h4 q hq)⟩⟩
theorem Vis.step (h:Solved R root n pl T) (hO:Order R root order) (hP:Dfs.Place n order pl) (hA:At R root T b a c) (hn:∀ x,Dfs.Reach R root x->x<n) (y:Nat):Vis R root (lk T c) a y ↔ Vis R root c a y\/y=c:=by
 rcases hA.pos with⟨h1,_⟩ | ⟨c',h1,h2,h3,_⟩
 . omega
 have:=Int.ofNat.inj h1;subst this;unfold Vis;rcases h.tree_or h2 (hn _ h2) with⟨e,h5⟩ | ⟨p,e,h5,h6,h7,h8,h9,da⟩
 .
  rw[h5];constructor
  .
   rintro⟨h6,_⟩;by_cases ey:y=c
   . omega
   refine .inl ⟨h6,fun c' hc hd=>?_⟩;have:=Int.ofNat.inj hc;subst this;subst e;exact ey (zsC hd)
  grind
 rw[h5];constructor
 .
  rintro⟨hC,hY⟩;by_cases ey:y=c
  . omega
  refine .inl ⟨hC,fun c' hc hd=>?_⟩;have:=Int.ofNat.inj hc;subst this;exact hY p O (h8 y ey hd)
 rintro (⟨hC,hY⟩ | rfl)
 .
  refine⟨hC,fun c' hc hd=>?_⟩;have:=Int.ofNat.inj hc;subst this;exact hY c O (hd.trans h7)
 refine⟨h3,fun c' hc hd=>?_⟩;have:=Int.ofNat.inj hc;subst this;have:=h.lt hO hP h9 hd (fun e=>h6 e.symm);omega
theorem Vis.done (h:Solved R root n pl T) (hO:Order R root order) (hP:Dfs.Place n order pl) {x:Int} (hA:At R root T b a x) (hb:Dfs.Reach R root b) (hC:b<n) (hx:x<0\/x=lk T b) (y:Nat):Vis R root x a y ↔ zo4 R root b a y:=by
 unfold Vis zo4;rcases h.tree_or hb hC with⟨e,h5⟩ | ⟨q,e,h5,h6,h7,h8,h9,db⟩
 .
  have hY:x=-1:=by
   rcases hA.pos with⟨h1,_⟩ | ⟨c',h1,_⟩
   . exact h1
   omega
  subst hY;constructor
  .
   rintro⟨h1,_⟩;refine⟨h1,fun h2=>?_⟩;subst e;exact h2.1 (zsC h2.2)
  grind
 have da:x=(q:Int):=by
  rcases hA.pos with⟨_,h1⟩ | ⟨c',h1,_⟩
  . omega
  omega
 subst da;constructor
 . grind
 rintro⟨h1,h2⟩;refine⟨h1,fun c hc hd=>?_⟩;have:=Int.ofNat.inj hc;subst this;refine h2 ⟨?_,hd.trans h7⟩;rintro rfl;have:=h.lt hO hP h9 hd (fun e=>h6 e.symm);omega
def xA (R:List (List Int)) (root:Nat) (x b:Nat):Prop:=∃ a,Dfs.Reach R root a/\Dfs.Edge R a b/\zo4 R root b a x
structure Noted (n:Nat) (rows:List (List Int)) (N:Nat->Nat->Prop):Prop where
 len:rows.length=n
 mem:∀ (x:Nat) r,rows[x]?=some r->∀ y:Int,y ∈ r ↔ ∃ b:Nat,y=(b:Int)/\N x b
theorem Noted.congr {N':Nat->Nat->Prop} (h:Noted n rows N) (hN:∀ x b,N x b ↔ N' x b):Noted n rows N' :=
 ⟨h.len,fun x r hr y=>by rw[h.mem x r hr y];exact⟨fun⟨b,h1,h2⟩=>⟨b,h1,(hN x b).1 h2⟩,fun⟨b,h1,h2⟩=>⟨b,h1,(hN x b).2 h2⟩⟩⟩
theorem Noted.push (h:Noted n rows N) (hr:rows[c]?=some r):Noted n (rows.set c (r++[(b:Int)])) (fun x b'=>N x b'\/(x=c/\b'=b)):=by
 refine⟨by rw[zuS];exact h.len,fun x q hq y=>?_⟩;by_cases e:c=x
 .
  subst e;rw[zuH (zt5.1 hr).1]at hq;cases hq;rw[zta,zt9,h.mem c r hr y];constructor
  . grind
  grind
 rw[zuG e]at hq;rw[h.mem x q hq y];constructor
 . grind
 grind
theorem Noted.start:Noted n (List.replicate n ([]:List Int)) (fun _ _=>False):=by
 refine⟨tR,fun x r hr y=>?_⟩;have:r=[]:=zui (zsS hr);subst this;simp
end
end Go.GL.Dom
namespace Go.Proofs.YtckdhgbepmpgiaaGreat
open Go.GL Go.GL.Dom Go.GL.Dfs
structure FrontRows (Rw:List (List Int)) (root n:Nat) (F:List (List Int)):Prop where
 len:F.length=n
 sorted:∀ (x:Nat) r,F[x]?=some r->r.Pairwise (·<·)
 mem:∀ (x:Nat) r,F[x]?=some r->∀ y:Int,y ∈ r ↔ ∃ b:Nat,y=(b:Int)/\xA Rw root x b
 short:∀ (x:Nat) r,F[x]?=some r->r.length<=1000000
def N0 (Rw:List (List Int)) (root:Nat) (order:List Nat) (i x b:Nat):Prop:=∃ j,j<i/\order[j]?=some b/\xA Rw root x b
def N1 (Rw:List (List Int)) (root:Nat) (order:List Nat) (i b:Nat) (r:List Int) (j x b':Nat):Prop:=N0 Rw root order i x b'\/(b'=b/\∃ a:Nat,(a:Int) ∈ r.take j/\Dfs.Reach Rw root a/\zo4 Rw root b a x)
theorem zf4 {n:Nat} (w:World) (hp:Prep B w n root es bw Rw Pw order pl T nv bv ov bp bt) (dH:n<=1000) :
  Calls prog 148 #[.pointer (some ⟨bw,0,none⟩)] w (Ret fun u w'=>∃ F,FrontRows Rw root n F/\SlR 1 (RSl 1 zG) (fun b=>w.heap.size<=b) w' u F/\Ext w w'):=by
 have dI:=hp.succ.len;have hnv:=hp.hnv;obtain⟨na,nc,rfl,fp,fq,_⟩:=hnv;have hbv:=hp.hbv;obtain⟨ba,bc,rfl,eD,eE,dL⟩:=hbv;have ft:=hp.back.len;have hW:=hp.hw;have fu:=hW.lt;have hC:∀ x,Dfs.Reach Rw root x->x<n:=fun x hx=>by rw[<- dI];exact hx.lt hp.rows (by rw[dI];exact hp.hroot)
 have eF:order.length<=n:=nodup_le n _ hp.ord.nodup (fun x hx=>hC x ((hp.ord.mem x).1 hx))
 have eG:order ≠ []:=by
  intro h;have:=hp.ord.head
  grind
 obtain⟨g,cap,sp,rfl,_,fw,fx,eH,fy⟩:=jz hp.hov eG;refine zqq func148 O ntmps148 O (Gs 10 O (zqk O tg89 (hW.cells 0 _ O) (Gs 1 O (G.mem O O (zpv tu89 Tryz.el27 O O tO tO (zce Rw.length)) ?_))));rintro _ w1 ⟨bo,rfl,fA,fB,ef,dx⟩;rw[dI]at ef ⊢;refine Gs 9 O (zqk O tg27 ((dx.blk hW (fun h=>h)).cells 2 _ O) (Gs 5 O ?_));have eI:Mat (Value.int .i64) 3 27 w1.heap.size w1 bo (List.replicate n (.slice none 0 0)) (List.replicate n ([]:List Int)):=Mat.start ef;refine G.loop (σ:=Nat × List Value × List (List Int)) (fun⟨i,rv,rows⟩=>[(0,.pointer (some ⟨bw,0,none⟩)),(3,.slice (some ⟨bo,0,none⟩) n n),(20,.slice (some ⟨g,0,none⟩) order.length cap),(21,.int .i64 order.length),(22,.int .i64 i)]) (fun⟨i,rv,rows⟩=>fun w'=>i<=order.length/\Noted n rows (N0 Rw root order i)/\(∀ (x:Nat) r,rows[x]?=some r->r.length<=i*n)/\Mat (Value.int .i64) 3 27 w1.heap.size w' bo rv rows/\Keep (fun q=>q=bo) w1 w') (fun⟨i,rv,rows⟩=>order.length - i) (0,List.replicate n (.slice none 0 0),List.replicate n []) j2 ⟨zt6 _,Noted.start.congr (fun x b=>⟨fun h=>h.elim,fun⟨j,h,_⟩=>absurd h (zvV _)⟩),fun x r hr=>tD,eI,Keep.refl _ _⟩ ?_;rintro⟨i,rv,rows⟩ w2 ⟨fC,hN,dM,hM,dN⟩;refine Gs 6 O (zqe O (fun fD=>?_) (fun fE=>?_))
 .
  obtain⟨b,hb⟩:∃ b,order[i]?=some b:=j9;have eh:Dfs.Reach Rw root b:=(hp.ord.mem b).1 (zsS hb);have ei:=hC b eh;have dO:Ext w w2:=dx.trans dN (fun q hq h=>tO)
  have eJ:(order.map qE++sp)[i]?=some (qE b):=by
   rw[zth tD,zt8,hb];rfl
  obtain⟨r,hr⟩:∃ r,Pw[b]?=some r:=j9;obtain⟨b1,o1,cs1,eK,_,_,eL,eM⟩:=dL b r hr;obtain⟨rv1,rfl,ra,rc,rfl,eN,eO,dQ⟩:=eM;have fF:=hp.back.short b r hr;have dR:=dO.cells eL (fun h=>h);have eP:=dO.blk hW (fun h=>h)
  have fG:(i+1)*n<=1000000:=by
   have h1:(i+1)*n<=n*n:=zvT _ tO;have h2:n*n<=1000*1000:=zvS dH dH;omega
  have fH:(i+1)*n=i*n+n:=zvX i n;refine Ga 7 O tO (zqk O tg3 ((dO.blk eH (fun h=>h)).cells.el1 i O eJ) (Gs 8 O (zqk O tg89 (eP.cells 1 _ O) (Gs 1 O (zqg O O (zph tR89 ts27 O O eK tO) (zqk O tg27 (dR.el1 (cs:=[_]) 0 O O) (Gs 5 O (G.loop (σ:=Nat × List Value × List (List Int)) (fun⟨j,rv,rows⟩=>[(0,.pointer (some ⟨bw,0,none⟩)),(3,.slice (some ⟨bo,0,none⟩) n n),(20,.slice (some ⟨g,0,none⟩) order.length cap),(21,.int .i64 order.length),(22,.int .i64 i),(5,.int .i64 b),(32,.slice ra r.length rc),(33,.int .i64 r.length),(34,.int .i64 j)]) (fun⟨j,rv,rows⟩=>fun w'=>j<=r.length/\Noted n rows (N1 Rw root order i b r j)/\(∀ (x:Nat) q,rows[x]?=some q->q.length<=i*n+j)/\Mat (Value.int .i64) 3 27 w1.heap.size w' bo rv rows/\Keep (fun q=>q=bo) w1 w') (fun⟨j,rv,rows⟩=>r.length - j) (0,rv,rows) j2 ⟨zt6 _,hN.congr (fun x b'=>⟨.inl,fun h=>h.elim id (fun⟨_,a,h,_⟩=>tD)⟩),dM,hM,dN⟩ ?_))))))));rintro⟨j,rv,rows⟩ w3 ⟨fI,dS,dA,da,dh⟩;have dB:Ext w w3:=dx.trans dh (fun q hq h=>tO);have eQ:=dB.blk hW (fun h=>h);refine Gs 6 O (zqe O (fun fJ=>?_) (fun fK=>?_))
  .
   obtain⟨y,hy⟩:∃ y,r[j]?=some y:=j9;obtain⟨a,rfl,ej⟩:=(hp.back.mem b r hr y).1 (zsS hy)
   have fL:a<n:=by
    obtain⟨r',h1,_⟩:=ej;rw[<- dI];exact(zt5.1 h1).1
   obtain⟨be,oe,ce,eR,_,eS,eT,rfl⟩:=dQ j _ hy;have dT:=dB.cells eT (fun h=>h);have eU:=hp.place.len
   have dU:∀ q:Nat,(q:Int) ∈ r.take (j+1) ↔ (q:Int) ∈ r.take j\/q=a:=by
    intro q;obtain⟨dV,eV⟩:=zt5.1 hy;rw[zvD dV,zta,zt9,eV];constructor
    . grind
    grind
   refine Gs 6 O (zqg O O (zph tR27 ts3 O O eR tO) (zqk O tg3 (dT.el1 (cs:=[_]) 0 O O) (Gs 9 O (zqk O tg27 (eQ.cells 3 _ O) (Ga 2 O tO (zqk O tg3 ((dB.blk hp.hP (fun h=>h)).cells.el1 a O (qS (zfQ tO))) (Gs 3 O (zqe O (fun fM=>?_) (fun fN=>?_)))))))))
   .
    have fO:¬ Dfs.Reach Rw root a:=fun h=>by have:=xK hp.ord hp.place h;omega
    refine Ga 8 O tO (G.back (j+1,rv,rows) j2 ⟨tO,dS.congr (fun x b'=>?_),fun x q hq=>tD,da,dh⟩ tD);unfold N1;constructor
    . grind
    grind
   have ek:Dfs.Reach Rw root a:=(hp.ord.mem a).1 (zsS (zay hp.place (a:=a) tO).1);have eW:i*n+j+1<=1000000:=tO;refine Gs 9 O (G.loop (σ:=Int × List Value × List (List Int)) (fun⟨x,rv,rows⟩=>[(0,.pointer (some ⟨bw,0,none⟩)),(3,.slice (some ⟨bo,0,none⟩) n n),(20,.slice (some ⟨g,0,none⟩) order.length cap),(21,.int .i64 order.length),(22,.int .i64 i),(5,.int .i64 b),(32,.slice ra r.length rc),(33,.int .i64 r.length),(34,.int .i64 j),(8,.int .i64 x)]) (fun⟨x,rv,rows⟩=>fun w'=>At Rw root T b a x/\Noted n rows (fun y b'=>N1 Rw root order i b r j y b'\/(b'=b/\Vis Rw root x a y))/\(∀ (y:Nat) q,rows[y]?=some q->q.length<=i*n+j+1/\(¬ Vis Rw root x a y->q.length<=i*n+j))/\Mat (Value.int .i64) 3 27 w1.heap.size w' bo rv rows/\Keep (fun q=>q=bo) w1 w') (fun⟨x,rv,rows⟩=>(if x<0 then 0 else (lk pl x.toNat).toNat+1)) ((a:Int),rv,rows) j2 ⟨At.start hp.sol ej ek ei,dS.congr (fun y b'=>⟨.inl,fun h=>h.elim id (fun h=>absurd h.2 (Vis.start a y))⟩),fun y q hq=>⟨tD,fun _=>dA y q hq⟩,da,dh⟩ ?_);rintro⟨x,rv,rows⟩ w4 ⟨hA,dJ,dc,dy,dr⟩;have em:Ext w w4:=dx.trans dr (fun q hq h=>tO);have eX:=em.blk hW (fun h=>h);have eY:=em.blk hp.hT (fun h=>h);have fP:=hp.sol.len
   have dl:(x<0\/x=lk T b)->Noted n rows (N1 Rw root order i b r (j+1)):=fun hx=>dJ.congr (fun y b'=>by
    have hv:=Vis.done hp.sol hp.ord hp.place hA eh ei hx y;constructor
    .
     rintro ((h | ⟨h1,c,h2,h3⟩) | ⟨rfl,h2⟩)
     . exact .inl h
     . exact .inr ⟨h1,c,(dU c).2 (.inl h2),h3⟩
     exact .inr ⟨rfl,a,(dU a).2 (.inr O),ek,hv.1 h2⟩
    .
     rintro (h | ⟨h1,c,h2,h3⟩)
     . exact .inl (.inl h)
     .
      rcases (dU c).1 h2 with h4 | rfl
      . exact .inl (.inr ⟨h1,c,h4,h3⟩)
      .
       exact .inr ⟨h1,hv.2 h3.2⟩)
   refine Gs 6 O (zqc (p:=0<=x) (fun hY=>?_) (fun hY=>?_))
   .
    refine G.yes O O (zt3 hY) (Gs 1 O (G.yes O O (zt3 hY) (Gs 1 O (G.yes O O (zt3 hY) (Gs 1 O (G.yes O O (zt3 hY) (Gs 1 O (G.yes O O (zt3 hY) (zqk O tg27 (eX.cells 4 _ O) (G.yes O O (zt3 hY) (Gs 1 O (G.yes O O (zt3 hY) (Ga 1 O tO (G.yes O O (zt3 hY) (zqk O tg3 (eY.cells.el1 b O (qS (zfQ tO))) (G.yes O O (zt3 hY) (Gs 1 O (zqg O O (zpb O (zt3 hY) O) ?_))))))))))))))))));refine Gs 2 O (zqe O (fun dW=>?_) (fun dW=>?_))
    .
     obtain⟨c,rfl⟩:=ztN hY
     have dX:Dfs.Reach Rw root c:=by
      rcases hA.pos with⟨h1,_⟩ | ⟨c',h1,h2,_⟩
      . omega
      rw[Int.ofNat.inj h1];exact h2
     have er:=hC c dX;have fQ:=xK hp.ord hp.place dX;have dY:=Vis.step hp.sol hp.ord hp.place hA hC;have hm:=Mat.at (i:=c) dy (by rw[dJ.len];exact er);obtain⟨v,q,hv,hq⟩:=hm;have fR:q.length<=i*n+j:=(dc c q hq).2 (fun h=>h.2 c rfl (Dom.refl c));refine Ga 10 O tO (zqk O tg27 (dy.out.cells.el1 c O hv) (Gs 1 O (G.mem O O (M.buildSlice (cs:=[.int .i64 b]) [(0,_)] tR27 ts3 tz3 tS O tK) ?_)));rintro _ w5 ⟨b5,rfl,fS,fT,eZ,dC⟩;have dD:=dy.ext dC;have dt:=dD.row c v q hv hq;refine G.mem O O (M.append tu27 Tryz.el3 O tS O O dt O (Cells.add eZ.cells) (by simp;rfl) tO tO) ?_;rintro v' w6 ⟨dm,dZ,d5,_⟩;obtain⟨av,cv,rfl⟩:=yb dm;have d6:v.ownBlock ≠ some bo:=fun h=>(dD.far c v bo hv h).2 rfl;refine Ga 1 O tO (zpt O (M.store ts27 O O O O (d5.blk dD.out d6) (by rw[dD.len,dJ.len];omega)) ?_);rintro w7 d7;rw[show 0+(c:Int).toNat*1=c from tO]at d7;have d8:Keep (fun q=>v.ownBlock=some q\/q=bo) w4 w7:=((dC.mono (fun _ _ h=>h.elim)).trans (d5.mono (fun _ _ h=>.inl h)) (fun _ _ h=>h)).trans d7.2.2 (fun _ _ h=>.inr h)
     have dE:Keep (fun q=>q=bo) w1 w7:=dr.trans d8 (fun q' dg h=>by
      rcases h with h | h
      . have:=(dy.far c v q' hv h).1;omega
      .
       exact h)
     have ew:Ext w w7:=dx.trans dE (fun q hq h=>by have h:q=bo:=h;omega);refine Gs 7 O (zqk O tg27 ((ew.blk hW (fun h=>h)).cells 4 _ O) (Ga 2 O tO (zqk O tg3 ((ew.blk hp.hT (fun h=>h)).cells.el1 c O (qS (zfQ tO))) (Gs 2 O (G.back (lk T c,rv.set c (.slice av (q.length+1) cv),rows.set c (q++[(b:Int)])) j2 ⟨hA.step hp.sol dW hC,?_,?_,?_,dE⟩ (?_))))))
     .
      refine(dJ.push hq).congr (fun y b'=>?_);rw[dY y];constructor
      .
       rintro ((h | ⟨h1,h2⟩) | ⟨h1,h2⟩)
       . exact .inl h
       . exact .inr ⟨h1,.inl h2⟩
       exact .inr ⟨h2,.inr h1⟩
      rintro (h | ⟨h1,h2 | h2⟩)
      . exact .inl (.inl h)
      . exact .inl (.inr ⟨h1,h2⟩)
      exact .inr ⟨h2,h1⟩
     .
      intro y q' dg;by_cases e:c=y
      .
       subst e;rw[zuH (zt5.1 hq).1]at dg;cases dg;rw[zsZ,ztc];exact⟨tO,fun h=>absurd ((dY c).2 (.inr O)) h⟩
      rw[zuG e]at dg;have h1:=dc y q' dg;exact⟨h1.1,fun h=>h1.2 (fun h2=>h ((dY y).2 (.inl h2)))⟩
     . exact dD.push (by have:=dC.size;have:=dr.size;omega) hv hq dm dZ d5 d7
     show (if lk T c<0 then 0 else (lk pl (lk T c).toNat).toNat+1)<(if (c:Int)<0 then 0 else (lk pl (c:Int).toNat).toNat+1);have e1:¬ (c:Int)<0:=tO;rw[zt1 e1,ztd];rcases hp.sol.tree_or dX er with⟨_,h5⟩ | ⟨p,e,h5,h6,h7,h8,h9,fU⟩
     . rw[h5,zt2 (show (-1:Int)<0 from tS)];omega
     have:=xK hp.ord hp.place h9;have e2:¬ (p:Int)<0:=tO;rw[h5,zt1 e2,ztd];omega
    refine Ga 10 O tO (G.back (j+1,rv,rows) j2 ⟨tO,dl (.inr (by simpa using dW)),fun y q hq=>by have:=(dc y q hq).1;omega,dy,dr⟩ tZ)
   refine G.no O O (zt4 hY) O (G.no O O (zt4 hY) O (G.no O O (zt4 hY) O (G.no O O (zt4 hY) O (G.no O O (zt4 hY) O (G.no O O (zt4 hY) O (G.no O O (zt4 hY) O (G.no O O (zt4 hY) O (G.no O O (zt4 hY) O (zqg O O (zpc O (zt4 hY) O) (Gs 2 O (G.ff O rfl (Ga 10 O tO (G.back (j+1,rv,rows) j2 ⟨tO,dl (.inl tO),fun y q hq=>by have:=(dc y q hq).1;omega,dy,dr⟩ tZ)))))))))))))
  have d9:j=r.length:=tO;subst d9;refine Ga 10 O tO (G.back (i+1,rv,rows) j2 ⟨tO,dS.congr (fun x b'=>?_),fun x q hq=>by have:=dA x q hq;omega,da,dh⟩ tZ);unfold N1 N0 xA;rw[zsW];constructor
  .
   rintro (⟨k,h1,h2,h3⟩ | ⟨rfl,a,h2,h3⟩)
   . exact⟨k,tO,h2,h3⟩
   obtain⟨a',h4,h5⟩:=(hp.back.mem b' r hr _).1 h2;have:=Int.ofNat.inj h4;subst this;exact⟨i,tO,hb,a,h3.1,h5,h3.2⟩
  rintro⟨k,h1,h2,h3⟩;by_cases e:k=i
  .
   subst e;rw[hb]at h2;cases h2;obtain⟨a,h4,h5,h6⟩:=h3;exact .inr ⟨rfl,a,(hp.back.mem b r hr _).2 ⟨a,rfl,h5⟩,h4,h6⟩
  exact .inl ⟨k,tO,h2,h3⟩
 have eb:i=order.length:=tO;subst eb
 have ez:Noted n rows (xA Rw root):=hN.congr (fun x b=>by
  constructor
  . rintro⟨k,_,_,h⟩;exact h
  .
   intro h;have h':=h;obtain⟨a,h1,h2,_⟩:=h';obtain⟨k,hk⟩:=zv5.1 ((hp.ord.mem b).2 (.step h1 h2))
   exact⟨k,(zt5.1 hk).1,hk,h⟩)
 have fV:order.length*n<=1000000:=by
  have h1:order.length*n<=n*n:=zvT _ eF;have h2:n*n<=1000*1000:=zvS dH dH;exact zsX h1 h2
 refine Gs 14 O (G.loop (σ:=Nat × List Value × List (List Int)) (fun⟨k,rv,rk⟩=>[(3,.slice (some ⟨bo,0,none⟩) n n),(79,.slice (some ⟨bo,0,none⟩) n n),(80,.int .i64 n),(81,.int .i64 k)]) (fun⟨k,rv,rk⟩=>fun w'=>k<=n/\rk.length=n/\(∀ (x:Nat) q,rk[x]?=some q->∃ q',rows[x]?=some q'/\q=if x<k then Gr.compactL (yR q') else q')/\Mat (Value.int .i64) 3 27 w1.heap.size w' bo rv rk/\Keep (fun q=>q=bo) w1 w') (fun⟨k,rv,rk⟩=>n - k) (0,rv,rows) j2 ⟨zt6 _,ez.len,fun x q hq=>⟨q,hq,by rw[zt1 (zvV _)]⟩,hM,dN⟩ ?_);rintro⟨k,rv,rk⟩ w3 ⟨fW,dz,dF,da,dh⟩;refine Gs 6 O (zqe O (fun fb=>?_) (fun fe=>?_))
 .
  have hm:=Mat.at (i:=k) da tO;obtain⟨v,q,hv,hq⟩:=hm;obtain⟨q',dg,eA⟩:=dF k q hq;rw[zt1 tO]at eA;subst eA;have dt:=da.row k v q hv hq;have fX:=dM k q dg;refine Ga 8 O tO (zqk O tg27 (da.out.cells.el1 k O hv) (Gs 7 O (G.call O call116 (zdy q v _ w3 dt tO) ?_)));rintro _ w4 ⟨rfl,dG,dr⟩;have du:w4.ownsRow 0 3 1 v q.length ((yR q).flatMap zdl):=by rw[<- zob];exact dG
  refine Gs 6 O (G.call O call117 (zc4 (yR q) v _ w4 du (by rw[xf];omega)) ?_);rintro u w5 ⟨db,fg,dC⟩;rw[<- zob]at db;obtain⟨au,cu,rfl⟩:=yb db;have ec:v.ownBlock ≠ some bo:=fun h=>(da.far k v bo hv h).2 rfl;have dw:Keep (fun q=>v.ownBlock=some q) w3 w5:=dr.trans dC (fun _ _ h=>h);refine Ga 1 O tO (zpt O (M.store ts27 O O O O (dw.blk da.out ec) (by rw[da.len];omega)) ?_);rintro w6 ed;rw[show 0+(k:Int).toNat*1=k from tO]at ed;refine Ga 7 O tO (G.back (k+1,rv.set k (.slice au (Gr.compactL (yR q)).length cu),rk.set k (Gr.compactL (yR q))) j2 ⟨tO,by rw[zuS];exact dz,?_,?_,?_⟩ tZ)
  .
   intro x q2 dK;by_cases e:k=x
   .
    subst e;rw[zuH tO]at dK;cases dK;exact⟨q,dg,by rw[zt2 tO]⟩
   rw[zuG e]at dK;obtain⟨q3,h1,h2⟩:=dF x q2 dK;refine⟨q3,h1,?_⟩;rw[h2];by_cases eC:x<k
   . rw[zt2 eC,zt2 tO]
   rw[zt1 eC,zt1 tO]
  . exact da.put (by have:=dh.size;omega) hv db (.inl fg) dw ed
  have ee:Keep (fun q=>v.ownBlock=some q\/q=bo) w3 w6:=(dw.mono (fun _ _ h=>.inl h)).trans ed.2.2 (fun _ _ h=>.inr h)
  exact dh.trans ee (fun q' dg h=>by
   rcases h with h | h
   . have:=(da.far k v q' hv h).1;omega
   .
    exact h)
 have fm:k=n:=tO;subst fm;have dB:Ext w w3:=dx.trans dh (fun q hq h=>by have h:q=bo:=h;omega);refine Gs 12 O (zoU results148 O ⟨_,rfl,rk,⟨dz,?_,?_,?_⟩,?_,dB⟩)
 .
  intro x q hq;obtain⟨q',h1,h2⟩:=dF x q hq;rw[zt2 UO]at h2;rw[h2];exact(Gr.compactL_strict (le:=(·<=·)) (fun a b=>Int.le_antisymm) (zaQ q')).imp (fun h=>tO)
 .
  intro x q hq y;obtain⟨q',h1,h2⟩:=dF x q hq;rw[zt2 UO]at h2;rw[h2,Gr.compactL_mem,zac];exact ez.mem x q' h1 y
 .
  intro x q hq;obtain⟨q',h1,h2⟩:=dF x q hq;rw[zt2 UO]at h2;have h3:=Gr.compactL_len (yR q');have h4:=dM x q' h1;rw[xf]at h3;rw[h2];omega
 exact da.sl j1 tO (fun i v g hv hg=>by have:=(da.far i v g hv hg).1;omega) dz.symm tO tO
structure Known (n root:Nat) (es:List (Int × Int)) (Rw:List (List Int)) (order:List Nat) (pl T:List Int):Prop where
 hn:n<=4096
 hroot:root<n
 rows:Dfs.Rows Rw
 succ:Succs n es Rw
 ord:Dfs.Order Rw root order
 place:Dfs.Place n order pl
 sol:Solved Rw root n pl T
theorem Prep.known {n:Nat} (h:Prep B w n root es bw Rw Pw order pl T nv bv ov bp bt):Known n root es Rw order pl T:=⟨h.hn,h.hroot,h.rows,h.succ,h.ord,h.place,h.sol⟩
theorem zf5 {n root:Int} (h:yk n es root=0):Gr.check n es=0/\0<=root/\root<n:=by
 unfold yk at h;split at h
 . rename_i h1;exact absurd h h1
 rename_i h1;split at h
 . exact absurd h tS
 exact⟨by simpa using h1,tO,tO⟩
theorem zmW (n root:Int) (es:List (Int × Int)) (ev:Value) (D:Nat->Prop) (w:World) (hY:SlR 2 xq D w ev es):Calls prog 52 #[.agg #[.int .i64 n,ev],.int .i64 root] w (Ret fun v w'=>∃ u,v=.tuple #[u,.int .i64 (yk n es root)]/\(yk n es root ≠ 0->u=.slice none 0 0)/\(yk n es root=0->∃ Rw order pl T,Known n.toNat root.toNat es Rw order pl T/\SlR 1 zG (fun b=>w.heap.size<=b) w' u T)/\Ext w w'):=by
 have hC:=hY;obtain⟨ao,cap,rfl,_⟩:=hC;refine zqr func52 O ntmps52 O (Gs 2 O (G.mem O O (M.box O O) ?_));rintro _ w1 ⟨b,rfl,hb,dr,dg,da⟩;refine Gs 6 O (zqm O tg126 ts126 dg.cells O (Gs 1 O (G.call O call99 (zd0 n root es _ D w1 (hY.ext zU da)) ?_)));rintro _ w2 ⟨u,rfl,dt,dh,dl⟩;have db:=da.ext dl;refine Gs 14 O (zqe O (fun hc=>?_) (fun hc=>?_))
 . refine Gs 9 O (zoX results52 O O ⟨_,rfl,.slice none 0 0,rfl,fun _=>rfl,fun h=>absurd h hc,db⟩)
 have dc:yk n es root=0:=by simpa using hc
 obtain⟨bw,Rw,Pw,order,pl,T,nv,bv,ov,bp,bt,rfl,hp⟩:=dh dc;have dm:=hp.sol.len;have du:=hp.ge;have dw:=hp.hn;refine Gs 7 O (zqk O tg27 (hp.hw.cells 4 _ O) (Gs 5 O ?_));rw[dc];refine zoX results52 O O ⟨_,rfl,.slice (some ⟨bt,0,none⟩) n.toNat n.toNat,rfl,fun h=>absurd O h,fun _=>⟨Rw,order,pl,T,hp.known,?_⟩,db⟩;have h1:=zpJ (R:=zG) (D:=fun b=>w.heap.size<=b) (n:=n.toNat) (cap:=n.toNat) (l:=T) (.int .i64) iA hp.hT tO (by rw[zvB tD]) dm.symm tO tO;exact h1
end Go.Proofs.YtckdhgbepmpgiaaGreat
