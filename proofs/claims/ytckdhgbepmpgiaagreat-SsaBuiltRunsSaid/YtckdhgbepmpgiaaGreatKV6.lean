/-
  Contracts and the mathematics that the proof needs. Nothing here is a claim.
-/
import Derived.Test.YtckdhgbepmpgiaaGreatKV5
theorem j8 {p:Prop}(h:p:=by exact fun q hq=>⟨by have h1:=da.size;have h2:W.heap.size<=w3.heap.size:=(db.k1).size;rcases hq with hq | hq;(· have:=hD q hq;omega);omega,fun hs=>by have h1:=hY q hs;have h2:=db.hsE 1 O hs;rcases hq with hq | hq;(· have:=hD q hq;omega);omega⟩):p:=h
theorem iI {p:Prop}(h:p:=by exact fun w hI=>yF f (zd f) vd.prOk tO tO _ _ _ _ D w (Tr1 hI.k1 hf) (Tr1 hI.k1 hg) (fun q hq=>zws (hD q hq) (Keep.size hI.k1))):p:=h
theorem iM {p:Prop}(h:p:=by exact fun w w' T h hk hT=>GrO.keep h hk (fun b hb _=>hT b hb)):p:=h
theorem iY {p:Prop}(h:p:=by exact zpl tr32 O (fun w hI=>⟨_,rfl,⟨_,rfl,fun h=>tD⟩,hI.k0⟩)):p:=h
theorem y6 {p:Prop}(h:p:=by exact zpo tr86 O O (fun w hI=>⟨_,rfl,⟨_,tD,fun _=>rfl,fun h=>tO⟩,hI.k0⟩)):p:=h
theorem JJ {p:Prop}(h:p:=by exact congrArg some (Eq.symm (show q=b from hq))):p:=h
theorem JU {p:Prop}(h:p:=by exact zaf (hI.all O) (fun q h=>h)):p:=h
theorem UK {p:Prop}(h:p:=by rw[<- dA];exact(ztB.1 hq).1):p:=h
theorem UT {p:Prop}(h:p:=by exact zpn tr99 O O ⟨_,rfl,.pointer none,tD,fun _=>rfl,fun h=>tO,dF⟩):p:=h
theorem UZ {p:Prop}(h:p:=by exact VD.done tK (zsD 904 0 (F:=fun q=>D q\/(w3.heap.size<=q/\q<w4.heap.size)) (p:=fun w=>GrO (fun q=>D q\/(w3.heap.size<=q/\q<w4.heap.size)) w f (zd f) gb) O O iM (hG) j8 (zpi ⟨w3.heap.size,w4.heap.size,gb,b45,b49,b51⟩ j2 j3 trivial 1 O O))):p:=h
theorem Uj {p:Prop}(h:p:=by exact zrL 902 O (e':=.row 3 1 u902 (yz f g s (i+1)).length ((yz f g s (i+1)).map zb)) (by rw[jN eb,dx,ztv,zvv,zdZ]) (Va 8 O tO (V.back ⟨i+1,hs,u902,G⟩ j2 j3 ⟨tO,du⟩ tD 0 O O))):p:=h
open Go.Proofs.Tryz
variable {α σ β:Type} {s:Go.Proofs.YtckdhgbepmpgiaaGreat.Sf} {m k q j b c i root x y p a0 b0 a bw bp bt d k' B:Nat} {w W w':Go.World} {e t:Go.TypeId} {v a1 a2 nv bv ov:Go.Value} {xs hs rv:List Go.Value} {D:Nat->Prop} {fl rows R Rw Pw:List (List Int)} {l pl T L ra r:List Int} {P:Go.Program} {Q:Go.Exit->Go.Act->Go.World->Prop} {ks:List Go.GL.Fr} {env E1:Go.GL.Env} {A A1:Go.GL.Tgs} {H H1:Go.GL.Hp} {Bs Bs0:Go.GL.zq} {ops:Array Go.Oper} {aft:Array Go.Edge} {g:Option (Nat × Bool)} {args:Array Go.Value} {f:Go.GL.Fl} {fn:Go.Func} {order:List Nat} {es:List (Int × Int)} {N:Nat->Nat->Prop}
namespace Go.Proofs.YtckdhgbepmpgiaaGreat
open Go.GL
noncomputable def zcE (f:Fl) (g:List Nd) (s:Sf) (r:Ins):Int:=if yG f g s ≠ 0 then yG f g s else zh f.vars r
theorem zjP (f:Fl) (g:List Nd) (s:Sf) (hR:RightF f g s (rdV f g)) (n:Nat) (hn:n<g.length) (y:Nat) (hy:(zp s n).phis ≠ []->y ∈ zJ g n) (dc:g.length<=100000) (dg:(zp s n).phis.length<=1000000) (vl:List Int) (m:Nat) (hm:vl.length=m) (hY:m=s.of_.length) (dh:m<=1000000) (b gb bv cv:Nat) (ofv nodv hv rv ov tv:Value) (D:Nat->Prop) (W:World) (hc:Cells W b 0 (rnr gb ofv nodv (.slice (some ⟨bv,0,none⟩) m cv) hv rv ov tv)) (hS:RSf D W s ofv nodv) (da:(jr (.slice (some ⟨bv,0,none⟩) m cv) vl).holds W) (dl:∀ q,D q->bv ≠ q) (db:bv ≠ b) :
  Calls prog 47 #[.pointer (some ⟨b,0,none⟩),.int .i64 y,.int .i64 n] W (Ret fun r w'=>∃ _x:Unit,r=.tuple #[]/\(jr (.slice (some ⟨bv,0,none⟩) m cv) (ju f g s y vl (zp s n).phis)).holds w'/\Keep (jr (.slice (some ⟨bv,0,none⟩) m cv) vl).S W w'/\∀ q,(jr (.slice (some ⟨bv,0,none⟩) m cv) (ju f g s y vl (zp s n).phis)).S q->((jr (.slice (some ⟨bv,0,none⟩) m cv) vl).S q\/W.heap.size<=q)/\q<w'.heap.size):=by
 subst hm;exact zlu f g s hR n hn y hy dc dg vl hY dh b gb bv cv ofv nodv hv rv ov tv D W hc hS da dl db
theorem zni {n:Nat} (h:(LP s m).length<=1000000) (hn:n<m):(zp s n).phis.length<=1000000:=by
 unfold LP at h;have h1:=(zw7 (l:=dP (zp s n)++(zp s n).phis.map (·.ver)) (L:=(List.range m).map fun i=>dP (zp s i)++(zp s i).phis.map (·.ver)) (zvI.2 ⟨n,zvN.2 hn,rfl⟩)).length_le
 grind
theorem zjQ (f:Fl) (g:List Nd) (s:Sf) (r:Ins) (dQ:snodes f.body+zz f.hatches<=1024) (dR:sbulk f.body<=1000000) (dg:s.of_.length<=1000000/\(LP s g.length).length<=1000000) (hb:∀ k,(yR r k).length<=1000000000) (v1 v2 v3 gv ofv nodv s1 s2 s3:Value) (D:Nat->Prop) (W:World) (hf:RFl D W f v1 v2 v3) (hg:SlR 4 RNd D W gv g) (hS:RSf D W s ofv nodv) (dS:SlR 1 zv D W s1 r.secret) (dT:SlR 1 zv D W s2 r.pub) (dU:SlR 1 zv D W s3 r.random) (hD:∀ q,D q->q<W.heap.size) :
  Calls prog 18 #[.agg #[v1,v2,v3],.agg #[gv],.agg #[ofv,nodv],.agg #[s1,s2,s3]] W (Ret fun rr w'=>(∃ ov t,rr=.tuple #[.agg #[ov,.int .i64 t],.int .i64 (zcE f g s r)]/\(zcE f g s r ≠ 0->ov=.slice none 0 0/\t=0)/\(zcE f g s r=0->SlR 1 zv (fun b=>W.heap.size<=b) w' ov (zaz f r).outs/\t=(zaz f r).time))/\Ext W w'):=by
 obtain⟨a1,c1,rfl⟩:=hf.vars.form;obtain⟨a2,c2,rfl⟩:=hf.hatches.form;obtain⟨a3,c3,rfl⟩:=hf.body.form;obtain⟨ag,cg,rfl⟩:=hg.form;obtain⟨ao,co,rfl⟩:=hS.of_.form;obtain⟨an,cn,rfl⟩:=hS.nodes.form;obtain⟨b1,d1,rfl⟩:=dS.form;obtain⟨b2,d2,rfl⟩:=dT.form;obtain⟨b3,d3,rfl⟩:=dU.form;have eN:=hg.max;have eO:=hS.of_.max;refine zqT func18 O ntmps18 O (V.inn (Vs 2 O (V.box 4 O O (fun b4=>?_))));refine V.box 5 O O (fun b5=>(V.box 6 O O (fun b6=>?_)));refine V.box 7 O O (fun b7=>(V.alloc 8 tz47 O O (fun b8=>?_)));refine Vs 9 O (zrs call16 O (fun w hI=>zad f g s dQ dR dg _ _ _ _ _ _ D w i5 (Tr1 hI.k0 hg) (Tr1 hI.k0 hS) ip) (Vs 9 O (zp4 O (fun c0=>?_) (fun c0=>?_))))
 .
  have hc:zcE f g s r=yG f g s:=zty c0;refine Vs 2 O (zrW [Value.slice none 0 0,Value.int IntKind.i64 0] [(0,1),(1,1)] [] O O (fun _=>tK) (Vs 7 O (zpx results18 tg47 ts47 O O O O (fun w hI=>⟨_,rfl,⟨_,_,tD,fun _=>⟨rfl,rfl⟩,fun h=>absurd (hc ▸ h) c0⟩,hI.k0⟩))))
 have hc:zcE f g s r=zh f.vars r:=ztx c0;obtain⟨eb,hR⟩:=zjy (ztw.1 c0);obtain⟨ec,ed⟩:=jt (ztK eb);subst ed;have vd:Valid f:=⟨ec,dQ,dR⟩;have dV:=vd.lens;have eP:=vd.ssize;have eQ:=yD f vd.plain;have eR:=xk f.body;rw[hc];refine Vs 6 O (zru call44 O (fun w hI=>zlJ f r _ _ _ _ _ _ D w i5 (Tr1 hI.k0 dS) (Tr1 hI.k0 dT) (Tr1 hI.k0 dU) vd.kinds tO hb) ?_);rintro rr w1 w2 eS ee ⟨u,rfl,hu⟩ ef;refine Vs 14 O (zp4 O (fun e0=>?_) (fun e0=>?_))
 . refine Vs 2 O (zrW [Value.slice none 0 0,Value.int IntKind.i64 0] [(0,1),(1,1)] [] O O (fun _=>tK) (Vs 7 O (zpx results18 tg47 ts47 O O O O (fun w hI=>⟨_,rfl,⟨_,_,rfl,fun _=>⟨rfl,rfl⟩,fun h=>absurd h e0⟩,hI.k1⟩))))
 have e0':zh f.vars r=0:=ztw.1 e0;have dW:=hu e0';obtain⟨au,cu,rfl⟩:=dW.form;have eh:=(jK e0').len;have ei:=hR.of_.len;refine Vs 3 O (V.dat 906 0 O O O (dW) (fun b hb _ hs=>tD) (zrN (σ:=Nat × Nat × Nat × Nat × Nat × Nat) [4,8,11] [4,8,906] [4,8] O (fun e ⟨la,lz,gb,b45,b49,b51⟩=>(13,.pointer (some ⟨b51,0,none⟩))::e) (fun e ⟨la,lz,gb,b45,b49,b51⟩=>(904,.dat (fun q=>D q\/(la<=q/\q<lz)) (fun w=>GrO (fun q=>D q\/(la<=q/\q<lz)) w f (zd f) gb))::(45,.row 3 1 (.slice (some ⟨b45,0,none⟩) s.of_.length s.of_.length) s.of_.length (List.replicate s.of_.length (.int .i64 0)))::(49,.row 3 1 (.slice (some ⟨b49,0,none⟩) (zd f).length (zd f).length) (zd f).length (List.replicate (zd f).length (.int .i64 0)))::(51,.own b51 [.pointer (some ⟨gb,0,none⟩),.slice ao s.of_.length co,.slice an s.nodes.length cn,.slice (some ⟨b45,0,none⟩) s.of_.length s.of_.length,.slice none 0 0,.slice (some ⟨b49,0,none⟩) (zd f).length (zd f).length,.slice none 0 0,.int .i64 0] 107)::e) (fun⟨la,lz,gb,b45,b49,b51⟩=>True) j1 j1 ?_ ?_))
 .
  refine Vw [4,5,6,7,8] [] O (Vd [0,1,3,4,5,6,8,9,10] 0 tK O O O (zsW 2 [7,11] tK ⟨zrw 2 0 tc37 O O O iI ?_,zpY 7 45 0 tu27 Tryz.el3 O O O tO tO (by exact xj _ _ O:madeCells _ _=(List.replicate s.of_.length (Value.int .i64 0)).toArray) tR (fun b45=>?_),zpY 11 49 0 tu27 Tryz.el3 O O O tO tO (by exact xj _ _ O:madeCells _ _=(List.replicate (zd f).length (Value.int .i64 0)).toArray) tR (fun b49=>?_),True.intro⟩))
  .
   rintro gp w3 w4 db da ⟨gb,rfl,hG⟩ hY;refine zsW 7 [11] tK ⟨zpY 7 45 1 tu27 Tryz.el3 O O O tO tO (by exact xj _ _ O:madeCells _ _=(List.replicate s.of_.length (Value.int .i64 0)).toArray) tR (fun b45=>?_),zpY 11 49 1 tu27 Tryz.el3 O O O tO tO (by exact xj _ _ O:madeCells _ _=(List.replicate (zd f).length (Value.int .i64 0)).toArray) tR (fun b49=>?_),True.intro⟩
   .
    refine zsW 11 [] tK ⟨zpY 11 49 1 tu27 Tryz.el3 O O O tO tO (by exact xj _ _ O:madeCells _ _=(List.replicate (zd f).length (Value.int .i64 0)).toArray) tR (fun b49=>?_),True.intro⟩
    .
     refine zrX 12 [Value.pointer none,Value.slice none 0 0,Value.slice none 0 0,Value.slice none 0 0,Value.slice none 0 0,Value.slice none 0 0,Value.slice none 0 0,Value.int IntKind.i64 0] [(0,1),(1,2),(3,1),(4,1),(5,1),(6,2)] [(0,_),(1,_),(2,_),(4,_)] O tK O O (fun _=>tK) (zrc 13 51 1 O tK O O (fun _ _=>M.box O O) (fun b51=>?_));refine Vd [14] 1 tK O O O UZ
   refine zsW 7 [] tK ⟨zpY 7 45 1 tu27 Tryz.el3 O O O tO tO (by exact xj _ _ O:madeCells _ _=(List.replicate s.of_.length (Value.int .i64 0)).toArray) tR (fun b45=>?_),True.intro⟩
   .
    refine zrX 12 [Value.pointer none,Value.slice none 0 0,Value.slice none 0 0,Value.slice none 0 0,Value.slice none 0 0,Value.slice none 0 0,Value.slice none 0 0,Value.int IntKind.i64 0] [(0,1),(1,2),(3,1),(4,1),(5,1),(6,2)] [(0,_),(1,_),(2,_),(4,_)] O tK O O (fun _=>tK) (zrc 13 51 1 O tK O O (fun _ _=>M.box O O) (fun b51=>?_));refine Vd [14] 1 tK O O O UZ
  .
   refine zsW 2 [11] tK ⟨zrw 2 0 tc37 O O O iI ?_,zpY 11 49 0 tu27 Tryz.el3 O O O tO tO (by exact xj _ _ O:madeCells _ _=(List.replicate (zd f).length (Value.int .i64 0)).toArray) tR (fun b49=>?_),True.intro⟩
   .
    rintro gp w3 w4 db da ⟨gb,rfl,hG⟩ hY;refine zsW 11 [] tK ⟨zpY 11 49 1 tu27 Tryz.el3 O O O tO tO (by exact xj _ _ O:madeCells _ _=(List.replicate (zd f).length (Value.int .i64 0)).toArray) tR (fun b49=>?_),True.intro⟩
    .
     refine zrX 12 [Value.pointer none,Value.slice none 0 0,Value.slice none 0 0,Value.slice none 0 0,Value.slice none 0 0,Value.slice none 0 0,Value.slice none 0 0,Value.int IntKind.i64 0] [(0,1),(1,2),(3,1),(4,1),(5,1),(6,2)] [(0,_),(1,_),(2,_),(4,_)] O tK O O (fun _=>tK) (zrc 13 51 1 O tK O O (fun _ _=>M.box O O) (fun b51=>?_));refine Vd [14] 1 tK O O O UZ
   refine zsW 2 [] tK ⟨zrw 2 0 tc37 O O O iI ?_,True.intro⟩
   .
    rintro gp w3 w4 db da ⟨gb,rfl,hG⟩ hY;refine zrX 12 [Value.pointer none,Value.slice none 0 0,Value.slice none 0 0,Value.slice none 0 0,Value.slice none 0 0,Value.slice none 0 0,Value.slice none 0 0,Value.int IntKind.i64 0] [(0,1),(1,2),(3,1),(4,1),(5,1),(6,2)] [(0,_),(1,_),(2,_),(4,_)] O tK O O (fun _=>tK) (zrc 13 51 1 O tK O O (fun _ _=>M.box O O) (fun b51=>?_));refine Vd [14] 1 tK O O O UZ
  refine zsW 2 [7] tK ⟨zrw 2 0 tc37 O O O iI ?_,zpY 7 45 0 tu27 Tryz.el3 O O O tO tO (by exact xj _ _ O:madeCells _ _=(List.replicate s.of_.length (Value.int .i64 0)).toArray) tR (fun b45=>?_),True.intro⟩
  .
   rintro gp w3 w4 db da ⟨gb,rfl,hG⟩ hY;refine zsW 7 [] tK ⟨zpY 7 45 1 tu27 Tryz.el3 O O O tO tO (by exact xj _ _ O:madeCells _ _=(List.replicate s.of_.length (Value.int .i64 0)).toArray) tR (fun b45=>?_),True.intro⟩
   .
    refine zrX 12 [Value.pointer none,Value.slice none 0 0,Value.slice none 0 0,Value.slice none 0 0,Value.slice none 0 0,Value.slice none 0 0,Value.slice none 0 0,Value.int IntKind.i64 0] [(0,1),(1,2),(3,1),(4,1),(5,1),(6,2)] [(0,_),(1,_),(2,_),(4,_)] O tK O O (fun _=>tK) (zrc 13 51 1 O tK O O (fun _ _=>M.box O O) (fun b51=>?_));refine Vd [14] 1 tK O O O UZ
  refine zsW 2 [] tK ⟨zrw 2 0 tc37 O O O iI ?_,True.intro⟩
  .
   rintro gp w3 w4 db da ⟨gb,rfl,hG⟩ hY;refine zrX 12 [Value.pointer none,Value.slice none 0 0,Value.slice none 0 0,Value.slice none 0 0,Value.slice none 0 0,Value.slice none 0 0,Value.slice none 0 0,Value.int IntKind.i64 0] [(0,1),(1,2),(3,1),(4,1),(5,1),(6,2)] [(0,_),(1,_),(2,_),(4,_)] O tK O O (fun _=>tK) (zrc 13 51 1 O tK O O (fun _ _=>M.box O O) (fun b51=>?_));refine Vd [14] 1 tK O O O UZ
 rintro⟨la,lz,gb,b45,b49,b51⟩ _;refine zre 13 51 0 O O ?_;have dX:(zu f.vars r).map (Value.int .i64)++(List.replicate s.of_.length (Value.int .i64 0)).drop (zu f.vars r).length=(zu f.vars r++List.replicate (s.of_.length - f.vars.length) 0).map zb:=by rw[zvv,List.drop_replicate,zvA,eh]
 generalize dl:zu f.vars r++List.replicate (s.of_.length - f.vars.length) 0=vl0 at dX;have dY:vl0.length=s.of_.length:=by rw[<- dl,ztv,zvt];omega
 refine Vs 8 O (V.opM 45 (e':=.row 3 1 (.slice (some ⟨b45,0,none⟩) s.of_.length s.of_.length) s.of_.length (vl0.map zb)) (r:=.int .i64 ((zu f.vars r).length:Int)) O trivial (fun _ h=>h) (fun w hI=>zsV tu27 Tryz.el3 O O (hI.at 45 O) (hI.at 906 O).1 tO dX) (Vs 11 O (zrk 907 3 1 O (Vs 1 O (zrM (σ:=Nat × Value) [4,8,11,13,59,60] [4,8,904,906] [4,8,13] O (fun e ⟨i,hv⟩=>(61,.int .i64 i)::e) (fun e ⟨i,hv⟩=>(51,.own b51 [.pointer (some ⟨gb,0,none⟩),.slice ao s.of_.length co,.slice an s.nodes.length cn,.slice (some ⟨b45,0,none⟩) s.of_.length s.of_.length,hv,.slice (some ⟨b49,0,none⟩) (zd f).length (zd f).length,.slice none 0 0,.int .i64 0] 107)::(907,.row 3 1 hv i ((zgN (zu f.vars r) (f.hatches.take i)).map zb))::(45,.row 3 1 (.slice (some ⟨b45,0,none⟩) s.of_.length s.of_.length) s.of_.length (vl0.map zb))::(49,.row 3 1 (.slice (some ⟨b49,0,none⟩) (zd f).length (zd f).length) (zd f).length (List.replicate (zd f).length (.int .i64 0)))::e) (fun⟨i,hv⟩=>i<=f.hatches.length) (fun⟨i,hv⟩=>f.hatches.length - i) (0,.slice none 0 0) j2 j3 j1 j1 j1 (ztC _) ?_)))));rintro⟨i,hv⟩ hi;change V _ _ _ _ _ ((61,.int .i64 i)::_) _ ((51,.own b51 [.pointer (some ⟨gb,0,none⟩),.slice ao s.of_.length co,.slice an s.nodes.length cn,.slice (some ⟨b45,0,none⟩) s.of_.length s.of_.length,hv,.slice (some ⟨b49,0,none⟩) (zd f).length (zd f).length,.slice none 0 0,.int .i64 0] 107)::(907,.row 3 1 hv i ((zgN (zu f.vars r) (f.hatches.take i)).map zb))::(45,.row 3 1 (.slice (some ⟨b45,0,none⟩) s.of_.length s.of_.length) s.of_.length (vl0.map zb))::(49,.row 3 1 (.slice (some ⟨b49,0,none⟩) (zd f).length (zd f).length) (zd f).length (List.replicate (zd f).length (.int .i64 0)))::_) _;refine Vs 6 O (zp4 O (fun ej=>?_) (fun ej=>?_))
 .
  refine Vs 6 O (zrI 1000 1 i tO hf.hatches O O O (fun x eT eU eV dB dC dD dE=>?_));obtain⟨ek,rfl,dm⟩:=dE;obtain⟨em,er,rfl⟩:=dm.form;refine zrg 1000 tR23 ts109 O dD tO _ rfl O ?_;obtain⟨g1,g2,g3,g4⟩:=vd.hatch x dC;refine Vs 1 O (V.alloc 15 tz109 O O (fun b15=>?_));refine Vs 10 O (zrs call45 O (fun w hI=>zc6 vd.good (jK e0') x.term g1 g2 g3 _ D D (fun b=>w1.heap.size<=b/\b<w2.heap.size) w _ _ (Tr1 hI.k1 hf.vars) (hI.at 906 O).1 (RTm.put (Tr1 hI.k1 dm))) (Vs 7 O (Vw [4,8,51,1000,15] [15] O (Vd [0,1,2,3,4,5,6,7,8,9] 0 tK O O O (zrt 10 0 call46 O tK O O (fun w hI=>zfg _ x.low x.high w g4) (zrQ 11 85 0 [(0,_)] tR27 ts3 tz3 tS O tK O O tK (fun b85=>?_)))))));refine zrm 12 907 85 0 tu27 Tryz.el3 O tS O tK O O O tO tO (fun u907=>(Vd [13,14] 0 tK O O O (zro 907 O tO ?_)));rintro bh chh rfl dr;refine Vl 15 O tK O (VDx.done tK (Va 6 O tO (zrL 907 O (e':=.row 3 1 (.slice (some ⟨bh,0,none⟩) (i+1) chh) (i+1) ((zgN (zu f.vars r) (f.hatches.take (i+1))).map zb)) (by rw[zeZ dB,zvv];rfl) (V.back ⟨i+1,_⟩ j2 j3 tO tZ 0 O O))))
 obtain rfl:i=f.hatches.length:=tO;rw[zts];have ew:(yk f r).length=f.hatches.length:=by simp[zgN]
 refine zsF 907 O (p:=fun w=>SlR 1 zv (fun q=>hv.ownBlock=some q) w hv (yk f r)) (fun w w' T h hk hT=>h.keep zc hk fun b hb _=>hT b hb) (fun w hI=>zqa zb j9 (show w.ownsRow 0 3 1 hv (yk f r).length ((yk f r).map zb) by rw[ew];exact hI.at 907 O) (fun g hg=>hg)) (fun wp ez eW=>(V.ren [(51,900),(45,901),(49,902)] [(4,some (4,0)),(8,some (8,0)),(13,some (900,0))] O O (zsM 904 907 O (fun w0 dZ eA dF dc dt=>?_))));obtain⟨v1',v2',v3',gv',sv',pv',eC,dh,eX,du,_,_⟩:=id dZ;obtain⟨ag',cg',rfl⟩:=du.form;refine zrG 909 0 O O (fun h=>dc _ h eC) dh ?_;obtain⟨K,rdK,eY,d5⟩:=vd.walk (yk f r) (zhG f r);have hK:GoesAll f r K:=⟨rdK,d5⟩;refine Vs 6 O (zrk 903 3 1 O (zrL 901 O (e':=.row 3 1 (.slice (some ⟨b45,0,none⟩) s.of_.length s.of_.length) vl0.length (vl0.map zb)) (by rw[dY]) (zrL 902 O (e':=.row 3 1 (.slice (some ⟨b49,0,none⟩) (zd f).length (zd f).length) (List.replicate (zd f).length (0:Int)).length ((List.replicate (zd f).length (0:Int)).map zb)) (by rw[zvA,zvt]) (Vs 7 O (zrM (σ:=Nat × List Int × List Int × Value) [8,13] [8,904,906,907,909] [8,13] O (fun e ⟨i,vl,ro,ov⟩=>(18,.int .i64 (xi f r (i - 1)).at_)::(19,.int .i64 (xi f r i).at_)::e) (fun e ⟨i,vl,ro,ov⟩=>(900,.own b51 [.pointer (some ⟨gb,0,none⟩),.slice ao s.of_.length co,.slice an s.nodes.length cn,.slice (some ⟨b45,0,none⟩) s.of_.length s.of_.length,hv,.slice (some ⟨b49,0,none⟩) (zd f).length (zd f).length,ov,.int .i64 (xi f r i).σ.time] 107)::(901,.row 3 1 (.slice (some ⟨b45,0,none⟩) s.of_.length s.of_.length) vl.length (vl.map zb))::(902,.row 3 1 (.slice (some ⟨b49,0,none⟩) (zd f).length (zd f).length) ro.length (ro.map zb))::(903,.row 3 1 ov (xi f r i).σ.outs.length ((xi f r i).σ.outs.map zb))::e) (fun⟨i,vl,ro,ov⟩=>i<=K/\vl.length=s.of_.length/\ro.length=(zd f).length/\zne f s r i vl/\CtOk f ro (xi f r i).rd) (fun⟨i,vl,ro,ov⟩=>K - i) (0,vl0,List.replicate (zd f).length 0,.slice none 0 0) j2 j3 j1 j1 j1 ⟨ztC _,dY,zvt,⟨fun _ v hv=>by rw[<- dl,ztN tO],fun j hj=>tO⟩,zi4 f⟩ ?_)))));rintro⟨i,vl,ro,ov⟩ ⟨hi,dG,d6,dH,eD⟩;obtain⟨n,x,hw⟩:=zjq vd hK hi;have d7:=(ztB.1 hw.nd).1;have dI:=hw.at_;refine zrH 2000 0 n tO du O O O (fun b_ d_ h_=>by have eE:=dc _ h_;first | omega | exact eE d_) (fun x2 eF eG eH dw d8 dx d9 dy=>?_);obtain rfl:=dy;obtain rfl:x2=x:=Option.some.inj (dw.symm.trans hw.nd);refine Vs 7 O (zre 93 909 0 O O (Vs 4 O (zrg 2000 tR34 ts65 O dx tO (n) (dI) O (Vs 5 O (zp4 O (fun c=>?_) (fun c=>?_))))))
 .
  have dJ:i<K:=by
   rcases zwt i K with h | h
   . exact h
   have:=(hw.fin tO).2;omega
  obtain⟨y,hy⟩:∃ y:Nat,(xi f r (i - 1)).at_=(y:Int):=by
   obtain⟨n0,x0,eI⟩:=zjq vd hK (show i - 1<=K by omega);exact⟨n0,eI.at_⟩
  obtain⟨dK,eJ⟩:=zlG vd hR hK hi hw hy dG dH;refine Vs 8 O (zrx 901 (E:=fun _:Unit=>jr (.slice (some ⟨b45,0,none⟩) s.of_.length s.of_.length) (ju f (zd f) s y vl (zp s n).phis)) call47 O iK (fun w hI=>hy ▸ dI ▸ zjP f (zd f) s hR n d7 y eJ tO (zni dg.2 d7) vl _ dG O dg.1 b51 gb b45 _ _ _ _ _ _ _ D w (hI.at 900 O).cells (Tr1 hI.k3 hS) (hI.at 901 O) (fun q hq e=>by have h1:=hI.own 901 3 O O q (congrArg some e);have:=hD q hq;omega) (fun e=>hI.sep (k:=901) (k2:=900) O O tS (q:=b51) (congrArg some e) O)) ?_);rintro _ ⟨⟩ rfl;have eK:=zch (f:=f) (g:=zd f) (s:=s) (y:=y) (vl:=vl) (zp s n).phis;refine Vs 6 O (zsf [900,901,902,903] (Hn:=fun z:List Int × List Int × Value=>[(900,.own b51 [.pointer (some ⟨gb,0,none⟩),.slice ao s.of_.length co,.slice an s.nodes.length cn,.slice (some ⟨b45,0,none⟩) s.of_.length s.of_.length,hv,.slice (some ⟨b49,0,none⟩) (zd f).length (zd f).length,z.2.2,.int .i64 (xi f r (i+1)).σ.time] 107),(901,.row 3 1 (.slice (some ⟨b45,0,none⟩) s.of_.length s.of_.length) z.1.length (z.1.map zb)),(902,.row 3 1 (.slice (some ⟨b49,0,none⟩) (zd f).length (zd f).length) z.2.1.length (z.2.1.map zb)),(903,.row 3 1 z.2.2 (xi f r (i+1)).σ.outs.length ((xi f r (i+1)).σ.outs.map zb))]) [(8,some (8,0)),(13,some (900,0)),(90,some (900,0)),(91,some (900,0)),(92,some (900,0)),(93,some (909,0)),(94,some (909,0)),(95,some (909,3)),(98,some (2000,0)),(99,some (2000,0)),(102,some (900,0)),(107,some (900,0))] call48 O j9 j1 (fun w hI=>xd O O (dI ▸ zlI f s vd hR r e0' K hK i dJ n x2 hw (ju f (zd f) s y vl (zp s n).phis) ro tO d6 dK eD b51 gb _ _ _ _ _ ov (fun q=>D q\/(la<=q/\q<lz)) (fun q=>hv.ownBlock=some q) w (fun q hq=>zws (dF q hq) (Keep.size hI.k0)) (hI.held O O O) ((Tr1 hI.k3 hS).wide fun q h=>.inl h) (dZ.keep hI.k0 fun q hq _ h=>dc q h hq) (eA.keep zc hI.k0 fun q hq _ h=>dt q h hq) (fun q hq hd=>hI.offF 904 O q hd (zg7 O hq)) (fun q hq hd=>hI.offF 907 O q hd (zg7 O hq)))) ?_);rintro _ ⟨vl',ro',ov'⟩ ⟨rfl,eL,dz,dL,dM⟩;have eM:vl'.length=s.of_.length:=eL.trans (eK.trans dG);have dN:ro'.length=(zd f).length:=dL.trans d6;refine Vs 4 O (V.back ⟨i+1,vl',ro',ov'⟩ j2 j3 ⟨tO,eM,dN,zlH hw dz,dM⟩ tZ 0 O O)
 have dJ:i=K:=by
  rcases zwt i K with h | h
  . have:=(hw.go h).2;omega
  omega
 have dO:(xi f r i).σ=zaz f r:=by rw[dJ];exact congrArg Mc.σ d5.1
 dsimp only;rw[dO];refine zr8 (p:=∃ a c,ov=.slice a (zaz f r).outs.length c) (fun w hI=>zI (hI.at 903 O)) (fun dA=>?_);obtain⟨oa,oc,rfl⟩:=dA;refine Vs 16 O (zpx results18 tg47 ts47 O O O O (fun w hI=>⟨_,rfl,⟨_,_,by rw[e0'],fun h=>absurd e0' h,fun _=>⟨zqa (R:=zv) (D:=fun b=>W.heap.size<=b) zb (fun _ _=>rfl) (hI.at 903 O) (fun q hq=>hI.own 903 3 O O q hq),rfl⟩⟩,hI.k3⟩))
theorem zjR {n:Nat} (h:w.ownsRow 0 e k v n xs):∃ ao c,v=.slice ao n c/\(0<n->∃ b,ao=some ⟨b,0,none⟩):=by
 rcases h.2 with⟨rfl,rfl⟩ | ⟨g,cap,cur,rfl,_⟩
 . grind
 grind
def FdOk (D:Nat->Prop) (W:World) (hs:List Value) (fl:List (List Int)) (G:Nat->Prop) (w:World):Prop:=hs.length=fl.length/\∀ (j:Nat) l,fl[j]?=some l->∃ v,hs[j]?=some v/\(SlR 1 zv D W v l\/SlR 1 zv G w v l)
abbrev FdP (D:Nat->Prop) (W:World) (hs:List Value) (fl:List (List Int)) (G:Nat->Prop):HE:=.res G (FdOk D W hs fl G)
theorem FdP.loc {G:Nat->Prop}:(FdP D W hs fl G).loc:=fun w w' T h hk hT=>by
 have h:FdOk D W hs fl G w:=h;refine⟨h.1,fun j l hj=>?_⟩;obtain⟨v,h1,h2⟩:=h.2 j l hj;exact⟨v,h1,h2.imp id fun h3=>h3.keep zc hk fun b hb hY=>hT b hY hb⟩
theorem FdOk.start (n:Nat):FdOk D W (List.replicate n (.slice none 0 0)) (List.replicate n []) (fun _=>False) w:=by
 refine⟨tR,fun j l hj=>?_⟩;rw[zvg]at hj;split at hj
 .
  rename_i h;cases hj;exact⟨_,by rw[zvg,zty h],.inl SlR.nil⟩
 cases hj
theorem FdOk.set {G G':Nat->Prop} (h:FdOk D W hs fl G w) (hG:∀ b,G b->G' b) (hv:SlR 1 zv D W v l\/SlR 1 zv G' w v l):FdOk D W (hs.set q v) (fl.set q l) G' w:=by
 refine⟨by rw[zvu,zvu];exact h.1,fun j l' hj=>?_⟩;by_cases e:q=j
 .
  subst e;have hY:q<fl.length:=by have:=(ztB.1 hj).1;rw[zvu]at this;exact this
  rw[zvk hY]at hj;cases hj;exact⟨v,zvk (by rw[h.1];exact hY),hv⟩
 rw[zvj e]at hj;obtain⟨v',h1,h2⟩:=h.2 j l' hj;exact⟨v',by rw[zvj e];exact h1,h2.imp id fun h3=>h3.wide zc hG⟩
theorem FdOk.get {G:Nat->Prop} (h:FdOk D W hs fl G w) (hE:Ext W w) (hj:fl[j]?=some l) (hv:hs[j]?=some v):SlR 1 zv (fun q=>D q\/G q) w v l:=by
 obtain⟨v',h1,h2⟩:=h.2 j l hj;rw[hv]at h1;cases h1;rcases h2 with h2 | h2
 . exact(h2.ext zc hE).wide zc fun _ h=>.inl h
 exact h2.wide zc fun _ h=>.inr h
theorem FdOk.form {G:Nat->Prop} (h:FdOk D W hs fl G w) (hj:fl[j]?=some l):∃ a c,hs[j]?=some (.slice a l.length c):=by
 obtain⟨v',h1,h2⟩:=h.2 j l hj;rcases h2 with h2 | h2
 . obtain⟨a,c,rfl⟩:=h2.form;exact⟨a,c,h1⟩
 obtain⟨a,c,rfl⟩:=h2.form;exact⟨a,c,h1⟩
theorem zdZ (l:List Int):l.flatMap (fun x=>[zb x])=l.map zb:=by
 induction l with
 | nil=>rfl
 | cons x l ih=>rw[zv4,ih];rfl
theorem zlK (h:w.ownsRow 0 t 1 (.slice (some ⟨b,0,none⟩) m c) m xs) (hj:j<=m):w.ownsRow 0 t 1 (.slice (some ⟨b,0,none⟩) j c) j (xs.take j):=by
 obtain⟨sp,hB,hc,da,hY⟩:=xw h;have hx:=h.1;have:=zG (k:=1) (n:=j) (cap:=c) hB tO da hY
 grind
theorem zi5 (f:Fl) (g:List Nd) (s:Sf) (ef:snodes f.body+zz f.hatches<=1024) (eh:sbulk f.body<=1000000) (dL:s.of_.length<=1000000/\(LP s g.length).length<=1000000) (hM:(yz f g s g.length).length+muN s g.length (List.replicate s.of_.length false)<=1000000000) (eL:∀ x ∈ s.nodes,x.uses.length<=1000000) (v1 v2 v3 gv ofv nodv:Value) (D:Nat->Prop) (W:World) (hf:RFl D W f v1 v2 v3) (hg:SlR 4 RNd D W gv g) (hS:RSf D W s ofv nodv) (hD:∀ q,D q->q<W.heap.size) :
  Calls prog 21 #[.agg #[v1,v2,v3],.agg #[gv],.agg #[ofv,nodv]] W (Ret fun rr w'=>(∃ u,rr=.tuple #[u,.int .i64 (yG f g s)]/\(yG f g s ≠ 0->u=.slice none 0 0)/\(yG f g s=0->SlR 1 znP (fun b=>W.heap.size<=b) w' u (zb1 f g s)))/\Ext W w'):=by
 obtain⟨a1,c1,rfl⟩:=hf.vars.form;obtain⟨a2,c2,rfl⟩:=hf.hatches.form;obtain⟨a3,c3,rfl⟩:=hf.body.form;have fJ:=hg;obtain⟨ag,cg,rfl⟩:=hg.form;have dm:=hS.of_;have db:=hS.nodes;obtain⟨ao,co,rfl⟩:=dm.form;obtain⟨an,cn,rfl⟩:=db.form;have fK:=hg.max;have fL:=dm.max;have fM:=db.max;refine zqS func21 O ntmps21 O (V.inn (Vs 2 O (V.box 3 O O (fun b3=>?_))));refine V.box 4 O O (fun b4=>(V.box 5 O O (fun b5=>?_)));refine Vs 10 O (zrs call16 O (fun w hI=>zad f g s ef eh dL _ _ _ _ _ _ D w i5 (Tr1 hI.k0 hg) (Tr1 hI.k0 hS) ip) (Vs 9 O (zp4 O (fun c0=>?_) (fun c0=>?_))))
 . refine Vs 9 O (zpo results21 O O (fun w hI=>⟨_,rfl,⟨_,rfl,fun _=>rfl,fun h=>absurd h c0⟩,hI.k0⟩))
 have c0':yG f g s=0:=ztw.1 c0;obtain⟨eM,hR⟩:=zjy c0';obtain⟨eN,ei⟩:=jt (ztK eM);have vd:Valid f:=⟨eN,ef,eh⟩;have hF:=hR.toFormF;have eO:=hF.len;have ej:=vd.lens;have fN:=vd.ssize;have hp:PrOk f g:=by rw[ei];exact vd.prOk
 have hk:GOk f g:=by rw[ei];exact vd.gOk
 have eP:g.length<=8000:=by
  have h1:=yD f vd.plain;have h2:=xk f.body
  grind
 refine Vs 6 O (zru tc37 O (fun w hI=>yF f g hp tO tO _ _ _ _ D w i5 (Tr1 hI.k0 hg) ip) ?_);rintro gp w1 w2 eQ eR ⟨gb,rfl,hG⟩ dM
 have dc:∀ q,HS _ q->¬ (D q\/(w1.heap.size<=q/\q<w2.heap.size)):=fun q hs hq=>by
  have h1:=dM q hs;have h2:=eQ.hsE 0 rfl hs;rcases hq with hq | hq
  . have:=hD q hq;omega
  omega
 obtain⟨v1',v2',v3',gv',sv',pv',eS,dg,fO,dr,dt,_⟩:=id hG;obtain⟨ag',cg',rfl⟩:=dr.form;obtain⟨as',cs',rfl⟩:=dt.form;have eT:(g.map (stN f)).length=g.length:=ztH _;generalize dN:g.map (stN f)=gm at *;refine zrG 909 0 O O (fun h=>dc _ h eS) dg (Vs 4 O (zre 9 909 0 O O (Vs 4 O (zpW 34 tu89 Tryz.el27 O tO tO (zs:=List.replicate s.of_.length (.slice none 0 0)) JY tR (fun b34=>?_)))));refine Vs 4 O (zrk 902 3 1 O (zrk 904 3 1 O (zs4 904 (e':=FdP D W (List.replicate s.of_.length (.slice none 0 0)) (xR s 0) (fun _=>False)) O (fun w hI=>FdOk.start _) (FdP.loc) (fun _ h=>h) (fun q hq=>hq.elim) (Vs 14 O (zrM (σ:=Nat × List Value × Value × (Nat->Prop)) [5,9,10,36,37] [5,909] [5,9] O (fun e ⟨i,hs,wv,G⟩=>(38,.int .i64 i)::(11,wv)::e) (fun e ⟨i,hs,wv,G⟩=>(34,.row 27 1 (.slice (some ⟨b34,0,none⟩) s.of_.length s.of_.length) s.of_.length hs)::(902,.row 3 1 wv (yz f g s i).length ((yz f g s i).map zb))::(904,FdP D W hs (xR s i) G)::e) (fun⟨i,hs,wv,G⟩=>i<=s.nodes.length/\hs.length=s.of_.length) (fun⟨i,hs,wv,G⟩=>s.nodes.length - i) (0,List.replicate s.of_.length (.slice none 0 0),.slice none 0 0,fun _=>False) j2 j3 j1 j1 j1 ⟨ztC _,zvt⟩ ?_)))));rintro⟨i,hs,wv,G⟩ ⟨hi,du⟩;refine Vs 6 O (zp4 O (fun li=>?_) (fun li=>?_))
 .
  refine Vs 7 O (zrI 1000 1 i tO db O O O (fun x fP fQ fR hY dO dQ dR=>?_));obtain⟨eU,eV,rfl,dh,dw⟩:=dR;obtain⟨eW,eX,rfl⟩:=dh.form;obtain⟨eY,eZ,rfl⟩:=dw.form;refine zrg 1000 tR28 ts59 O dQ tO _ rfl O ?_;have dx:zp s i=x:=yL hY;have da:=hF.nod i x hY;have fb:i<g.length:=tO;have dy:=hF.dfn fb;rw[dx]at dy;have fe:=eL x dO;refine Vs 1 O (V.alloc 13 tz59 O O (fun b13=>?_));refine Vs 5 O (zrk 903 3 1 O (Vs 14 O (zrM (σ:=Nat × Value) [5,9,10,11,12,13,36,37,38,44,45] [5,13,909] [5,9,13] O (fun e ⟨j,uv⟩=>(46,.int .i64 j)::(14,uv)::e) (fun e ⟨j,uv⟩=>(903,.row 3 1 uv ((x.uses.take j).map (·.2)).length (((x.uses.take j).map (·.2)).map zb))::(34,.row 27 1 (.slice (some ⟨b34,0,none⟩) s.of_.length s.of_.length) s.of_.length hs)::(902,.row 3 1 wv (yz f g s i).length ((yz f g s i).map zb))::(904,FdP D W hs (xR s i) G)::e) (fun⟨j,uv⟩=>j<=x.uses.length) (fun⟨j,uv⟩=>x.uses.length - j) (0,.slice none 0 0) j2 j3 j1 j1 j1 (ztC _) ?_)));rintro⟨j,uv⟩ hj;have dS:((x.uses.take j).map (·.2)).length<=1000000:=tD;refine Vs 6 O (zp4 O (fun lj=>?_) (fun lj=>?_))
  .
   refine Vs 6 O (zrI 2000 1 j tO dw O O O (fun u fS fT fU dT fg dU dV=>?_));obtain rfl:=dV;refine zrg 2000 tR57 ts85 O dU tO _ rfl O (Vs 1 O (V.alloc 16 tz85 O O (fun b16=>?_)));refine Vs 7 O (zrP 53 [(0,_)] tR27 ts3 tz3 tS O O tK (fun b53=>?_));refine zrl 903 53 tu27 Tryz.el3 O tS O O tO tO (fun u903=>(Va 8 O tO (zrL 903 O (e':=.row 3 1 u903 ((x.uses.take (j+1)).map (·.2)).length (((x.uses.take (j+1)).map (·.2)).map zb)) (by rw[ze dT];simp[zb]) (V.back ⟨j+1,u903⟩ j2 j3 tO tD 0 O O))))
  obtain rfl:j=x.uses.length:=tO;rw[zts]at dS;refine zrL 903 O (e':=.row 3 1 uv (x.uses.map (·.2)).length ((x.uses.map (·.2)).map zb)) tD (Vs 15 O (zrM (σ:=Nat × List Value) [5,9,10,11,12,13,14,36,37,38,57,58] [5,13,909] [5,9,13] O (fun e ⟨j,hs⟩=>(59,.int .i64 j)::e) (fun e ⟨j,hs⟩=>(34,.row 27 1 (.slice (some ⟨b34,0,none⟩) s.of_.length s.of_.length) s.of_.length hs)::(904,FdP D W hs (zcD s i x j) G)::(903,.row 3 1 uv (x.uses.map (·.2)).length ((x.uses.map (·.2)).map zb))::(902,.row 3 1 wv (yz f g s i).length ((yz f g s i).map zb))::e) (fun⟨j,hs⟩=>j<=x.phis.length/\hs.length=s.of_.length) (fun⟨j,hs⟩=>x.phis.length - j) (0,hs) j2 j3 j1 j1 j1 ⟨ztC _,du⟩ ?_));rintro⟨j,hs⟩ ⟨hj,du⟩;have fm:=dh.max;refine Vs 6 O (zp4 O (fun lj=>?_) (fun lj=>?_))
  .
   refine Vs 6 O (zrI 3000 1 j tO dh O O O (fun p fV fW fX dW dX dY dZ=>?_));obtain⟨fp,fq,rfl,d5,dz⟩:=dZ;obtain⟨ft,fu,rfl⟩:=d5.form;obtain⟨dA,dB,rfl⟩:=dz.form;refine zrg 3000 tR56 ts88 O dY tO _ rfl O ?_;obtain⟨q,hq,fw⟩:=jL (da.phi.ver p dX);refine Vs 1 O (V.alloc 18 tz88 O O (fun b18=>?_));refine Va 10 O tO (zrq 34 (q) ts27 O tO tO (zs4 904 (e':=FdP D W (hs.set q (.slice dA p.args.length dB)) (zcD s i x (j+1)) G) O (fun w hI=>(by rw[zhX dW,hq,ztJ];exact(show FdOk _ _ _ _ _ _ from hI.at 904 O).set (fun _ h=>h) (.inl dz))) (FdP.loc) (fun _ h=>h) (fun q h=>h) (Va 7 O tO (V.back ⟨j+1,hs.set q (.slice dA p.args.length dB)⟩ j2 j3 Jn tD 0 O O))))
  obtain rfl:j=x.phis.length:=tO;refine zr8 (p:=∃ a c,uv=.slice a (x.uses.map (·.2)).length c) (fun w hI=>zI (hI.at 903 O)) (fun dC=>?_);obtain⟨au,cu,rfl⟩:=dC;refine Vs 12 O (zp4 O (fun d0=>?_) (fun d0=>?_))
  .
   obtain⟨q,hq,fw⟩:=jL (da.yes (dy.1 d0));refine Va 6 O tO (zrq 34 (q) ts27 O tO tO (zsC 904 903 (e':=FdP D W (hs.set q (.slice au (x.uses.map (·.2)).length cu)) (xR s (i+1)) (fun b=>G b\/(Value.slice au (x.uses.map (·.2)).length cu).ownBlock=some b)) [(5,some (5,0)),(9,some (909,0)),(13,some (13,0)),(70,some (13,2)),(74,some (13,2))] O O O (fun w hI=>(by rw[zjH hY d0,hq,ztJ];exact(show FdOk _ _ _ _ _ _ from hI.at 904 O).set (fun _ h=>.inl h) (.inr (zqa zb j9 (hI.at 903 O) fun b hb=>.inr hb)))) (FdP.loc) (fun _ h=>h) (fun b hb=>hb) ?_));have d6:¬ ki f g s i=true:=by unfold ki;rw[dx];simp[d0]
   refine zrL 902 O (e':=.row 3 1 wv (yz f g s (i+1)).length ((yz f g s (i+1)).map zb)) (by rw[zae d6]) (Va 7 O tO (V.back ⟨i+1,hs.set q (.slice au (x.uses.map (·.2)).length cu),wv,fun b=>G b\/(Value.slice au (x.uses.map (·.2)).length cu).ownBlock=some b⟩ j2 j3 Jn tD 0 O O))
  refine zrH 4000 0 i tO dr O O O (fun b_ d_ h_=>by have d7:=dc _ h_;first | omega | exact d7 d_) (fun y fY fZ f0 dl fy d8 fA d9=>?_);obtain rfl:=d9;have fB:xf g i=y:=yl dl;have ek:ki f g s i=decide (y.kind ≠ 2\/(yp f y.at_).act=1):=by unfold ki;rw[dx,fB];simp[d0]
  have f5:=zjI (f:=f) (g:=g) (s:=s) i;have f7:=zlE (f:=f) (g:=g) (s:=s) (show i<=g.length by omega);refine zrH 5000 0 i tO dt O O O (fun b_ d_ h_=>by have d7:=dc _ h_;first | omega | exact d7 d_) (fun st fC fD fE dD em dE er dF=>?_);obtain⟨ew,ez,eA,eC,rfl,dG,dH,dI,dJ⟩:=dF.get;obtain⟨eD,eE,rfl⟩:=dG.form;obtain⟨eF,eG,rfl⟩:=dH.form;obtain⟨eH,eI,rfl⟩:=dI.form;obtain⟨eJ,eK,rfl⟩:=dJ.form;refine Vs 7 O ?_;refine zrg 4000 tR34 ts65 O d8 tO _ rfl O (Vs 4 O (V.sp 87 O (fun k2=>?_) (fun k2=>?_)))
  .
   have eb:ki f g s i=true:=by rw[ek];simp[k2]
   refine Vs 16 O (zrS 902 (fun x=>[zb x]) j1 tY za8 tu27 Tryz.el3 O tS O (fun w hI=>⟨_,zqa (D:=fun _=>True) zb (fun _ _=>rfl) (hI.at 903 O) (fun _ _=>trivial)⟩) tO tO (fun u902=>?_));refine zrL 904 O (e':=FdP D W hs (xR s (i+1)) G) (by rw[zdV hY d0]) Uj
  refine Vs 5 O ?_;refine zrg 5000 tR24 ts72 O dE tO _ rfl O ?_
  have ec:st.act=(yp f y.at_).act:=by
   have h1:gm[i]?=some (stN f y):=by rw[<- dN,ztE,dl];rfl
   rw[Option.some.inj (dD.symm.trans h1)];have h2:=(hk.at dl (.inl tO)).1;unfold stN;rw[zty h2]
  refine Vs 6 O (zp4 O (fun a1=>?_) (fun a1=>?_))
  .
   have eb:ki f g s i=true:=by rw[ek,<- ec];simp[a1]
   refine Vs 3 O (zrS 902 (fun x=>[zb x]) j1 tY za8 tu27 Tryz.el3 O tS O (fun w hI=>⟨_,zqa (D:=fun _=>True) zb (fun _ _=>rfl) (hI.at 903 O) (fun _ _=>trivial)⟩) tO tO (fun u902=>?_));refine zrL 904 O (e':=FdP D W hs (xR s (i+1)) G) (by rw[zdV hY d0]) Uj
  have d6:¬ ki f g s i=true:=by
   grind
  refine zrL 904 O (e':=FdP D W hs (xR s (i+1)) G) (by rw[zdV hY d0]) (zrL 902 O (e':=.row 3 1 wv (yz f g s (i+1)).length ((yz f g s (i+1)).map zb)) (by rw[zae d6]) (Va 7 O tO (V.back ⟨i+1,hs,wv,G⟩ j2 j3 ⟨tO,du⟩ tD 0 O O)))
 obtain rfl:i=s.nodes.length:=tO;refine Vs 10 O (zpW 105 tu52 Tryz.el4 O tO tO (zs:=List.replicate s.of_.length (.bool false)) JY tR (fun b105=>?_));refine zrL 105 O (e':=.row 4 1 (.slice (some ⟨b105,0,none⟩) s.of_.length s.of_.length) s.of_.length ((List.replicate s.of_.length false).map Value.bool)) (by rw[zvA]) (zrL 902 O (e':=.row 3 1 wv (yz f g s g.length).length ((yz f g s g.length).map zb)) tD (zrL 904 O (e':=FdP D W hs (xR s g.length) G) tD (Vs 5 O (zrM (σ:=List Bool × List Int × Value) [10,19] [] [] O (fun e ⟨nl,wl,wv⟩=>(11,wv)::e) (fun e ⟨nl,wl,wv⟩=>(105,.row 4 1 (.slice (some ⟨b105,0,none⟩) s.of_.length s.of_.length) s.of_.length (nl.map Value.bool))::(902,.row 3 1 wv wl.length (wl.map zb))::(34,.row 27 1 (.slice (some ⟨b34,0,none⟩) s.of_.length s.of_.length) s.of_.length hs)::(904,FdP D W hs (xR s g.length) G)::e) (fun⟨nl,wl,wv⟩=>WkN f g s nl wl/\wl.length+muN s g.length nl<=1000000000) (fun⟨nl,wl,wv⟩=>wl.length+muN s g.length nl) (List.replicate s.of_.length false,yz f g s g.length,wv) j2 j3 j1 j1 j1 ⟨WkN.start hF,hM⟩ ?_))));rintro⟨nl,wl,wv⟩ ⟨hW,f8⟩;have ed:=hW.len;refine zr8 (p:=∃ a c,wv=.slice a wl.length c/\(0<wl.length->∃ b,a=some ⟨b,0,none⟩)) (fun w hI=>zjR (hI.at 902 O)) (fun fF=>?_);obtain⟨aw,cw,rfl,fG⟩:=fF;refine Vs 8 O (zp4 O (fun lw=>?_) (fun lw=>?_))
 .
  obtain⟨wl',v0,rfl⟩:∃ a b,wl=a++[b]:=by
   rcases zuU wl with h | ⟨a,b,h⟩
   . grind
   grind
  obtain⟨hN,v,rfl,fH⟩:=hW.wrk v0 tR;have fI:(wl'++[(v:Int)]).length=wl'.length+1:=tR;obtain⟨b,hb⟩:∃ b,nl[v]?=some b:=iA;obtain⟨l,hl⟩:∃ l,(xR s g.length)[v]?=some l:=⟨_,ztn (by rw[zfh];exact fH)⟩;obtain⟨bw,rfl⟩:=fG tO;refine zr8 (p:=(wl'++[(v:Int)]).length<=cw) (fun w hI=>(xw (show w.ownsRow 0 3 1 (.slice (some ⟨bw,0,none⟩) (wl'++[(v:Int)]).length cw) (wl'++[(v:Int)]).length ((wl'++[(v:Int)]).map zb) from hI.at 902 O)).choose_spec.2.1) (fun f9=>(Va 10 O tO (zrp 902 (wl'.length) tg3 O tO (show _=some (Value.int .i64 (v:Int)) by grind) (Va 9 O tO (zqH O (fun w hI=>zqc tR27 ts3 O O tO) (V.eq 119 (v:=.slice (some ⟨bw,0,none⟩) wl'.length cw) O tD (zs4 902 (e':=.row 3 1 (.slice (some ⟨bw,0,none⟩) wl'.length cw) wl'.length (wl'.map zb)) O (fun w hI=>(by have h:=zlK (j:=wl'.length) (show w.ownsRow 0 3 1 (.slice (some ⟨bw,0,none⟩) (wl'++[(v:Int)]).length cw) (wl'++[(v:Int)]).length ((wl'++[(v:Int)]).map zb) from hI.at 902 O) tO;rwa [zvv,List.take_left' tR]at h)) trivial (fun _ h=>h) (fun q h=>h) ?_)))))));refine Va 8 O tO (zrp 105 (v) tg4 O tO (show _=some (Value.bool b) by rw[ztE,hb];rfl) ?_);refine zqH O (fun w hI=>zqi O j6) (Vs 2 O (V.bool O (fun n0=>?_) (fun n0=>?_)))
  .
   obtain rfl:b=false:=by cases b<;>simp_all
   refine Va 5 O tO (zrq 105 (v) ts4 O tO tD (zrL 105 O (e':=.row 4 1 (.slice (some ⟨b105,0,none⟩) s.of_.length s.of_.length) s.of_.length ((nl.set v true).map Value.bool)) (by rw[zvB]) (zr8 (p:=∃ a c,hs[v]?=some (.slice a l.length c)) (fun w hI=>(show FdOk _ _ _ _ _ _ from hI.at 904 O).form hl) (fun dK=>?_))));obtain⟨al,cl,dK⟩:=dK;have gc:=znc hl (by rw[hb];exact fun e=>by cases e) (show v<nl.length by omega);refine Va 7 O tO (zrp 34 (v) tg27 O tO (dK) (zrS 902 (fun x=>[zb x]) j1 tY za8 tu27 Tryz.el3 O tS O (fun w hI=>⟨_,(show FdOk _ _ _ _ _ _ from hI.at 904 O).get hI.k1 hl dK⟩) tO tO (fun u902=>?_)));refine zrL 902 O (e':=.row 3 1 u902 (wl'++l).length ((wl'++l).map zb)) (by rw[ztv,zvv,zdZ]) (Vs 3 O (V.back ⟨nl.set v true,wl'++l,u902⟩ j2 j3 ⟨hW.take hF hl,by rw[ztv];omega⟩ (by simp only[ztv];omega) 0 O O))
  obtain rfl:b=true:=by cases b<;>simp_all
  refine Vs 2 O (V.back ⟨nl,wl',.slice (some ⟨bw,0,none⟩) wl'.length cw⟩ j2 j3 ⟨hW.skip hb,tO⟩ (by simp only[];omega) 0 O O)
 obtain rfl:wl=[]:=by cases wl;(· rfl);simp at lw
 have ee:=hW.fin hF;refine Vs 13 O (zpo results21 O O (fun w hI=>⟨_,rfl,⟨_,by rw[c0'],fun h=>absurd c0' h,fun _=>by rw[<- ee];exact zqa (R:=znP) (D:=fun b=>W.heap.size<=b) Value.bool (fun _ _=>rfl) (show w.ownsRow 0 4 1 (.slice (some ⟨b105,0,none⟩) s.of_.length s.of_.length) nl.length (nl.map Value.bool) by rw[ed];exact hI.at 105 O) (fun q hq=>hI.own 105 1 O O q hq)⟩,hI.k1⟩))
end Go.Proofs.YtckdhgbepmpgiaaGreat
namespace Go.GL
section
variable {n:Nat} {Hs:Hp} {B0:zq} {L:List Nat} {fuel:Nat} {listed:Array Bool}
variable {ty:TypeId} {ps:String}
theorem zsY (i k q j:Nat) {ts:TypeId} {x y:Operand} {o:Nat} {cs:List Value} (dc:∀ w,(sizeOf ts).run P w=.ok 1 w) (hi:ops[i]?=some ⟨none,.store ts x y,ty,ps,aft,g⟩) (hr:Region.ready .any ops listed=[i])
  (hn:(gd ops env g,hget H k,ev env x,ev env y,qd (Hs.map (·.1)),qr k (Hs.map (·.1)))=(some true,some (.own b cs e),some (.pointer (some ⟨b,o,none⟩)),some v,true,true)) (h1:Go.GL.one v=true) (hj:o=q) (hl:q<cs.length) (hB:Bs.drop j=B0)
  (h:VD P n Q ks ops Hs B0 L fuel (listed.setIfInBounds i true) env A (hset H k (.own b (cs.set q v) e)) Bs):VD P n Q ks ops Hs B0 L (fuel+1) listed env A H Bs:=by
 simp only[Prod.mk.injEq]at hn;subst hj hB;obtain⟨h2,h3,h4,h5,h6,h7⟩:=hn;intro hH hA w hI;have hB:Blk w b cs e:=hI.at k h3;obtain⟨c1,c2⟩:=xU h1;have hY:Has Hs (hset H k (.own b (cs.set o v) e)):=hH.set h3 h7;refine zrD i hi hr h2 (M.store dc h4 h5 c1 c2 hB hl) ?_;rintro w2 ⟨_,da,dg⟩;have db:VI Bs (hset H k (.own b (cs.set o v) e)) w2:=hI.set h3 dg da trivial (fun _ h=>h) fun q hq=>⟨.inl hq,by have hq:q=b:=hq;rw[hq];exact da.lt⟩;exact⟨(db.drop j).pick hY h6,h hY (hA.set h3) w2 db⟩
end
section
theorem VI.all {E:Hp} (hI:VI Bs H w) (h:E.map (fun x=>hget H x.1)=E.map (fun x=>some x.2)):∀ x ∈ E,x.2.holds w:=fun x hx=>hI.at x.1 (Has.of h x hx)
end
end Go.GL
namespace Go.Proofs.YtckdhgbepmpgiaaGreat
open Go.GL
theorem zd9 {f:FuncId} {k k':Int} (h:k=k') (hc:Calls P f args w (Ret fun r w'=>r=.int .i64 k/\Ext w w')):Calls P f args w (Ret fun r w'=>r=.int .i64 k'/\Ext w w'):=h ▸ hc
theorem zi6 (W:World):Calls prog 11 #[] W (Ret fun r w'=>r=.bool true/\Ext W w'):=by
 have dx:=zjE;have dy:=zjF;have da:exS22.of_.length<=1000000/\(LP exS22 exG22.length).length<=1000000:=by decide +kernel
 have dc:exT22.of_.length<=1000000/\(LP exT22 exG22.length).length<=1000000:=by decide +kernel
 have dH:∀ k,(yR zjK k).length<=1000000000:=fun k=>by unfold yR;split<;>(try split)<;>decide
 refine zqP func11 O ntmps11 (V.inn (Vs 7 O (zsf [] (Hn:=fun b:B22=>[(906,.own b.1 [.string ⟨#[120]⟩,.int .i64 1,.int .i64 0,.int .i64 1,.int .i64 0,.string ⟨#[121]⟩,.int .i64 0,.int .i64 0,.int .i64 1,.int .i64 0] 142),(910,.own b.2.1 [.int .i64 0,.int .i64 0,.int .i64 1,.int .i64 0,.int .i64 0,.int .i64 1,.slice none 0 0,.slice none 0 0,.slice none 0 0,.slice none 0 0] 72),(914,.own b.2.2.1 [.int .i64 3,.int .i64 0,.int .i64 0,.int .i64 0,.int .i64 24,.int .i64 0,.slice none 0 0,.slice (some ⟨b.2.1,0,none⟩) 1 1,.slice none 0 0,.slice none 0 0,.int .i64 1,.int .i64 0,.int .i64 0,.int .i64 0,.int .i64 24,.int .i64 1,.slice none 0 0,.slice none 0 0,.slice none 0 0,.slice none 0 0] 72),(916,.own b.2.2.2.1 [.int .i64 0,.int .i64 1,.int .i64 1,.int .i64 1] 3),(919,.own b.2.2.2.2.1 [.int .i64 0,.int .i64 0] 85),(922,.own b.2.2.2.2.2.1 [.int .i64 1,.int .i64 2] 3),(923,.own b.2.2.2.2.2.2.1 [.int .i64 1,.int .i64 2] 3),(925,.own b.2.2.2.2.2.2.2.1 [.int .i64 1,.int .i64 3,.slice (some ⟨b.2.2.2.2.2.1,0,none⟩) 2 2,.slice (some ⟨b.2.2.2.2.2.2.1,0,none⟩) 2 2] 88),(927,.own b.2.2.2.2.2.2.2.2.1 [.int .i64 1,.int .i64 3] 85),(930,.own b.2.2.2.2.2.2.2.2.2 [.slice none 0 0,.slice none 0 0,.int .i64 (-1),.slice none 0 0,.slice (some ⟨b.2.2.2.2.1,0,none⟩) 1 1,.int .i64 (-1),.slice none 0 0,.slice none 0 0,.int .i64 2,.slice (some ⟨b.2.2.2.2.2.2.2.1,0,none⟩) 1 1,.slice (some ⟨b.2.2.2.2.2.2.2.2.1,0,none⟩) 1 1,.int .i64 (-1),.slice none 0 0,.slice none 0 0,.int .i64 (-1)] 59)]) [] call31 O j9 j1 (fun w hI=>xd O O (zfi w)) ?_)));rintro _ ⟨bv,bb,bx,bo,b9,bf,ba,bp,bu,bn⟩ rfl;refine Vs 3 O (V.alloc 1 tz26 O O (fun b1=>?_));refine V.alloc 2 tz30 O O (fun b2=>(Vs 7 O (zru call14 O (fun w hI=>zfj exF22 _ _ _ (fun q=>q<w.heap.size) w JU tS) ?_)));rintro rr w1 w2 dY dI ⟨nv,rfl,hnv⟩ dJ;rw[zd4]at hnv;obtain⟨an,cn,rfl⟩:=hnv.form;refine V.alloc 3 tz36 O O (fun b3=>(Vs 8 O (zrP 18 [(0,_)] tR27 ts3 tz3 tS O O tK (fun b18=>?_))));refine zrW [Value.slice none 0 0,Value.slice none 0 0,Value.slice none 0 0] [(0,1),(1,1),(2,1)] [(0,_)] O O (fun _=>tK) (zru call18 O (fun w hI=>zjQ exF22 exG22 exS22 zjK dx dy da dH _ _ _ _ _ _ _ _ _ (fun q=>q<w.heap.size) w JU ((SlR.narrow tO qS (hnv.keep zC hI.k0 (fun b hb _ hs=>tD))).wide zC fun q h=>h.2) (zdW (hI.all O) (fun q h=>h)) (zsN (R:=zv) (l:=[(1:Int)]) [[.int .i64 1]] (hI.at 18 O) (Blk.lt (hI.at 18 O)) (fun c hc=>tD) tS ⟨rfl,trivial⟩) SlR.nil SlR.nil (fun q h=>h)) ?_);rintro rr w3 w4 dZ dK ⟨ov,t,rfl,_,hov⟩ dg;have hc:zcE exF22 exG22 exS22 zjK=0:=by unfold zcE;rw[ztx (by rw[zcj];decide)];exact zi1
 rw[hc]at hov ⊢;obtain⟨hov,_⟩:=hov rfl;rw[zjL]at hov;obtain⟨ovl,hO⟩:∃ ovl:List Int,ovl=[1]:=Jm;rw[<- hO]at hov;obtain⟨ao,co,rfl⟩:=hov.form;have d5:ovl.length=1:=tD;have dL:(zb1 exF22 exG22 exS22).length=4:=(zjG _ _ _).trans rfl;have dB:=zi2;have dC:=zi3;refine Vs 3 O (V.alloc 4 tz47 O O (fun b4=>?_));refine Vs 9 O (zru call21 O (fun w hI=>zi5 exF22 exG22 exS22 dx dy da znd tS _ _ _ _ _ _ (fun q=>q<w.heap.size) w JU ((SlR.narrow tO qS (hnv.keep zC hI.k1 (fun b hb _ hs=>tD))).wide zC fun q h=>h.2) (zdW (hI.all O) (fun q h=>h)) (fun q h=>h)) ?_);rintro rr w5 w6 d6 dM ⟨nu,rfl,_,db⟩ hY;rw[zcj]at db ⊢;have db:=db rfl;obtain⟨N,dN⟩:∃ N,N=zb1 exF22 exG22 exS22:=Jm;rw[<- dN]at db dL dB dC;obtain⟨au,cu,rfl⟩:=db.form;refine Vs 13 O (zrs call16 O (fun w hI=>(zd9 zcj (zad exF22 exG22 exS22 dx dy da _ _ _ _ _ _ (fun q=>q<w.heap.size) w JU ((SlR.narrow tO qS (hnv.keep zC hI.k2 (fun b hb _ hs=>tD))).wide zC fun q h=>h.2) (zdW (hI.all O) (fun q h=>h)) (fun q h=>h)))) (Vs 2 O (V.sp 35 O (fun q1=>?_) (fun q1=>?_))))
 . omega
 refine Vs 4 O (V.sp 39 O (fun q2=>?_) (fun q2=>?_))
 . omega
 refine Vs 6 O (V.sp 45 O (fun q3=>?_) (fun q3=>?_))
 . omega
 refine zrH 1000 1 0 tO hov O O O (fun b_ d_ h_=>by have dh:=dg _ h_;first | omega | exact dh d_) (fun z d7 d8 d9 dO dQ dz dR dA=>?_);obtain rfl:=dA;obtain rfl:z=1:=tD;refine Vs 2 O ?_;refine zrg 1000 tR27 ts3 O dz tO _ rfl O (Vs 4 O (V.sp 52 O (fun q4=>?_) (fun q4=>?_)))
 . omega
 refine Vs 4 O (V.sp 56 O (fun q5=>?_) (fun q5=>?_))
 . omega
 refine Vs 5 O (V.sp 61 O (fun q6=>?_) (fun q6=>?_))
 . omega
 refine zrH 2000 0 0 tO db O O O (fun b_ d_ h_=>by have dh:=hY _ h_;first | omega | exact dh d_) (fun x0 dS dT dU dl dD dm dE dr=>?_);obtain rfl:=dr;obtain rfl:x0=true:=Option.some.inj (dl.symm.trans dB);refine Vs 1 O ?_;refine zrg 2000 tR52 ts4 O dm tO _ rfl O (Vs 1 O (zqH O (fun w hI=>zqi O j6) (Vs 2 O (zqB 67 O (fun q7=>?_) (fun q7=>?_)))))
 . cases q7
 refine zrH 3000 0 3 tO db O O O (fun b_ d_ h_=>by have dh:=hY _ h_;first | omega | exact dh d_) (fun x3 dV dW dX dt dF du dG dw=>?_);obtain rfl:=dw;obtain rfl:x3=true:=Option.some.inj (dt.symm.trans dC);refine Vs 1 O ?_;refine zrg 3000 tR52 ts4 O du tO _ rfl O (Vs 1 O (zqH O (fun w hI=>zqi O j6) (Vs 3 O (V.bool O (fun q8=>?_) (fun q8=>?_)))))
 . cases q8
 refine Vs 3 O (Vw [906,910,914,916,919,922,923,925,1,2,3,18,4,1000,2000,3000] [] O (Vd [0,1,2,3] 0 tK O O O (zrZ 4 O tK O (fun w=>zpH tR28 ts59 O O O tS) (Vd [5] 0 tK O O O (zqI 6 0 O tK O O (fun w hI=>R.load isAgg57 O (v:=.slice (some ⟨bu,0,none⟩) 1 1) (by exact Blk.cells (hI.at 930 O) 10 _ O)) (zrZ 7 O tK O (fun w=>zpH tR28 ts59 O O O tS) (Vd [8] 0 tK O O O ?_)))))));refine zsY 9 930 9 0 ts56 O tK O O O tR O (zrZ 10 O tK O (fun w=>zpH tR57 ts85 O O O tS) (Vd [11] 0 tK O O O (zsY 12 927 1 0 ts3 O tK O O O tR O (VD.done tK (Vs 6 O (zrs call16 O (fun w hI=>(zd9 zhW (zad exF22 exG22 exT22 dx dy dc _ _ _ _ _ _ (fun q=>q<w.heap.size) w JU ((SlR.narrow tO qS (hnv.keep zC hI.k2 (fun b hb _ hs=>tD))).wide zC fun q h=>h.2) (zjJ (hI.all O) (fun q h=>h)) (fun q h=>h)))) ?_))))));refine Vs 5 O (zpl results11 O (fun w hI=>⟨_,rfl,rfl,hI.k3⟩))
attribute [local instance 1] Classical.propDecidable
def addN (l:List Bool) (b:Bool) (k:Nat):List Bool × Bool:=if l[k]?=some true then (l,b) else (l.set k true,true)
def jO:List Vr->Int
 | []=>1
 | v::vs=>(v.high - v.low+1)*jO vs
theorem zag:∀ {vs:List Vr},(∀ v ∈ vs,1<=v.high - v.low+1)->1<=jO vs
 | [],_=>zuo _
 | v::vs,h=>by
  have h1:=h v (ztr ..);have h2:=zag (vs:=vs) fun x hx=>h x Jq;have:(1:Int)*1<=(v.high - v.low+1)*jO vs:=zuq h1 h2 tO tO;exact this
theorem zcn {k:Int}:∀ (vs:List Vr) (n m:Int),(∀ v ∈ vs,v.kind=k)->yi k vs n=some m->m=n*jO vs
 | [],n,m,_,h=>by simp only[yi,Option.some.injEq]at h;rw[<- h,jO,Int.mul_one]
 | v::vs,n,m,hk,h=>by
  simp only[yi]at h;rw[zty (hk v (ztr ..))]at h;split at h
  . cases h
  rw[zcn vs _ m (fun x hx=>hk x Jq) h,jO,Int.mul_assoc]
theorem zi7 {k:Int} {vs:List Vr} {m:Int} (h:zl k vs=some m):m=jO (zf k vs):=by
 unfold zl at h;rw[<- xz]at h;rw[zcn (zf k vs) _ _ (fun v hv=>of_decide_eq_true (zvE.1 hv).2) h,Int.one_mul]
theorem zco:∀ {vs:List Vr} {r:Int},0<=r->(∀ v ∈ vs,1<=v.high - v.low+1)->(zH vs r).2=r / jO vs
 | [],r,_,_=>by simp[zH,jO]
 | v::vs,r,h0,h=>by
  have h1:=h v (ztr ..);have hp:=zag (vs:=vs) fun x hx=>h x Jq;rw[zH];simp only;rw[zco h0 fun x hx=>h x Jq,zuy (Int.ediv_nonneg h0 tO),Int.ediv_ediv,ztx tO,jO,Int.mul_comm (v.high - v.low+1),Int.sub_zero]
theorem zaD {r:Int} (h0:0<=r):∀ {vs:List Vr} {i:Nat} {x:Vr},(∀ v ∈ vs,1<=v.high - v.low+1)->vs[i]?=some x->(zH vs r).1[i]?=some (x.low+(r / jO (vs.drop (i+1))).tmod (x.high - x.low+1))
 | [],_,_,_,hx=>by simp at hx
 | v::vs,0,x,h,hx=>by
  simp only[zvb,Option.some.injEq]at hx;subst hx;simp only[zH,zvb,zuR,List.drop_zero];rw[zco h0 fun x hx=>h x Jq]
 | v::vs,i+1,x,h,hx=>by
  simp only[zva]at hx;simp only[zH,zva,zuR];exact zaD h0 (fun x hx=>h x Jq) hx
theorem xo (vs:List Vr) (k:Int) (vv:Value) (D:Nat->Prop) (W:World) (hk:0<=k/\k<=3) (hg:∀ v ∈ vs,yT (v.low,v.high)) (dc:vs.length<=1000000) (dB:SlR 5 RVr D W vv vs) :
  Calls prog 42 #[vv,.int .i64 k] W (Ret fun r w'=>r=.tuple #[.int .i64 ((zl k vs).getD 0),.int .i64 (if (zl k vs).isSome then 0 else 4)]/\Ext W w'):=by
 have dt:∀ v ∈ zf k vs,yT (v.low,v.high):=fun v hv=>hg v (zvE.1 hv).1;have dz:yi k (zf k vs) 1=zl k vs:=xz k vs 1;have du:∀ v ∈ zf k vs,v.kind=k:=fun v hv=>by simpa using (zvE.1 hv).2
 have dH:=ztt (qn k vs) dc;refine zqR func42 O ntmps42 O (V.inn (Vs 8 O (zrN (σ:=Unit) [0,1] [] [] O (fun e u=>(23,.bool (decide (¬ (0<=k/\k<=3))))::e) (fun e u=>e) (fun u=>True) j1 j1 ?_ ?_)))
 .
  refine Vs 4 O (V.sp 12 O (fun k1_=>?_) (fun k1_=>?_))
  .
   refine Vs 4 O (V.sp 16 O (fun k2_=>?_) (fun k2_=>?_))
   .
    refine Vs 4 O (V.sp 20 O (fun k3_=>?_) (fun k3_=>?_))
    . refine Vs 4 O (zpi () Ub j3 trivial 0 O O)
    refine Vs 4 O (zpi () Ub j3 trivial 0 O O)
   refine Vs 8 O (zpi () Ub j3 trivial 0 O O)
  refine Vs 12 O (zpi () Ub j3 trivial 0 O O)
 rintro u _;refine Vs 1 O (zp4 O (fun h0=>?_) (fun h0=>?_))
 . omega
 refine Vs 6 O (zru call85 O (fun w hI=>zgZ vs k vv D w (Tr1 hI.k0 dB) dc) ?_);rintro l w1 w2 dI dC dm dg;obtain⟨al,cl,rfl⟩:=dm.form;have dJ:=dm.max;refine Vs 10 O (zrM (σ:=Nat) [6] [] [] O (fun e i=>(7,.int .i64 i)::e) (fun e i=>e) (fun i=>i<=(zf k vs).length) (fun i=>(zf k vs).length - i) 0 j2 j3 j1 j1 j1 (ztC _) ?_);rintro i hi;refine Vs 9 O (zp4 O (fun dD=>?_) (fun dD=>?_))
 .
  refine Vs 5 O (zrH 1000 0 i tO dm O O O (fun b_ d_ h_=>by have dw:=dg _ h_;first | omega | exact dw d_) (fun x dE dF dG dh da hY dx db=>?_));obtain rfl:=db;have dl:=dt x da;unfold yT at dl;dsimp only at dl;refine Vq tK (Vs 2 O ?_);refine zrj 1000 tR22 ts142 O hY tO _ rfl O (Vs 4 O ?_);refine zrj 1000 tR22 ts142 O hY tO _ rfl O (Vs 4 O (V.sp 44 O (fun b1=>?_) (fun b1=>?_)))
  . omega
  refine Vs 2 O ?_;refine zrj 1000 tR22 ts142 O hY tO _ rfl O (Vs 5 O (V.sp 52 O (fun b2=>?_) (fun b2=>?_)))
  . omega
  refine Vs 2 O ?_;refine zrj 1000 tR22 ts142 O hY tO _ rfl O (Vs 6 O (zp4 O (fun b3=>?_) (fun b3=>?_)))
  . omega
  refine Va 8 O tO (V.back (i+1) j2 j3 tO tO 0 O O)
 refine Vs 17 O (zrM (σ:=Nat × Int) [6] [] [] O (fun e ⟨j,n⟩=>(8,.int .i64 n)::(9,.int .i64 j)::e) (fun e ⟨j,n⟩=>e) (fun⟨j,n⟩=>j<=(zf k vs).length/\yi k ((zf k vs).take j) 1=some n) (fun⟨j,n⟩=>(zf k vs).length - j) (0,1) j2 j3 j1 j1 j1 y8 ?_);rintro⟨j,n⟩ ⟨hj,hs⟩;have hn:=yg k ((zf k vs).take j) 1 n (fun v hv=>dt v (zvL hv)) tO tO hs;refine Vs 9 O (zp4 O (fun dy=>?_) (fun dy=>?_))
 .
  refine Vs 5 O (zrH 2000 0 j tO dm O O O (fun b_ d_ h_=>by have dw:=dg _ h_;first | omega | exact dw d_) (fun x dE dF dG dh da hY dx db=>?_));obtain rfl:=db;have dl:=dt x da;unfold yT at dl;dsimp only at dl;have hp:=zfQ (n:=n) (s:=x.high - x.low+1) hn.1 hn.2 tO tO
  have dr:yi k ((zf k vs).take (j+1)) 1=if 4096<n*(x.high - x.low+1) then none else some (n*(x.high - x.low+1)):=by
   rw[ze dh,yj,hs];simp[yi,du x da]
  refine Vq tK (Vs 3 O ?_);refine zrj 2000 tR22 ts142 O hY tO _ rfl O (Vs 4 O ?_);refine zrj 2000 tR22 ts142 O hY tO _ rfl O (Va 14 O tO (zp4 O (fun hb=>?_) (fun hb=>?_)))
  .
   rw[zty hb]at dr
   have dA:zl k vs=none:=by
    rw[<- dz,<- zwa (j+1) (zf k vs),yj,dr];rfl
   refine Vs 12 O (zpo results42 O O (fun w hI=>⟨_,rfl,tD,hI.k1⟩))
  rw[ztx hb]at dr;refine Va 8 O tO (V.back (j+1,n*(x.high - x.low+1)) j2 j3 ⟨tO,dr⟩ tD 0 O O)
 have:j=(zf k vs).length:=tO;subst this;rw[zts,dz]at hs;refine Vs 13 O (zpo results42 O O (fun w hI=>⟨_,rfl,tD,hI.k1⟩))
theorem jP (vs:List Vr) (k r:Int) (vv:Value) (D:Nat->Prop) (W:World) (hk:0<=k/\k<=3) (hg:∀ v ∈ vs,yT (v.low,v.high)) (hY:vs.length<=1000000) (dr:SlR 5 RVr D W vv vs) :
  Calls prog 86 #[vv,.int .i64 k,.int .i64 r] W (Ret fun rr w'=>(∃ u,rr=.tuple #[u,.int .i64 (zS k vs r)]/\(zS k vs r ≠ 0->u=.slice none 0 0)/\(zS k vs r=0->SlR 1 zv (fun b=>W.heap.size<=b) w' u (zH (zf k vs) r).1))/\Ext W w'):=by
 have dt:∀ v ∈ zf k vs,yT (v.low,v.high):=fun v hv=>hg v (zvE.1 hv).1;have dc:∀ v ∈ zf k vs,1<=v.high - v.low+1:=fun v hv=>by have:=dt v hv;unfold yT at this;dsimp only at this;omega
 have dE:=ztt (qn k vs) hY;have dF:=xQ (zf k vs) r;refine zqS func86 O ntmps86 O (V.inn (Vs 10 O (zrs tc42 O (fun w hI=>xo vs k vv D w hk hg hY (Tr1 hI.k0 dr)) (Vs 14 O (zp4 O (fun c0=>?_) (fun c0=>?_))))))
 .
  have hc:¬ (zl k vs).isSome=true:=fun h=>c0 (zty h);have hC:zS k vs r=4:=by unfold zS;rw[ztx hc]
  refine Vs 9 O y6
 have hc:(zl k vs).isSome=true:=by
  grind
 have hN:=zla hg hc;obtain⟨m,hm⟩:=zwG.1 hc;have dx:=zi7 hm;have hU:zS k vs r=if r<0\/m<=r then 3 else 0:=by unfold zS;rw[zty hc,hm];rfl
 rw[hm]at hN;simp only[zwE]at hN;rw[hm];simp only[zwE];refine Vs 8 O (V.sp 25 O (fun r0=>?_) (fun r0=>?_))
 .
  have hC:zS k vs r=3:=by rw[hU,zty (.inl r0)]
  refine Vs 15 O y6
 refine Vs 6 O (zp4 O (fun r1=>?_) (fun r1=>?_))
 .
  have hC:zS k vs r=3:=by rw[hU,zty (.inr r1)]
  refine Vs 8 O y6
 have hC:zS k vs r=0:=by rw[hU,ztx tO]
 refine Vs 6 O (zru call85 O (fun w hI=>zgZ vs k vv D w (Tr1 hI.k0 dr) hY) ?_);rintro l w1 w2 dG dy dg dh;obtain⟨al,cl,rfl⟩:=dg.form;have dH:=dg.max;refine Vs 5 O (zrU 33 tR27 ts3 O (fun b33=>?_));refine Vs 10 O (zrM (σ:=Nat × Int × Value) [2,10] [] [] O (fun e ⟨i,n,v⟩=>(12,.int .i64 i)::(8,.int .i64 n)::(11,v)::e) (fun e ⟨i,n,v⟩=>(33,.row 3 1 v i (((zH (zf k vs) r).1.take i).map zb))::e) (fun⟨i,n,v⟩=>i<=(zf k vs).length/\n=jO ((zf k vs).drop i)/\n<=4096) (fun⟨i,n,v⟩=>(zf k vs).length - i) (0,m,.slice (some ⟨b33,0,none⟩) 0 0) j2 j3 j1 j1 j1 ⟨ztC _,dx,hN⟩ ?_);rintro⟨i,n,v⟩ ⟨hi,hn,dI⟩;refine Vs 9 O (zp4 O (fun dz=>?_) (fun dz=>?_))
 .
  refine Vs 5 O (zrH 1000 0 i tO dg O O O (fun b_ d_ h_=>by have dA:=dh _ h_;first | omega | exact dA d_) (fun x dJ dK dL db dl da dB dm=>?_));obtain rfl:=dm;have du:=dt x dl;unfold yT at du;dsimp only at du;have dC:=zgQ db;have dM:=zag (vs:=(zf k vs).drop (i+1)) fun y hy=>dc y (zvK hy)
  have dw:n.tdiv (x.high - x.low+1)=jO ((zf k vs).drop (i+1)):=by
   rw[hn,dC,jO,Int.mul_tdiv_cancel_left _ tO]
  have dN:1<=n:=by rw[hn];exact zag fun y hy=>dc y (zvK hy)
  have dO:=Int.tdiv_le_self (x.high - x.low+1) (show 0<=n by omega);have dD:=Int.tdiv_nonneg (show 0<=r by omega) (show 0<=n.tdiv (x.high - x.low+1) by omega);have dQ:=Int.tdiv_le_self (n.tdiv (x.high - x.low+1)) (show 0<=r by omega);have dR:=Int.tmod_nonneg (x.high - x.low+1) dD;have dS:=Int.tmod_lt_of_pos (r.tdiv (n.tdiv (x.high - x.low+1))) (show 0<x.high - x.low+1 by omega);have hget:=zaD (r:=r) tO dc db;rw[<- zuy tO,<- dw]at hget;refine Vq tK (Vs 2 O ?_);refine zrj 1000 tR22 ts142 O da tO _ rfl O (Vs 4 O ?_);refine zrj 1000 tR22 ts142 O da tO _ rfl O (Va 11 O tO (zqH O (fun w hI=>R.quo O O tO tO) (Vs 3 O (Vw [1000] [] O (Vd [0,1,2,6,7,9] 0 tK O O O ?_)))));refine zrh 3 1000 tR22 ts142 O tK O da tO _ rfl O (Vd [4,5] 0 tK O O O (zrZ 8 O tK O (fun w=>R.quo O O tO tO) (zrZ 10 O tK O (fun w=>R.rem O O tO tO) (Vb [11] 0 tK O O O tO (zrQ 12 67 0 [(0,_)] tR27 ts3 tz3 tS O tK O O tK (fun b67=>?_))))));refine zrm 13 33 67 0 tu27 Tryz.el3 O tS O tK O O O tO tO (fun u33=>(Vd [14] 0 tK O O O (VD.done tK (Vs 2 O (zrL 33 O (e':=.row 3 1 u33 (i+1) (((zH (zf k vs) r).1.take (i+1)).map zb)) (by rw[zw9,hget,zvv];rfl) (Va 5 O tO (V.back ⟨i+1,n.tdiv (x.high - x.low+1),u33⟩ j2 j3 ⟨tO,dw,tO⟩ tD 0 O O)))))))
 have:i=(zf k vs).length:=tO;subst this;refine zrL 33 O (e':=.row 3 1 v (zH (zf k vs) r).1.length ((zH (zf k vs) r).1.map zb)) tD (Vs 13 O (zpo tr86 O O (fun w hI=>⟨_,rfl,⟨_,tD,fun h=>absurd hC h,fun _=>zqa zb (fun _ _=>rfl) (hI.at 33 O) (fun b hb=>hI.own 33 1 O O b hb)⟩,hI.k1⟩)))
def spN (f:Fl):Nat:=((zl 1 f.vars).getD 0).toNat
theorem jv (vd:Valid f):(∃ m,zl 1 f.vars=some m)/\(∃ m,zl 2 f.vars=some m)/\∃ m,zl 3 f.vars=some m:=by
 have h:=(yc vd.ok).2.1;unfold zr at h;split at h
 . omega
 split at h
 . cases h
 rename_i h2;unfold xh at h2;cases h3:zl 1 f.vars<;>cases h4:zl 2 f.vars<;>cases h5:zl 3 f.vars<;>simp[h3,h4,h5]at h2 ⊢
def rnN (f:Fl):Nat:=((zl 3 f.vars).getD 0).toNat
theorem zmB (vd:Valid f):(zl 1 f.vars).getD 0=(spN f:Int)/\1<=spN f/\spN f<=4096:=by
 obtain⟨⟨m,h⟩,_⟩:=jv vd;have h1:=yg 1 f.vars 1 m vd.good tO tO h;unfold spN
 grind
theorem zmC (vd:Valid f):(zl 3 f.vars).getD 0=(rnN f:Int)/\1<=rnN f/\rnN f<=4096:=by
 obtain⟨_,_,m,h⟩:=jv vd;have h1:=yg 3 f.vars 1 m vd.good tO tO h;unfold rnN
 grind
structure FitC (f:Fl) (a b c:Int):Prop where
 vd:Valid f
 vars:f.vars.length<=10
 hatches:f.hatches.length<=10
 small:sbulk f.body+zz f.hatches<=80
 sp:(spN f:Int)<=a
 pb:(zl 2 f.vars).getD 0<=b
 rn:(rnN f:Int)<=c
theorem znj (f:Fl) (a b c:Int) (v1 v2 v3:Value) (D:Nat->Prop) (W:World) (hf:RFl D W f v1 v2 v3) :
  Calls prog 32 #[.agg #[v1,v2,v3],.int .i64 a,.int .i64 b,.int .i64 c] W (Ret fun r w'=>(∃ q:Bool,r=.bool q/\(q=true->FitC f a b c))/\Ext W w'):=by
 obtain⟨a1,n1,rfl⟩:=hf.vars.form;obtain⟨a2,n2,rfl⟩:=hf.hatches.form;obtain⟨a3,n3,rfl⟩:=hf.body.form;refine zqT func32 O ntmps32 O (V.inn (Vs 2 O (V.box 4 O O (fun b4=>?_))));refine Vs 7 O (zrs call28 O (fun w hI=>zkJ f 10 80 _ _ _ D w i5 tS tS) (zqD (p:=(f.vars.length:Int)<=10/\(f.hatches.length:Int)<=10/\((sbulk f.body+zz f.hatches:Nat):Int)<=80) (fun hY=>?_) (fun hY=>?_)))
 .
  have h1:=zaK f.body;have db:snodes f.body+zz f.hatches<=1024:=tO;have da:sbulk f.body<=1000000:=tO;refine zqH O (fun w hI=>zqi O j6) (Vs 1 O (V.sp 21 O (fun q1=>?_) (fun q1=>?_)))
  . omega
  refine Vs 1 O (zrs call29 O (fun w hI=>zc0 f _ _ _ D w i5 db da) (Vs 4 O (zp4 O (fun c0=>?_) (fun c0=>?_))))
  . refine Vs 7 O iY
  have c0':yq f=0:=tO;have vd:Valid f:=⟨c0',db,da⟩;have dc:=(yc c0').2.2.2.1;obtain⟨s1,s2,s3⟩:=jv vd;refine Vs 6 O (zrs tc42 O (fun w hI=>xo f.vars 1 _ D w tS vd.good tO i4) (Vs 11 O (zrs tc42 O (fun w hI=>xo f.vars 2 _ D w tS vd.good tO i4) (Vs 11 O (zrs tc42 O (fun w hI=>xo f.vars 3 _ D w tS vd.good tO i4) (Vs 11 O (zrs call65 O (fun w hI=>zaS f.vars f.hatches.length f.body _ D w true dc (Tr1 hI.k0 hf.body) da) ?_)))))));have e1:=(zmB vd).1;have e3:=(zmC vd).1;refine Vs 15 O (V.sp 54 O (fun g1=>?_) (fun g1=>?_))
  .
   refine Vs 5 O (V.sp 59 O (fun g2=>?_) (fun g2=>?_))
   .
    refine Vs 5 O (V.sp 64 O (fun g3=>?_) (fun g3=>?_))
    . refine Vs 7 O (zpl tr32 O (fun w hI=>⟨_,rfl,⟨_,rfl,fun _=>⟨vd,tO,tO,tO,tO,tO,tO⟩⟩,hI.k0⟩))
    refine Vs 7 O iY
   refine Vs 12 O iY
  refine Vs 17 O iY
 refine zqH O (fun w hI=>zqi O j6) (Vs 1 O (V.sp 21 O (fun q1=>?_) (fun q1=>?_)))
 . refine Vs 14 O iY
 omega
end Go.Proofs.YtckdhgbepmpgiaaGreat
namespace Go.GL
theorem SlR.now {R:Rel α} {S:Nat->Prop} {l:List α} (h:SlR k R D w v l) (hs:ye R) (hn:qD R) [NeZero k] (hk:Keep S w w') (hD:∀ b,D b->¬ S b):SlR k R (fun q=>q<w'.heap.size) w' v l :=
 (SlR.narrow (Nat.pos_of_ne_zero (NeZero.ne k)) hn (h.keep hs hk fun b hb _=>hD b hb)).wide hs fun _ h=>h.2
theorem RFl.now {v1 v2 v3:Value} (h:RFl D w f v1 v2 v3):RFl (fun q=>q<w.heap.size) w f v1 v2 v3 :=
 ⟨(SlR.narrow tO zep h.vars).wide yI fun _ h=>h.2,(SlR.narrow tO zeo h.hatches).wide yO fun _ h=>h.2,(SlR.narrow tO zeq h.body).wide zg fun _ h=>h.2⟩
end Go.GL
namespace Go.Proofs.YtckdhgbepmpgiaaGreat
open Go.GL
theorem RSf.now {u1 u2:Value} (h:RSf D w s u1 u2):RSf (fun q=>q<w.heap.size) w s u1 u2 :=
 ⟨(SlR.narrow tO yt h.of_).wide zc fun _ h=>h.2,(SlR.narrow tO zj9 h.nodes).wide za9 fun _ h=>h.2⟩
theorem zlL (f:Fl) (v1 v2 v3:Value) (D:Nat->Prop) (W:World) (hf:RFl D W f v1 v2 v3) :
  Calls prog 12 #[.agg #[v1,v2,v3]] W (Ret fun r w'=>(∃ q:Bool,r=.bool q/\(q=true->FitC f 16 4 4))/\Ext W w'):=by
 refine zqQ func12 O ntmps12 O (V.inn (Vs 2 O (V.box 1 O O (fun b1=>?_))));refine Vs 6 O (zru call32 O (fun w hI=>znj f 16 4 4 v1 v2 v3 D w i5) ?_);rintro rr w1 w2 db hY ⟨q,rfl,hq⟩ da;refine Vs 4 O (zpl results12 O (fun w hI=>⟨_,rfl,⟨_,rfl,hq⟩,hI.k1⟩))
theorem zda (vd:Valid f):¬ yw f (zd f) ≠ 0:=ztK (by unfold yw;rw[ztx (ztK vd.ok),zty rfl])
end Go.Proofs.YtckdhgbepmpgiaaGreat
namespace Go.GL
def Fm.push (n:Fm) (d:Deferred):Fm:=⟨n.sz,d::n.ds⟩
section
variable {n:Fm} {rest:List Oper}
theorem WO.defer {o:Oper} {d:Deferred} (hg:o.guard=none) (hd:o.dst=none) (hr:∀ a,Ok n env a->(execOp a.eval o).run P w=.ok (.defer d) w) (h:WO P (n.push d) ops Q rest env w):WO P n ops Q (o::rest) env w:=by
 intro a ha;refine wpList_plain hg fun K hK=>?_;unfold Oper.wp;rw[hr a ha,Oper.upon_defer,hd];exact hK _ _ (h _ ⟨ha.size,congrArg (d::·) ha.defs,ha.get⟩)
theorem V.defer {x:Operand} {fn:Fn} {fs cs:Array Value} {ts:Array TypeId} {ty:TypeId} {ps:String} (hx:ev env x=some (.func fn fs cs)) (h:V P (n.push ⟨.fn fn cs,fs⟩) Q ks (.o ops rest) env A H Bs):V P n Q ks (.o ops (⟨none,.defer ⟨.value x,#[],ts⟩,ty,ps,aft,none⟩::rest)) env A H Bs :=
 fun hA w hI=>WO.defer rfl rfl (fun a ha=>by simp[execOp,resolve,Deferred.ofValue,ha.eval hx]) (h hA w hI)
def znk {σ:Type} (N:σ->Fm) (env':σ->Env) (I:σ->World->Prop) (μ:σ->Nat) (m:Nat) (a:Act) (w:World):Prop:=∃ s,Ok (N s) (env' s) a/\I s w/\μ s<m
theorem zsZ (N:σ->Fm) (env':σ->Env) (I:σ->World->Prop) (μ:σ->Nat) {c:Code} (s₀:σ) (hN:N s₀=n) (h₀:Sub (env' s₀) env) (hI:I s₀ w)
  (h:∀ s w',I s w'->WC P (N s) c (Exit.then (znk N env' I μ (μ s)) Q) (env' s) w'):WC P n (.loop c) Q env w:=by
 intro a ha;refine wp_loop_ghost (fun m a w=>∃ s,μ s=m/\Ok (N s) (env' s) a/\I s w) (μ s₀) ⟨s₀,rfl,hN ▸ ha.sub h₀,hI⟩ ?_;rintro m a w ⟨s,rfl,hY,da⟩;refine Code.wp_mono ?_ (h s w da a hY);intro e a' w' hq;cases e<;>first | exact hq | skip;obtain⟨s',h1,h2,h3⟩:=hq;exact⟨μ s',h3,s',rfl,h1,h2⟩
theorem zt0 (N:σ->Fm) (es hs ts:List Nat) (_hp:(zis env es,zdm H hs,zit A ts)=(some E1,some H1,some A1)) (env':Env->σ->Env) (H':Hp->σ->Hp) (I:σ->Prop) (μ:σ->Nat) {c:Code} (s₀:σ) (hN:N s₀=n) (h₀:Sub (env' E1 s₀) env) (hH:Has (H' H1 s₀) H) (hu:∀ s,qd ((H' H1 s).map (·.1))=true)
  (hY:∀ s,A1.map (fun p=>zcJ (env' E1 s) p.1)=A1.map (fun p=>jc (H' H1 s) p.2)) (da:∀ s,A1.all (fun p=>(jc (H' H1 s) p.2).isSome)=true) (hI:I s₀)
  (h:∀ s,I s->V P (N s) Q (.k (znk N (env' E1) (fun s w=>I s/\VI Bs (H' H1 s) w) μ (μ s))::ks) (.c c) (env' E1 s) A1 (H' H1 s) Bs):V P n Q ks (.c (.loop c)) env A H Bs :=
 fun _ _ hw=>zsZ N (env' E1) (fun s w=>I s/\VI Bs (H' H1 s) w) μ s₀ hN h₀ ⟨hI,hw.pick hH (hu s₀)⟩ (fun s w' hs=>h s hs.1 (TgOk.of (hY s) (da s)) w' hs.2)
theorem zt1 {N:σ->Fm} {env':σ->Env} {H':σ->Hp} {I:σ->Prop} {μ:σ->Nat} (s:σ) (hN:N s=n) (h0:Sub (env' s) env) (hH:Has (H' s) H) (hI:I s) (hm:μ s<m) (j:Nat) (hB:Bs.drop j=Bs0) (hu:qd ((H' s).map (·.1))=true) :
  V P n Q (.k (znk N env' (fun s w=>I s/\VI Bs0 (H' s) w) μ m)::ks) (.e .normal) env A H Bs:=by
 subst hB;exact fun _ w hw a ha=>⟨s,hN ▸ ha.sub h0,⟨hI,(hw.drop j).pick hH hu⟩,hm⟩
def zog {σ:Type} (N:σ->Fm) (env':σ->Env) (I:σ->World->Prop) (a:Act) (w:World):Prop:=∃ s,Ok (N s) (env' s) a/\I s w
theorem zt2 (N:σ->Fm) (es hs ts:List Nat) (_hp:(zis env es,zdm H hs,zit A ts)=(some E1,some H1,some A1)) (env':Env->σ->Env) (H':Hp->σ->Hp) (I:σ->Prop) {c:Code}
  (hY:∀ s,A1.map (fun p=>zcJ (env' E1 s) p.1)=A1.map (fun p=>jc (H' H1 s) p.2)) (da:∀ s,A1.all (fun p=>(jc (H' H1 s) p.2).isSome)=true)
  (h:V P n Q (.k (zog N (env' E1) (fun s w=>I s/\VI Bs (H' H1 s) w))::ks) (.c c) env A H Bs) (hk:∀ s,I s->V P (N s) Q ks (.e .normal) (env' E1 s) A1 (H' H1 s) Bs):V P n Q ks (.c c) env A H Bs:=by
 intro hA w hw a ha;refine Code.wp_mono ?_ (h hA w hw a ha);intro e a' w' hq;cases e<;>first | exact hq | skip;obtain⟨s,h1,h2,h3⟩:=hq;exact hk s h2 (TgOk.of (hY s) (da s)) w' h3 a' h1
theorem zt3 {N:σ->Fm} {env':σ->Env} {H':σ->Hp} {I:σ->Prop} (s:σ) (hN:N s=n) (h0:Sub (env' s) env) (hH:Has (H' s) H) (hI:I s) (j:Nat) (hB:Bs.drop j=Bs0) (hu:qd ((H' s).map (·.1))=true) :
  V P n Q (.k (zog N env' (fun s w=>I s/\VI Bs0 (H' s) w))::ks) (.e .normal) env A H Bs:=by
 subst hB;exact fun _ w hw a ha=>⟨s,hN ▸ ha.sub h0,hI,(hw.drop j).pick hH hu⟩
theorem zt4 {R:Ending->World->Prop} (hR:∀ w,VI Bs H w->∀ tmps,Leaves P fn tmps R n.ds .returning w):V P n (bodyPostD P fn R) [] (.e .normal) env A H Bs:=fun _ w hw a ha=>by
 show Leaves P fn a.tmps R a.defers .returning w;rw[ha.defs];exact hR w hw a.tmps
end
section
variable {f:FuncId} {c:Code} {R:Ending->World->Prop} {n:Nat} {vs:List Value}
theorem zoh (hn:args.size<=n/\fn.ntmps=n) (hY:∀ k v,get env k=some v->args[k]?=some v):Ok (n:Fm) env { tmps:=args++Array.replicate (fn.ntmps - args.size) undef,defers:=[] }:=by
 refine⟨?_,rfl,?_⟩
 . grind
 intro k v hk;have h1:=hY k v hk
 have da:k<args.size:=by
  rcases zwt k args.size with h' | h'
  . exact h'
  rw[ztY h']at h1;cases h1
 simp[Array.getElem?_append,da];simpa[da] using h1
theorem G.inD (hf:P.funcs[f]?=some fn) (hb:fn.body=some c) (hn:fn.ntmps=n) (hl:Nat.ble vs.length n=true) (h:G P n (bodyPostD P fn R) [] (.c c) ((List.range vs.length).zip vs) w):Calls P f vs.toArray w R :=
 calls_of_wp_defers hf hb (h _ (zoh ⟨by simpa using zwq hl,hn⟩ (zil fun _ _ h=>h)))
theorem G.inC (hf:P.funcs[f]?=some fn) (hb:fn.body=some c) (hn:fn.ntmps=n) (hl:Nat.ble vs.length n=true) (h:G P n (bodyPost P fn R) [] (.c c) ((List.range vs.length).zip vs) w):CallsD P f vs.toArray .returning w (fun e u w'=>u=.returning/\R e w') :=
 callsD_of_wp hf hb (h _ (zoh ⟨by simpa using zwq hl,hn⟩ (zil fun _ _ h=>h)))
theorem zt5 (hf:P.funcs[f]?=some fn) (hb:fn.body=some c) (hn:fn.ntmps=n) (hl:Nat.ble 2 n=true) (h:G P n (bodyPostD P fn R) [] (.c c) [(0,a1),(1,a2)] w):Calls P f #[a1,a2] w R:=G.inD (vs:=[a1,a2]) hf hb hn hl h
theorem zt6 (hf:P.funcs[f]?=some fn) (hb:fn.body=some c) (hn:fn.ntmps=n) (hl:Nat.ble 2 n=true) (h:G P n (bodyPost P fn R) [] (.c c) [(0,a1),(1,a2)] w):CallsD P f #[a1,a2] .returning w (fun e u w'=>u=.returning/\R e w'):=G.inC (vs:=[a1,a2]) hf hb hn hl h
end
theorem zt7 {n:Fm} {pos:Pos} (k:Nat) (hn:(hget H k,qA H k)=(some (.row t 1 (.slice (some ⟨b,0,none⟩) m c) m xs),none)) (h:∀ sp:List Value,(xs++sp).length=c->m<=c/\c<=9223372036854775807->V P n Q ks pos env A (hset H k (.own b (xs++sp) t)) Bs):V P n Q ks pos env A H Bs:=by
 simp only[Prod.mk.injEq]at hn;intro hA w hI;obtain⟨sp,h1,h2,h3,h4⟩:=xw (show w.ownsRow 0 t 1 (.slice (some ⟨b,0,none⟩) m c) m xs from hI.at k hn.1);exact h sp tO ⟨h2,h3⟩ (hA.res hn.1 hn.2) w (hI.set hn.1 ix h1 trivial (fun _ h=>h) fun q hq=>⟨.inl JJ,hI.low _ (zm hn.1) q JJ⟩)
end Go.GL
namespace Go.Proofs.YtckdhgbepmpgiaaGreat
open Go.GL
abbrev rnm (gb:Nat) (ofv ndv chv cuv:Value):List Value:=[.pointer (some ⟨gb,0,none⟩),ofv,ndv,chv,cuv]
abbrev zoK (b gb:Nat) (ofv ndv chv cuv:Value) (ofl:List Int):Hp:=[(900,.own b (rnm gb ofv ndv chv cuv) 123),(901,.row 3 1 ofv ofl.length (ofl.map zb))]
theorem ym (v:Int) (ofl:List Int) (hl:ofl.length<=1000000000) (b gb:Nat) (ofv ndv chv cuv:Value) (W:World) (hE:Held (zoK b gb ofv ndv chv cuv ofl) W) :
  Calls prog 53 #[.pointer (some ⟨b,0,none⟩),.int .i64 v] W (Ret fun r w'=>∃ u:Value,r=.int .i64 ofl.length/\GBack (zoK b gb ofv ndv chv cuv ofl) (zoK b gb u ndv chv cuv (ofl++[v])) W w'):=by
 refine zqR func53 O ntmps53 O (zse [(900,.own b [.pointer (some ⟨gb,0,none⟩),ofv,ndv,chv,cuv] 123),(901,.row 3 1 ofv ofl.length (ofl.map zb))] hE.1 hE.2 (zre 0 900 0 O O (Vs 14 O (zrP 12 [(0,_)] tR27 ts3 tz3 tS O O tK (fun b12=>?_)))));refine zrl 901 12 tu27 Tryz.el3 O tS O O tO tO (fun u901=>(Vs 3 O (zrn 901 O tO ?_)));rintro bo co rfl hY;refine Va 16 O tO (zrL 901 O (e':=.row 3 1 (.slice (some ⟨bo,0,none⟩) (ofl.length+1) co) (ofl++[v]).length ((ofl++[v]).map zb)) tD (zpl results53 O (fun w hI=>⟨_,rfl,.slice (some ⟨bo,0,none⟩) (ofl.length+1) co,tD,hI.back 0 O O O rfl⟩)))
theorem zfm (v:Nat) (rows:List (List Int)) (r:List Int) (k:Int) (hr:rows[v]?=some r) (hk:r[r.length - 1]?=some k) (b gb:Nat) (ofv ndv chv cuv:Value) (D:Nat->Prop) (W:World) (hc:Cells W b 0 (rnm gb ofv ndv chv cuv)) (db:SlR 1 (RSl 1 zv) D W cuv rows) :
  Calls prog 103 #[.pointer (some ⟨b,0,none⟩),.int .i64 v] W (Ret fun rr w'=>rr=.int .i64 k/\Ext W w'):=by
 obtain⟨ac,cc,rfl⟩:=db.form;have dC:=db.max;have dD:=(ztB.1 hr).1;have dE:=(ztB.1 hk).1;refine zqR func103 O ntmps103 O (V.inn (V.fr 904 0 O O hc (zre 0 904 0 O O (zrI 1000 0 v tO db O O O (fun r2 dx dy dz dc dm da dg=>?_)))));obtain⟨dr,rfl,hY⟩:=dg;obtain⟨dt,du,rfl⟩:=hY.form;obtain rfl:r=r2:=Option.some.inj (hr.symm.trans dc);have dF:=hY.max;refine zrJ 2000 0 (r.length-1) tO hY O O (fun k2 dA dB dh dw dl=>?_);obtain rfl:k=k2:=Option.some.inj (hk.symm.trans dh);refine Vs 6 O (Vq tK (Vs 5 O (zrj 1000 tR89 ts27 O da tO (v) tO O (Vs 6 O (zrj 1000 tR89 ts27 O da tO (v) tO O (Va 3 O tO (zrj 2000 tR27 ts3 O dl tO (r.length-1) tO O (Vs 5 O (zrz 0 results103 O O rfl)))))))))
theorem zh9 {v:Nat} {sp:List Value} {u:Value} (h:(HE.own b ((rv++sp).set v u) e).holds w) (hv:v<rv.length) (hl:(rv++sp).length=c) (hc:rv.length<=c/\c<=9223372036854775807):(HE.row e 1 (.slice (some ⟨b,0,none⟩) rv.length c) (rv.set v u).length (rv.set v u)).holds w:=by
 have h1:Blk w b ((rv++sp).set v u) e:=h;have h2:=zG (k:=1) (n:=rv.length) h1 hc.1 hc.2 tD;rw[zw3 _ _ hv,zwy,zwb tD,zwc tD]at h2;show w.ownsRow 0 e 1 _ _ _
 grind
abbrev zi8 (b gb:Nat) (ofv ndv chv cuv:Value) (rv:List Value) (rows:List (List Int)):Hp:=[(900,.own b (rnm gb ofv ndv chv cuv) 123),(902,.row 27 1 cuv rv.length rv),(903,RowsP zb 3 rv rows)]
theorem zdb (v:Nat) (k:Int) (rows:List (List Int)) (rv:List Value) (r:List Int) (hr:rows[v]?=some r) (dg:r.length<=1000000000) (dh:rv.length=rows.length) (b gb:Nat) (ofv ndv chv cuv:Value) (W:World) (hE:Held (zi8 b gb ofv ndv chv cuv rv rows) W) :
  Calls prog 102 #[.pointer (some ⟨b,0,none⟩),.int .i64 v,.int .i64 k] W (Ret fun rr w'=>∃ y:Nat × Nat × Value,rr=.func (.func 149) #[] #[.pointer (some ⟨y.1,0,none⟩),.pointer (some ⟨y.2.1,0,none⟩)]/\GBack (zi8 b gb ofv ndv chv cuv rv rows) (zi8 b gb ofv ndv chv cuv (rv.set v y.2.2) (rows.set v (r++[k]))++[(905,.own y.1 [.pointer (some ⟨b,0,none⟩)] 121),(906,.own y.2.1 [.int .i64 v] 3)]) W w'):=by
 have dl:=(ztB.1 hr).1;obtain⟨u,hu⟩:∃ u,rv[v]?=some u:=iA;refine zqS func102 O ntmps102 O (zse [(900,.own b [.pointer (some ⟨gb,0,none⟩),ofv,ndv,chv,cuv] 123),(902,.row 27 1 cuv rv.length rv),(903,RowsP zb 3 rv rows)] hE.1 hE.2 (zre 0 900 0 O O (zrn 902 O tO ?_)));rintro bc cc rfl da;refine zt7 902 O fun sp db dc=>(Vs 2 O (V.box 3 O O (fun b3=>?_)));refine V.box 4 O O (fun b4=>(Vs 4 O (Vw [900,902,3,4] [16] O (Vd [0,1,2,4,5,6,7,9,12] 0 tK O O O (zs5 3 O tK O 0 O O (fun w hI=>R.load tg89 O (v:=.slice (some ⟨bc,0,none⟩) rv.length cc) (by exact Blk.cells (hI.at 900 O) 4 _ O)) (zs5 8 O tK O 0 O O (fun w hI=>R.load tg89 O (v:=.slice (some ⟨bc,0,none⟩) rv.length cc) (by exact Blk.cells (hI.at 900 O) 4 _ O)) (zrZ 10 O tK O (fun w=>zpH tR89 ts27 O O O tO) ?_)))))));refine zs5 11 O tK O 0 O O (fun w hI=>R.load tg27 O (zri (hI.at 902 O) (by rw[ztN tO];exact hu))) ?_;refine zrQ 13 20 0 [(0,_)] tR27 ts3 tz3 tS O tK O O tK (fun b20=>(zs7 14 903 20 0 (v) tu27 Tryz.el3 O O tK O O (hu) (hr) tO (fun u903 hY=>?_)));refine zrZ 15 O tK O (fun w=>zpH tR89 ts27 O O O tO) (zs8 16 902 (v) ts27 O tK O (hY) tO tO (VDx.done tK (Vs 8 O (V.as 902 (e':=.row 27 1 (.slice (some ⟨bc,0,none⟩) rv.length cc) (rv.set v u903).length (rv.set v u903)) O O (fun w h=>zh9 h tO db dc) trivial (fun _ h=>h) (fun q hq=>by cases hq;rfl) (V.ren [(3,905),(4,906)] [(0,some (900,0)),(3,some (905,0)),(4,some (906,0))] O O (zpl results102 O (fun w hI=>⟨_,rfl,(b3,b4,u903),rfl,hI.back 0 O O O rfl⟩)))))))
theorem zjS {g n:Nat} (h:w.ownsRow 0 e 1 (.slice (some ⟨g,0,none⟩) n c) n xs) (hm:m<=n):w.ownsRow 0 e 1 (.slice (some ⟨g,0,none⟩) m c) m (xs.take m):=by
 have hl:xs.length=n:=by have:=h.1;omega
 obtain⟨sp,hB,hc,da,hY⟩:=xw h;have h2:=zG (k:=1) (n:=m) (cap:=c) hB tO da hY
 grind
theorem zi9 {v:Nat} {r0:List Int} {k:Int} {g:Nat} (h:RowsOk zb 3 w rv rows) (hu:rv[v]?=some (.slice (some ⟨g,0,none⟩) (r0++[k]).length c)) (hr:rows[v]?=some (r0++[k])):RowsOk zb 3 w (rv.set v (.slice (some ⟨g,0,none⟩) r0.length c)) (rows.set v r0):=by
 refine h.put hu ?_ (.inl O) ix;have h1:=zjS (h.row v _ _ hu hr) (m:=r0.length) tD;rw[<- List.map_take,List.take_left]at h1;exact h1
theorem zjT (v:Nat) (k:Int) (rows:List (List Int)) (rv:List Value) (r0:List Int) (hr:rows[v]?=some (r0++[k])) (dm:r0.length<=1000000000) (dr:rv.length=rows.length) (b gb:Nat) (ofv ndv chv cuv:Value) (W:World) (hE:Held (zi8 b gb ofv ndv chv cuv rv rows) W) (bx by':Nat) (hx:Cells W bx 0 [.pointer (some ⟨b,0,none⟩)]) (hy:Cells W by' 0 [.int .i64 v]) (dc:∀ q,HS (zi8 b gb ofv ndv chv cuv rv rows) q->q ≠ bx/\q ≠ by') :
  CallsD prog 149 #[.pointer (some ⟨bx,0,none⟩),.pointer (some ⟨by',0,none⟩)] .returning W (fun e u w'=>u=.returning/\Ret (fun rr w'=>∃ y:Value,rr=.tuple #[]/\GBack (zi8 b gb ofv ndv chv cuv rv rows) (zi8 b gb ofv ndv chv cuv (rv.set v y) (rows.set v r0)) W w') e w'):=by
 have dt:=(ztB.1 hr).1;have hY:RowsOk zb 3 W rv rows:=(hE.1 (903,RowsP zb 3 rv rows) tR).1;obtain⟨u,hu⟩:∃ u,rv[v]?=some u:=iA;obtain⟨ao,c,rfl,hg⟩:=zac hY hu hr;obtain⟨g,rfl⟩:=hg tR;have db:(r0++[k]).length=r0.length+1:=tR
 have dg:r0.length+1<=c:=by
  obtain⟨_,_,h1,_⟩:=xw (hY.row v _ _ hu hr);omega
 rw[db]at hu;refine zt6 func149 O ntmps149 O (zse [(900,.own b [.pointer (some ⟨gb,0,none⟩),ofv,ndv,chv,cuv] 123),(902,.row 27 1 cuv rv.length rv),(903,RowsP zb 3 rv rows)] hE.1 hE.2 (zrG 905 0 O O (fun h=>(dc _ h).1 O) hx (zrG 906 0 O O (fun h=>(dc _ h).2 O) hy (zre 0 905 0 O O (zre 1 906 0 O O (zrn 902 O tO ?_))))));rintro bc cc rfl da;refine zt7 902 O fun sp dh dl=>(Vw [900,902,905,906] [23] O (Vd [0] 0 tK O O O (zrf 2 900 0 O O (Vd [1,2,3,4,5] 0 tK O O O (zrf 7 900 0 O O (Vb [6,7,8,9,10,12] 0 tK O O O tO (zrf 14 900 0 O O (Vb [13,14,15,16,17] 0 tK O O O tO (zs5 11 O tK O 0 O O (fun w hI=>R.load tg27 O (zri (hI.at 902 O) (by rw[ztN tO];exact hu))) ?_)))))))));refine zs5 18 O tK O 0 O O (fun w hI=>R.load tg27 O (zri (hI.at 902 O) (by rw[ztN tO];exact hu))) ?_;refine Vb [19,20] 0 tK O O O tO (zrZ 21 O tK O (fun w=>zqc tR27 ts3 O O tO) (Vb [22] 0 tK O O O tO (zs8 23 902 (v) ts27 O tK O rfl tO tO (VDx.done tK ?_))));have hz:((((r0.length+1:Nat):Int) - 1).toNat)=r0.length:=tO;rw[hz];refine V.as 902 (e':=.row 27 1 (.slice (some ⟨bc,0,none⟩) rv.length cc) (rv.set v (.slice (some ⟨g,0,none⟩) r0.length c)).length (rv.set v (.slice (some ⟨g,0,none⟩) r0.length c))) O O (fun w h=>zh9 h tO dh dl) trivial (fun _ h=>h) (fun q hq=>by cases hq;rfl) ?_
 refine zs4 903 (e':=RowsP zb 3 (rv.set v (.slice (some ⟨g,0,none⟩) r0.length c)) (rows.set v r0)) O (fun w hI=>zi9 (hI.at 903 O) tD hr) RowsP.loc (fun _ h=>h) (fun q hq=>by
   obtain⟨i,z,hz,he⟩:=hq;by_cases e:v=i
   .
    subst e;rw[zvk tO]at hz;obtain rfl:=Option.some.inj hz;exact⟨v,_,hu,he⟩
   .
    rw[zvj e]at hz
    exact⟨i,z,hz,he⟩) ?_
 refine zpA results149 (fun w hI=>⟨_,rfl,.slice (some ⟨g,0,none⟩) r0.length c,rfl,hI.back 0 O O O rfl⟩)
theorem qz (l:List (Int × Int)):(l.flatMap qY).length=l.length*2:=zQ yE l
theorem zjU (es:List (Int × Int)) (v:Value) (D:Nat->Prop) (w:World) (dl:SlR 2 xu D w v es) (dm:es.length<=1048576):Calls prog 175 #[v] w (Ret fun u w'=>w'.ownsRow 0 169 2 u es.length (es.flatMap qY)/\(∀ g,u.ownBlock=some g->w.heap.size<=g)/\Ext w w'):=by
 obtain⟨ao,cap,rfl,dw,dx,dc⟩:=dl;refine zqQ func175 O ntmps175 O (Gs 9 O (zqG O O (zqe tu124 O) (Gs 2 O (zqF O (fun h=>?_) (fun h=>?_)))))
 .
  refine Gs 7 O ?_
  have:es=[]:=by
   cases es with
   | nil=>rfl
   | cons x r =>
    obtain⟨b,o,cs,da,_⟩:=dc 0 x rfl;rw[da]at h;cases h
  subst this;refine zpk results175 O ⟨_,rfl,qq _ _ _,by simp[Value.ownBlock],Keep.refl _ _⟩
 obtain⟨a0,rfl⟩:∃ a0,ao=some a0:=by cases ao with
  | none=>cases h
  | some a0=>exact⟨a0,rfl⟩
 refine Gs 4 O (G.mem O O (zqf tR124 ts169) ?_);rintro _ w1 ⟨b,rfl,hb,hs,hB,hk⟩;refine Gs 1 O ?_;have db:w1.ownsRow 0 169 2 (.slice (some ⟨b,0,none⟩) 0 0) 0 []:=zG hB (ztM _) tO rfl
 have hY:∀ q u,(es.flatMap qY)[q]?=some u->w1.cell? (a0.add q)=some u:=by
  intro q u hq;have dy:q<es.length*2:=by rw[<- qz];exact(ztB.1 hq).1
  obtain⟨x,hx⟩:∃ x,es[q / 2]?=some x:=iA;obtain⟨b',o',cs,da,_,dz,dr,rfl⟩:=dc (q / 2) x hx;cases da;have h1:∃ u',(qY x)[q % 2]?=some u':=⟨_,ztn (by rw[yE];omega)⟩;obtain⟨u',dg⟩:=h1;have h2:=zbo yE hx [] (q % 2) u' dg;rw[zuF,show q / 2*2+q % 2=q from tO,hq]at h2;cases h2;have h3:=dr (q % 2) u dg;rw[xg];rw[show o'+q / 2*2+q % 2=o'+q from tO]at h3;exact hk.cell h3 (fun h=>h)
 refine G.mem O O (M.append tu124 Tryz.el169 O tS O O db (qz es) hY (by intro u hu;obtain⟨x,_,hx⟩:=zvF.1 hu;exact zba x u hx) tO tO) ?_;rintro u w2 ⟨dh,dt,du,_⟩;refine Gs 4 O (zpk results175 O ⟨_,rfl,tD,?_,hk.trans du (fun q hq h=>by simp[Value.ownBlock]at h;omega)⟩);intro g hg;rcases dt with h' | ⟨g',h',h''⟩
 . rw[h']at hg;simp[Value.ownBlock]at hg;omega
 grind
theorem zoi (m:Nat):Builtin.zeroCells (Value.agg #[.int .i64 0,.int .i64 0]).cells m=(List.replicate (m*2) (.int .i64 0)).toArray:=by
 apply Array.ext
 . simp[Builtin.zeroCells,Value.cells]
 intro i h1 h2;have:i % 2=0\/i % 2=1:=tO;rcases this with h | h<;>simp[Builtin.zeroCells,Value.cells,h]
theorem zg9 (es:List (Int × Int)) (v:Value) (n:Nat) (w:World) (hY:w.ownsRow 0 169 2 v n (es.flatMap qY)) (dF:es.length<=1048576):Calls prog 178 #[v] w (Ret fun u w'=>w'.ownsRow 0 169 2 u (Gr.compactL es).length ((Gr.compactL es).flatMap qY)/\u.ownBlock=v.ownBlock/\Keep (fun q=>v.ownBlock=some q) w w'):=by
 have hn:n=es.length:=by
  have:=hY.1;rw[qz]at this;omega
 subst hn;by_cases h0:es=[]
 .
  subst h0
  obtain⟨l,c,hv⟩:∃ ao c,v=.slice ao 0 c:=by
   rcases hY.2 with⟨rfl,_⟩ | ⟨g,cap,cur,rfl,_⟩<;>exact⟨_,_,rfl⟩
  subst hv;refine zqQ func178 O ntmps178 O (Gs 13 O (zp6 O rfl (Gs 8 O (zpk tr178 O ⟨_,rfl,hY,rfl,Keep.refl _ _⟩))))
 obtain⟨g,cap,sp,rfl,_,dY,dG,hB,dH⟩:=qC yE tO hY h0;refine zqQ func178 O ntmps178 O (Gs 13 O (zqE O (fun h2=>?_) (fun h2=>?_)))
 .
  refine Gs 8 O ?_
  have e1:Gr.compactL es=es:=by
   match es,h0,h2 with
   | [x],_,_=>rfl
   | x::y::r,_,h=>simp at h;omega
  refine zpk tr178 O ⟨_,rfl,tD,rfl,Keep.refl _ _⟩
 refine Gs 9 O ?_
 have e1:Gr.compactL (es.take 1)=es.take 1:=by
  match es,h0 with
  | x::r,_=>rfl
 refine G.loop (σ:=Nat) (fun k=>[(0,.slice (some ⟨g,0,none⟩) es.length cap),(3,.int .i64 k)]) (fun k=>fun w'=>1<=k/\k<=es.length/\Gr.compactL (es.take k)=es.take k/\Ext w w') (fun k=>es.length - k) 1 j2 ⟨tO,tO,e1,Keep.refl _ _⟩ ?_;rintro k w2 ⟨dZ,d5,dr,db⟩;have dt:=db.blk hB (fun h=>h);refine Gs 9 O (zqE O (fun d6=>?_) (fun d7=>?_))
 .
  refine Gs 5 O (Qt tK (Gs 2 O ?_));obtain⟨x,hx⟩:∃ e,es[k]?=some e:=iA;obtain⟨y,hy⟩:∃ e,es[k - 1]?=some e:=iA;refine Ga 1 O tO (zqJ O O (fun w1 da=>zpJ tg169 ts169 O (by rfl) (da.cells (yU yE dt hx) (fun h=>h))) (Ga 4 O tO (zqJ O O (fun w1 da=>zpJ tg169 ts169 O (by rfl) (da.cells (show Cells w2 g (0+((k:Int) - 1).toNat*2) (qY y) from by rw[show ((k:Int) - 1).toNat=k - 1 from tO];exact yU yE dt hy) (fun h=>h))) (zqJ O O (fun w1 da=>R.eqP underlying169 tu3 tK tK tg3 tK O O) (zqN (fun w3 du=>?_))))));have dI:=du.blk dt (fun h=>h)
  have dB:(Gr.compactL (es.take k)).getLast?=some y:=by
   grind
  refine Gs 1 O (zqE O (fun dJ=>?_) (fun d8=>?_))
  .
   refine Gs 4 O ?_;have d9:x=y:=dJ;refine zqG O O (zqd tR124 ts169 O O O tO tO) (Gs 10 O ?_)
   have dK:Gr.compactL (es.take (k+1))=es.take k:=by
    rw[Gr.compactL_take hx];unfold Gr.cstep
    grind
   refine G.loop (σ:=Nat × Nat × List (Int × Int)) (fun⟨q,k2,L⟩=>[(0,.slice (some ⟨g,0,none⟩) es.length cap),(3,.int .i64 q),(4,.slice (some ⟨g,0+k*2,none⟩) (es.length - k) (cap - k)),(5,.int .i64 k2)]) (fun⟨q,k2,L⟩=>fun w'=>Blk w' g (L.flatMap qY++sp) 169/\L.length=es.length/\k<=q/\q+1<=k+k2/\1<=k2/\k2<=es.length - k/\L.take q=Gr.compactL (es.take (k+k2))/\L.drop (k+k2 - 1)=es.drop (k+k2 - 1)/\Keep (fun b=>b=g) w w') (fun⟨q,k2,L⟩=>es.length - k - k2) (k,1,es) j2 J8 ?_;rintro⟨q,k2,L⟩ w4 ⟨dg,hL,eb,ec,dL,dM,dh,dl,dw⟩;have dN:(L.flatMap qY++sp).length=cap*2:=by rw[<- dH,ztv,ztv,qz,qz,hL]
   refine Gs 9 O (zqE O (fun dO=>?_) (fun dQ=>?_))
   .
    refine Gs 5 O (Qt tK (Gs 2 O ?_));obtain⟨x2,dx⟩:∃ e,es[k+k2]?=some e:=iA;obtain⟨y2,dC⟩:∃ e,es[k+k2 - 1]?=some e:=iA
    have dR:L[k+k2]?=some x2:=by
     have:=congrArg (fun l=>l[1]?) dl;simp only[zvc]at this;rw[show k+k2 - 1+1=k+k2 from tO]at this;rw[this];exact dx
    have dS:L[k+k2 - 1]?=some y2:=by
     have:=congrArg (fun l=>l[0]?) dl;simp only[zvc,zwl]at this;rw[this];exact dC
    have dD:Cells w4 g (0+k*2+(k2:Int).toNat*2) (qY x2):=by
     have:=yU yE dg dR
     grind
    have dT:Cells w4 g (0+k*2+((k2:Int) - 1).toNat*2) (qY y2):=by
     have:=yU yE dg dS
     grind
    refine Ga 1 O tO (zqJ O O (fun w1 da=>zpJ tg169 ts169 O (by rfl) (da.cells dD (fun h=>h))) (Ga 4 O tO (zqJ O O (fun w1 da=>zpJ tg169 ts169 O (by rfl) (da.cells dT (fun h=>h))) (zqJ O O (fun w1 da=>R.neP underlying169 tu3 tK tK tg3 tK O O) (zqN (fun w5 dm=>?_))))));have dE:=dm.blk dg (fun h=>h)
    have dy:(Gr.compactL (es.take (k+k2))).getLast?=some y2:=by
     have:=Gr.compactL_last dC
     grind
    refine Gs 1 O (zqE O (fun dU=>?_) (fun dV=>?_))
    .
     refine Ga 7 O tO (zqM O tg169 ts169 (dm.cells dD (fun h=>h)) O (Ga 1 O tO (zpT O (zpU ts169 O O O O (zba x2) dE tO) ?_)));rintro w6 ⟨dW,dc,dz⟩;rw[ztJ,zwC,zdi yE tO]at dc;refine Ga 14 O tO (G.back (q+1,k2+1,L.set q x2) j2 ⟨dc,tD,tO,tO,tO,tO,?_,?_,(dw.ext dm).trans dz (fun _ _ h=>h)⟩ tD)
     .
      rw[show k+(k2+1)=k+k2+1 from tO,Gr.compactL_take dx,<- dh];unfold Gr.cstep;rw[ztx tD];rw[zwe tD];simp[zwd]
     rw[zuQ tO];have:=congrArg (List.drop 1) dl;simp only[zuN]at this
     grind
    refine Ga 8 O tO (G.back (q,k2+1,L) j2 ⟨dE,hL,tO,tO,tO,tO,?_,?_,dw.ext dm⟩ tD)
    .
     rw[show k+(k2+1)=k+k2+1 from tO,Gr.compactL_take dx,<- dh];unfold Gr.cstep
     grind
    have:=congrArg (List.drop 1) dl;simp only[zuN]at this
    grind
   refine Gs 9 O (zqG O O (zqd tR124 ts169 O O O tO tO) (zpQ O (M.clear (k:=2) (zs:=List.replicate ((es.length - q)*2) (.int .i64 0)) tR124 tz169 O tO (zoi _) tR (by intro u hu;rw[zuV hu];rfl) dg tO) ?_));rintro _ w6 ⟨rfl,dW,dc,dz⟩;refine Gs 6 O (zqG O O (zqc tR124 ts169 O O tO) (Gs 9 O (zpk tr178 O ⟨_,rfl,?_,rfl,(dw.trans dz (fun _ _ h=>h)).mono Jk⟩)));have dA:k+k2=es.length:=tO;rw[dA,zts]at dh;have dX:(Gr.compactL es).length=q:=tD;have ed:q*2<=(L.flatMap qY++sp).length:=tO;rw[dX];rw[ztJ,zwC]at dc;have h7:=zG (k:=2) (n:=q) (cap:=cap) dc tO dG tD;rw[zuE,zwb tD,List.take_take,Nat.min_self,zwb (by rw[qz];omega),jC yE,dh]at h7;exact h7
  refine Ga 8 O tO (G.back (k+1) j2 ⟨tO,tO,?_,db.ext du⟩ tO);rw[Gr.compactL_take hx];unfold Gr.cstep;rw[ztx tD,dr];rw[zwe tO];rw[ztn tO]at hx;cases hx;rfl
 refine Gs 12 O ?_;have:k=es.length:=tO;subst this;rw[zts]at dr;refine zpk tr178 O Jy
end Go.Proofs.YtckdhgbepmpgiaaGreat
namespace Go.GL
open Go.Sort Go.Proofs
theorem zlM (h:Ext w w'):∃ q os,w'=grow (w.drewN q) os:=by
 refine⟨w'.drawn - w.drawn,w'.heap.extract w.heap.size w'.heap.size,?_⟩;have hd:=h.drawn
 have hh:w'.heap=w.heap++w'.heap.extract w.heap.size w'.heap.size:=by
  apply ztU;intro i;by_cases hi:i<w.heap.size
  .
   rw[ztW hi];exact h.block i hi (fun h=>h)
  rw[Array.getElem?_append_right tO,Array.getElem?_extract];by_cases hY:i<w'.heap.size
  . grind
  rw[ztx tO,ztY tO]
 have:∀ (a b:World),a.heap=b.heap->a.tape=b.tape->a.drawn=b.drawn->a.os=b.os->a.output=b.output->a=b:=by
  intro a b h1 h2 h3 h4 h5;cases a;cases b;simp at h1 h2 h3 h4 h5;subst h1 h2 h3 h4 h5;rfl
 refine this _ _ hh h.tape ?_ h.os h.output;show w'.drawn=w.drawn+(w'.drawn - w.drawn);omega
section
variable [Inhabited α] {enc:α->List Value}
theorem zdc (hk:∀ x,(enc x).length=k) (d:Array α):(flatK enc k d).toList=d.toList.flatMap enc:=by
 apply zuW;intro t;have hl:(d.toList.flatMap enc).length=d.size*k:=by rw[zQ hk,zu2]
 by_cases ht:t<d.size*k
 .
  have hY:0<k:=by
   grind
  have hd:t / k<d.size:=Nat.div_lt_of_lt_mul tD;have hm:t % k<k:=zwv _ hY;have h1:=get_flatK enc k d t ht
  have h2:(flatK enc k d).toList[t]?=some ((flatK enc k d)[t]!):=by
   rw[zu1,getElem!_pos _ t (by simpa using ht)];exact ztX (by simpa using ht)
  rw[h2,h1]
  have h3:d.toList[t / k]?=some d[t / k]!:=by
   rw[zu1,getElem!_pos _ (t / k) hd];exact ztX hd
  have h4:(enc d[t / k]!)[t % k]?=some ((enc d[t / k]!)[t % k]!):=by
   rw[getElem!_pos _ (t % k) tD];exact ztn tD
  have h5:=zbo hk h3 [] (t % k) _ h4;rw[zuF,Nat.mul_comm,zwn]at h5;rw[h5]
 rw[ztL (by rw[zu2,size_flatK];omega),ztL tO]
theorem ze0 (hk:∀ x,(enc x).length=k) (l:List α) (d:Array α) (sp:List Value) (hs:d.size=l.length):putCells id 0 (flatK enc k d) (l.flatMap enc++sp).toArray=(d.toList.flatMap enc++sp).toArray:=by
 have hl:=zQ hk l;have da:(d.toList.flatMap enc).length=d.size*k:=by rw[zQ hk,zu2]
 have hY:=size_flatK enc k d;apply ztU;intro j;rw[<- zdc hk d];simp only[putCells,Array.getElem?_mapIdx,List.getElem?_toArray];by_cases hj:j<d.size*k
 .
  rw[ztN tD,ztN tD];rw[ztn tD];simp only[zwJ,ztC,zwC,hY,hj,and_self,if_true,Nat.sub_zero,id];rw[zu1,getElem!_pos _ j tO];exact(ztX tO).symm
 rw[ztO tD,ztO tD];simp only[hl,<- hs,zu2,hY,zwC,hj,and_false,if_false,Option.map_id']
theorem zia (hk:∀ x,(enc x).length=k) {l:List α} {sp:List Value} (hb:Blk w b (l.flatMap enc++sp) e):HoldsK enc k w b 0 l.toArray:=by
 intro j hj;rw[size_flatK]at hj;refine⟨?_,hb.frozen⟩
 have h1:(flatK enc k l.toArray).toList[j]?=some ((flatK enc k l.toArray)[j]!):=by
  rw[zu1,getElem!_pos _ j (by simpa using hj)];exact ztX (by simpa using hj)
 rw[zdc hk]at h1;refine hb.cells j _ ?_;rw[ztN (ztB.1 h1).1];exact h1
theorem zfn (hk:∀ x,(enc x).length=k) {l:List α} {sp:List Value} (hb:Blk w b (l.flatMap enc++sp) e) (d:Array α) (hs:d.size=l.length) (m:Nat) (os:Array Obj) :
  Blk (sortWorldK enc k w b 0 m d os) b (d.toList.flatMap enc++sp) e/\Keep (fun q=>q=b) w (sortWorldK enc k w b 0 m d os):=by
 have hY:=hb.lt;have dc:(putRow id (Sort.ahead w m) b 0 (flatK enc k d)).heap.size=w.heap.size:=by simp[Sort.ahead]
 have da:∀ i,i<w.heap.size->(sortWorldK enc k w b 0 m d os).heap[i]?=(putRow id (Sort.ahead w m) b 0 (flatK enc k d)).heap[i]?:=by
  intro i hi;show ((putRow id (Sort.ahead w m) b 0 (flatK enc k d)).heap++os)[i]?=_;rw[ztW tO]
 refine⟨?_,rfl,rfl,rfl,Nat.le_add_right _ _,?_,?_⟩
 .
  unfold Blk at *;rw[da b hY];show (w.heap.modify b _)[b]?=_;rw[zu0,zty rfl,hb];simp only[zwJ,onCells];rw[ze0 hk l d sp hs]
 . grind
 intro i hi db;rw[da i hi];show (w.heap.modify b _)[i]?=_;rw[zu0,ztx (fun h=>db h.symm)]
theorem zga {l:List α} {d:Array α} (h:PermIn 0 l.toArray.size l.toArray d):d.toList.Perm l:=by
 obtain⟨h1,_,h3⟩:=h;have e1:l.toArray.extract 0 l.toArray.size=l.toArray:=tR;have e2:d.extract 0 l.toArray.size=d:=tD
 grind
theorem ze1 {lt:α->α->Bool} {d:Array α} {n:Nat} (hn:d.size=n) (h:SortedIn lt 0 n d):d.toList.Pairwise (fun a b=>lt b a=false):=by
 subst hn;rw[zvV];intro i j hi hj hY;have:=h i j (ztC _) hY tO
 grind
end
theorem zha {α:Type} {p:α->Prop}:∀ {l:List α},(∀ x ∈ l,p x)->∃ m:List { x // p x },m.map Subtype.val=l
 | [],_=>⟨[],rfl⟩
 | x::r,h=>by
  obtain⟨m,hm⟩:=zha (l:=r) (fun y hy=>h y iq);exact⟨⟨x,h x (ztr ..)⟩::m,tD⟩
end Go.GL
namespace Go.Proofs
open Go.Shelf
def Tryz.laysSlF06P_ren:Go.Shelf.Ren:=⟨fun | 6=>176 | 15=>155 | 14=>207 | 28=>193 | 29=>194 | 20=>216 | 21=>217 | 22=>218 | 23=>219 | 24=>220 | 25=>221 | 26=>222 | 27=>223 | 46=>225 | 47=>209 | 48=>210 | 49=>226 | 50=>227 | 57=>228 | n=>n,fun | 22=>124 | 24=>169 | 25=>237 | 3=>3 | 39=>222 | 0=>0 | 53=>252 | 55=>254 | 4=>4 | 46=>246 | 45=>245 | 50=>207 | 5=>5 | 9=>9 | 66=>262 | 70=>266 | 76=>274 | 77=>201 | n=>n,fun | n=>n⟩
theorem Tryz.laysSlF06P:Go.Proofs.SlLaysF0.n6 prog Tryz.laysSlF06P_ren:={
 mixed:=tK
 f6:=⟨Tryz.f176.name,tS,Tryz.func176.trans iD⟩
 f14:=⟨Tryz.f207.name,tS,Tryz.func207.trans iD⟩
 f15:=Tryz.func155.trans iD
 f20:=⟨Tryz.f216.name,tS,Tryz.func216.trans iD⟩
 f21:=⟨Tryz.f217.name,tS,Tryz.func217.trans iD⟩
 f22:=⟨Tryz.f218.name,tS,Tryz.func218.trans iD⟩
 f23:=⟨Tryz.f219.name,tS,Tryz.func219.trans iD⟩
 f24:=⟨Tryz.f220.name,tS,Tryz.func220.trans iD⟩
 f25:=⟨Tryz.f221.name,tS,Tryz.func221.trans iD⟩
 f26:=⟨Tryz.f222.name,tS,Tryz.func222.trans iD⟩
 f27:=⟨Tryz.f223.name,tS,Tryz.func223.trans iD⟩
 f28:=Tryz.func193.trans iD
 f29:=Tryz.func194.trans iD
 f46:=⟨Tryz.f225.name,tS,Tryz.func225.trans iD⟩
 f47:=Tryz.func209.trans iD
 f48:=Tryz.func210.trans iD
 f49:=⟨Tryz.f226.name,tS,Tryz.func226.trans iD⟩
 f50:=⟨Tryz.f227.name,tS,Tryz.func227.trans iD⟩
 f57:=⟨Tryz.f228.name,tS,Tryz.func228.trans iD⟩
 t0:=underlying0
 a0:=isAgg0
 z0:=sizeOf0
 v0:=zeroValue0
 t3:=tu3
 a3:=tg3
 z3:=ts3
 v3:=tz3
 t4:=tu4
 a4:=tg4
 z4:=ts4
 v4:=zeroValue4
 t5:=underlying5
 a5:=isAgg5
 z5:=sizeOf5
 v5:=zeroValue5
 t9:=tu9
 a9:=tg9
 z9:=ts9
 v9:=zeroValue9
 t22:=tu124
 a22:=isAgg124
 z22:=sizeOf124
 v22:=zeroValue124
 t25:=underlying237
 a25:=isAgg237
 z25:=sizeOf237
 v25:=zeroValue237
 t39:=underlying222
 a39:=isAgg222
 z39:=sizeOf222
 v39:=zeroValue222
 t45:=underlying245
 a45:=isAgg245
 z45:=sizeOf245
 v45:=zeroValue245
 t46:=underlying246
 a46:=isAgg246
 z46:=sizeOf246
 v46:=zeroValue246
 t50:=underlying207
 a50:=isAgg207
 z50:=sizeOf207
 v50:=zeroValue207
 t53:=underlying252
 a53:=isAgg252
 z53:=sizeOf252
 v53:=zeroValue252
 t55:=underlying254
 a55:=isAgg254
 z55:=sizeOf254
 v55:=zeroValue254
 t66:=underlying262
 a66:=isAgg262
 z66:=sizeOf262
 v66:=zeroValue262
 t70:=underlying266
 a70:=isAgg266
 z70:=sizeOf266
 v70:=zeroValue266
 t76:=underlying274
 a76:=isAgg274
 z76:=sizeOf274
 v76:=zeroValue274
 t77:=underlying201
 a77:=isAgg201
 z77:=sizeOf201
 v77:=zeroValue201 }
open Go.RowKit Go.Lib Go.Sort in
theorem Tryz.slices_SortFuncP [Inhabited α] (k:Nat) (aE:∀ w,(isAgg 169).run prog w=.ok true w) (zE:∀ w,(Go.sizeOf 169).run prog w=.ok k w) (enc:α->List Value) (hk:∀ x,(enc x).length=k) (h1:∀ x,∀ v ∈ enc x,v.oneCell'=true) (cf:α->α->Int) (hO:SWO (ltOf cf)) (g:Nat) (cb:Array Value) (blk off cap:Nat) (d:Array α) (w:World) (eg:∀ args w,(callFunc g args).run prog w=.ok (.enter g args) w) (hY:CmpLays prog g cb enc k cf blk off d.size w) (hH:HoldsK enc k w blk off d) (da:blk<w.heap.size) (db:d.size<4611686018427387904) :
  Calls prog 176 #[.slice (some ⟨blk,off,none⟩) d.size cap,.func (.func g) #[] cb] w fun e w' =>
   e=.returned (.tuple #[])/\∃ d' n os,PermIn 0 d.size d d'/\SortedIn (ltOf cf) 0 d.size d'/\w'=sortWorldK enc k w blk off n d' os:=AnyQ.slices_SortFunc Tryz.laysSlF06P k aE zE enc hk h1 cf hO g cb blk off cap d w eg hY hH da db
open Go.RowKit Go.Lib Go.Sort in
theorem Tryz.slices_SortFuncP_none [Inhabited α] (p:Option Addr) (cap:Nat) (fv:Value) (w:World) :
  Calls prog 176 #[.slice p 0 cap,fv] w fun e w'=>e=.returned (.tuple #[])/\w'=w:=AnyF.slices_SortFunc_none Tryz.laysSlF06P p cap fv w
end Go.Proofs
namespace Go.Proofs.YtckdhgbepmpgiaaGreat
open Go.GL
def bd (p:Int × Int):Prop := -4611686018427387904<=p.1/\p.1<=4611686018427387903 /\ -4611686018427387904<=p.2/\p.2<=4611686018427387903
def zb2 (x y:Int × Int):Prop:=x.1<y.1\/x.1=y.1/\x.2<y.2
theorem zlN (f:FuncId) (hf:∀ args w,(callFunc f args).run prog w=.ok (.enter f args) w) (cf:Int × Int->Int × Int->Int)
  (dt:∀ x y W,bd x->bd y->Calls prog f #[.agg #[.int .i64 x.1,.int .i64 x.2],.agg #[.int .i64 y.1,.int .i64 y.2]] W (Ret fun v w'=>v=.int .i64 (cf x y)/\Ext W w'))
  (dz:∀ x y,bd x->bd y->(cf x y<0 ↔ zb2 x y)) (es:List (Int × Int)) (hb:∀ e ∈ es,bd e) (du:es.length<=1048576) (v:Value) (n:Nat) (w:World) (hY:w.ownsRow 0 169 2 v n (es.flatMap qY)) :
  Calls prog 176 #[v,.func (.func f) #[] #[]] w (Ret fun u w'=>u=.tuple #[]/\∃ es':List (Int × Int),es'.Perm es/\es'.Pairwise (fun a b=>¬ zb2 b a)/\w'.ownsRow 0 169 2 v n (es'.flatMap qY)/\Keep (fun q=>v.ownBlock=some q) w w'):=by
 have hn:n=es.length:=by
  have:=hY.1;rw[qz]at this;omega
 subst hn;by_cases h0:es=[]
 .
  subst h0;obtain⟨ao,c,rfl⟩:=zI hY;refine(Tryz.slices_SortFuncP_none (α:=Nat) ao c (.func (.func f) #[] #[]) w).mono ?_;rintro e w' ⟨rfl,rfl⟩;exact⟨_,rfl,rfl,[],List.Perm.refl _,List.Pairwise.nil,hY,Keep.refl _ _⟩
 obtain⟨g,cap,sp,rfl,_,dw,dx,hB,dA⟩:=qC yE tO hY h0;obtain⟨m,hm⟩:=zha hb;have dm:m.length=es.length:=tD;haveI:Inhabited { x // bd x }:=⟨⟨(0,0),by unfold bd;omega⟩⟩
 have da:∀ x y:{ x // bd x },Go.Proofs.ltOf (fun x y:{ x // bd x }=>cf x.1 y.1) x y=true ↔ zb2 x.1 y.1:=by
  intro x y;unfold Go.Proofs.ltOf
  grind
 have db:∀ x y:{ x // bd x },Go.Proofs.ltOf (fun x y:{ x // bd x }=>cf x.1 y.1) x y=false ↔ ¬ zb2 x.1 y.1:=by
  grind
 have dl:Go.Sort.SWO (Go.Proofs.ltOf fun x y:{ x // bd x }=>cf x.1 y.1):=by
  refine⟨?_,?_,?_⟩
  . intro x;rw[db];unfold zb2;omega
  . intro x y z;rw[da,da,da];unfold zb2;omega
  intro x y z;rw[db,db,db];unfold zb2;omega
 have dc:∀ l:List { x // bd x },l.flatMap (fun x=>qY x.1)=(l.map Subtype.val).flatMap qY:=fun l=>by rw[zv5]
 have dr:Blk w g (m.flatMap (fun x=>qY x.1)++sp) 169:=tD
 have dg:=Tryz.slices_SortFuncP (α:={ x // bd x }) 2 tg169 ts169 (fun x=>qY x.1) j1 (fun x v hv=>zba x.1 v hv) (fun x y=>cf x.1 y.1) dl f #[] g 0 cap m.toArray w hf
  (fun q os dk _ x y=>by
   refine(dt x.1 y.1 _ x.2 y.2).mono ?_;rintro e w' ⟨v,rfl,rfl,hk⟩
   exact⟨rfl,zlM hk⟩)
  (zia (enc:=fun x:{ x // bd x }=>qY x.1) (k:=2) j1 dr) hB.lt tD
 rw[show m.toArray.size=es.length from tO]at dg;refine dg.mono ?_;rintro e w' ⟨rfl,d',q,os,hp,hs,rfl⟩;have dy:d'.size=m.length:=by have:=hp.1;simpa using this
 have hw:=zfn (enc:=fun x:{ x // bd x }=>qY x.1) (k:=2) j1 dr d' dy q os
 have dh:(d'.toList.map Subtype.val).Perm es:=by
  have h1:d'.toList.Perm m:=zga tD
  grind
 refine⟨_,rfl,rfl,d'.toList.map Subtype.val,dh,?_,?_,hw.2.mono Jk⟩
 .
  rw[zvW];refine(ze1 tO hs).imp ?_;intro a b h;exact(db _ _).1 h
 have h3:=hw.1;rw[dc]at h3;have h4:=ja (enc:=qY) (cap:=cap) yE h3 tD (k:=es.length) tD dw dx;rw[zwc tD]at h4;exact h4
def zaY (es s:List (Int × Int)):Prop:=s.Pairwise zb2/\(∀ e,e ∈ s ↔ e ∈ es)/\s.length<=es.length
theorem zfo (n:Int) (es:List (Int × Int)) (ev:Value) (D:Nat->Prop) (w:World) (dr:SlR 2 xu D w ev es) (db:es.length<=1048576) (hb:∀ e ∈ es,bd e):Calls prog 143 #[.int .i64 n,ev] w (Ret fun u w'=>∃ s v,zaY es s/\u=.agg #[.int .i64 n,v]/\SlR 2 xu (fun b=>w.heap.size<=b) w' v s/\Ext w w'):=by
 have dD:ev.oneCell'=true/\ev.cells=#[ev]:=by obtain⟨ao,cap,rfl,_⟩:=dr;exact JL
 refine zqR func143 O ntmps143 O (Gs 2 O (G.mem O O (M.alloc (cs:=_) tz126 O) ?_));rintro _ w1 ⟨b,rfl,dE,dF,dw,dt⟩;refine Gs 5 O (G.call O call175 (zjU es ev D w1 (dr.ext zW dt) db) ?_);rintro v2 w2 ⟨dc,dx,dy⟩;refine Gs 6 O (G.call O call176 (zlN 177 call177 (fun a b=>if a.1 ≠ b.1 then a.1 - b.1 else a.2 - b.2) (fun x y W hx hy=>zht x y W hx hy) (fun x y _ _=>by unfold zb2;split<;>omega) es hb db v2 es.length w2 dc) ?_);rintro _ w3 ⟨rfl,es',da,dg,dh,dz⟩;refine Gs 6 O (G.call O call178 (zg9 es' v2 es.length w3 dh (by rw[da.length_eq];exact db)) ?_);rintro v4 w4 ⟨hY,dA,dB⟩;have dl:Ext w1 w4:=(dy.trans dz (fun q hq h=>tD)).trans dB (fun q hq h=>tD)
 have dG:v4.oneCell'=true/\v4.cells=#[v4]:=by
  rcases hY.2 with⟨rfl,_⟩ | ⟨g,cap,cur,rfl,_⟩<;>exact JL
 obtain⟨a4,l4,c4,rfl⟩:∃ a l c,v4=.slice a l c:=by
  rcases hY.2 with⟨rfl,_⟩ | ⟨g,cap,cur,rfl,_⟩<;>exact⟨_,_,_,rfl⟩
 refine zqG O O (R.build (v:=.agg #[.int .i64 n,.slice a4 l4 c4]) [(0,_),(1,_)] O (fun _=>tK)) (zpT O (zpU ts126 O O O O tY (dl.blk dw (fun h=>h)) tR) ?_);rintro w5 ⟨dH,dC,du⟩;refine Gs 3 O (zpt results143 O (kH tg126 ts126 O dC.cells) ?_);have dm:Ext w w5:=(dt.ext dl).trans du (fun q hq h=>tO);have dI:b<w4.heap.size:=by have:=dl.size;omega
 refine⟨_,rfl,Gr.compactL es',.slice a4 l4 c4,⟨?_,?_,by rw[<- da.length_eq];exact Gr.compactL_len _⟩,rfl,?_,dm⟩
 .
  have h1:=Gr.compactL_strict (le:=fun a b=>¬ zb2 b a) (fun a b h1 h2=>by unfold zb2 at h1 h2;apply Prod.ext<;>omega) dg;refine h1.imp ?_;rintro a b ⟨h2,h3⟩;unfold zb2 at *;by_cases h4:a.1=b.1
  . grind
  omega
 .
  intro e;rw[Gr.compactL_mem]
  grind
 have h5:=zj hY du (fun g hg h=>tD);exact zqb tO qY yE J3 h5 (fun g hg=>tD)
structure Succs (n:Nat) (es:List (Int × Int)) (R:List (List Int)):Prop where
 len:R.length=n
 mem:∀ (a:Nat) r,R[a]?=some r->∀ b,b ∈ r ↔ ((a:Int),b) ∈ es
 sorted:∀ (a:Nat) r,R[a]?=some r->r.Pairwise (·<·)
theorem zcp (n:Nat):madeCells (Value.slice none 0 0).cells (n*1)=(List.replicate n (.slice none 0 0)).toArray:=xj _ n rfl
theorem zlO (n:Nat) (es:List (Int × Int)) (ev:Value) (D:Nat->Prop) (w:World) (dK:SlR 2 xu D w ev es) (dy:es.length<=1048576) (hn:n<=4096) (dL:es.all (Gr.okE n)=true):Calls prog 179 #[.int .i64 n,ev] w (Ret fun u w'=>∃ R,Succs n es R/\SlR 1 (RSl 1 zv) (fun b=>w.heap.size<=b) w' u R/\Ext w w'):=by
 have dF:∀ e ∈ es,0<=e.1/\e.1<n/\0<=e.2/\e.2<n:=by
  intro e he;have:=zuB.1 dL e he;simp[Gr.okE]at this;omega
 refine zqR func179 O ntmps179 O (Gs 8 O (G.mem O O (zpV tu89 Tryz.el27 O O tO tO (zcp n)) ?_));rintro _ w1 ⟨bo,rfl,eb,ec,dM,dw⟩;refine Gs 8 O (G.call O call143 (zfo n es ev D w1 (dK.ext zW dw) dy (fun e he=>by have:=dF e he;unfold bd;omega)) ?_);rintro _ w2 ⟨s,v,⟨dN,dG,dO⟩,rfl,dQ,dx⟩;obtain⟨ao,cap,rfl,ed,ee,dR⟩:=dQ;refine zqG O O (R.field runUnderlying126 O isAgg124 O O) (Gs 5 O ?_)
 have dS:Mat (Value.int .i64) 3 27 w2.heap.size w2 bo (List.replicate n (.slice none 0 0)) (Gr.rowsOf n []):=by
  rw[Gr.rowsOf_nil];exact(Mat.start dM).ext dx
 refine G.loop (σ:=Nat × List Value) (fun⟨k,rv⟩=>[(5,.slice (some ⟨bo,0,none⟩) n n),(13,.slice ao s.length cap),(14,.int .i64 s.length),(15,.int .i64 k)]) (fun⟨k,rv⟩=>fun w'=>k<=s.length/\Mat (Value.int .i64) 3 27 w2.heap.size w' bo rv (Gr.rowsOf n (s.take k))/\(∀ b,w1.heap.size<=b->b<w2.heap.size->w'.heap[b]?=w2.heap[b]?)/\Ext w w'/\w2.heap.size<=w'.heap.size) (fun⟨k,rv⟩=>s.length - k) (0,List.replicate n (.slice none 0 0)) j2 ⟨ztC _,dS,fun _ _ _=>rfl,dw.ext dx,ztM _⟩ ?_;rintro⟨k,rv⟩ w3 ⟨ef,hM,dh,dH,dT⟩;refine Gs 6 O (zqE O (fun dI=>?_) (fun eh=>?_))
 .
  refine Gs 6 O ?_;obtain⟨e,he⟩:∃ e,s[k]?=some e:=iA;obtain⟨be,oe,ce,dU,dV,ei,dW,rfl⟩:=dR k e he;have ej:=dF e ((dG e).1 (zto he));obtain⟨a,ha⟩:∃ a:Nat,e.1=(a:Int):=⟨e.1.toNat,tO⟩;have dX:s[k]?=some ((a:Int),e.2):=tD;refine zqG O O (zpH tR124 ts169 O O dU tO) (zqM O tg169 ts169 (dW.same (fun dI=>dh be dV dI)) O (G.mem O O (M.alloc (cs:=_) tz169 O) ?_));rintro _ w4 ⟨b4,rfl,ek,em,dY,dZ⟩;refine zpT O (zpU ts169 O O O O (zba e) dY tR) ?_;rintro w5 ⟨er,d5,d6⟩;have dl:Ext w3 w5:=dZ.trans d6 (fun q hq h=>tO);have dJ:=hM.ext dl;have hm:=Mat.at (i:=a) dJ (by rw[Gr.rowsOf_len];omega);obtain⟨v,r,hv,hr⟩:=hm;refine Gs 2 O (Dw (fun w'=>Blk w' b4 (qY e) 169/\Blk w' bo rv 27) [13] (fun w6 dz ew=>?_));have dc:=dz.blk d5 (fun h=>h);have dg:=dJ.ext dz;refine Ds [0] tK O (zq6 1 O tK O O O (fun w1=>zpI tR169 ts3 O O tO) (WD.take 2 O tK O O O ⟨dc,dg.out⟩ (fun w1 da=>R.load tg3 O (da.1.cells 0 _ O)) (Ds [3] tK O (zq6 4 O tK O O O (fun w1=>zpI tR169 ts3 O O tO) (WD.take 5 O tK O O O ⟨dc,dg.out⟩ (fun w1 da=>R.load tg3 O (da.1.cells 0 _ O)) (Da [6] tK O tO (WD.take 7 O tK O O O ⟨dc,dg.out⟩ (fun w1 da=>R.load tg27 O (da.2.cells.el1 a ha hv)) ?_)))))));refine zq6 8 O tK O O O (fun w1=>zpI tR169 ts3 O O tO) (WD.take 9 O tK O O O ⟨dc,dg.out⟩ (fun w1 da=>R.load tg3 O (da.1.cells 1 _ O)) (WD.mem 10 O tK O O O (M.buildSlice (cs:=[.int .i64 e.2]) [(0,_)] tR27 ts3 tz3 tS O tK) ?_));rintro _ w7 ⟨b7,rfl,ez,eA,d7,dm⟩;refine⟨fun _=>⟨dm.blk dc (fun h=>h),dm.blk dg.out (fun h=>h)⟩,?_⟩;have dr:=dg.ext dm;have dA:=dr.row a v r hv hr
  have eC:r.length<=1048576:=by
   have h1:r.length<=s.length:=by
    rw[Gr.rowsOf_at tO]at hr
    grind
   omega
  refine WD.mem 11 O tK O O O (M.append tu27 Tryz.el3 O tS O O dA O (Cells.add d7.cells) (by simp;rfl) tO tO) ?_;rintro v' w8 ⟨hY,dB,dt,_⟩;obtain⟨av,cv,rfl⟩:=zI hY;have du:v.ownBlock ≠ some bo:=fun h=>(dr.far a v bo hv h).2 rfl;have dC:v.ownBlock ≠ some b4:=fun h=>by have:=hM.blk hv h;omega
  refine⟨fun _=>⟨dt.blk (dm.blk dc (fun h=>h)) dC,dt.blk dr.out du⟩,?_⟩;refine Da [12] tK O tO (zpS 13 O tK O O (M.store ts27 O O O O (dt.blk dr.out du) tD) ?_);rintro w9 dD;refine⟨fun h=>absurd (ztF.2 O) h,?_⟩;rw[show 0+e.1.toNat*1=a from tO]at dD;have dE:Keep (fun q=>v.ownBlock=some q\/q=bo) w7 w9:=(dt.mono (fun _ _ h=>.inl h)).trans dD.2.2 (fun _ _ h=>.inr h);have db:Keep (fun q=>v.ownBlock=some q\/q=bo) w3 w9:=((dl.ext (dz.ext dm)).mono (fun _ _ h=>h.elim)).trans dE (fun _ _ h=>h);refine G.done tK ?_ _;refine Ga 6 O tO (G.back (k+1,rv.set a (.slice av (r.length+1) cv)) j2 ⟨tO,?_,?_,?_,?_⟩ tD)
  .
   show Mat _ _ _ _ _ _ _ (Gr.rowsOf n (s.take (k+1)));rw[Gr.rowsOf_take dX hr];exact dr.push tD hv hr hY dB dt dD
  .
   intro q d8 d9;rw[db.block q tO (fun h=>by rcases h with h | h<;>first | omega | (have:=hM.far a v q hv h;omega))];exact dh q d8 d9
  . exact dH.trans db (fun q hq h=>by have:=dw.size;rcases h with h | h<;>first | omega | (have:=(hM.far a v q hv h).1;have:=dx.size;omega))
  have:=db.size;omega
 refine Gs 12 O (zpk results179 O ⟨_,rfl,Gr.rowsOf n s,⟨Gr.rowsOf_len n s,?_,?_⟩,?_,dH⟩)
 .
  intro a r hr b;rw[Gr.rowsOf_mem hr,dG]
 .
  intro a r hr;exact Gr.rowsOf_sorted hr dN
 have:k=s.length:=tO;subst this;rw[zts]at hM;exact hM.sl j1 tO (fun i v g hv hg=>by have:=(hM.far i v g hv hg).1;have:=dw.size;have:=dx.size;omega) (by rw[Gr.rowsOf_len]) (by rw[Gr.rowsOf_len];omega) tO
theorem ze2 (n:Int) (es:List (Int × Int)) (ev:Value) (D:Nat->Prop) (w:World) (db:SlR 2 xu D w ev es):Calls prog 144 #[.agg #[.int .i64 n,ev]] w (Ret fun v w'=>∃ u,v=.tuple #[u,.int .i64 (Gr.check n es)]/\(Gr.check n es ≠ 0->u=.slice none 0 0)/\(Gr.check n es=0->∃ R,Succs n.toNat es R/\SlR 1 (RSl 1 zv) (fun b=>w.heap.size<=b) w' u R)/\Ext w w'):=by
 have dc:=db;obtain⟨ao,cap,rfl,_⟩:=dc;refine zqQ func144 O ntmps144 O (Gs 2 O (G.mem O O (M.box O O) ?_));rintro _ w1 ⟨b,rfl,hb,dr,dg,hY⟩;refine Gs 7 O (zqM O tg126 ts126 dg.cells O (G.call O call142 (zgz n es _ D w1 (db.ext zW hY)) ?_));rintro _ w2 ⟨rfl,da⟩;have dh:=da.blk dg (fun h=>h);refine Gs 9 O (zqE O (fun hc=>?_) (fun hc=>?_))
 . refine Gs 9 O (zpn results144 O O ⟨_,rfl,_,rfl,fun _=>rfl,fun h=>absurd h hc,hY.ext da⟩)
 have dl:Gr.check n es=0:=by simpa using hc
 obtain⟨h1,h2,h3,h4⟩:=Gr.check_zero dl;obtain⟨m,rfl⟩:=zul h1;refine Gs 5 O (zqK O tg3 (dh.cells 0 _ O) (Gs 1 O (zqK O isAgg124 (dh.cells 1 _ O) (G.call O call179 (zlO m es _ D w2 ((db.ext zW hY).ext zW da) h3 tO h4) ?_))));rintro u w3 ⟨Rw,hR,hu,dm⟩;refine Gs 5 O ?_;rw[dl];refine zpn results144 O O ⟨_,rfl,u,rfl,fun h=>absurd O h,fun _=>⟨Rw,hR,hu.wide (zP zc) (fun b h=>by have:=hY.size;have:=da.size;omega)⟩,(hY.ext da).ext dm⟩
end Go.Proofs.YtckdhgbepmpgiaaGreat
namespace Go.GL.Dom
def lk (l:List Int) (i:Nat):Int:=l[i]?.getD (-1)
theorem xS {x:Int} (h:l[i]?=some x):lk l i=x:=by simp[lk,h]
theorem ku (h:0<=lk l i):l[i]?=some (lk l i):=by
 unfold lk at *
 grind
theorem yH {x:Int} (h:i<l.length):lk (l.set i x) i=x:=by simp[lk,h]
theorem yK {x:Int} (h:i ≠ j):lk (l.set i x) j=lk l j:=by simp[lk,zvj h]
structure Chain (pl T:List Int) (root:Nat):Prop where
 rootT:lk T root=root
 rootP:lk pl root=0
 inj:∀ a b:Nat,0<=lk pl a->lk pl a=lk pl b->a=b
 proc:∀ b:Nat,0<=lk T b->0<=lk pl b
 par:∀ b:Nat,0<=lk T b->b ≠ root->∃ p:Nat,lk T b=p/\lk pl p<lk pl b/\0<=lk T p
inductive Anc (T:List Int) (root:Nat):Nat->Nat->Prop
 | refl (b:Nat):Anc T root b b
 | up {x b p:Nat}:b ≠ root->lk T b=(p:Int)->Anc T root x p->Anc T root x b
section
theorem Anc.place (hc:Chain pl T root) (h:Anc T root x b) (hb:0<=lk T b):lk pl x<=lk pl b/\0<=lk T x:=by
 induction h with
 | refl=>exact⟨zuo _,hb⟩
 | up hne hp _ ih =>
  obtain⟨p',h1,h2,h3⟩:=hc.par _ hb hne;rw[hp]at h1;have:(p':Int)=_:=h1.symm;have e:=Int.ofNat.inj this;subst e;obtain⟨h4,h5⟩:=ih h3;exact⟨tO,h5⟩
theorem Anc.trans (h:Anc T root x y) (h':Anc T root y b):Anc T root x b:=by
 induction h' with
 | refl=>exact h
 | up h1 h2 _ ih=>exact .up h1 h2 ih
theorem Anc.of_root (h:Anc T root x root):x=root:=by
 cases h with
 | refl=>rfl
 | up h1 _ _=>exact absurd rfl h1
theorem Anc.parent (h:Anc T root x b) (hY:x ≠ b) (hp:lk T b=(p:Int)):Anc T root x p:=by
 cases h with
 | refl=>exact absurd rfl hY
 | up h1 h2 h3 =>
  rw[hp]at h2;have e:=Int.ofNat.inj h2;subst e;exact h3
structure zik (T:List Int) (root a b m:Nat):Prop where
 l:Anc T root m a
 r:Anc T root m b
 top:∀ x,Anc T root x a->Anc T root x b->Anc T root x m
structure MeetInv (T:List Int) (root a0 b0 a b:Nat):Prop where
 l:Anc T root a a0
 r:Anc T root b b0
 top:∀ x,Anc T root x a0->Anc T root x b0->Anc T root x a/\Anc T root x b
theorem MeetInv.start (a b:Nat):MeetInv T root a b a b:=⟨.refl _,.refl _,fun _ h1 h2=>⟨h1,h2⟩⟩
theorem MeetInv.done (h:MeetInv T root a0 b0 a a):zik T root a0 b0 a:=⟨h.l,h.r,fun x h1 h2=>(h.top x h1 h2).1⟩
theorem MeetInv.left (hc:Chain pl T root) (h:MeetInv T root a0 b0 a b) (ha:0<=lk T a) (hb:0<=lk T b) (hY:lk pl b<lk pl a) (hp:lk T a=(p:Int)):MeetInv T root a0 b0 p b:=by
 have da:a ≠ root:=by
  rintro rfl;have:=hc.proc b hb;rw[hc.rootP]at hY;omega
 refine⟨Anc.trans (.up da hp (.refl _)) h.l,h.r,fun x h1 h2=>?_⟩;obtain⟨h3,h4⟩:=h.top x h1 h2;refine⟨h3.parent ?_ hp,h4⟩;rintro rfl;have:=(h4.place hc hb).1;omega
theorem MeetInv.right (hc:Chain pl T root) (h:MeetInv T root a0 b0 a b) (ha:0<=lk T a) (hb:0<=lk T b) (hY:a ≠ b) (da:¬ lk pl b<lk pl a) (hp:lk T b=(p:Int)):MeetInv T root a0 b0 a p:=by
 have db:lk pl a<lk pl b:=by
  rcases Int.lt_or_eq_of_le (Int.not_lt.1 da) with h | h
  . exact h
  exact absurd (hc.inj a b (hc.proc a ha) h) hY
 have dc:b ≠ root:=by
  rintro rfl;have:=hc.proc a ha;rw[hc.rootP]at db;omega
 refine⟨h.l,Anc.trans (.up dc hp (.refl _)) h.r,fun x h1 h2=>?_⟩;obtain⟨h3,h4⟩:=h.top x h1 h2;refine⟨h3,h4.parent ?_ hp⟩;rintro rfl;have:=(h3.place hc ha).1;omega
end
end Go.GL.Dom
namespace Go.Proofs.YtckdhgbepmpgiaaGreat
open Go.GL Go.GL.Dom
theorem qU {f:α->β} {l:List α} {x:α} (h:l[i]?=some x):(l.map f)[i]?=some (f x):=tD
theorem znl {n:Nat} (w:World) (hc:Chain pl T root) (hW:Blk w bw [nv,bv,ov,.slice (some ⟨bp,0,none⟩) n n,.slice (some ⟨bt,0,none⟩) n n] 175) (hP:Blk w bp (pl.map (.int .i64)) 3) (hT:Blk w bt (T.map (.int .i64)) 3)
  (dm:pl.length=n) (dF:T.length=n) (a b:Nat) (ha:0<=lk T a) (hb:0<=lk T b) :
  Calls prog 181 #[.pointer (some ⟨bw,0,none⟩),.int .i64 a,.int .i64 b] w (Ret fun v w'=>∃ m:Nat,v=.int .i64 m/\zik T root a b m/\0<=lk T m/\Ext w w'):=by
 refine zqS func181 O ntmps181 O (Gs 7 O (G.loop (σ:=Nat × Nat) (fun⟨x,y⟩=>[(0,.pointer (some ⟨bw,0,none⟩)),(1,.int .i64 x),(2,.int .i64 y)]) (fun⟨x,y⟩=>fun w'=>MeetInv T root a b x y/\0<=lk T x/\0<=lk T y/\Ext w w') (fun⟨x,y⟩=>(lk pl x+lk pl y).toNat) (a,b) j2 ⟨.start a b,ha,hb,Keep.refl _ _⟩ ?_));rintro⟨x,y⟩ w1 ⟨hI,hx,hy,da⟩;have dh:=da.blk hW (fun h=>h);have dr:=da.blk hP (fun h=>h);have dz:=da.blk hT (fun h=>h);have dl:=hc.proc x hx;have dt:=hc.proc y hy;have dG:x<n:=by rw[<- dm];exact(ztB.1 (ku dl)).1
 have dH:y<n:=by rw[<- dm];exact(ztB.1 (ku dt)).1
 refine Gs 8 O (zqE O (fun dI=>?_) (fun dJ=>?_))
 .
  refine Gs 4 O (Qt tK (Gs 3 O (zqL O tg27 (fun w1 hY=>(hY.cell (dh.cells 3 _ O) (fun h=>h))) (Ga 2 O tO (zqL O tg3 (fun w1 hY=>(hY.cell (dr.cells.el1 x O (qU (ku dl))) (fun h=>h))) (Gs 3 O (zqL O tg27 (fun w1 hY=>(hY.cell (dh.cells 3 _ O) (fun h=>h))) (Ga 2 O tO (zqL O tg3 (fun w1 hY=>(hY.cell (dr.cells.el1 y O (qU (ku dt))) (fun h=>h))) (Gs 1 O (zqN (fun w2 dg=>?_))))))))))));have du:=dg.blk dh (fun h=>h);have dw:=dg.blk dz (fun h=>h);have dx:x ≠ y:=tO;refine Gs 1 O (zqE O (fun dy=>?_) (fun dA=>?_))
  .
   have dB:x ≠ root:=by rintro rfl;rw[hc.rootP]at dy;omega
   obtain⟨p,db,dC,dc⟩:=hc.par x hx dB;have hp:T[x]?=some (p:Int):=by rw[<- db];exact ku hx
   have dD:=hc.proc p dc;refine Gs 4 O (zqK O tg27 (du.cells 4 _ O) (Ga 2 O tO (zqK O tg3 (dw.cells.el1 x O (qU hp)) (Gs 3 O (G.back (p,y) j2 ⟨hI.left hc hx hy dy db,dc,hy,da.ext dg⟩ tD)))))
  have dK:lk pl x ≠ lk pl y:=fun h=>dx (hc.inj x y dl h);have dE:y ≠ root:=by rintro rfl;rw[hc.rootP]at *;omega
  obtain⟨p,db,dC,dc⟩:=hc.par y hy dE;have hp:T[y]?=some (p:Int):=by rw[<- db];exact ku hy
  have dD:=hc.proc p dc;refine Gs 4 O (zqK O tg27 (du.cells 4 _ O) (Ga 2 O tO (zqK O tg3 (dw.cells.el1 y O (qU hp)) (Gs 3 O (G.back (x,p) j2 ⟨hI.right hc hx hy dx dA db,hx,dc,da.ext dg⟩ tD)))))
 refine Gs 12 O ?_;have e:x=y:=tO;subst e;refine zpk results181 O ⟨_,rfl,x,rfl,hI.done,hx,da⟩
theorem zjV (f:α->β) (l:List α) (sp:List β) (i:Nat) (x:α) (h:i<l.length):(l.map f++sp).set i (f x)=(l.set i x).map f++sp:=by
 rw[zw3 _ _ tD,zvB]
structure RevInv (l L:List Int) (i j:Nat):Prop where
 len:L.length=l.length
 sum:i+j+1=l.length
 at':∀ k:Nat,k<l.length->L[k]?=if k<i\/j<k then l.reverse[k]? else l[k]?
theorem RevInv.step {x y:Int} (h:RevInv l L i j) (dg:i<j) (hx:L[i]?=some x) (hy:L[j]?=some y):RevInv l ((L.set i y).set j x) (i+1) (j - 1):=by
 have hs:=h.sum
 have db:l[i]?=some x:=by
  have:=h.at' i tO
  grind
 have dc:l[j]?=some y:=by
  have:=h.at' j tO
  grind
 refine⟨by simp[h.len],tO,?_⟩;intro k hk;by_cases hY:j=k
 .
  subst hY;rw[zvk tD,zty tO,zvh tO];rw[show l.length - 1 - j=i from tO,db]
 rw[zvj hY];by_cases da:i=k
 .
  subst da;rw[zvk tD,zty tO,zvh tO];rw[show l.length - 1 - i=j from tO,dc]
 rw[zvj da,h.at' k hk];by_cases h1:k<i\/j<k
 . grind
 grind
theorem RevInv.done (h:RevInv l L i j) (hY:j<=i):L=l.reverse:=by
 have hs:=h.sum;apply zuW;intro k;by_cases hk:k<l.length
 .
  rw[h.at' k hk];by_cases h1:k<i\/j<k
  . grind
  rw[ztx h1,zvh hk,show l.length - 1 - k=k from tO]
 rw[ztL (by rw[h.len];omega),ztL tD]
theorem zgb (l:List Int) (v:Value) (n:Nat) (w:World) (hY:w.ownsRow 0 3 1 v n (l.map (.int .i64))) (dm:l.length<=1048576):Calls prog 180 #[v] w (Ret fun u w'=>u=.tuple #[]/\w'.ownsRow 0 3 1 v n (l.reverse.map (.int .i64))/\Keep (fun q=>v.ownBlock=some q) w w'):=by
 have hn:=zgq hY;subst hn;by_cases h0:l=[]
 .
  subst h0;obtain⟨ao,c,rfl⟩:=zI hY;refine zqQ func180 O ntmps180 O (Ga 10 O tO (G.loop (σ:=Unit) (fun _u=>[(0,.slice ao 0 c),(2,.int .i64 0),(3,.int .i64 (-1))]) (fun _u=>fun w'=>w'=w) (fun _u=>0) () j2 rfl ?_));rintro _u w1 rfl;refine Gs 8 O (zqE O (fun h=>?_) (fun h=>?_))
  . omega
  refine Gs 4 O (zpz results180 ⟨_,rfl,rfl,hY,Keep.refl _ _⟩)
 obtain⟨g,cap,sp,rfl,_,dC,dr,hB,dD⟩:=jD hY h0;have dt:0<l.length:=List.length_pos_iff.2 h0;refine zqQ func180 O ntmps180 O (Ga 10 O tO (G.loop (σ:=Nat × Int × List Int) (fun⟨i,j,L⟩=>[(0,.slice (some ⟨g,0,none⟩) l.length cap),(2,.int .i64 i),(3,.int .i64 j)]) (fun⟨i,j,L⟩=>fun w'=>(∃ jn:Nat,j=(jn:Int)/\RevInv l L i jn\/j=(jn:Int) - 1/\L=l.reverse/\jn<=i)/\L.length=l.length/\i<=l.length/\Blk w' g (L.map (.int .i64)++sp) 3/\Keep (fun q=>q=g) w w') (fun⟨i,j,L⟩=>(j - i+2).toNat) (0,(l.length:Int) - 1,l) j2 ⟨⟨l.length - 1,.inl ⟨tO,rfl,tO,fun k hk=>tD⟩⟩,rfl,tO,hB,Keep.refl _ _⟩ ?_));rintro⟨i,j,L⟩ w1 ⟨⟨jn,hj⟩,hL,dE,dc,dg⟩;refine Gs 8 O (zqE O (fun dF=>?_) (fun dG=>?_))
 .
  rcases hj with⟨rfl,hI⟩ | ⟨rfl,_,dH⟩
  .
   have hs:=hI.sum;obtain⟨x,hx⟩:∃ x,L[i]?=some x:=iA;obtain⟨y,hy⟩:∃ y,L[jn]?=some y:=iA;have du:(L.map (Value.int .i64)++sp)[i]?=some (.int .i64 x):=by rw[ztN tD];exact qU hx
   have dw:(L.map (Value.int .i64)++sp)[jn]?=some (.int .i64 y):=by rw[ztN tD];exact qU hy
   refine Gs 4 O (Dw (fun w'=>Blk w' g (L.map (.int .i64)++sp) 3) [12,13,14,15] (fun w2 dh dI=>?_));have da:=dh.blk dc (fun h=>h);refine Da [0,1,2,3,4,5,6] tK O tO (WD.take 7 O tK O O O da (fun w1 db=>R.load tg3 O (db.cells.el1 jn O dw)) (Da [8,9,10] tK O tO (WD.take 11 O tK O O O da (fun w1 db=>R.load tg3 O (db.cells.el1 i O du)) (Da [12] tK O tO (zpS 13 O tK O O (M.store ts3 O O O O da tD) ?_)))));rintro w3 ⟨dJ,dx,dy⟩;refine⟨fun h=>absurd tS h,?_⟩;refine Da [14] tK O tO (zpS 15 O tK O O (M.store ts3 O O O O dx tD) ?_);rintro w4 ⟨dK,dl,dz⟩;refine⟨fun h=>absurd tS h,?_⟩;rw[show 0+(i:Int).toNat*1=i from tO,show 0+(jn:Int).toNat*1=jn from tO,zjV _ _ _ _ _ tO,zjV _ _ _ _ _ tD]at dl;refine G.done tK ?_ _;refine Ga 10 O tO (G.back (i+1,(jn:Int) - 1,(L.set i y).set jn x) j2 ⟨?_,tD,tO,dl,((dg.ext dh).trans dy (fun _ _ h=>h)).trans dz (fun _ _ h=>h)⟩ tD);have dA:=hI.step tO hx hy;exact⟨jn - 1,.inl ⟨tO,dA⟩⟩
  omega
 have dB:L=l.reverse:=by
  rcases hj with⟨rfl,hI⟩ | ⟨_,h,_⟩
  . exact hI.done tO
  exact h
 refine Gs 4 O (zpz results180 ⟨_,rfl,rfl,?_,dg.mono Jk⟩);have:=zbp dc (cap:=cap) tD dr;rw[hL,dB]at this;exact this
open Go.GL Go.GL.Dom Go.GL.Dfs
def zij (f:Nat × Nat):List Value:=[.int .i64 f.1,.int .i64 f.2]
theorem jw (f:Nat × Nat):(zij f).length=2:=rfl
theorem zlP (f:Nat × Nat):∀ u ∈ zij f,u.oneCell'=true:=by simp[zij,Value.oneCell']
def qL (x:Nat):Value:=.int .i64 x
theorem zfp (l:List (Nat × Nat)):(l.flatMap zij).length=l.length*2:=zQ jw l
theorem zgc (l:List Bool) (i:Nat):(l.map Value.bool).set i (.bool true)=(l.set i true).map Value.bool:=by rw[zvB]
structure SearchI (Rw:List (List Int)) (root n bw bs:Nat) (nv bv pv tv:Value) (w:World) (seen:List Bool) (st:List (Nat × Nat)) (out:List Nat) (vs vo:Value) (w':World):Prop where
 inv:Dfs.Inv Rw root seen st out
 hs:Blk w' bs (seen.map .bool) 4
 stk:w'.ownsRow 0 240 2 vs st.length (st.flatMap zij)
 lst:w'.ownsRow 0 3 1 vo out.length (out.map qL)
 hw:Blk w' bw [nv,bv,vo,pv,tv] 175
 fs:∀ g,vs.ownBlock=some g->w.heap.size<=g/\g ≠ bs
 fo:∀ g,vo.ownBlock=some g->w.heap.size<=g/\g ≠ bs
 apart:∀ g,vs.ownBlock=some g->vo.ownBlock ≠ some g
 keep:Keep (fun b=>b=bw) w w'
theorem zjW (Rw:List (List Int)) (root n bw bp:Nat) (nv bv tv:Value) (D:Nat->Prop) (w:World) (hR:Dfs.Rows Rw) (hn:Rw.length=n) (f8:n<=4096) (hroot:root<n) (dV:∀ (a:Nat) r,Rw[a]?=some r->r.Pairwise (·<·))
  (hnv:SlR 1 (RSl 1 zv) D w nv Rw) (hD:∀ b,D b->b ≠ bw/\b ≠ bp) (ew:bw ≠ bp) (hW:Blk w bw [nv,bv,.slice none 0 0,.slice (some ⟨bp,0,none⟩) n n,tv] 175) (hP:Blk w bp (List.replicate n (.int .i64 (-1))) 3) :
  Calls prog 146 #[.pointer (some ⟨bw,0,none⟩),.int .i64 root] w (Ret fun u w'=>u=.tuple #[]/\∃ (order:List Nat) (pl:List Int) (ov:Value),Dfs.Order Rw root order/\Dfs.Place n order pl/\Blk w' bw [nv,bv,ov,.slice (some ⟨bp,0,none⟩) n n,tv] 175/\w'.ownsRow 0 3 1 ov order.length (order.map qL)/\(∀ g,ov.ownBlock=some g->w.heap.size<=g)/\Blk w' bp (pl.map (.int .i64)) 3/\Keep (fun b=>b=bw\/b=bp) w w'):=by
 have ez:∀ (a:Nat) r,Rw[a]?=some r->r.length<=n:=by
  intro a r hr
  have h1:=nodup_le n (r.map Int.toNat) (by
   rw[List.Nodup,zvW];refine(dV a r hr).imp_of_mem ?_;intro x y hx hy f9;obtain⟨b,rfl,_⟩:=hR.ok a r hr x hx;obtain⟨c,rfl,_⟩:=hR.ok a r hr y hy;omega) (by
   intro x hx;obtain⟨y,hy,rfl⟩:=zvI.1 hx;obtain⟨b,rfl,hb⟩:=hR.ok a r hr y hy
   omega)
  simpa using h1
 obtain⟨na,nc,rfl,gc,gf,eA⟩:=hnv;have gh:=hW.lt;have fq:=hP.lt;refine zqR func146 O ntmps146 O (Gs 5 O (zqK O tg89 (hW.cells 0 _ O) (Gs 1 O (G.mem O O (zpV tu52 Tryz.el4 O O tO tO (xj _ Rw.length O)) ?_))));rintro _ w1 ⟨bs,rfl,gl,gq,ft,fu⟩;refine Ga 8 O tO (zpT O (M.store ts4 O O O O ft tD) ?_);rintro w2 ⟨gr,eW,fw⟩;rw[show 0+(root:Int).toNat*1=root from tO]at eW;refine Gs 5 O (zqG O O (R.build (v:=.agg #[.int .i64 root,.int .i64 0]) [(0,_),(1,_)] O (fun _=>tK)) (G.mem O O (M.buildSlice (cs:=zij (root,0)) [(0,_)] tR241 ts240 zeroValue240 tS O tK) ?_));rintro _ w3 ⟨b3,rfl,gs,gt,fy,eC⟩;refine Gs 5 O ?_;have dW:Ext w w2:=fu.trans fw (fun q hq h=>tO)
 have dC:SearchI Rw root n bw bs (.slice na Rw.length nc) bv (.slice (some ⟨bp,0,none⟩) n n) tv w ((List.replicate Rw.length false).set root true) [(root,0)] [] (.slice (some ⟨b3,0,none⟩) 1 1) (.slice none 0 0) w3:=by
  refine⟨Dfs.Inv.start tO,?_,?_,qq _ _ _,(dW.ext eC).blk hW (fun h=>h),?_,?_,?_,(dW.ext eC).mono (fun _ _ h=>h.elim)⟩
  .
   have:=eC.blk eW (fun h=>h);rw[zvB,zvA];omega
  .
   have:=zG (k:=2) (n:=1) (cap:=1) fy tO tO rfl;exact this
  .
   intro g hg;simp[Value.ownBlock]at hg;omega
  . intro g hg;simp[Value.ownBlock]at hg
  intro g _ h;simp[Value.ownBlock]at h
 refine G.loop (σ:=List Bool × List (Nat × Nat) × List Nat × Value × Value) (fun⟨seen,st,out,vs,vo⟩=>[(0,.pointer (some ⟨bw,0,none⟩)),(4,.slice (some ⟨bs,0,none⟩) Rw.length Rw.length),(5,vs)]) (fun⟨seen,st,out,vs,vo⟩=>fun w'=>SearchI Rw root n bw bs (.slice na Rw.length nc) bv (.slice (some ⟨bp,0,none⟩) n n) tv w seen st out vs vo w') (fun⟨seen,st,out,vs,vo⟩=>zoI Rw seen+zot Rw st) ((List.replicate Rw.length false).set root true,[(root,0)],[],.slice (some ⟨b3,0,none⟩) 1 1,.slice none 0 0) j2 (dC) ?_;rintro⟨seen,st,out,vs,vo⟩ w4 hI;obtain⟨da,eD,dX,dl,dR,fA,dm,eX,dz⟩:=hI;have fB:=da.nodup
 have dD:∀ x ∈ st.map Prod.fst++out,x<n:=by
  intro x hx;have:=(da.mark x).2 (ztG.1 hx);have h2:=(ztB.1 this).1;rw[da.len,hn]at h2;exact h2
 have dE:=nodup_le n _ fB dD;rw[ztv,ztH]at dE;have fC:=dz.size;obtain⟨av,cv,dY⟩:=zI dX;rw[dY];refine Gs 8 O (zqE O (fun gw=>?_) (fun fD=>?_))
 .
  obtain⟨st',x,e,rfl⟩:∃ st' x e,st=st'++[(x,e)]:=by
   rcases zuU st with rfl | ⟨s,⟨x,e⟩,rfl⟩
   . grind
   grind
  have eE:st'++[(x,e)] ≠ []:=tR;obtain⟨g,cap,sp,dZ,fE,eF,d5,dF,ek⟩:=qC jw tO dX eE;rw[dY]at dZ;cases dZ;have fF:(st'++[(x,e)]).length=st'.length+1:=tR;have eG:=fA g (by rw[dY];rfl);have fG:=dF.lt;have fH:=eD.lt;have d6:(st'++[(x,e)])[st'.length]?=some (x,e):=tR;have eH:Cells w4 g (0+st'.length*2) (zij (x,e)):=yU jw dF d6;obtain⟨r,hr,gx,eY⟩:=da.part x e tR;have eZ:x<n:=dD x tR;have gy:=ez x r hr;obtain⟨bo,oo,cs,d7,eI,fI,fJ,fK⟩:=eA x r hr;obtain⟨rv,rfl,ra,rc,rfl,fL,fM,eJ⟩:=fK;have fb:∀ b,D b->¬ b=bw:=fun b hb=>(hD b hb).1;have d8:=dz.cells fJ (fb bo eI);rw[fF];refine Ga 10 O tO ?_;rw[show 0+((((st'.length+1:Nat):Int) - 1).toNat)*2=0+st'.length*2 from tO];refine Gs 5 O (Qt tK (Gs 3 O (zqL O tg3 (fun w1 hY=>(hY.cell (eH 1 _ O) (fun h=>h))) (Gs 3 O (zqL O tg89 (fun w1 hY=>(hY.cell (dR.cells 0 _ O) (fun h=>h))) (Gs 3 O (zqL O tg3 (fun w1 hY=>(hY.cell (eH 0 _ O) (fun h=>h))) (zqJ O O (fun w1 hY=>zpH tR89 ts27 O O d7 tO) (zqL O tg27 (fun w1 hY=>(hY.cell (d8.el1 (cs:=[_]) 0 O O) (fun h=>h))) (Gs 2 O (zqN (fun w5 dG=>?_))))))))))));refine Gs 1 O ?_;have eK:=dG.blk dF (fun h=>h);have dc:=dG.blk dR (fun h=>h);have dw:=dG.cells eH (fun h=>h);refine zqE O (fun fN=>?_) (fun eL=>?_)
  .
   have he:e=r.length:=by have:=fN;simp at this;omega
   have d9:=da.pop hr he;refine Gs 1 O (Dw (fun w'=>Blk w' bw [.slice na Rw.length nc,bv,vo,.slice (some ⟨bp,0,none⟩) n n,tv] 175/\Cells w' g (0+st'.length*2) (zij (x,e))) [13] (fun w6 dH gz=>?_));have dx:=dH.blk dc (fun h=>h);have dg:=dH.cells dw (fun h=>h);refine Ds [0,1,2,3] tK O (WD.take 4 O tK O O O ⟨dx,dg⟩ (fun w1 hY=>R.load tg27 O (hY.1.cells 2 _ O)) (Ds [5,6,7] tK O (WD.take 8 O tK O O O ⟨dx,dg⟩ (fun w1 hY=>R.load tg3 O (hY.2 0 _ O)) (WD.mem 9 O tK O O O (M.buildSlice (cs:=[.int .i64 x]) [(0,_)] tR27 ts3 tz3 tS O tK) ?_))));rintro _ w7 ⟨b7,rfl,gA,fe,dI,dy⟩;refine⟨fun _=>⟨dy.blk dx (fun h=>h),dy.cells dg (fun h=>h)⟩,?_⟩;have dJ:=dG.ext (dH.ext dy);have fO:=dJ.size;have eb:=zj dl dJ (fun _ _ h=>h);refine WD.mem 10 O tK O O O (M.append tu27 Tryz.el3 O tS O O eb O (Cells.add dI.cells) (by simp;rfl) tO tO) ?_;rintro vo' w8 ⟨dA,dK,dS,_⟩;obtain⟨a8,c8,rfl⟩:=zI dA;have eM:vo.ownBlock ≠ some bw:=fun h=>tD;have dB:vo.ownBlock ≠ some g:=eX g (by rw[dY];rfl);have ec:=dS.blk (dy.blk dx (fun h=>h)) eM;refine⟨fun _=>⟨ec,dS.cells (dy.cells dg (fun h=>h)) dB⟩,?_⟩;refine Ds [11,12] tK O (zpS 13 O tK O O (M.store ts27 O O O O ec tR) ?_);rintro w9 ⟨fP,eN,dT⟩;refine⟨fun h=>absurd (ztF.2 O) h,?_⟩;refine G.done tK ?_ _;refine Ga 7 O tO (zqG O O (zqc tR241 ts240 O O tO) (Gs 6 O ?_));have dh:Keep (fun q=>vo.ownBlock=some q\/q=bw) w4 w9:=((dJ.mono (fun _ _ h=>h.elim)).trans (dS.mono (fun _ _ h=>.inl h)) (fun _ _ h=>h)).trans dT (fun _ _ h=>.inr h);have ed:∀ q,vo.ownBlock ≠ some q->q ≠ bw->¬ (vo.ownBlock=some q\/q=bw):=fun q h1 h2 h=>h.elim h1 h2;rw[show (((st'.length+1:Nat):Int) - 1).toNat=st'.length from tO];refine G.back (seen,st',out++[x],.slice (some ⟨g,0,none⟩) st'.length cv,.slice a8 (out.length+1) c8) j2 ⟨d9,?_,?_,?_,?_,?_,?_,?_,?_⟩ (?_)
   . exact dh.blk eD (ed bs (fun h=>(dm bs h).2 O) tO)
   .
    have h1:=ja jw (k:=st'.length) (dh.blk dF (ed g dB tO)) ek tR tO (by simpa[maxLen] using d5);rw[List.take_left]at h1;exact h1
   .
    have h1:=zj dA dT (fun q hq h=>by
     rcases dK with h2 | ⟨q',h2,h3⟩
     . rw[h2]at hq;have:=(dm q hq).1;omega
     .
      rw[h2]at hq;cases hq;omega)
    rw[zvv,ztv];exact h1
   . exact eN
   .
    intro q hq;cases hq;exact eG
   .
    intro q hq;rcases dK with h2 | ⟨q',h2,h3⟩
    . rw[h2]at hq;exact dm q hq
    rw[h2]at hq;cases hq;omega
   .
    intro q hq h;obtain rfl:g=q:=Option.some.inj hq;rcases dK with h2 | ⟨q',h2,h3⟩
    . rw[h2]at h;exact dB h
    rw[h2]at h;cases h;omega
   .
    exact dz.trans dh (fun q hq h=>by
     rcases h with h | h
     . have:=(dm q h).1;omega
     .
      exact h)
   dsimp only;rw[qT];omega
  have he:e<r.length:=by have:=eL;simp at this;omega
  obtain⟨y,hy⟩:∃ y,r[e]?=some y:=⟨_,ztn he⟩;obtain⟨b,rfl,gB⟩:=hR.ok x r hr y (zto hy);obtain⟨be,oe,ce,fQ,fR,fS,fT,rfl⟩:=eJ e _ hy;have eO:=dG.cells (dz.cells fT (fb be fR)) (fun h=>h);have eP:=dG.cells d8 (fun h=>h);refine Gs 3 O (Qt tK (Gs 3 O (zqL O tg89 (fun w1 hY=>(hY.cell (dc.cells 0 _ O) (fun h=>h))) (Gs 3 O (zqL O tg3 (fun w1 hY=>(hY.cell (dw 0 _ O) (fun h=>h))) (zqJ O O (fun w1 hY=>zpH tR89 ts27 O O d7 tO) (zqL O tg27 (fun w1 hY=>(hY.cell (eP.el1 (cs:=[_]) 0 O O) (fun h=>h))) (Gs 3 O (zqL O tg3 (fun w1 hY=>(hY.cell (dw 1 _ O) (fun h=>h))) (zqJ O O (fun w1 hY=>zpH tR27 ts3 O O fQ tO) ?_))))))))));refine zqL O tg3 (fun w1 hY=>(hY.cell (eO.el1 (cs:=[_]) 0 O O) (fun h=>h))) (Gs 1 O (zqN (fun w6 dH=>?_)));refine Gs 6 O ?_;have eQ:=dH.blk eK (fun h=>h);have dg:=dH.cells dw (fun h=>h);refine zqK O tg3 (dg 1 _ O) (Ga 3 O tO (zpT O (M.store ts3 O O O O eQ (by rw[ztv,zfp];simp;omega)) ?_));rintro w7 ⟨fe,dI,dy⟩
  have ee:Blk w7 g ((st'++[(x,e+1)]).flatMap zij++sp) 240:=by
   have h1:=zcb jw (v:=.int .i64 ((e:Int)+1)) (j:=1) (x:=(x,e)) (y:=(x,e+1)) tS rfl (st'++[(x,e)]) st'.length sp d6;rw[zw4 _ _ (ztM _),zwA]at h1;rw[show 0+st'.length*2=st'.length*2 from tO]at dI;have h2:Blk w7 g (((st'++[(x,e)]).flatMap zij++sp).set (st'.length*2+1) (.int .i64 ((e:Int)+1))) 240:=dI;rw[h1]at h2;exact h2
  have ef:((st'++[(x,e+1)]).flatMap zij++sp).length=cv*2:=by
   rw[<- ek];simp only[ztv,zfp,ztQ,List.length_nil]
  have dL:bs ≠ g:=fun h=>eG.2 h.symm;have dr:Keep (fun q=>q=g) w4 w7:=((dG.ext dH).mono (fun _ _ h=>h.elim)).trans dy (fun _ _ h=>h);have dM:=dr.blk eD dL;have gC:seen.length=n:=by rw[da.len,hn]
  obtain⟨s,em⟩:∃ s,seen[b]?=some s:=iA;have eR:(seen.map Value.bool)[b]?=some (.bool s):=by rw[ztE,em];rfl
  have fU:bw ≠ g:=tO;have eS:=dr.blk dR fU;have dB:vo.ownBlock ≠ some g:=eX g (by rw[dY];rfl);refine Ga 7 O tO (zqK O tg4 (dM.cells.el1 b O eR) (zqG O O (R.not O) (Gs 2 O (zqF O (fun hs=>?_) (fun hs=>?_)))))
  .
   have fV:s=false:=by simpa using hs
   subst fV;have d9:=da.push hr hy em;refine Ga 5 O tO (zpT O (M.store ts4 O O O O dM (by rw[ztH];omega)) ?_);rintro w8 ⟨gD,fg,dS⟩;rw[show 0+(b:Int).toNat*1=b from tO,zgc]at fg;refine Gs 5 O (zqG O O (R.build (v:=.agg #[.int .i64 b,.int .i64 0]) [(0,_),(1,_)] O (fun _=>tK)) (G.mem O O (M.buildSlice (cs:=zij (b,0)) [(0,_)] tR241 ts240 zeroValue240 tS O tK) ?_));rintro _ w9 ⟨b9,rfl,gE,fP,eN,dT⟩;have dt:=ja jw (k:=(st'++[(x,e+1)]).length) (dT.blk (dS.blk ee (fun h=>dL h.symm)) (fun h=>h)) (cap:=cv) ef (ztM _) (by simp at eF ⊢;omega) (by simpa[maxLen] using d5);rw[zts,ztv]at dt;refine G.mem O O (M.append underlying241 Tryz.el240 O tS O O dt O (Cells.add eN.cells) (zlP _) tX tX) ?_;rintro vs' w10 ⟨dN,eh,ei,_⟩;have dh:Keep (fun q=>q=g\/q=bs) w4 w9:=((dr.mono (fun _ _ h=>.inl h)).trans dS (fun _ _ h=>.inr h)).ext dT;have du:Keep (fun q=>q=g\/q=bs) w4 w10:=dh.trans ei (fun q _ h=>.inl (Option.some.inj h).symm);have fW:=dh.size
   have fm:∀ q,vs'.ownBlock=some q->q=g\/w9.heap.size<=q:=by
    intro q hq;rcases eh with h2 | ⟨q',h2,h3⟩
    . rw[h2]at hq;exact .inl (Option.some.inj hq).symm
    rw[h2]at hq;cases hq;exact .inr h3
   refine Gs 3 O (G.back (seen.set b true,st'++[(x,e+1)]++[(b,0)],out,vs',vo) j2 ⟨d9,?_,?_,?_,?_,?_,?_,?_,?_⟩ (?_))
   . exact(dT.blk fg (fun h=>h) |> fun h=>ei.blk h (fun h=>dL (Option.some.inj h).symm))
   .
    have:=dN;simp only[zv3,ztv]at this ⊢;exact this
   .
    exact zj dl du (fun q hq h=>by
     rcases h with rfl | rfl
     . exact dB hq
     .
      exact(dm _ hq).2 O)
   . exact du.blk dR (fun h=>tO)
   .
    intro q hq;have:=fm q hq;omega
   . exact dm
   .
    intro q hq h;rcases fm q hq with rfl | h2
    . exact dB h
    have:=xp dl h;omega
   . exact dz.trans du (fun q hq h=>tO)
   dsimp only;rw[qT,qT,qT,zlx da.len em,zmy hr];omega
  have fX:s=true:=by simpa using hs
  subst fX;have d9:=da.skip hr hy em;refine Gs 2 O (G.back (seen,st'++[(x,e+1)],out,.slice (some ⟨g,0,none⟩) (st'.length+1) cv,vo) j2 ⟨d9,?_,?_,?_,?_,?_,?_,?_,?_⟩ (?_))
  . exact dM
  .
   have dt:=ja jw (k:=(st'++[(x,e+1)]).length) ee (cap:=cv) ef (ztM _) (by simp at eF ⊢;omega) (by simpa[maxLen] using d5);rw[zts,ztv]at dt;rw[ztv];exact dt
  . exact zj dl dr (fun q hq h=>by subst h;exact dB hq)
  . exact eS
  .
   intro q hq;cases hq;exact eG
  . exact dm
  .
   intro q hq;obtain rfl:g=q:=Option.some.inj hq;exact dB
  . exact dz.trans dr (fun q hq h=>tO)
  dsimp only;rw[qT,qT,zmy hr];omega
 have eT:st=[]:=by
  cases st with
  | nil=>rfl
  | cons a l=>exact absurd fD tR
 subst eT;have hO:=da.finish
 have ej:w4.ownsRow 0 3 1 vo out.length ((out.map fun x:Nat=>(x:Int)).map (.int .i64)):=by
  rw[zvy];exact dl
 refine Gs 10 O (zqK O tg27 (dR.cells 2 _ O) (G.call O call180 (zgb _ vo out.length w4 ej (by rw[ztH];omega)) ?_));rintro _ w5 ⟨rfl,db,fY⟩;rw[<- List.map_reverse,zvy]at db;have db:w5.ownsRow 0 3 1 vo out.length (out.reverse.map qL):=db
 have eE:out.reverse ≠ []:=by
  intro h;have:=hO.head;rw[h]at this;cases this
 obtain⟨g,cap,sp,rfl,gF,eF,d5,dF,ek⟩:=jD db eE;have eU:bw ≠ g:=fun h=>by have:=(dm g rfl).1;omega
 have dO:bp ≠ g:=fun h=>by have:=(dm g rfl).1;omega
 have dQ:Keep (fun q=>q=g) w4 w5:=fY.mono (fun _ _ h=>(Option.some.inj h).symm);have dc:=dQ.blk dR eU;have fZ:=dQ.blk (dz.blk hP (fun h=>ew h.symm)) dO;refine Gs 7 O (zqK O tg27 (dc.cells 2 _ O) (Gs 5 O ?_));have f0:Blk w5 bp ((List.replicate n (-1:Int)).map (.int .i64)) 3:=by rw[zvA];exact fZ
 refine G.loop (σ:=Nat × List Int) (fun⟨k,pl⟩=>[(0,.pointer (some ⟨bw,0,none⟩)),(108,.slice (some ⟨g,0,none⟩) out.length cap),(109,.int .i64 out.length),(110,.int .i64 k)]) (fun⟨k,pl⟩=>fun w'=>k<=out.length/\Dfs.Place n (out.reverse.take k) pl/\Blk w' bp (pl.map (.int .i64)) 3/\Keep (fun q=>q=bp) w5 w') (fun⟨k,pl⟩=>out.length - k) (0,List.replicate n (-1)) j2 ⟨ztC _,Dfs.Place.start n,f0,Keep.refl _ _⟩ ?_;rintro⟨k,pl⟩ w6 ⟨gG,er,fp,dU⟩;refine Gs 6 O (zqE O (fun gH=>?_) (fun gI=>?_))
 .
  refine Gs 7 O ?_;obtain⟨x,hx⟩:∃ x,out.reverse[k]?=some x:=⟨_,ztn tX⟩
  have eZ:x<n:=dD x (by
   have:=zto hx;simp at this
   simp[this])
  have f5:(out.reverse.map qL++sp)[k]?=some (qL x):=by
   rw[ztN tX,ztE,hx];rfl
  refine Ga 1 O tO (zqK O tg3 ((dU.blk dF (fun h=>dO h.symm)).cells.el1 k O f5) (Gs 8 O (zqK O tg27 ((dU.blk dc ew).cells 3 _ O) (Ga 3 O tO (zpT O (M.store ts3 O O O O fp (by rw[ztH,er.len];omega)) ?_)))));rintro w7 ⟨fe,dI,dy⟩;rw[show 0+(x:Int).toNat*1=x from tO,<- zvB]at dI;refine Ga 7 O tO (G.back (k+1,pl.set x (k:Int)) j2 ⟨tO,er.step hO.nodup hx eZ,dI,dU.trans dy (fun _ _ h=>h)⟩ tZ)
 refine Gs 4 O ?_;have eV:k=out.length:=tO;subst eV;rw[zwc tR]at er;have f7:Keep (fun q=>q=g\/q=bp) w4 w6:=(dQ.mono (fun _ _ h=>.inl h)).trans dU (fun _ _ h=>.inr h);refine zpz results146 ⟨_,rfl,rfl,out.reverse,pl,_,hO,er,dU.blk dc ew,?_,fun q hq=>?_,fp,?_⟩
 .
  have:=zbp (dU.blk dF (fun h=>dO h.symm)) (cap:=cap) ek d5;rw[List.length_reverse]at this ⊢;exact this
 . exact(dm q hq).1
 exact(dz.mono (fun _ _ h=>.inl h)).trans f7 (fun q hq h=>by
  rcases h with h | h
  . have:=(dm g rfl).1;omega
  .
   exact .inr h)
end Go.Proofs.YtckdhgbepmpgiaaGreat
namespace Go.GL.Dom
open Go.GL.Dfs
inductive AvN (R:List (List Int)) (root x:Nat):Nat->Nat->Prop
 | start:root ≠ x->AvN R root x 0 root
 | step {k a b:Nat}:AvN R root x k a->Dfs.Edge R a b->b ≠ x->AvN R root x (k+1) b
def Dom (R:List (List Int)) (root x b:Nat):Prop:=∀ k,¬ AvN R root x k b
section
theorem AvN.ne (h:AvN R root x k b):b ≠ x:=by
 cases h with
 | start h=>exact h
 | step _ _ h=>exact h
theorem AvN.reach (h:AvN R root x k b):Dfs.Reach R root b:=by
 induction h with
 | start=>exact .refl
 | step _ h _ ih=>exact .step ih h
theorem AvN.thru (d:Nat) (h:AvN R root x j c):AvN R root d j c\/∃ j',j'<=j/\AvN R root x j' d:=by
 induction h with
 | start h =>
  by_cases e:root=d
  . subst e;exact .inr ⟨0,ztM _,.start h⟩
  exact .inl (.start e)
 | @step k a b ha he hb ih =>
  rcases ih with ih | ⟨j',h1,h2⟩
  .
   by_cases e:b=d
   . subst e;exact .inr ⟨k+1,ztM _,.step ha he hb⟩
   exact .inl (.step ih he e)
  grind
theorem Dom.refl (b:Nat):Dom R root b b:=fun _ h=>h.ne rfl
theorem Dom.pred (h:Dom R root x b) (hY:x ≠ b) (he:Dfs.Edge R a b):Dom R root x a:=fun k ha=>h (k+1) (.step ha he (fun e=>hY e.symm))
theorem zt8 (h:Dom R root x root):x=root:=by
 by_cases e:root=x
 . exact e.symm
 exact absurd (.start e) (h 0)
theorem zta (hb:b ≠ root) (h:∀ p,Dfs.Reach R root p->Dfs.Edge R p b->Dom R root x p):Dom R root x b:=by
 intro k hk;cases hk with
 | start=>exact hb rfl
 | step ha he _=>exact h _ ha.reach he _ ha
theorem Dom.trans (h:Dom R root x y) (h':Dom R root y b):Dom R root x b:=by
 intro k hk;rcases hk.thru y with h1 | ⟨j,_,h1⟩
 . exact h' _ h1
 exact h _ h1
structure Up (R:List (List Int)) (root:Nat) (pl T:List Int):Prop extends Chain pl T root where
 sdom:∀ b:Nat,0<=lk T b->b ≠ root->∀ x,x ≠ b->Dom R root x b->∀ p:Nat,lk T b=(p:Int)->Dom R root x p
theorem Up.anc (hu:Up R root pl T):∀ (k:Nat) {b x:Nat},lk pl b<=k->0<=lk T b->Dom R root x b->Anc T root x b
 | k,b,x,hk,hb,hd=>by
  by_cases e:b=root
  .
   subst e;rw[zt8 hd];exact .refl _
  by_cases ex:x=b
  . subst ex;exact .refl _
  obtain⟨p,h1,h2,h3⟩:=hu.par b hb e;have h4:=hu.proc p h3;have h5:=hu.sdom b hb e x ex hd p h1
  match k with
  | 0=>omega
  | k+1=>exact .up e h1 (Up.anc hu k tO h3 h5)
theorem Up.anc' (hu:Up R root pl T) (hb:0<=lk T b) (hd:Dom R root x b):Anc T root x b:=hu.anc (lk pl b).toNat tO hb hd
theorem ztb (hc:Chain pl T root) (h:Anc T root x y) (h':Anc T root y x) (hy:0<=lk T y):x=y:=by
 obtain⟨h1,h2⟩:=h.place hc hy;obtain⟨h3,_⟩:=h'.place hc h2;exact hc.inj x y (hc.proc x h2) tO
theorem Up.side (hu:Up R root pl T) (h:Anc T root y p) (hp:0<=lk T p) (hd:Dom R root x p):Dom R root x y\/(Anc T root x p/\Anc T root y x):=by
 induction h with
 | refl=>exact .inl hd
 | @up b q hne hq h3 ih =>
  by_cases e:x=b
  . subst e;exact .inr ⟨.refl _,.up hne hq h3⟩
  obtain⟨q',h4,_,h5⟩:=hu.par b hp hne;rw[hq]at h4;have e4:=Int.ofNat.inj h4;subst e4;rcases ih h5 (hu.sdom b hp hne x e hd q hq) with h6 | ⟨h6,h7⟩
  . grind
  exact .inr ⟨.up hne hq h6,h7⟩
structure MeetAll (T:List Int) (root:Nat) (ps:List Nat) (m:Nat):Prop where
 l:∀ p ∈ ps,Anc T root m p
 top:∀ x,(∀ p ∈ ps,Anc T root x p)->Anc T root x m
 ok:0<=lk T m
theorem MeetAll.one (h:0<=lk T p):MeetAll T root [p] p:=⟨fun q hq=>by rw[ztF.1 hq];exact .refl _,fun x hx=>hx p (ztF.2 rfl),h⟩
theorem MeetAll.step {ps:List Nat} {m':Nat} (h:MeetAll T root ps m) (hm:zik T root m p m') (ho:0<=lk T m'):MeetAll T root (ps++[p]) m':=by
 refine⟨fun q hq=>?_,fun x hx=>?_,ho⟩
 .
  rcases ztG.1 hq with hq | hq
  . exact hm.l.trans (h.l q hq)
  rw[ztF.1 hq];exact hm.r
 exact hm.top x (h.top x (fun q hq=>hx q (ztG.2 (.inl hq)))) (hx p (ztG.2 (.inr (ztF.2 O))))
theorem MeetAll.dom (hu:Up R root pl T) {ps:List Nat} (h:MeetAll T root ps m) (hp:∀ p ∈ ps,0<=lk T p/\Dom R root x p):Dom R root x m:=by
 by_cases hd:Dom R root x m
 . exact hd
 have da:∀ p ∈ ps,Anc T root x p/\Anc T root m x:=by
  intro p hY;rcases hu.side (h.l p hY) (hp p hY).1 (hp p hY).2 with h1 | h1
  . grind
  exact h1
 have h1:=h.top x (fun p hY=>(da p hY).1);cases ps with
 | nil =>
  have h2:=((h.top T.length (fun p hY=>tD)).place hu.toChain h.ok).2;unfold lk at h2;rw[ztL (ztM _)]at h2;exact absurd h2 tS
 | cons p r =>
  have h2:=(da p (ztr ..)).2;have h3:=ztb hu.toChain h1 h2 h.ok;rw[h3];exact Dom.refl _
section
theorem Anc.of_set (hd:d<T.length) (h:Anc (T.set d (m:Int)) root x c):Anc T root x c\/(Anc T root d c/\Anc (T.set d (m:Int)) root x d):=by
 induction h with
 | refl=>exact .inl (.refl _)
 | @up b p hne hp h3 ih =>
  by_cases e:b=d
  . subst e;exact .inr ⟨.refl _,.up hne hp h3⟩
  rw[yK (fun e'=>e e'.symm)]at hp;rcases ih with h4 | ⟨h4,h5⟩
  . exact .inl (.up hne hp h4)
  exact .inr ⟨.up hne hp h4,h5⟩
theorem Up.update (hu:Up R root pl T) (hd:d<T.length) (hr:d ≠ root) (dl:0<=lk pl d) {ps:List Nat} (hm:MeetAll T root ps m) (da:∀ p ∈ ps,0<=lk T p/\Dfs.Edge R p d) (dg:lk pl m<lk pl d):Up R root pl (T.set d (m:Int)):=by
 have dh:m ≠ d:=tD;refine⟨⟨?_,hu.rootP,hu.inj,?_,?_⟩,?_⟩
 . rw[yK hr];exact hu.rootT
 .
  intro b hb;by_cases e:d=b
  . grind
  rw[yK e]at hb;exact hu.proc b hb
 .
  intro b hb hY;by_cases e:d=b
  .
   subst e;refine⟨m,yH hd,dg,?_⟩;rw[yK (fun e=>dh e.symm)];exact hm.ok
  rw[yK e]at hb ⊢;obtain⟨p,h1,h2,h3⟩:=hu.par b hb hY;refine⟨p,h1,h2,?_⟩;by_cases e':d=p
  . subst e';rw[yH hd];omega
  rw[yK e'];exact h3
 intro b hb hY x hx db p hp;by_cases e:d=b
 .
  subst e;rw[yH hd]at hp;have e2:=Int.ofNat.inj hp;subst e2;exact hm.dom hu (fun p dc=>⟨(da p dc).1,db.pred hx (da p dc).2⟩)
 rw[yK e]at hb hp;exact hu.sdom b hb hY x hx db p hp
def Pk (R:List (List Int)) (root:Nat) (T:List Int) (k b:Nat):Prop:=∀ x j,j<k->Anc T root x b->¬ AvN R root x j b
theorem Pk.zero (b:Nat):Pk R root T 0 b:=fun _ _ h=>absurd h (zwz _)
theorem zt9 (k:Nat):Pk R root T k root:=fun x j _ h h'=>by rw[h.of_root]at h';exact h'.ne rfl
theorem Pk.less (h:Pk R root T k b) (hk:k'<=k):Pk R root T k' b:=fun x j hj=>h x j tO
theorem Pk.new (hu:Up R root pl T) (hd:d<T.length) (hr:d ≠ root) {ps:List Nat} (hm:MeetAll T root ps m) (db:lk pl m<lk pl d) (hY:0<k->∀ p,Dfs.Reach R root p->Dfs.Edge R p d->p ∈ ps) (hP:∀ p ∈ ps,Pk R root T k p):Pk R root (T.set d (m:Int)) (k+1) d:=by
 intro x j hj hA da;cases da with
 | start=>exact hr rfl
 | @step j a _ ha he hne =>
  have hp:=hY tO a ha.reach he;cases hA with
  | refl=>exact hne rfl
  | @up _ p _ hp2 hA2 =>
   rw[yH hd]at hp2;have e2:=Int.ofNat.inj hp2;subst e2;rcases hA2.of_set hd with h1 | ⟨h1,_⟩
   . exact hP a hp x j tO (h1.trans (hm.l a hp)) ha
   have:=(h1.place hu.toChain hm.ok).1;omega
theorem Pk.old (hd:d<T.length) (hn:Pk R root (T.set d (m:Int)) (k+1) d) (hk:k'<=k+1) (h:Pk R root T k' c):Pk R root (T.set d (m:Int)) k' c:=by
 intro x j hj hA hY;rcases hA.of_set hd with h1 | ⟨h1,h2⟩
 . exact h x j hj h1 hY
 rcases hY.thru d with h3 | ⟨j',h3,h4⟩
 . exact h d j hj h1 h3
 exact hn x j' tO h2 h4
end
theorem zjX (P:Nat->Nat->Prop) (hP:∀ i k k',P i k->k<=k'->P i k'):∀ n,(∀ i,i<n->∃ k,P i k)->∃ k,∀ i,i<n->P i k
 | 0,_=>⟨0,fun i h=>absurd h (zwz _)⟩
 | n+1,h=>by
  obtain⟨k,hk⟩:=zjX P hP n (fun i hi=>h i tO);obtain⟨k',hY⟩:=h n tO;refine⟨max k k',fun i hi=>?_⟩;by_cases e:i=n
  . subst e;exact hP _ _ _ hY (Nat.le_max_right ..)
  grind
theorem zoL (R:List (List Int)) (root n:Nat):∃ K,0<K/\∀ x,x<n->∀ b,b<n->∀ k,AvN R root x k b->∃ j,j<K/\AvN R root x j b:=by
 have h1:∃ K,∀ x,x<n->∀ b,b<n->∀ k,AvN R root x k b->∃ j,j<K/\AvN R root x j b:=by
  refine zjX (fun x K=>∀ b,b<n->∀ k,AvN R root x k b->∃ j,j<K/\AvN R root x j b) (fun x k k' h hk b hb i hi=>?_) n (fun x _=>?_)
  . grind
  refine zjX (fun b K=>∀ k,AvN R root x k b->∃ j,j<K/\AvN R root x j b) (fun b k k' h hk i hi=>?_) n (fun b _=>?_)
  . grind
  by_cases h:∃ k,AvN R root x k b
  .
   obtain⟨k,hk⟩:=h;exact⟨k+1,fun _ _=>⟨k,tO,hk⟩⟩
  exact⟨0,fun k hk=>absurd ⟨k,hk⟩ h⟩
 obtain⟨K,hK⟩:=h1;refine⟨K+1,tO,fun x hx b hb k hk=>?_⟩;obtain⟨j,h1,h2⟩:=hK x hx b hb k hk;exact⟨j,tO,h2⟩
theorem zoM (hu:Up R root pl T) {n K:Nat} {ps:List Nat} (hK:∀ x,x<n->∀ b,b<n->∀ k,AvN R root x k b->∃ j,j<K/\AvN R root x j b) (hn:∀ x:Nat,0<=lk T x->x<n)
  (hP:∀ b:Nat,0<=lk T b->Pk R root T K b) (hr:d ≠ root) (hd:0<=lk T d) (hm:MeetAll T root ps m) (da:∀ p ∈ ps,0<=lk T p/\Dfs.Edge R p d) (hY:∀ p,Dfs.Reach R root p->Dfs.Edge R p d->p ∈ ps) (dg:lk pl m<lk pl d) (hq:lk T d=(q:Int)):m=q:=by
 have dom:∀ x b,0<=lk T b->Anc T root x b->Dom R root x b:=by
  intro x b hb h k hk;obtain⟨j,h1,h2⟩:=hK x (hn x (h.place hu.toChain hb).2) b (hn b hb) k hk;exact hP b hb x j h1 h h2
 obtain⟨q',h1,h2,h3⟩:=hu.par d hd hr;rw[hq]at h1;have e1:=Int.ofNat.inj h1;subst e1;have db:q ≠ d:=tD;have dc:m ≠ d:=tD;have h4:Anc T root q m:=hm.top q (fun p hp=>hu.anc' (da p hp).1 ((dom q d hd (.up hr hq (.refl _))).pred db (da p hp).2));have h5:Dom R root m d:=zta hr (fun p h6 h7=>dom m p (da p (hY p h6 h7)).1 (hm.l p (hY p h6 h7)));have h6:=hu.sdom d hd hr m dc h5 q hq;exact(ztb hu.toChain h4 (hu.anc' h3 h6) hm.ok).symm
theorem Up.fixed (hu:Up R root pl T) (hY:∀ b q:Nat,b ≠ root->0<=lk T b->lk T b=(q:Int)->∀ p,Dfs.Reach R root p->Dfs.Edge R p b->Anc T root q p) (da:∀ b,Dfs.Reach R root b->0<=lk T b) (h:Anc T root x b) (hb:Dfs.Reach R root b):Dom R root x b:=by
 intro k hk;induction hk with
 | start h1=>exact h1 h.of_root.symm
 | @step k a b ha he hne ih =>
  have db:b ≠ root:=by rintro rfl;exact hne h.of_root.symm
  obtain⟨q,h1,_,_⟩:=hu.par b (da b hb) db;exact ih ((h.parent (fun e=>hne e.symm) h1).trans (hY b q db (da b hb) h1 a ha.reach he)) ha.reach
end
end Go.GL.Dom
namespace Go.GL.Dom
open Go.GL.Dfs
structure Solved (R:List (List Int)) (root n:Nat) (pl T:List Int):Prop where
 len:T.length=n
 out:∀ b,b<n->¬ Dfs.Reach R root b\/b=root->T[b]?=some (-1)
 idom:∀ b,Dfs.Reach R root b->b ≠ root->∃ p:Nat,T[b]?=some (p:Int)/\p ≠ b/\Dom R root p b/\(∀ x,x ≠ b->Dom R root x b->Dom R root x p)/\lk pl p<lk pl b/\Dfs.Reach R root p
theorem zaE {n:Nat} (h:Dfs.Place n order pl) (ha:0<=lk pl a):order[(lk pl a).toNat]?=some a/\a<n:=by
 have h1:=ku ha;have h2:a<n:=by rw[<- h.len];exact(ztB.1 h1).1
 refine⟨?_,h2⟩;by_cases hm:a ∈ order
 .
  obtain⟨i,hi⟩:=zvH.1 hm;have:=h.inn i a hi
  grind
 have:=h.out a h2 hm
 grind
section
variable {n K:Nat} {ch:Bool}
theorem Up.init (hO:Order R root order) (hP:Dfs.Place n order pl) (hr:root<n):Up R root pl ((List.replicate n (-1)).set root (root:Int)):=by
 have hY:root<(List.replicate n (-1:Int)).length:=tD
 have hT:∀ b,0<=lk ((List.replicate n (-1)).set root (root:Int)) b->b=root:=by
  intro b hb;by_cases e:root=b
  . exact e.symm
  rw[yK e]at hb;unfold lk at hb;by_cases h:b<n
  . grind
  rw[ztL tD]at hb;simp at hb
 have da:lk pl root=0:=xS (hP.inn 0 root hO.head);refine⟨⟨yH hY,da,?_,?_,?_⟩,?_⟩
 .
  intro a b ha db;have h1:=(zaE hP ha).1;have h2:=(zaE hP (a:=b) tO).1
  grind
 . grind
 . grind
 grind
structure L1 (R:List (List Int)) (root n:Nat) (pl:List Int) (K k:Nat) (ch:Bool) (T:List Int):Prop where
 up:Up R root pl T
 len:T.length=n
 neg:∀ b,b<n->lk T b<0->lk T b=-1
 all:k=0\/∀ b,Dfs.Reach R root b->0<=lk T b
 old:∀ b:Nat,0<=lk T b->Pk R root T k b
 big:ch=true->k<=K
 fix:ch=false->(∀ b,Dfs.Reach R root b->0<=lk T b)/\∀ b q:Nat,b ≠ root->Dfs.Reach R root b->lk T b=(q:Int)->∀ p,0<=lk T p->Dfs.Edge R p b->Anc T root q p
structure L2 (R:List (List Int)) (root n:Nat) (pl:List Int) (order:List Nat) (K k i:Nat) (ch:Bool) (T:List Int):Prop where
 up:Up R root pl T
 len:T.length=n
 neg:∀ b,b<n->lk T b<0->lk T b=-1
 all:k=0\/∀ b,Dfs.Reach R root b->0<=lk T b
 old:∀ b:Nat,0<=lk T b->Pk R root T k b
 done:∀ j c:Nat,j<=i->order[j]?=some c->0<=lk T c/\Pk R root T (k+1) c
 big:ch=true->k<K
 fix:ch=false->∀ j d q:Nat,1<=j->j<=i->order[j]?=some d->lk T d=(q:Int)->∀ p,0<=lk T p->Dfs.Edge R p d->Anc T root q p
theorem L1.init (hO:Order R root order) (hP:Dfs.Place n order pl) (hr:root<n):L1 R root n pl K 0 true ((List.replicate n (-1)).set root (root:Int)):=by
 refine⟨Up.init hO hP hr,tR,?_,.inl rfl,fun b _=>Pk.zero b,fun _=>ztC _,fun h=>tD⟩;intro b hb hY;by_cases e:root=b
 .
  subst e;rw[yH tD]at hY;omega
 rw[yK e]at hY ⊢;unfold lk at *
 grind
theorem L2.start (hO:Order R root order) (h:L1 R root n pl K k ch T):L2 R root n pl order K k 0 false T:=by
 refine⟨h.up,h.len,h.neg,h.all,h.old,?_,fun h=>tD,fun _ j d q h1 h2=>tO⟩;intro j c hj hc;obtain rfl:j=0:=tO;rw[hO.head]at hc;cases hc;exact⟨by rw[h.up.rootT];omega,zt9 _⟩
theorem L2.last (hO:Order R root order) (h:L2 R root n pl order K k i ch T) (hi:i+1=order.length):L1 R root n pl K (k+1) ch T:=by
 have hY:∀ b,Dfs.Reach R root b->0<=lk T b/\Pk R root T (k+1) b:=by
  intro b hb;obtain⟨j,hj⟩:=zvH.1 ((hO.mem b).2 hb);have:=(ztB.1 hj).1;exact h.done j b tO hj
 refine⟨h.up,h.len,h.neg,.inr (fun b hb=>(hY b hb).1),?_,fun hc=>h.big hc,fun hc=>⟨fun b hb=>(hY b hb).1,?_⟩⟩
 .
  intro b hb;by_cases e:b=root
  . subst e;exact zt9 _
  by_cases hr:Dfs.Reach R root b
  . grind
  intro x j _ _ da;exact hr da.reach
 intro b q db hb hq p hp he;obtain⟨j,hj⟩:=zvH.1 ((hO.mem b).2 hb);have dc:=(ztB.1 hj).1
 have h0:j ≠ 0:=by
  rintro rfl;rw[hO.head]at hj
  grind
 exact h.fix hc j b q tO tO hj hq p hp he
theorem L2.facts (hO:Order R root order) (hP:Dfs.Place n order pl) (h:L2 R root n pl order K k i ch T) (hd:order[i+1]?=some d) {ps:List Nat} (dc:∀ p,p ∈ ps ↔ 0<=lk T p/\Dfs.Edge R p d) :
  d ≠ root/\d<n/\0<=lk pl d/\ps ≠ []/\∀ m,MeetAll T root ps m->lk pl m<lk pl d:=by
 have hY:=hP.inn _ _ hd
 have hr:d ≠ root:=by
  rintro rfl;have h1:=hP.inn _ _ hO.head
  grind
 obtain⟨j,p,hj,hp,he⟩:=hO.par _ _ hd hr;have db:=(h.done j p tO hp).1;have da:p ∈ ps:=(dc p).2 ⟨db,he⟩;have dg:=hP.inn _ _ hp;refine⟨hr,?_,by rw[xS hY];omega,fun e=>tD,fun m hm=>?_⟩
 . rw[<- hP.len];exact(ztB.1 hY).1
 have:=((hm.l p da).place h.up.toChain db).1;rw[xS dg]at this;rw[xS hY];omega
theorem set_same {x:Int} (h:T[d]?=some x):T.set d x=T:=by
 apply zuW;intro j;by_cases e:d=j
 .
  subst e;rw[zvk (ztB.1 h).1,h]
 rw[zvj e]
theorem L2.core (hO:Order R root order) (hP:Dfs.Place n order pl) (h:L2 R root n pl order K k i ch T) {ps:List Nat} (hd:order[i+1]?=some d) (db:∀ p,p ∈ ps ↔ 0<=lk T p/\Dfs.Edge R p d) (hm:MeetAll T root ps m) (ch':Bool) (dg:ch'=true->k<K)
  (dh:ch'=false->∀ j d' q:Nat,1<=j->j<=i+1->order[j]?=some d'->lk (T.set d (m:Int)) d'=(q:Int)->∀ p,0<=lk (T.set d (m:Int)) p->Dfs.Edge R p d'->Anc (T.set d (m:Int)) root q p):L2 R root n pl order K k (i+1) ch' (T.set d (m:Int)):=by
 obtain⟨hr,dr,dt,_,dc⟩:=h.facts hO hP hd db;have dc:=dc m hm;have da:d<T.length:=by rw[h.len];exact dr
 have hY:Pk R root (T.set d (m:Int)) (k+1) d:=Pk.new h.up da hr hm dc (fun hk p h1 h2=>(db p).2 ⟨h.all.resolve_left tO p h1,h2⟩) (fun p hp=>h.old p ((db p).1 hp).1)
 have dm:∀ b:Nat,0<=lk T b->0<=lk (T.set d (m:Int)) b:=by
  intro b hb;by_cases e:d=b
  . subst e;rw[yH da];omega
  rw[yK e];exact hb
 refine⟨h.up.update da hr dt hm (fun p hp=>(db p).1 hp) dc,by rw[zvu];exact h.len,?_,h.all.imp id (fun ha b hb=>dm b (ha b hb)),?_,?_,dg,dh⟩
 .
  intro b hb dl;by_cases e:d=b
  . subst e;rw[yH da]at dl;omega
  rw[yK e]at dl ⊢;exact h.neg b hb dl
 .
  intro b hb;by_cases e:d=b
  . subst e;exact hY.less (Nat.le_succ _)
  rw[yK e]at hb;exact Pk.old da hY (Nat.le_succ _) (h.old b hb)
 intro j c hj hc;by_cases e:d=c
 . subst e;exact⟨by rw[yH da];omega,hY⟩
 have du:j<=i:=by
  grind
 obtain⟨h1,h2⟩:=h.done j c du hc;exact⟨dm c h1,Pk.old da hY (ztM _) h2⟩
theorem L2.change (hO:Order R root order) (hP:Dfs.Place n order pl) (dl:0<K) (hK:∀ x,x<n->∀ b,b<n->∀ k,AvN R root x k b->∃ j,j<K/\AvN R root x j b) (h:L2 R root n pl order K k i ch T) {ps:List Nat} (hd:order[i+1]?=some d) (da:∀ p,p ∈ ps ↔ 0<=lk T p/\Dfs.Edge R p d) (hm:MeetAll T root ps m) (dc:lk T d ≠ (m:Int)) :
  L2 R root n pl order K k (i+1) true (T.set d (m:Int)):=by
 refine h.core hO hP hd da hm true (fun _=>?_) (fun h=>tD);obtain⟨hr,dm,dr,_,dg⟩:=h.facts hO hP hd da;apply Nat.lt_of_not_le;intro hk;have hY:=h.all.resolve_left tO;have dh:Dfs.Reach R root d:=(hO.mem d).1 (zto hd);have db:=hY d dh;obtain⟨q,hq⟩:=zul db;have:=zoM h.up hK (fun x hx=>(zaE hP (h.up.proc x hx)).2) (fun b hb=>(h.old b hb).less hk) hr db hm (fun p hp=>(da p).1 hp) (fun p h1 h2=>(da p).2 ⟨hY p h1,h2⟩) (dg m hm) hq;exact dc tO
theorem L2.same (hO:Order R root order) (hP:Dfs.Place n order pl) (h:L2 R root n pl order K k i ch T) {ps:List Nat} (hd:order[i+1]?=some d) (hY:∀ p,p ∈ ps ↔ 0<=lk T p/\Dfs.Edge R p d) (hm:MeetAll T root ps m) (he:lk T d=(m:Int)) :
  L2 R root n pl order K k (i+1) ch T:=by
 have hT:T.set d (m:Int)=T:=by
  have:=ku (l:=T) (i:=d) tO;rw[he]at this;exact set_same this
 have:=h.core hO hP hd hY hm ch h.big;rw[hT]at this;refine this (fun hc j d' q h1 h2 hj hq p hp hE=>?_);by_cases e:j=i+1
 .
  subst e;rw[hd]at hj;have e1:=Option.some.inj hj;subst e1;rw[he]at hq;have e2:=Int.ofNat.inj hq;subst e2;exact hm.l p ((hY p).2 ⟨hp,hE⟩)
 exact h.fix hc j d' q h1 tO hj hq p hp hE
theorem L1.solved (hO:Order R root order) (hP:Dfs.Place n order pl) (hr:root<n) (h:L1 R root n pl K k false T):Solved R root n pl (T.set root (-1)):=by
 obtain⟨hY,dg⟩:=h.fix rfl
 have db:∀ {x b},Anc T root x b->Dfs.Reach R root b->Dom R root x b:=fun hA hb=>h.up.fixed (fun b q h1 h2 h3 p h4 h5=>by
  by_cases hb:Dfs.Reach R root b
  . grind
  .
   exact absurd (.step h4 h5) hb) hY hA hb
 have dc:∀ b:Nat,0<=lk T b->Dfs.Reach R root b:=fun b hb=>(hO.mem b).1 (zto (zaE hP (h.up.proc b hb)).1);have dh:root<T.length:=by rw[h.len];exact hr
 refine⟨by rw[zvu];exact h.len,?_,?_⟩
 .
  intro b hb hor;by_cases e:root=b
  . subst e;rw[zvk dh]
  rw[zvj e];have h1:¬ 0<=lk T b:=fun h1=>hor.elim (fun h2=>h2 (dc b h1)) (fun h2=>e h2.symm);have h2:=h.neg b hb tO;unfold lk at h2;have dl:b<T.length:=by rw[h.len];exact hb
  have h3:T[b]?=some T[b]:=ztn dl;rw[h3]at h2 ⊢;exact congrArg some h2
 intro b hb da;obtain⟨p,h1,h2,h3⟩:=h.up.par b (hY b hb) da;have h4:=ku (l:=T) (i:=b) tO;rw[h1]at h4;refine⟨p,by rw[zvj (fun e=>da e.symm)];exact h4,tD,db (.up da h1 (.refl _)) hb,fun x hx hd=>h.up.sdom b (hY b hb) da x hx hd p h1,h2,dc p h3⟩
end
end Go.GL.Dom
namespace Go.GL
theorem R.loE {dst:Option Tmp} {ty:TypeId} {pos:String} {x lo:Operand} {ao ao1:Option Addr} {l:Nat} {kd:IntKind} {i:Int} (hu:∀ w,(underlying t).run P w=.ok (.slice e) w) (hs:∀ w,(sizeOf e).run P w=.ok k w) (hx:ev env x=some (.slice ao l c)) (hy:ev env lo=some (.int kd i)) (hE:(if c=i.toNat then ao else ao.map (·.add (i.toNat*k)))=ao1) (h0:0<=i/\i<=l) :
  yx P ⟨dst,.slice t x (some lo) none none,ty,pos,aft,g⟩ env w (.slice ao1 (l - i.toNat) (c - i.toNat)) w:=hE ▸ zpK hu hs hx hy h0
end Go.GL
namespace Go.Proofs.YtckdhgbepmpgiaaGreat
open Go.GL Go.GL.Dom Go.GL.Dfs
structure BackRows (R P:List (List Int)):Prop where
 len:P.length=R.length
 mem:∀ (b:Nat) r,P[b]?=some r->∀ y:Int,y ∈ r ↔ ∃ a:Nat,y=(a:Int)/\Dfs.Edge R a b
 short:∀ (b:Nat) r,P[b]?=some r->r.length<=R.length
theorem zgd (h:i<l.length):l[i]?=some (lk l i):=by simp[lk,h]
theorem zlQ (Rw Pw:List (List Int)) (root n bw bp bt:Nat) (nv bv ov:Value) (order:List Nat) (pl:List Int) (D:Nat->Prop) (w:World) (hn:Rw.length=n) (hroot:root<n) (hO:Dfs.Order Rw root order) (dg:Dfs.Place n order pl) (hB:BackRows Rw Pw)
  (hbv:SlR 1 (RSl 1 zv) D w bv Pw) (hD:∀ b,D b->b ≠ bt) (hW:Blk w bw [nv,bv,ov,.slice (some ⟨bp,0,none⟩) n n,.slice (some ⟨bt,0,none⟩) n n] 175) (hov:w.ownsRow 0 3 1 ov order.length (order.map qL)) (hog:∀ g,ov.ownBlock=some g->g ≠ bt)
  (hP:Blk w bp (pl.map (.int .i64)) 3) (hT:Blk w bt (List.replicate n (.int .i64 (-1))) 3) (dl:bw ≠ bt) (dy:bp ≠ bt) :
  Calls prog 147 #[.pointer (some ⟨bw,0,none⟩)] w (Ret fun u w'=>u=.tuple #[]/\∃ T,Solved Rw root n pl T/\Blk w' bt (T.map (.int .i64)) 3/\Keep (fun q=>q=bt) w w'):=by
 obtain⟨nb,cb,rfl,d8,d9,dz⟩:=hbv
 have dU:order ≠ []:=by
  intro h;have:=hO.head
  grind
 have eL:0<order.length:=List.length_pos_iff.2 dU;obtain⟨g,cap,sp,rfl,_,eM,eN,dV,eO⟩:=jD hov dU;have dA:g ≠ bt:=hog g rfl
 have eb:(order.map qL++sp)[0]?=some (qL root):=by
  rw[ztN tD,ztE,hO.head];rfl
 obtain⟨K,ec,hK⟩:=zoL Rw root n;refine zqQ func147 O ntmps147 O (Gs 5 O (zqK O tg27 (hW.cells 2 _ O) (Ga 1 O tO (zqK O tg3 (dV.cells.el1 0 O eb) (Gs 8 O (zqK O tg27 (hW.cells 4 _ O) (Ga 3 O tO (zpT O (M.store ts3 O O O O hT tD) ?_))))))));rintro w1 ⟨eP,dW,ed⟩;rw[show 0+(root:Int).toNat*1=root from tO]at dW;have dB:Blk w1 bt (((List.replicate n (-1)).set root (root:Int)).map (.int .i64)) 3:=by rw[zvB,zvA];exact dW
 refine Gs 9 O (G.loop (σ:=Nat × Bool × List Int) (fun⟨k,ch,T⟩=>[(0,.pointer (some ⟨bw,0,none⟩)),(2,.int .i64 root),(3,.bool ch)]) (fun⟨k,ch,T⟩=>fun w'=>L1 Rw root n pl K k ch T/\Blk w' bt (T.map (.int .i64)) 3/\Keep (fun q=>q=bt) w w') (fun⟨k,ch,T⟩=>(if ch then K+1 - k else 0)) (0,true,(List.replicate n (-1)).set root (root:Int)) j2 ⟨L1.init hO dg hroot,dB,ed⟩ ?_);rintro⟨k,ch,T⟩ w2 ⟨hL,dX,dw⟩;refine Gs 6 O (zqF O (fun dC=>?_) (fun dC=>?_))
 .
  subst dC;have dD:=dw.blk hW dl;have eQ:=hL.big rfl
  obtain⟨ao1,hE,hF⟩:∃ ao1:Option Addr,(if cap=(1:Int).toNat then some ⟨g,0,none⟩ else (some (⟨g,0,none⟩:Addr)).map (·.add ((1:Int).toNat*1)))=ao1/\(1<order.length->ao1=some ⟨g,1,none⟩):=by
   refine⟨_,rfl,fun h=>?_⟩;rw[ztx tO];rfl
  refine Gs 13 O (zqK O tg27 (dD.cells 2 _ O) (zqG O O (R.loE tR27 ts3 O O hE tO) (Gs 5 O (G.loop (σ:=Nat × Bool × List Int) (fun⟨i,ch,T⟩=>[(0,.pointer (some ⟨bw,0,none⟩)),(2,.int .i64 root),(3,.bool ch),(27,.slice ao1 (order.length - 1) (cap - 1)),(28,.int .i64 (order.length - 1:Nat)),(29,.int .i64 i)]) (fun⟨i,ch,T⟩=>fun w'=>L2 Rw root n pl order K k i ch T/\i+1<=order.length/\Blk w' bt (T.map (.int .i64)) 3/\Keep (fun q=>q=bt) w w') (fun⟨i,ch,T⟩=>order.length - i) (0,false,T) j2 ⟨L2.start hO hL,tO,dX,dw⟩ ?_))));rintro⟨i,ch,T⟩ w3 ⟨dh,eR,du,dc⟩;have dY:=dh.len;refine Gs 6 O (zqE O (fun eS=>?_) (fun eT=>?_))
  .
   obtain⟨d,hd⟩:∃ d,order[i+1]?=some d:=iA
   have ee:((order.map qL++sp).drop 1)[i]?=some (qL d):=by
    rw[zvc,ztN tD,ztE,zwh,hd];rfl
   have ef:=dc.blk dV dA;have dE:=dc.blk hW dl;have eh:=dc.blk hP dy;have ei:Cells w3 g 1 ((order.map qL++sp).drop 1):=ef.cells.part 1 (fun j u h=>by rwa [zvc]at h);have eU:d<n:=by rw[<- dg.len];exact(ztB.1 (dg.inn _ _ hd)).1
   obtain⟨r,hr⟩:∃ r,Pw[d]?=some r:=⟨_,ztn (by rw[hB.len];omega)⟩;obtain⟨bo,oo,cs,dF,dG,ej,ek,em⟩:=dz d r hr;obtain⟨rv,rfl,ra,rc,rfl,er,ew,dH⟩:=em;have dI:=dc.cells ek (hD bo dG);have eV:=hB.len;refine Gs 6 O (zqG O O (zpH tR27 ts3 O O (hF tO) tO) (zqK O tg3 (ei.el1 i O ee) (Gs 14 O (zqK O tg89 (dE.cells 1 _ O) (Gs 1 O (zqG O O (zpH tR89 ts27 O O dF tO) (zqK O tg27 (dI.el1 (cs:=[_]) 0 O O) (Gs 5 O (G.loop (σ:=Nat × Int) (fun⟨j,new⟩=>[(0,.pointer (some ⟨bw,0,none⟩)),(2,.int .i64 root),(3,.bool ch),(27,.slice ao1 (order.length - 1) (cap - 1)),(28,.int .i64 (order.length - 1:Nat)),(29,.int .i64 i),(5,.int .i64 d),(6,.int .i64 new),(39,.slice ra r.length rc),(40,.int .i64 r.length),(41,.int .i64 j)]) (fun⟨j,new⟩=>fun w'=>j<=r.length/\Ext w3 w'/\∃ ps:List Nat,(∀ p:Nat,p ∈ ps ↔ 0<=lk T p/\(p:Int) ∈ r.take j)/\((new=-1/\ps=[])\/∃ m:Nat,new=(m:Int)/\MeetAll T root ps m)) (fun⟨j,new⟩=>r.length - j) (0,-1) j2 ⟨ztC _,Keep.refl _ _,[],tR,.inl JL⟩ ?_)))))))));rintro⟨j,new⟩ w4 ⟨eW,db,ps,dJ,dm⟩;refine Gs 6 O (zqE O (fun eX=>?_) (fun eY=>?_))
   .
    obtain⟨y,hy⟩:∃ y,r[j]?=some y:=iA;obtain⟨p,rfl,ez⟩:=(hB.mem d r hr y).1 (zto hy)
    have eA:p<n:=by
     obtain⟨r',h1,_⟩:=ez;rw[<- hn];exact(ztB.1 h1).1
    obtain⟨be,oe,ce,eC,eD,eE,eF,rfl⟩:=dH j _ hy;have dK:=db.cells (dc.cells eF (hD be eD)) (fun h=>h);have dr:=db.blk dE (fun h=>h);have dZ:=db.blk eh (fun h=>h);have dt:=db.blk du (fun h=>h)
    have d5:∀ q:Nat,(q:Int) ∈ r.take (j+1) ↔ (q:Int) ∈ r.take j\/q=p:=by
     intro q;obtain⟨dL,eG⟩:=ztB.1 hy;rw[zwe dL,ztG,ztF,eG];constructor
     . grind
     grind
    refine Gs 6 O (zqG O O (zpH tR27 ts3 O O eC tO) (zqK O tg3 (dK.el1 (cs:=[_]) 0 O O) (Gs 9 O (zqK O tg27 (dr.cells 3 _ O) (Ga 2 O tO (zqK O tg3 (dZ.cells.el1 p O (qU (zgd (by rw[dg.len];exact eA)))) (Gs 2 O (zqC (p:=0<=lk T p) (fun dx=>?_) (fun dx=>?_)))))))))
    .
     have eZ:=dh.up.proc p dx;refine G.yes O O (ztA tO) (Gs 1 O (G.yes O O (ztA tO) (Gs 1 O (G.yes O O (ztA tO) (Gs 1 O (G.yes O O (ztA tO) (zqK O tg27 (dr.cells 4 _ O) (G.yes O O (ztA tO) (Gs 1 O (G.yes O O (ztA tO) (Ga 1 O tO (G.yes O O (ztA tO) (zqK O tg3 (dt.cells.el1 p O (qU (zgd tO))) (G.yes O O (ztA tO) (Gs 1 O (zqG O O (zpC O (ztA tO) O) ?_))))))))))))))));refine Gs 3 O (G.ff O (ztA tO) (Gs 7 O (zqE O (fun eH=>?_) (fun eH=>?_))))
     .
      have dM:ps=[]:=by
       grind
      subst dM;refine Ga 11 O tO (G.back (j+1,(p:Int)) j2 ⟨tO,db,[p],?_,.inr ⟨p,rfl,.one dx⟩⟩ tD);intro q;rw[ztF,d5];have:=dJ q;constructor
      . grind
      grind
     obtain⟨m,rfl,hm⟩:∃ m:Nat,new=(m:Int)/\MeetAll T root ps m:=by
      grind
     refine Gs 4 O (G.call O call181 (znl w4 dh.up.toChain dr dZ dt dg.len dY m p hm.ok dx) ?_);rintro _ w5 ⟨m',rfl,eI,eJ,dN⟩;refine Ga 9 O tO (G.back (j+1,(m':Int)) j2 ⟨tO,db.ext dN,ps++[p],?_,.inr ⟨m',rfl,hm.step eI eJ⟩⟩ tD);intro q;rw[ztG,ztF,d5,dJ];constructor
     . grind
     grind
    have da:∀ q:Nat,q ∈ ps ↔ 0<=lk T q/\(q:Int) ∈ r.take (j+1):=by
     grind
    refine zqC (p:=lk pl p<0) (fun hY=>?_) (fun hY=>?_)
    . refine G.no O O (ztz hY) O (G.no O O (ztz hY) O (G.no O O (ztz hY) O (G.no O O (ztz hY) O (G.no O O (ztz hY) O (G.no O O (ztz hY) O (G.no O O (ztz hY) O (G.no O O (ztz hY) O (zqG O O (zpB O (ztz hY) O) (Gs 3 O (zp6 O rfl (Ga 8 O tO (G.back (j+1,new) j2 ⟨tO,db,ps,da,dm⟩ tD))))))))))))
    refine G.yes O O (ztA hY) (Gs 1 O (G.yes O O (ztA hY) (Gs 1 O (G.yes O O (ztA hY) (Gs 1 O (G.yes O O (ztA hY) (zqK O tg27 (dr.cells 4 _ O) (G.yes O O (ztA hY) (Gs 1 O (G.yes O O (ztA hY) (Ga 1 O tO (G.yes O O (ztA hY) (zqK O tg3 (dt.cells.el1 p O (qU (zgd tO))) (G.yes O O (ztA hY) (Gs 1 O (zqG O O (zpC O (ztA hY) O) (Gs 3 O (zp6 O (ztz tO) ?_))))))))))))))))));refine Ga 8 O tO (G.back (j+1,new) j2 ⟨tO,db,ps,da,dm⟩ tD)
   have dO:j=r.length:=tO;subst dO
   have da:∀ p,p ∈ ps ↔ 0<=lk T p/\Dfs.Edge Rw p d:=by
    intro p;rw[dJ,zts,hB.mem d r hr];constructor
    .
     rintro⟨h1,a,h2,h3⟩;have:=Int.ofNat.inj h2;subst this;exact⟨h1,h3⟩
    rintro⟨h1,h2⟩;exact⟨h1,p,rfl,h2⟩
   obtain⟨fb,_,fe,dQ,eK⟩:=dh.facts hO dg hd da
   obtain⟨m,rfl,hm⟩:∃ m:Nat,new=(m:Int)/\MeetAll T root ps m:=by
    rcases dm with⟨_,h⟩ | h
    . exact absurd h dQ
    exact h
   have dr:=db.blk dE (fun h=>h);have dt:=db.blk du (fun h=>h);refine Gs 10 O (zqK O tg27 (dr.cells 4 _ O) (Ga 2 O tO (zqK O tg3 (dt.cells.el1 d O (qU (zgd tO))) (Gs 4 O ?_))));have d6:i+1+1<=order.length:=(ztB.1 hd).1;refine zqE O (fun dR=>?_) (fun dS=>?_)
   .
    refine Gs 4 O (zqK O tg27 (dr.cells 4 _ O) (Ga 3 O tO (zpT O (M.store ts3 O O O O dt tX) ?_)));rintro w5 ⟨fg,d7,dN⟩;rw[show 0+(d:Int).toNat*1=d from tO,<- zvB]at d7;refine Ga 8 O tO (G.back (i+1,true,T.set d (m:Int)) j2 ⟨dh.change hO dg ec hK hd da hm dR,d6,d7,(dc.ext db).trans dN (fun _ _ h=>h)⟩ (by show order.length - (i+1)<order.length - i;omega))
   refine Ga 7 O tO (G.back (i+1,ch,T) j2 ⟨dh.same hO dg hd da hm (by simpa using dS),d6,dt,dc.ext db⟩ tZ)
  refine Gs 5 O (G.back (k+1,ch,T) j2 ⟨dh.last hO tO,du,dc⟩ (?_));dsimp only;cases ch with
  | true=>have:=dh.big rfl;simp;omega
  | false=>simp;omega
 have dT:ch=false:=by simpa using dC
 subst dT;have hS:=hL.solved hO dg hroot;have dY:=hL.len;have dD:=dw.blk hW dl;refine Gs 9 O (zqK O tg27 (dD.cells 4 _ O) (Ga 2 O tO (zpT O (M.store ts3 O O O O dX tX) ?_)));rintro w3 ⟨fm,du,dc⟩;rw[show 0+(root:Int).toNat*1=root from tO,<- zvB]at du;refine Gs 1 O (zpz results147 ⟨_,rfl,rfl,_,hS,du,dw.trans dc (fun _ _ h=>h)⟩)
end Go.Proofs.YtckdhgbepmpgiaaGreat
namespace Go.GL
theorem ztc {R:Rel α} {l:List α} (hk:0<k) (hR:∀ x cs,R D w x cs->R (fun b=>D b/\b<w.heap.size) w x cs) (h:SlR k R D w v l):SlR k R (fun b=>D b/\b<w.heap.size) w v l:=by
 obtain⟨ao,c,rfl,h1,h2,h3⟩:=h;refine⟨ao,c,rfl,h1,h2,fun i x hx=>?_⟩;obtain⟨b,o,cs,h4,h5,h6,h7,h8⟩:=h3 i x hx;refine⟨b,o,cs,h4,⟨h5,?_⟩,h6,h7,hR x cs h8⟩;have h9:=h7 0 cs[0] (ztn tO);exact ztp w _ h9
end Go.GL
namespace Go.Proofs.YtckdhgbepmpgiaaGreat
open Go.GL Go.GL.Dom Go.GL.Dfs
structure Prep (B:Nat) (w:World) (n root:Nat) (es:List (Int × Int)) (bw:Nat) (Rw Pw:List (List Int)) (order:List Nat) (pl T:List Int) (nv bv ov:Value) (bp bt:Nat):Prop where
 hn:n<=4096
 hroot:root<n
 rows:Dfs.Rows Rw
 succ:Succs n es Rw
 back:BackRows Rw Pw
 ord:Dfs.Order Rw root order
 place:Dfs.Place n order pl
 sol:Solved Rw root n pl T
 hw:Blk w bw [nv,bv,ov,.slice (some ⟨bp,0,none⟩) n n,.slice (some ⟨bt,0,none⟩) n n] 175
 hnv:SlR 1 (RSl 1 zv) (fun b=>B<=b) w nv Rw
 hbv:SlR 1 (RSl 1 zv) (fun b=>B<=b) w bv Pw
 hov:w.ownsRow 0 3 1 ov order.length (order.map qL)
 hog:∀ g,ov.ownBlock=some g->B<=g
 hP:Blk w bp (pl.map (.int .i64)) 3
 hT:Blk w bt (T.map (.int .i64)) 3
 ge:B<=bw/\B<=bp/\B<=bt
def yo (n:Int) (es:List (Int × Int)) (root:Int):Int:=if Gr.check n es ≠ 0 then Gr.check n es else if root<0\/n<=root then 3 else 0
theorem zjY {n:Nat} (h:Succs n es Rw) (hc:es.all (Gr.okE n)=true):Dfs.Rows Rw:=by
 refine⟨fun a r hr y hy=>?_⟩;have h1:=(h.mem a r hr y).1 hy;have h2:=zuB.1 hc _ h1;simp[Gr.okE]at h2;refine⟨y.toNat,tO,?_⟩;rw[h.len];omega
structure Half (Rw:List (List Int)) (a j:Nat) (rows:List (List Int)):Prop where
 len:rows.length=Rw.length
 mem:∀ (b:Nat) r,rows[b]?=some r->∀ y:Int,y ∈ r ↔ ∃ c:Nat,y=(c:Int)/\((c<a/\Dfs.Edge Rw c b)\/(c=a/\∃ r',Rw[a]?=some r'/\(b:Int) ∈ r'.take j))
 short:∀ (b:Nat) r,rows[b]?=some r->r.length<=a+1/\((∀ ra,Rw[a]?=some ra->(b:Int) ∉ ra.take j)->r.length<=a)
theorem Half.start (Rw:List (List Int)):Half Rw 0 0 (List.replicate Rw.length []):=by
 refine⟨tR,fun b r hr y=>?_,fun b r hr=>?_⟩
 . grind
 grind
theorem Half.next (h:Half Rw a ra.length rows) (hY:Rw[a]?=some ra):Half Rw (a+1) 0 rows:=by
 refine⟨h.len,fun b r hr y=>?_,fun b r hr=>?_⟩
 .
  rw[h.mem b r hr y];constructor
  .
   rintro⟨c,rfl,h1 | ⟨rfl,r',h2,h3⟩⟩
   . grind
   rw[hY]at h2;cases h2;rw[zts]at h3;exact⟨c,rfl,.inl ⟨tO,ra,hY,h3⟩⟩
  rintro⟨c,rfl,⟨h1,h2⟩ | ⟨_,r',_,h3⟩⟩
  .
   by_cases e:c=a
   .
    subst e;obtain⟨r',h3,h4⟩:=h2
    grind
   grind
  grind
 have h5:=h.short b r hr;omega
theorem Half.push (h:Half Rw a j rows) (hY:Rw[a]?=some ra) (hj:ra[j]?=some (b:Int)) (hs:ra.Pairwise (·<·)) (hr:rows[b]?=some r):Half Rw a (j+1) (rows.set b (r++[(a:Int)])):=by
 obtain⟨da,dc⟩:=ztB.1 hj
 have db:∀ y,y ∈ ra.take (j+1) ↔ y ∈ ra.take j\/y=(b:Int):=by
  intro y;rw[zwe da,ztG,ztF,dc]
 refine⟨by rw[zvu];exact h.len,fun d q hq y=>?_,fun d q hq=>?_⟩
 .
  by_cases e:b=d
  .
   subst e;rw[zvk (ztB.1 hr).1]at hq;cases hq;rw[ztG,ztF,h.mem b r hr y];constructor
   . grind
   grind
  rw[zvj e]at hq;rw[h.mem d q hq y];constructor
  . grind
  grind
 by_cases e:b=d
 .
  subst e;rw[zvk (ztB.1 hr).1]at hq;cases hq
  have h5:=(h.short b r hr).2 (fun ra' h6 h7=>by
   rw[hY]at h6;cases h6;obtain⟨k,hk,dg⟩:=zvG.1 h7;rw[ztR]at hk;rw[List.getElem_take]at dg;have:=zvV.1 hs k j tO da tO
   omega)
  rw[ztv,ztI];refine⟨tO,fun h6=>absurd ((db _).2 (.inr O)) (h6 ra hY)⟩
 rw[zvj e]at hq;have h5:=h.short d q hq;refine⟨h5.1,fun h6=>h5.2 (fun ra' h7 h8=>?_)⟩;rw[hY]at h7;cases h7;exact h6 ra hY ((db _).2 (.inl h8))
theorem Half.back (h:Half Rw Rw.length 0 rows):BackRows Rw rows:=by
 refine⟨h.len,fun b r hr y=>?_,fun b r hr=>(h.short b r hr).2 (fun ra _=>tR)⟩;rw[h.mem b r hr y];constructor
 . grind
 rintro⟨c,rfl,h1⟩;obtain⟨r',h2,h3⟩:=h1;exact⟨c,rfl,.inl ⟨(ztB.1 h2).1,r',h2,h3⟩⟩
set_option maxRecDepth 100000 in
theorem zdd (n root:Int) (es:List (Int × Int)) (ev:Value) (D:Nat->Prop) (w:World) (eI:SlR 2 xu D w ev es):Calls prog 99 #[.agg #[.int .i64 n,ev],.int .i64 root] w (Ret fun v w'=>∃ u,v=.tuple #[u,.int .i64 (yo n es root)]/\(yo n es root ≠ 0->u=.pointer none)/\(yo n es root=0->∃ bw Rw Pw order pl T nv bv ov bp bt,u=.pointer (some ⟨bw,0,none⟩)/\Prep w.heap.size w' n.toNat root.toNat es bw Rw Pw order pl T nv bv ov bp bt)/\Ext w w'):=by
 have d6:=eI;obtain⟨ao,cap,rfl,_⟩:=d6;refine zqR func99 O ntmps99 O (Gs 2 O (G.mem O O (M.box O O) ?_));rintro _ w1 ⟨b,rfl,hb,fK,eJ,d7⟩;refine Gs 6 O (zqM O tg126 ts126 eJ.cells O (G.call O call144 (ze2 n es _ D w1 (eI.ext zW d7)) ?_));rintro _ w2 ⟨u,rfl,fL,eS,eK⟩;have dF:=d7.ext eK;have eL:=eK.blk eJ (fun h=>h);refine Gs 14 O (zqE O (fun hc=>?_) (fun hc=>?_))
 .
  have da:yo n es root=Gr.check n es:=by unfold yo;rw[zty hc]
  refine Gs 9 O (zpn tr99 O O ⟨_,rfl,.pointer none,tD,fun _=>rfl,fun h=>absurd (da ▸ h) hc,dF⟩)
 have eM:Gr.check n es=0:=by simpa using hc
 obtain⟨h1,h2,h3,h4⟩:=Gr.check_zero eM;obtain⟨m,rfl⟩:=zul h1;refine Gs 8 O (zqC (p:=root<0) (fun db=>?_) (fun db=>?_))
 .
  have da:yo m es root=3:=by unfold yo;rw[ztx tO,zty (.inl db)]
  refine G.no O O (ztz db) O (G.no O O (ztz db) O (G.no O O (ztz db) O (G.no O O (ztz db) O (zqG O O (zpB O (ztz db) O) (Gs 2 O (zp6 O rfl (Gs 8 O UT)))))))
 refine G.yes O O (ztA db) (Gs 1 O (G.yes O O (ztA db) (Gs 1 O (G.yes O O (ztA db) (zqK O tg3 (eL.cells 0 _ O) (G.yes O O (ztA db) (Gs 1 O (zqG O O (zpC O (ztA db) O) (Gs 2 O (zqE O (fun eT=>?_) (fun eT=>?_)))))))))))
 .
  have da:yo m es root=3:=by unfold yo;rw[ztx tO,zty (.inr tO)]
  refine Gs 8 O UT
 have da:yo m es root=0:=by unfold yo;rw[ztx tO,ztx tO]
 obtain⟨rt,rfl⟩:=zul (by omega:0<=root);obtain⟨Rw,hR,hu⟩:=eS eM;simp only[ztJ]at hR;have hY:=zjY hR h4;have eU:=hu;obtain⟨an,cn,rfl,fM,fN,d8⟩:=eU;have dY:=hR.len;have eN:m<=4096:=tO;refine Gs 3 O (Dw (fun w'=>Blk w' b [.int .i64 m,.slice ao es.length cap] 126) [] (fun w3 du fO=>?_));have dG:=du.blk eL (fun h=>h);refine Ds [0,1] tK O (WD.take 2 O tK O O O dG (fun w1 dc=>R.load tg3 O (dc.cells 0 _ O)) (Ds [4] tK O (WD.take 5 O tK O O O dG (fun w1 dc=>R.load tg3 O (dc.cells 0 _ O)) (Ds [7] tK O (WD.take 8 O tK O O O dG (fun w1 dc=>R.load tg3 O (dc.cells 0 _ O)) (zqs (Ri:=fun w v w'=>∃ b,v=.slice (some ⟨b,0,none⟩) m m/\New w (List.replicate m (.slice none 0 0)) 27 b w') (Rj:=fun w v w'=>∃ b,v=.slice (some ⟨b,0,none⟩) m m/\w.heap.size<=b/\Blk w' b (List.replicate m (.int .i64 (-1))) 3/\Ext w w') (Rk:=fun w v w'=>∃ b,v=.slice (some ⟨b,0,none⟩) m m/\w.heap.size<=b/\Blk w' b (List.replicate m (.int .i64 (-1))) 3/\Ext w w') 3 6 9 O O O tK tK tK tK tK tK O O O O O O O O O O O O O O O O O O (fun w' dZ=>dZ.blk dG (fun h=>h)) (fun w' dZ=>?_) (fun w' dZ=>?_) (fun w' dZ=>?_) ?_ ?_ ?_ ?_))))))
 . exact .of (zpV tu89 Tryz.el27 O O tO tO (zcp m))
 . exact .call (F.call (vs:=[_]) call145 O) (zeC m tO w')
 . exact .call (F.call (vs:=[_]) call145 O) (zeC m tO w')
 .
  rintro a v a' ⟨b,rfl,hN⟩;exact⟨hN.2.2.2,b,rfl,by have:=hN.1;omega,by have:=hN.1;have:=hN.2.1;omega⟩
 .
  rintro a v a' ⟨b,rfl,hN,hB,hk⟩;exact⟨hk,b,rfl,hN,hB.lt⟩
 .
  rintro a v a' ⟨b,rfl,hN,hB,hk⟩;exact⟨hk,b,rfl,hN,hB.lt⟩
 rintro _ _ _ w4 d9 ⟨a1,a1',k1,⟨bo,rfl,eO⟩,k1'⟩ ⟨a2,a2',k2,⟨bp,rfl,fP,eV,k2''⟩,k2'⟩ ⟨a3,a3',k3,⟨bt,rfl,fQ,eW,k3''⟩,k3'⟩ eX eY eZ;have dy:=k1'.blk eO.2.2.1 (fun h=>h);have dH:=k2'.blk eV (fun h=>h);have dI:=k3'.blk eW (fun h=>h);have eP:bo ≠ bp:=fun h=>eX (by rw[h]);have fb:bo ≠ bt:=fun h=>eY (by rw[h]);have eb:bp ≠ bt:=fun h=>eZ (by rw[h]);have fR:w3.heap.size<=bo:=by have:=eO.1;have:=k1.size;omega
 have fS:w3.heap.size<=bp:=by have:=k2.size;omega
 have fT:w3.heap.size<=bt:=by have:=k3.size;omega
 refine zq6 10 O tK O O O (fun w1=>R.build (v:=.agg #[.slice an Rw.length cn,.slice (some ⟨bo,0,none⟩) m m,.slice none 0 0,.slice (some ⟨bp,0,none⟩) m m,.slice (some ⟨bt,0,none⟩) m m]) [(0,_),(1,_),(3,_),(4,_)] O (fun _=>tK)) (WD.mem 11 O tK O O O (M.box O O) ?_);rintro _ w5 ⟨bw,rfl,fU,fV,ec,dJ⟩;refine⟨fun _=>(d9.ext dJ).blk dG (fun h=>h),?_⟩;refine Ds [12] tK O (G.done tK ?_ _);refine Gs 10 O ?_;have fe:=du.size;have fg:=d9.size;have ed:Ext w3 w5:=d9.ext dJ
 have fm:Mat (Value.int .i64) 3 27 w5.heap.size w5 bo (List.replicate m (.slice none 0 0)) (List.replicate Rw.length ([]:List Int)):=by
  rw[dY];exact Mat.start (dJ.blk dy (fun h=>h))
 have dz:bw ≠ bo:=by have:=dy.lt;omega
 have fp:bo<w5.heap.size:=by have:=dy.lt;omega
 refine G.loop (σ:=Nat × List Value × List (List Int)) (fun⟨a,rv,rows⟩=>[(8,.pointer (some ⟨bw,0,none⟩)),(1,.int .i64 rt),(41,.slice an Rw.length cn),(42,.int .i64 Rw.length),(43,.int .i64 a)]) (fun⟨a,rv,rows⟩=>fun w'=>a<=Rw.length/\Half Rw a 0 rows/\Mat (Value.int .i64) 3 27 w5.heap.size w' bo rv rows/\Keep (fun q=>q=bo) w5 w') (fun⟨a,rv,rows⟩=>Rw.length - a) (0,List.replicate m (.slice none 0 0),List.replicate Rw.length []) j2 ⟨ztC _,Half.start Rw,fm,Keep.refl _ _⟩ ?_;rintro⟨a,rv,rows⟩ w6 ⟨fW,hH,hM,dA⟩;refine Gs 6 O (zqE O (fun dK=>?_) (fun fX=>?_))
 .
  obtain⟨r,hr⟩:∃ r,Rw[a]?=some r:=iA;obtain⟨b1,o1,cs1,ee,fq,ft,fu,fw⟩:=d8 a r hr;obtain⟨rv1,rfl,ra,rc,rfl,fy,fA,ef⟩:=fw;have eh:=(fu.same (fun dK=>by rw[dA.block b1 (by have:=du.size;omega) tO,ed.block b1 tO (fun h=>h),du.block b1 dK (fun h=>h)]));refine Gs 7 O (zqG O O (zpH tR89 ts27 O O ee tO) (zqK O tg27 (eh.el1 (cs:=[_]) 0 O O) (Gs 12 O ?_)))
  have fY:r.length<=4096:=by
   have h5:=nodup_le m (r.map Int.toNat) (by
    rw[List.Nodup,zvW];refine(hR.sorted a r hr).imp_of_mem ?_;intro x y hx hy fZ;obtain⟨q,rfl,_⟩:=hY.ok a r hr x hx;obtain⟨q',rfl,_⟩:=hY.ok a r hr y hy;omega) (by
    intro x hx;obtain⟨y,hy,rfl⟩:=zvI.1 hx;obtain⟨q,rfl,hq⟩:=hY.ok a r hr y hy
    omega)
   rw[ztH]at h5;omega
  refine G.loop (σ:=Nat × List Value × List (List Int)) (fun⟨j,rv,rows⟩=>[(8,.pointer (some ⟨bw,0,none⟩)),(1,.int .i64 rt),(41,.slice an Rw.length cn),(42,.int .i64 Rw.length),(43,.int .i64 a),(9,.int .i64 a),(48,.slice ra r.length rc),(49,.int .i64 r.length),(50,.int .i64 j)]) (fun⟨j,rv,rows⟩=>fun w'=>j<=r.length/\Half Rw a j rows/\Mat (Value.int .i64) 3 27 w5.heap.size w' bo rv rows/\Keep (fun q=>q=bo) w5 w') (fun⟨j,rv,rows⟩=>r.length - j) (0,rv,rows) j2 ⟨ztC _,hH,hM,dA⟩ ?_;rintro⟨j,rv,rows⟩ w7 ⟨f0,dL,dB,dr⟩;refine Gs 6 O (zqE O (fun f5=>?_) (fun f7=>?_))
  .
   obtain⟨y,hy⟩:∃ y,r[j]?=some y:=iA;obtain⟨b,rfl,f8⟩:=hY.ok a r hr y (zto hy);obtain⟨be,oe,ce,fB,f9,fC,fD,rfl⟩:=ef j _ hy;have ei:=(fD.same (fun dK=>by rw[dr.block be (by have:=du.size;omega) tO,ed.block be tO (fun h=>h),du.block be dK (fun h=>h)]));have dt:=dr.blk ec dz;have hm:=Mat.at (i:=b) dB (by rw[dL.len];omega);obtain⟨v,q,hv,hq⟩:=hm;refine Gs 6 O (zqG O O (zpH tR27 ts3 O O fB tO) (zqK O tg3 (ei.el1 (cs:=[_]) 0 O O) (Gs 3 O (Dw (fun w'=>Blk w' bw [.slice an Rw.length cn,.slice (some ⟨bo,0,none⟩) m m,.slice none 0 0,.slice (some ⟨bp,0,none⟩) m m,.slice (some ⟨bt,0,none⟩) m m] 175/\Blk w' bo rv 27) [16] (fun w8 d5 gc=>?_)))));have dg:=d5.blk dt (fun h=>h);have dM:=dB.ext d5;refine Ds [0,1,2] tK O (WD.take 3 O tK O O O ⟨dg,dM.out⟩ (fun w1 dc=>R.load tg89 O (dc.1.cells 1 _ O)) (Ds [4,5,6,7] tK O (WD.take 8 O tK O O O ⟨dg,dM.out⟩ (fun w1 dc=>R.load tg89 O (dc.1.cells 1 _ O)) (Da [9,10] tK O tO (WD.take 11 O tK O O O ⟨dg,dM.out⟩ (fun w1 dc=>R.load tg27 O (dc.2.cells.el1 b O hv)) (Ds [12] tK O (WD.mem 13 O tK O O O (M.buildSlice (cs:=[.int .i64 a]) [(0,_)] tR27 ts3 tz3 tS O tK) ?_)))))));rintro _ w9 ⟨b9,rfl,gf,gh,fE,dE⟩;refine⟨fun _=>⟨dE.blk dg (fun h=>h),dE.blk dM.out (fun h=>h)⟩,?_⟩;have dC:=dM.ext dE;have ej:=dC.row b v q hv hq;have fF:=dL.short b q hq;have gl:q.length<=20000:=by have:=fF.1;omega
   refine WD.mem 14 O tK O O O (M.append tu27 Tryz.el3 O tS O O ej O (Cells.add fE.cells) (by simp;rfl) tO tO) ?_;rintro v' w10 ⟨dh,dN,dl,_⟩;obtain⟨av,cv,rfl⟩:=zI dh;have dw:v.ownBlock ≠ some bo:=fun h=>(dC.far b v bo hv h).2 rfl;have dO:v.ownBlock ≠ some bw:=fun h=>by have:=(dC.far b v bw hv h).1;have:=ec.lt;omega
   have dQ:=dl.blk (dE.blk dg (fun h=>h)) dO;refine⟨fun _=>⟨dQ,dl.blk dC.out dw⟩,?_⟩;refine Da [15] tK O tO (zpS 16 O tK O O (M.store ts27 O O O O (dl.blk dC.out dw) (by rw[dC.len,dL.len];omega)) ?_);rintro w11 dD;refine⟨fun h=>absurd (ztF.2 O) h,?_⟩;rw[show 0+(b:Int).toNat*1=b from tO]at dD;have dR:Keep (fun q=>v.ownBlock=some q\/q=bo) w9 w11:=(dl.mono (fun _ _ h=>.inl h)).trans dD.2.2 (fun _ _ h=>.inr h);have dS:Keep (fun q=>v.ownBlock=some q\/q=bo) w7 w11:=((d5.ext dE).mono (fun _ _ h=>h.elim)).trans dR (fun _ _ h=>h);refine G.done tK ?_ _;refine Ga 6 O tO (G.back (j+1,rv.set b (.slice av (q.length+1) cv),rows.set b (q++[(a:Int)])) j2 ⟨tO,dL.push hr hy (hR.sorted a r hr) hq,?_,?_⟩ tZ)
   . exact dC.push (by have:=dE.size;have:=d5.size;have:=dr.size;omega) hv hq dh dN dl dD
   exact dr.trans dS (fun q' gq h=>by
    rcases h with h | h
    . have:=(dB.far b v q' hv h).1;omega
    .
     exact h)
  have ek:j=r.length:=tO;subst ek;refine Ga 10 O tO (G.back (a+1,rv,rows) j2 ⟨tO,dL.next hr,dB,dr⟩ tZ)
 have em:a=Rw.length:=tO;subst em;have eQ:=hH.back;have er:=dA.blk ec dz;have ew:=dA.blk (dJ.blk dH (fun h=>h)) (fun h=>eP h.symm);have ez:=dA.blk (dJ.blk dI (fun h=>h)) (fun h=>fb h.symm);have dT:Keep (fun q=>q=bo) w3 w6:=(ed.mono (fun _ _ h=>h.elim)).trans dA (fun _ _ h=>h);have eA:Keep (fun q=>q=bo) w2 w6:=(du.mono (fun _ _ h=>h.elim)).trans dT (fun _ _ h=>h)
 have eC:=(ztc tS (fun x cs h=>by
  obtain⟨v,h1,h2⟩:=h
  exact⟨v,h1,ztc tS (fun _ _ h=>h) h2⟩) hu).keep (zP zc) eA (fun q hq dK h=>by have h2:q<w2.heap.size:=hq.2;have h3:q=bo:=h;omega)
 have fG:=dH.lt;have fH:=dI.lt;refine Gs 9 O (G.call O call146 (zjW Rw rt m bw bp _ _ _ (fun b=>w1.heap.size<=b/\b<w2.heap.size) w6 hY dY eN tO hR.sorted eC (fun q hq=>tO) tO er ew) ?_);rintro _ w7 ⟨rfl,order,pl,ov,hO,eR,dt,dU,eD,dV,dr⟩;have eE:Keep (fun q=>q=bo\/q=bw\/q=bp) w3 w7:=(dT.mono (fun _ _ h=>.inl h)).trans dr (fun _ _ h=>.inr h)
 have dB:=hM.keep dr (fun h=>h.elim (fun h=>dz h.symm) eP) (fun i v q hv hq h=>by
  have:=(hM.far i v q hv hq).1
  rcases h with h | h<;>omega)
 have eF:=dr.blk ez (fun h=>h.elim (fun h=>tO) (fun h=>eb h.symm))
 have dW:SlR 1 (RSl 1 zv) (fun q=>q=bo\/w5.heap.size<=q) w7 (.slice (some ⟨bo,0,none⟩) m m) rows:=by
  refine dB.sl j1 (.inl O) (fun i v g hv hg=>.inr (dB.far i v g hv hg).1) ?_ ?_ tO
  . rw[hH.len];exact dY.symm
  rw[hH.len];omega
 have fI:=dA.size;have dm:∀ g,ov.ownBlock=some g->w5.heap.size<=g:=fun g hg=>by have:=eD g hg;omega
 refine Gs 5 O (G.call O call147 (zlQ Rw rows rt m bw bp bt _ _ _ order pl (fun q=>q=bo\/w5.heap.size<=q) w7 dY tO hO eR eQ dW (fun q hq=>by rcases hq with h | h<;>omega) dt dU (fun g hg=>by have:=dm g hg;omega) dV eF tO eb) ?_);rintro _ w8 ⟨rfl,T,hS,eG,dX⟩;have fJ:bw ≠ bt:=tO;have eH:Keep (fun q=>q=bo\/q=bw\/q=bp\/q=bt) w3 w8:=(eE.mono (fun _ _ h=>by rcases h with h | h | h<;>simp[h])).trans dX (fun _ _ h=>.inr (.inr (.inr h)));have dx:Ext w2 w8:=du.trans eH (fun q hq h=>by rcases h with h | h | h | h<;>omega);refine Gs 10 O ?_;rw[da];refine zpn tr99 O O ⟨_,rfl,.pointer (some ⟨bw,0,none⟩),rfl,fun h=>absurd O h,fun _=>⟨bw,Rw,rows,order,pl,T,.slice an Rw.length cn,.slice (some ⟨bo,0,none⟩) m m,ov,bp,bt,rfl,?_⟩,dF.ext dx⟩;have dc:=dF.size;refine⟨eN,tX,hY,hR,eQ,hO,eR,hS,dX.blk dt fJ,?_,?_,?_,?_,dX.blk dV eb,eG,?_⟩
 . exact(hu.ext (zP zc) dx).wide (zP zc) (fun b h=>by have:=d7.size;omega)
 . exact(dW.keep (zP zc) dX (fun q hq _ h=>by rcases hq with h' | h'<;>omega)).wide (zP zc) (fun b h=>by rcases h with h | h<;>omega)
 . exact zj dU dX (fun g hg h=>by have:=dm g hg;omega)
 . exact fun g hg=>by have:=dm g hg;omega
 omega
open Go.GL
theorem zfq (es:List Int) (v:Value) (D:Nat->Prop) (w:World) (dl:SlR 1 zv D w v es) (dm:es.length<=1048576):Calls prog 101 #[v] w (Ret fun u w'=>w'.ownsRow 0 3 1 u es.length (es.flatMap zdx)/\(∀ g,u.ownBlock=some g->w.heap.size<=g)/\Ext w w'):=by
 obtain⟨ao,cap,rfl,dw,dx,dc⟩:=dl;refine zqQ func101 O ntmps101 O (Gs 9 O (zqG O O (zqe tu27 O) (Gs 2 O (zqF O (fun h=>?_) (fun h=>?_)))))
 .
  refine Gs 7 O ?_
  have:es=[]:=by
   cases es with
   | nil=>rfl
   | cons x r =>
    obtain⟨b,o,cs,da,_⟩:=dc 0 x rfl;rw[da]at h;cases h
  subst this;refine zpk results101 O ⟨_,rfl,qq _ _ _,by simp[Value.ownBlock],Keep.refl _ _⟩
 obtain⟨a0,rfl⟩:∃ a0,ao=some a0:=by cases ao with
  | none=>cases h
  | some a0=>exact⟨a0,rfl⟩
 refine Gs 4 O (G.mem O O (zqf tR27 ts3) ?_);rintro _ w1 ⟨b,rfl,hb,hs,hB,hk⟩;refine Gs 1 O ?_;have db:w1.ownsRow 0 3 1 (.slice (some ⟨b,0,none⟩) 0 0) 0 []:=zG hB (ztM _) tO rfl
 have hY:∀ q u,(es.flatMap zdx)[q]?=some u->w1.cell? (a0.add q)=some u:=by
  intro q u hq;have dy:q<es.length*1:=by rw[<- qP];exact(ztB.1 hq).1
  obtain⟨x,hx⟩:∃ x,es[q / 1]?=some x:=iA;obtain⟨b',o',cs,da,_,dz,dr,rfl⟩:=dc (q / 1) x hx;cases da;have h1:∃ u',(zdx x)[q % 1]?=some u':=⟨_,ztn (by rw[xW];omega)⟩;obtain⟨u',dg⟩:=h1;have h2:=zbo xW hx [] (q % 1) u' dg;rw[zuF,show q / 1*1+q % 1=q from tO,hq]at h2;cases h2;have h3:=dr (q % 1) u dg;rw[xg];rw[show o'+q / 1*1+q % 1=o'+q from tO]at h3;exact hk.cell h3 (fun h=>h)
 refine G.mem O O (M.append tu27 Tryz.el3 O tS O O db (qP es) hY (by intro u hu;obtain⟨x,_,hx⟩:=zvF.1 hu;rw[ztF.1 hx];rfl) tO tO) ?_;rintro u w2 ⟨dh,dt,du,_⟩;refine Gs 4 O (zpk results101 O ⟨_,rfl,tD,?_,hk.trans du (fun q hq h=>by simp[Value.ownBlock]at h;omega)⟩);intro g hg;rcases dt with h' | ⟨g',h',h''⟩
 . rw[h']at hg;simp[Value.ownBlock]at hg;omega
 grind
end Go.Proofs.YtckdhgbepmpgiaaGreat
namespace Go.GL.Dom
open Go.GL.Dfs
section
variable {n:Nat}
theorem Solved.up (h:Solved R root n pl T) (hb:Dfs.Reach R root b) (hd:Dom R root x b):x=b\/∃ p:Nat,b ≠ root/\T[b]?=some (p:Int)/\Dom R root x p/\lk pl p<lk pl b/\Dfs.Reach R root p:=by
 by_cases e:x=b
 . omega
 have hY:b ≠ root:=by rintro rfl;exact e (zt8 hd)
 obtain⟨p,h1,h2,h3,h4,h5,h6⟩:=h.idom b hb hY
 grind
theorem xT (hO:Order R root order) (hP:Dfs.Place n order pl) (hb:Dfs.Reach R root b):0<=lk pl b:=by
 obtain⟨i,hi⟩:=zvH.1 ((hO.mem b).2 hb);rw[xS (hP.inn i b hi)];omega
theorem Solved.before (h:Solved R root n pl T) (hO:Order R root order) (hP:Dfs.Place n order pl):∀ (k:Nat) {x b:Nat},lk pl b<=k->Dfs.Reach R root b->Dom R root x b->x=b\/lk pl x<lk pl b
 | k,x,b,hk,hb,hd=>by
  rcases h.up hb hd with h1 | ⟨p,h1,h2,h3,h4,h5⟩
  . omega
  have h6:=xT hO hP h5
  match k with
  | 0=>omega
  | k+1 =>
   rcases Solved.before h hO hP k tO h5 h3 with h7 | h7
   . grind
   omega
theorem Solved.lt (h:Solved R root n pl T) (hO:Order R root order) (hP:Dfs.Place n order pl) (hb:Dfs.Reach R root b) (hd:Dom R root x b) (hY:x ≠ b):lk pl x<lk pl b :=
 (h.before hO hP (lk pl b).toNat tO hb hd).resolve_left hY
def Vis (R:List (List Int)) (root:Nat) (x:Int) (a y:Nat):Prop:=Dom R root y a/\∀ c:Nat,x=(c:Int)->¬ Dom R root y c
def zou (R:List (List Int)) (root:Nat) (b a y:Nat):Prop:=Dom R root y a/\¬ (y ≠ b/\Dom R root y b)
structure At (R:List (List Int)) (root:Nat) (T:List Int) (b a:Nat) (x:Int):Prop where
 pos:(x=-1/\lk T b=-1)\/∃ c:Nat,x=(c:Int)/\Dfs.Reach R root c/\Dom R root c a/\∀ q:Nat,lk T b=(q:Int)->Dom R root q c
theorem Solved.tree_or (h:Solved R root n pl T) (hb:Dfs.Reach R root b) (hY:b<n):(b=root/\lk T b=-1)\/∃ q:Nat,b ≠ root/\lk T b=(q:Int)/\q ≠ b/\Dom R root q b/\(∀ x,x ≠ b->Dom R root x b->Dom R root x q)/\Dfs.Reach R root q/\lk pl q<lk pl b:=by
 by_cases e:b=root
 . exact .inl ⟨e,xS (h.out b hY (.inr e))⟩
 obtain⟨p,h1,h2,h3,h4,h5,h6⟩:=h.idom b hb e;exact .inr ⟨p,e,xS h1,h2,h3,h4,h6,h5⟩
theorem At.start (h:Solved R root n pl T) (hY:Dfs.Edge R a b) (ha:Dfs.Reach R root a) (da:b<n):At R root T b a a:=by
 refine⟨.inr ⟨a,rfl,ha,Dom.refl a,fun q hq=>?_⟩⟩;rcases h.tree_or (.step ha hY) da with⟨_,h1⟩ | ⟨q',_,h1,h2,h3,_⟩
 . omega
 rw[h1]at hq;have:=Int.ofNat.inj hq;subst this;exact h3.pred h2 hY
theorem Vis.start (a y:Nat):¬ Vis R root a a y:=fun h=>h.2 a rfl h.1
theorem At.step (h:Solved R root n pl T) (hA:At R root T b a c) (db:(c:Int) ≠ lk T b) (hn:∀ x,Dfs.Reach R root x->x<n):At R root T b a (lk T c):=by
 rcases hA.pos with⟨h1,_⟩ | ⟨c',h1,h2,h3,h4⟩
 . omega
 have:=Int.ofNat.inj h1;subst this;rcases h.tree_or h2 (hn _ h2) with⟨e,h5⟩ | ⟨p,e,h5,h6,h7,h8,h9,_⟩
 .
  subst e;refine⟨.inl ⟨h5,?_⟩⟩;by_cases hb:0<=lk T b
  .
   obtain⟨q,hq⟩:=zul hb;have:=zt8 (h4 q hq);omega
  have:lk T b=-1:=by
   unfold lk at hb ⊢;cases hx:T[b]? with
   | none=>rfl
   | some x =>
    rw[hx]at hb;have hY:b<n:=by rw[<- h.len];exact(ztB.1 hx).1
    by_cases hr:Dfs.Reach R c b
    .
     by_cases da:b=c
     . have:=h.out b hY (.inr da);rw[hx]at this;simpa using this
     obtain⟨p,h1,_⟩:=h.idom b hr da
     grind
    have:=h.out b hY (.inl hr);rw[hx]at this;simpa using this
  exact this
 rw[h5];refine⟨.inr ⟨p,rfl,h9,h7.trans h3,fun q hq=>h8 q (fun e=>db tO) (h4 q hq)⟩⟩
theorem Vis.step (h:Solved R root n pl T) (hO:Order R root order) (hP:Dfs.Place n order pl) (hA:At R root T b a c) (hn:∀ x,Dfs.Reach R root x->x<n) (y:Nat):Vis R root (lk T c) a y ↔ Vis R root c a y\/y=c:=by
 rcases hA.pos with⟨h1,_⟩ | ⟨c',h1,h2,h3,_⟩
 . omega
 have:=Int.ofNat.inj h1;subst this;unfold Vis;rcases h.tree_or h2 (hn _ h2) with⟨e,h5⟩ | ⟨p,e,h5,h6,h7,h8,h9,db⟩
 .
  rw[h5];constructor
  .
   rintro⟨h6,_⟩;by_cases ey:y=c
   . omega
   refine .inl ⟨h6,fun c' hc hd=>?_⟩;have:=Int.ofNat.inj hc;subst this;subst e;exact ey (zt8 hd)
  grind
 rw[h5];constructor
 .
  rintro⟨hY,da⟩;by_cases ey:y=c
  . omega
  refine .inl ⟨hY,fun c' hc hd=>?_⟩;have:=Int.ofNat.inj hc;subst this;exact da p O (h8 y ey hd)
 rintro (⟨hY,da⟩ | rfl)
 .
  refine⟨hY,fun c' hc hd=>?_⟩;have:=Int.ofNat.inj hc;subst this;exact da c O (hd.trans h7)
 refine⟨h3,fun c' hc hd=>?_⟩;have:=Int.ofNat.inj hc;subst this;have:=h.lt hO hP h9 hd (fun e=>h6 e.symm);omega
theorem Vis.done (h:Solved R root n pl T) (hO:Order R root order) (hP:Dfs.Place n order pl) {x:Int} (hA:At R root T b a x) (hb:Dfs.Reach R root b) (hY:b<n) (hx:x<0\/x=lk T b) (y:Nat):Vis R root x a y ↔ zou R root b a y:=by
 unfold Vis zou;rcases h.tree_or hb hY with⟨e,h5⟩ | ⟨q,e,h5,h6,h7,h8,h9,dc⟩
 .
  have da:x=-1:=by
   rcases hA.pos with⟨h1,_⟩ | ⟨c',h1,_⟩
   . exact h1
   omega
  subst da;constructor
  .
   rintro⟨h1,_⟩;refine⟨h1,fun h2=>?_⟩;subst e;exact h2.1 (zt8 h2.2)
  grind
 have db:x=(q:Int):=by
  rcases hA.pos with⟨_,h1⟩ | ⟨c',h1,_⟩
  . omega
  omega
 subst db;constructor
 . grind
 rintro⟨h1,h2⟩;refine⟨h1,fun c hc hd=>?_⟩;have:=Int.ofNat.inj hc;subst this;refine h2 ⟨?_,hd.trans h7⟩;rintro rfl;have:=h.lt hO hP h9 hd (fun e=>h6 e.symm);omega
def xF (R:List (List Int)) (root:Nat) (x b:Nat):Prop:=∃ a,Dfs.Reach R root a/\Dfs.Edge R a b/\zou R root b a x
structure Noted (n:Nat) (rows:List (List Int)) (N:Nat->Nat->Prop):Prop where
 len:rows.length=n
 mem:∀ (x:Nat) r,rows[x]?=some r->∀ y:Int,y ∈ r ↔ ∃ b:Nat,y=(b:Int)/\N x b
theorem Noted.congr {N':Nat->Nat->Prop} (h:Noted n rows N) (hN:∀ x b,N x b ↔ N' x b):Noted n rows N' :=
 ⟨h.len,fun x r hr y=>by rw[h.mem x r hr y];exact⟨fun⟨b,h1,h2⟩=>⟨b,h1,(hN x b).1 h2⟩,fun⟨b,h1,h2⟩=>⟨b,h1,(hN x b).2 h2⟩⟩⟩
theorem Noted.push (h:Noted n rows N) (hr:rows[c]?=some r):Noted n (rows.set c (r++[(b:Int)])) (fun x b'=>N x b'\/(x=c/\b'=b)):=by
 refine⟨by rw[zvu];exact h.len,fun x q hq y=>?_⟩;by_cases e:c=x
 .
  subst e;rw[zvk (ztB.1 hr).1]at hq;cases hq;rw[ztG,ztF,h.mem c r hr y];constructor
  . grind
  grind
 rw[zvj e]at hq;rw[h.mem x q hq y];constructor
 . grind
 grind
theorem Noted.start:Noted n (List.replicate n ([]:List Int)) (fun _ _=>False):=by
 refine⟨tR,fun x r hr y=>?_⟩;have:r=[]:=zuV (zto hr);subst this;simp
end
end Go.GL.Dom
namespace Go.Proofs.YtckdhgbepmpgiaaGreat
open Go.GL Go.GL.Dom Go.GL.Dfs
structure FrontRows (Rw:List (List Int)) (root n:Nat) (F:List (List Int)):Prop where
 len:F.length=n
 sorted:∀ (x:Nat) r,F[x]?=some r->r.Pairwise (·<·)
 mem:∀ (x:Nat) r,F[x]?=some r->∀ y:Int,y ∈ r ↔ ∃ b:Nat,y=(b:Int)/\xF Rw root x b
 short:∀ (x:Nat) r,F[x]?=some r->r.length<=1000000
def N0 (Rw:List (List Int)) (root:Nat) (order:List Nat) (i x b:Nat):Prop:=∃ j,j<i/\order[j]?=some b/\xF Rw root x b
def N1 (Rw:List (List Int)) (root:Nat) (order:List Nat) (i b:Nat) (r:List Int) (j x b':Nat):Prop:=N0 Rw root order i x b'\/(b'=b/\∃ a:Nat,(a:Int) ∈ r.take j/\Dfs.Reach Rw root a/\zou Rw root b a x)
theorem zfr {n:Nat} (w:World) (hp:Prep B w n root es bw Rw Pw order pl T nv bv ov bp bt) (dI:n<=1000) :
  Calls prog 148 #[.pointer (some ⟨bw,0,none⟩)] w (Ret fun u w'=>∃ F,FrontRows Rw root n F/\SlR 1 (RSl 1 zv) (fun b=>w.heap.size<=b) w' u F/\Ext w w'):=by
 have dJ:=hp.succ.len;have hnv:=hp.hnv;obtain⟨na,nc,rfl,fq,ft,_⟩:=hnv;have hbv:=hp.hbv;obtain⟨ba,bc,rfl,eE,eF,dM⟩:=hbv;have fu:=hp.back.len;have hW:=hp.hw;have fw:=hW.lt;have hY:∀ x,Dfs.Reach Rw root x->x<n:=fun x hx=>by rw[<- dJ];exact hx.lt hp.rows (by rw[dJ];exact hp.hroot)
 have eG:order.length<=n:=nodup_le n _ hp.ord.nodup (fun x hx=>hY x ((hp.ord.mem x).1 hx))
 have eH:order ≠ []:=by
  intro h;have:=hp.ord.head
  grind
 obtain⟨g,cap,sp,rfl,_,fy,fA,eI,fB⟩:=jD hp.hov eH;refine zqQ func148 O ntmps148 O (Gs 10 O (zqK O tg89 (hW.cells 0 _ O) (Gs 1 O (G.mem O O (zpV tu89 Tryz.el27 O O tO tO (zcp Rw.length)) ?_))));rintro _ w1 ⟨bo,rfl,fC,fD,eh,dy⟩;rw[dJ]at eh ⊢;refine Gs 9 O (zqK O tg27 ((dy.blk hW (fun h=>h)).cells 2 _ O) (Gs 5 O ?_));have eJ:Mat (Value.int .i64) 3 27 w1.heap.size w1 bo (List.replicate n (.slice none 0 0)) (List.replicate n ([]:List Int)):=Mat.start eh;refine G.loop (σ:=Nat × List Value × List (List Int)) (fun⟨i,rv,rows⟩=>[(0,.pointer (some ⟨bw,0,none⟩)),(3,.slice (some ⟨bo,0,none⟩) n n),(20,.slice (some ⟨g,0,none⟩) order.length cap),(21,.int .i64 order.length),(22,.int .i64 i)]) (fun⟨i,rv,rows⟩=>fun w'=>i<=order.length/\Noted n rows (N0 Rw root order i)/\(∀ (x:Nat) r,rows[x]?=some r->r.length<=i*n)/\Mat (Value.int .i64) 3 27 w1.heap.size w' bo rv rows/\Keep (fun q=>q=bo) w1 w') (fun⟨i,rv,rows⟩=>order.length - i) (0,List.replicate n (.slice none 0 0),List.replicate n []) j2 ⟨ztC _,Noted.start.congr (fun x b=>⟨fun h=>h.elim,fun⟨j,h,_⟩=>absurd h (zwz _)⟩),fun x r hr=>tD,eJ,Keep.refl _ _⟩ ?_;rintro⟨i,rv,rows⟩ w2 ⟨fE,hN,dN,hM,dO⟩;refine Gs 6 O (zqE O (fun fF=>?_) (fun fG=>?_))
 .
  obtain⟨b,hb⟩:∃ b,order[i]?=some b:=iA;have ei:Dfs.Reach Rw root b:=(hp.ord.mem b).1 (zto hb);have ej:=hY b ei;have dQ:Ext w w2:=dy.trans dO (fun q hq h=>tO)
  have eK:(order.map qL++sp)[i]?=some (qL b):=by
   rw[ztN tD,ztE,hb];rfl
  obtain⟨r,hr⟩:∃ r,Pw[b]?=some r:=iA;obtain⟨b1,o1,cs1,eL,_,_,eM,eN⟩:=dM b r hr;obtain⟨rv1,rfl,ra,rc,rfl,eO,eP,dR⟩:=eN;have fH:=hp.back.short b r hr;have dS:=dQ.cells eM (fun h=>h);have eQ:=dQ.blk hW (fun h=>h)
  have fI:(i+1)*n<=1000000:=by
   have h1:(i+1)*n<=n*n:=zwx _ tO;have h2:n*n<=1000*1000:=zww dI dI;omega
  have fJ:(i+1)*n=i*n+n:=zwB i n;refine Ga 7 O tO (zqK O tg3 ((dQ.blk eI (fun h=>h)).cells.el1 i O eK) (Gs 8 O (zqK O tg89 (eQ.cells 1 _ O) (Gs 1 O (zqG O O (zpH tR89 ts27 O O eL tO) (zqK O tg27 (dS.el1 (cs:=[_]) 0 O O) (Gs 5 O (G.loop (σ:=Nat × List Value × List (List Int)) (fun⟨j,rv,rows⟩=>[(0,.pointer (some ⟨bw,0,none⟩)),(3,.slice (some ⟨bo,0,none⟩) n n),(20,.slice (some ⟨g,0,none⟩) order.length cap),(21,.int .i64 order.length),(22,.int .i64 i),(5,.int .i64 b),(32,.slice ra r.length rc),(33,.int .i64 r.length),(34,.int .i64 j)]) (fun⟨j,rv,rows⟩=>fun w'=>j<=r.length/\Noted n rows (N1 Rw root order i b r j)/\(∀ (x:Nat) q,rows[x]?=some q->q.length<=i*n+j)/\Mat (Value.int .i64) 3 27 w1.heap.size w' bo rv rows/\Keep (fun q=>q=bo) w1 w') (fun⟨j,rv,rows⟩=>r.length - j) (0,rv,rows) j2 ⟨ztC _,hN.congr (fun x b'=>⟨.inl,fun h=>h.elim id (fun⟨_,a,h,_⟩=>tD)⟩),dN,hM,dO⟩ ?_))))))));rintro⟨j,rv,rows⟩ w3 ⟨fK,dT,dB,db,dl⟩;have dC:Ext w w3:=dy.trans dl (fun q hq h=>tO);have eR:=dC.blk hW (fun h=>h);refine Gs 6 O (zqE O (fun fL=>?_) (fun fM=>?_))
  .
   obtain⟨y,hy⟩:∃ y,r[j]?=some y:=iA;obtain⟨a,rfl,ek⟩:=(hp.back.mem b r hr y).1 (zto hy)
   have fN:a<n:=by
    obtain⟨r',h1,_⟩:=ek;rw[<- dJ];exact(ztB.1 h1).1
   obtain⟨be,oe,ce,eS,_,eT,eU,rfl⟩:=dR j _ hy;have dU:=dC.cells eU (fun h=>h);have eV:=hp.place.len
   have dV:∀ q:Nat,(q:Int) ∈ r.take (j+1) ↔ (q:Int) ∈ r.take j\/q=a:=by
    intro q;obtain⟨dW,eW⟩:=ztB.1 hy;rw[zwe dW,ztG,ztF,eW];constructor
    . grind
    grind
   refine Gs 6 O (zqG O O (zpH tR27 ts3 O O eS tO) (zqK O tg3 (dU.el1 (cs:=[_]) 0 O O) (Gs 9 O (zqK O tg27 (eR.cells 3 _ O) (Ga 2 O tO (zqK O tg3 ((dC.blk hp.hP (fun h=>h)).cells.el1 a O (qU (zgd tO))) (Gs 3 O (zqE O (fun fO=>?_) (fun fP=>?_)))))))))
   .
    have fQ:¬ Dfs.Reach Rw root a:=fun h=>by have:=xT hp.ord hp.place h;omega
    refine Ga 8 O tO (G.back (j+1,rv,rows) j2 ⟨tO,dT.congr (fun x b'=>?_),fun x q hq=>tD,db,dl⟩ tD);unfold N1;constructor
    . grind
    grind
   have em:Dfs.Reach Rw root a:=(hp.ord.mem a).1 (zto (zaE hp.place (a:=a) tO).1);have eX:i*n+j+1<=1000000:=tO;refine Gs 9 O (G.loop (σ:=Int × List Value × List (List Int)) (fun⟨x,rv,rows⟩=>[(0,.pointer (some ⟨bw,0,none⟩)),(3,.slice (some ⟨bo,0,none⟩) n n),(20,.slice (some ⟨g,0,none⟩) order.length cap),(21,.int .i64 order.length),(22,.int .i64 i),(5,.int .i64 b),(32,.slice ra r.length rc),(33,.int .i64 r.length),(34,.int .i64 j),(8,.int .i64 x)]) (fun⟨x,rv,rows⟩=>fun w'=>At Rw root T b a x/\Noted n rows (fun y b'=>N1 Rw root order i b r j y b'\/(b'=b/\Vis Rw root x a y))/\(∀ (y:Nat) q,rows[y]?=some q->q.length<=i*n+j+1/\(¬ Vis Rw root x a y->q.length<=i*n+j))/\Mat (Value.int .i64) 3 27 w1.heap.size w' bo rv rows/\Keep (fun q=>q=bo) w1 w') (fun⟨x,rv,rows⟩=>(if x<0 then 0 else (lk pl x.toNat).toNat+1)) ((a:Int),rv,rows) j2 ⟨At.start hp.sol ek em ej,dT.congr (fun y b'=>⟨.inl,fun h=>h.elim id (fun h=>absurd h.2 (Vis.start a y))⟩),fun y q hq=>⟨tD,fun _=>dB y q hq⟩,db,dl⟩ ?_);rintro⟨x,rv,rows⟩ w4 ⟨hA,dK,dg,dz,dt⟩;have er:Ext w w4:=dy.trans dt (fun q hq h=>tO);have eY:=er.blk hW (fun h=>h);have eZ:=er.blk hp.hT (fun h=>h);have fR:=hp.sol.len
   have dm:(x<0\/x=lk T b)->Noted n rows (N1 Rw root order i b r (j+1)):=fun hx=>dK.congr (fun y b'=>by
    have hv:=Vis.done hp.sol hp.ord hp.place hA ei ej hx y;constructor
    .
     rintro ((h | ⟨h1,c,h2,h3⟩) | ⟨rfl,h2⟩)
     . exact .inl h
     . exact .inr ⟨h1,c,(dV c).2 (.inl h2),h3⟩
     exact .inr ⟨rfl,a,(dV a).2 (.inr O),em,hv.1 h2⟩
    .
     rintro (h | ⟨h1,c,h2,h3⟩)
     . exact .inl (.inl h)
     .
      rcases (dV c).1 h2 with h4 | rfl
      . exact .inl (.inr ⟨h1,c,h4,h3⟩)
      .
       exact .inr ⟨h1,hv.2 h3.2⟩)
   refine Gs 6 O (zqC (p:=0<=x) (fun da=>?_) (fun da=>?_))
   .
    refine G.yes O O (ztz da) (Gs 1 O (G.yes O O (ztz da) (Gs 1 O (G.yes O O (ztz da) (Gs 1 O (G.yes O O (ztz da) (Gs 1 O (G.yes O O (ztz da) (zqK O tg27 (eY.cells 4 _ O) (G.yes O O (ztz da) (Gs 1 O (G.yes O O (ztz da) (Ga 1 O tO (G.yes O O (ztz da) (zqK O tg3 (eZ.cells.el1 b O (qU (zgd tO))) (G.yes O O (ztz da) (Gs 1 O (zqG O O (zpB O (ztz da) O) ?_))))))))))))))))));refine Gs 2 O (zqE O (fun dX=>?_) (fun dX=>?_))
    .
     obtain⟨c,rfl⟩:=zul da
     have dY:Dfs.Reach Rw root c:=by
      rcases hA.pos with⟨h1,_⟩ | ⟨c',h1,h2,_⟩
      . omega
      rw[Int.ofNat.inj h1];exact h2
     have ew:=hY c dY;have fS:=xT hp.ord hp.place dY;have dZ:=Vis.step hp.sol hp.ord hp.place hA hY;have hm:=Mat.at (i:=c) dz (by rw[dK.len];exact ew);obtain⟨v,q,hv,hq⟩:=hm;have fT:q.length<=i*n+j:=(dg c q hq).2 (fun h=>h.2 c rfl (Dom.refl c));refine Ga 10 O tO (zqK O tg27 (dz.out.cells.el1 c O hv) (Gs 1 O (G.mem O O (M.buildSlice (cs:=[.int .i64 b]) [(0,_)] tR27 ts3 tz3 tS O tK) ?_)));rintro _ w5 ⟨b5,rfl,fU,fV,fb,dD⟩;have dE:=dz.ext dD;have du:=dE.row c v q hv hq;refine G.mem O O (M.append tu27 Tryz.el3 O tS O O du O (Cells.add fb.cells) (by simp;rfl) tO tO) ?_;rintro v' w6 ⟨dr,d5,d6,_⟩;obtain⟨av,cv,rfl⟩:=zI dr;have d7:v.ownBlock ≠ some bo:=fun h=>(dE.far c v bo hv h).2 rfl;refine Ga 1 O tO (zpT O (M.store ts27 O O O O (d6.blk dE.out d7) (by rw[dE.len,dK.len];omega)) ?_);rintro w7 d8;rw[show 0+(c:Int).toNat*1=c from tO]at d8;have d9:Keep (fun q=>v.ownBlock=some q\/q=bo) w4 w7:=((dD.mono (fun _ _ h=>h.elim)).trans (d6.mono (fun _ _ h=>.inl h)) (fun _ _ h=>h)).trans d8.2.2 (fun _ _ h=>.inr h)
     have dF:Keep (fun q=>q=bo) w1 w7:=dt.trans d9 (fun q' dh h=>by
      rcases h with h | h
      . have:=(dz.far c v q' hv h).1;omega
      .
       exact h)
     have ez:Ext w w7:=dy.trans dF (fun q hq h=>by have h:q=bo:=h;omega);refine Gs 7 O (zqK O tg27 ((ez.blk hW (fun h=>h)).cells 4 _ O) (Ga 2 O tO (zqK O tg3 ((ez.blk hp.hT (fun h=>h)).cells.el1 c O (qU (zgd tO))) (Gs 2 O (G.back (lk T c,rv.set c (.slice av (q.length+1) cv),rows.set c (q++[(b:Int)])) j2 ⟨hA.step hp.sol dX hY,?_,?_,?_,dF⟩ (?_))))))
     .
      refine(dK.push hq).congr (fun y b'=>?_);rw[dZ y];constructor
      .
       rintro ((h | ⟨h1,h2⟩) | ⟨h1,h2⟩)
       . exact .inl h
       . exact .inr ⟨h1,.inl h2⟩
       exact .inr ⟨h2,.inr h1⟩
      rintro (h | ⟨h1,h2 | h2⟩)
      . exact .inl (.inl h)
      . exact .inl (.inr ⟨h1,h2⟩)
      exact .inr ⟨h2,h1⟩
     .
      intro y q' dh;by_cases e:c=y
      .
       subst e;rw[zvk (ztB.1 hq).1]at dh;cases dh;rw[ztv,ztI];exact⟨tO,fun h=>absurd ((dZ c).2 (.inr O)) h⟩
      rw[zvj e]at dh;have h1:=dg y q' dh;exact⟨h1.1,fun h=>h1.2 (fun h2=>h ((dZ y).2 (.inl h2)))⟩
     . exact dE.push (by have:=dD.size;have:=dt.size;omega) hv hq dr d5 d6 d8
     show (if lk T c<0 then 0 else (lk pl (lk T c).toNat).toNat+1)<(if (c:Int)<0 then 0 else (lk pl (c:Int).toNat).toNat+1);have e1:¬ (c:Int)<0:=tO;rw[ztx e1,ztJ];rcases hp.sol.tree_or dY ew with⟨_,h5⟩ | ⟨p,e,h5,h6,h7,h8,h9,fW⟩
     . rw[h5,zty (show (-1:Int)<0 from tS)];omega
     have:=xT hp.ord hp.place h9;have e2:¬ (p:Int)<0:=tO;rw[h5,ztx e2,ztJ];omega
    refine Ga 10 O tO (G.back (j+1,rv,rows) j2 ⟨tO,dm (.inr (by simpa using dX)),fun y q hq=>by have:=(dg y q hq).1;omega,dz,dt⟩ tZ)
   refine G.no O O (ztA da) O (G.no O O (ztA da) O (G.no O O (ztA da) O (G.no O O (ztA da) O (G.no O O (ztA da) O (G.no O O (ztA da) O (G.no O O (ztA da) O (G.no O O (ztA da) O (G.no O O (ztA da) O (zqG O O (zpC O (ztA da) O) (Gs 2 O (G.ff O rfl (Ga 10 O tO (G.back (j+1,rv,rows) j2 ⟨tO,dm (.inl tO),fun y q hq=>by have:=(dg y q hq).1;omega,dz,dt⟩ tZ)))))))))))))
  have eb:j=r.length:=tO;subst eb;refine Ga 10 O tO (G.back (i+1,rv,rows) j2 ⟨tO,dT.congr (fun x b'=>?_),fun x q hq=>by have:=dB x q hq;omega,db,dl⟩ tZ);unfold N1 N0 xF;rw[zts];constructor
  .
   rintro (⟨k,h1,h2,h3⟩ | ⟨rfl,a,h2,h3⟩)
   . exact⟨k,tO,h2,h3⟩
   obtain⟨a',h4,h5⟩:=(hp.back.mem b' r hr _).1 h2;have:=Int.ofNat.inj h4;subst this;exact⟨i,tO,hb,a,h3.1,h5,h3.2⟩
  rintro⟨k,h1,h2,h3⟩;by_cases e:k=i
  .
   subst e;rw[hb]at h2;cases h2;obtain⟨a,h4,h5,h6⟩:=h3;exact .inr ⟨rfl,a,(hp.back.mem b r hr _).2 ⟨a,rfl,h5⟩,h4,h6⟩
  exact .inl ⟨k,tO,h2,h3⟩
 have ec:i=order.length:=tO;subst ec
 have eA:Noted n rows (xF Rw root):=hN.congr (fun x b=>by
  constructor
  . rintro⟨k,_,_,h⟩;exact h
  .
   intro h;have h':=h;obtain⟨a,h1,h2,_⟩:=h';obtain⟨k,hk⟩:=zvH.1 ((hp.ord.mem b).2 (.step h1 h2))
   exact⟨k,(ztB.1 hk).1,hk,h⟩)
 have fX:order.length*n<=1000000:=by
  have h1:order.length*n<=n*n:=zwx _ eG;have h2:n*n<=1000*1000:=zww dI dI;exact ztt h1 h2
 refine Gs 14 O (G.loop (σ:=Nat × List Value × List (List Int)) (fun⟨k,rv,rk⟩=>[(3,.slice (some ⟨bo,0,none⟩) n n),(79,.slice (some ⟨bo,0,none⟩) n n),(80,.int .i64 n),(81,.int .i64 k)]) (fun⟨k,rv,rk⟩=>fun w'=>k<=n/\rk.length=n/\(∀ (x:Nat) q,rk[x]?=some q->∃ q',rows[x]?=some q'/\q=if x<k then Gr.compactL (xm q') else q')/\Mat (Value.int .i64) 3 27 w1.heap.size w' bo rv rk/\Keep (fun q=>q=bo) w1 w') (fun⟨k,rv,rk⟩=>n - k) (0,rv,rows) j2 ⟨ztC _,eA.len,fun x q hq=>⟨q,hq,by rw[ztx (zwz _)]⟩,hM,dO⟩ ?_);rintro⟨k,rv,rk⟩ w3 ⟨fY,dA,dG,db,dl⟩;refine Gs 6 O (zqE O (fun fe=>?_) (fun fg=>?_))
 .
  have hm:=Mat.at (i:=k) db tO;obtain⟨v,q,hv,hq⟩:=hm;obtain⟨q',dh,eC⟩:=dG k q hq;rw[ztx tO]at eC;subst eC;have du:=db.row k v q hv hq;have fZ:=dN k q dh;refine Ga 8 O tO (zqK O tg27 (db.out.cells.el1 k O hv) (Gs 7 O (G.call O call116 (zdM q v _ w3 du tO) ?_)));rintro _ w4 ⟨rfl,dH,dt⟩;have dw:w4.ownsRow 0 3 1 v q.length ((xm q).flatMap zdx):=by rw[<- zoB];exact dH
  refine Gs 6 O (G.call O call117 (zcc (xm q) v _ w4 dw (by rw[xC];omega)) ?_);rintro u w5 ⟨dc,fm,dD⟩;rw[<- zoB]at dc;obtain⟨au,cu,rfl⟩:=zI dc;have ed:v.ownBlock ≠ some bo:=fun h=>(db.far k v bo hv h).2 rfl;have dx:Keep (fun q=>v.ownBlock=some q) w3 w5:=dt.trans dD (fun _ _ h=>h);refine Ga 1 O tO (zpT O (M.store ts27 O O O O (dx.blk db.out ed) (by rw[db.len];omega)) ?_);rintro w6 ee;rw[show 0+(k:Int).toNat*1=k from tO]at ee;refine Ga 7 O tO (G.back (k+1,rv.set k (.slice au (Gr.compactL (xm q)).length cu),rk.set k (Gr.compactL (xm q))) j2 ⟨tO,by rw[zvu];exact dA,?_,?_,?_⟩ tZ)
  .
   intro x q2 dL;by_cases e:k=x
   .
    subst e;rw[zvk tO]at dL;cases dL;exact⟨q,dh,by rw[zty tO]⟩
   rw[zvj e]at dL;obtain⟨q3,h1,h2⟩:=dG x q2 dL;refine⟨q3,h1,?_⟩;rw[h2];by_cases eD:x<k
   . rw[zty eD,zty tO]
   rw[ztx eD,ztx tO]
  . exact db.put (by have:=dl.size;omega) hv dc (.inl fm) dx ee
  have ef:Keep (fun q=>v.ownBlock=some q\/q=bo) w3 w6:=(dx.mono (fun _ _ h=>.inl h)).trans ee.2.2 (fun _ _ h=>.inr h)
  exact dl.trans ef (fun q' dh h=>by
   rcases h with h | h
   . have:=(db.far k v q' hv h).1;omega
   .
    exact h)
 have fp:k=n:=tO;subst fp;have dC:Ext w w3:=dy.trans dl (fun q hq h=>by have h:q=bo:=h;omega);refine Gs 12 O (zpk results148 O ⟨_,rfl,rk,⟨dA,?_,?_,?_⟩,?_,dC⟩)
 .
  intro x q hq;obtain⟨q',h1,h2⟩:=dG x q hq;rw[zty UK]at h2;rw[h2];exact(Gr.compactL_strict (le:=(·<=·)) (fun a b=>Int.le_antisymm) (zaW q')).imp (fun h=>tO)
 .
  intro x q hq y;obtain⟨q',h1,h2⟩:=dG x q hq;rw[zty UK]at h2;rw[h2,Gr.compactL_mem,za6];exact eA.mem x q' h1 y
 .
  intro x q hq;obtain⟨q',h1,h2⟩:=dG x q hq;rw[zty UK]at h2;have h3:=Gr.compactL_len (xm q');have h4:=dN x q' h1;rw[xC]at h3;rw[h2];omega
 exact db.sl j1 tO (fun i v g hv hg=>by have:=(db.far i v g hv hg).1;omega) dA.symm tO tO
structure Known (n root:Nat) (es:List (Int × Int)) (Rw:List (List Int)) (order:List Nat) (pl T:List Int):Prop where
 hn:n<=4096
 hroot:root<n
 rows:Dfs.Rows Rw
 succ:Succs n es Rw
 ord:Dfs.Order Rw root order
 place:Dfs.Place n order pl
 sol:Solved Rw root n pl T
theorem Prep.known {n:Nat} (h:Prep B w n root es bw Rw Pw order pl T nv bv ov bp bt):Known n root es Rw order pl T:=⟨h.hn,h.hroot,h.rows,h.succ,h.ord,h.place,h.sol⟩
theorem zfs {n root:Int} (h:yo n es root=0):Gr.check n es=0/\0<=root/\root<n:=by
 unfold yo at h;split at h
 . rename_i h1;exact absurd h h1
 rename_i h1;split at h
 . exact absurd h tS
 exact⟨by simpa using h1,tO,tO⟩
theorem znm (n root:Int) (es:List (Int × Int)) (ev:Value) (D:Nat->Prop) (w:World) (da:SlR 2 xu D w ev es):Calls prog 52 #[.agg #[.int .i64 n,ev],.int .i64 root] w (Ret fun v w'=>∃ u,v=.tuple #[u,.int .i64 (yo n es root)]/\(yo n es root ≠ 0->u=.slice none 0 0)/\(yo n es root=0->∃ Rw order pl T,Known n.toNat root.toNat es Rw order pl T/\SlR 1 zv (fun b=>w.heap.size<=b) w' u T)/\Ext w w'):=by
 have hY:=da;obtain⟨ao,cap,rfl,_⟩:=hY;refine zqR func52 O ntmps52 O (Gs 2 O (G.mem O O (M.box O O) ?_));rintro _ w1 ⟨b,rfl,hb,dt,dh,db⟩;refine Gs 6 O (zqM O tg126 ts126 dh.cells O (Gs 1 O (G.call O call99 (zdd n root es _ D w1 (da.ext zW db)) ?_)));rintro _ w2 ⟨u,rfl,du,dl,dm⟩;have dc:=db.ext dm;refine Gs 14 O (zqE O (fun hc=>?_) (fun hc=>?_))
 . refine Gs 9 O (zpn results52 O O ⟨_,rfl,.slice none 0 0,rfl,fun _=>rfl,fun h=>absurd h hc,dc⟩)
 have dg:yo n es root=0:=by simpa using hc
 obtain⟨bw,Rw,Pw,order,pl,T,nv,bv,ov,bp,bt,rfl,hp⟩:=dl dg;have dr:=hp.sol.len;have dw:=hp.ge;have dx:=hp.hn;refine Gs 7 O (zqK O tg27 (hp.hw.cells 4 _ O) (Gs 5 O ?_));rw[dg];refine zpn results52 O O ⟨_,rfl,.slice (some ⟨bt,0,none⟩) n.toNat n.toNat,rfl,fun h=>absurd O h,fun _=>⟨Rw,order,pl,T,hp.known,?_⟩,dc⟩;have h1:=zq9 (R:=zv) (D:=fun b=>w.heap.size<=b) (n:=n.toNat) (cap:=n.toNat) (l:=T) (.int .i64) j9 hp.hT tO (by rw[zwc tD]) dr.symm tO tO;exact h1
end Go.Proofs.YtckdhgbepmpgiaaGreat
