/-
  Contracts and the mathematics that the proof needs. Nothing here is a claim.
-/
import Derived.Test.YtckdhgbepmpgiaaGreatKW6
namespace Go.Proofs.YtckdhgbepmpgiaaGreat
open Go.GL
noncomputable def zel (f:Fl) (g:List Nd) (s:Sf) (r:Ins):Int:=if yq f g s ≠ 0 then yq f g s else zB f.vars r
theorem zhz (f:Fl) (g:List Nd) (s:Sf) (hR:RightF f g s (rdV f g)) (n:Nat) (hn:n<g.length) (y:Nat) (hy:(zg s n).phis ≠ []->y ∈ yW g n) (hgl:g.length<=100000) (hpl:(zg s n).phis.length<=1000000) (vl:List Int) (m:Nat) (hm:vl.length=m) (hvll:m=s.of_.length) (hvm:m<=1000000) (b gb bv cv:Nat) (ofv nodv hv rv ov tv:Value) (D:Nat->Prop) (W:World) (hc:Cells W b 0 (rnr gb ofv nodv (.slice (some ⟨bv,0,none⟩) m cv) hv rv ov tv)) (hS:RSf D W s ofv nodv) (hown:(xB (.slice (some ⟨bv,0,none⟩) m cv) vl).holds W) (hap:∀ q,D q->bv ≠ q) (hapb:bv ≠ b) :
  Calls Tryz.prog 47 #[.pointer (some ⟨b,0,none⟩),.int .i64 y,.int .i64 n] W (Ret fun r w'=>∃ _x:Unit,r=.tuple #[]/\(xB (.slice (some ⟨bv,0,none⟩) m cv) (qJ f g s y vl (zg s n).phis)).holds w'/\Keep (xB (.slice (some ⟨bv,0,none⟩) m cv) vl).S W w'/\∀ q,(xB (.slice (some ⟨bv,0,none⟩) m cv) (qJ f g s y vl (zg s n).phis)).S q->((xB (.slice (some ⟨bv,0,none⟩) m cv) vl).S q\/W.heap.size<=q)/\q<w'.heap.size):=by
 subst hm
 exact ziN f g s hR n hn y hy hgl hpl vl hvll hvm b gb bv cv ofv nodv hv rv ov tv D W hc hS hown hap hapb
theorem zk5 {s:Sf} {m n:Nat} (h:(LP s m).length<=1000000) (hn:n<m):(zg s n).phis.length<=1000000:=by
 unfold LP at h
 have h1:=(zr2 (l:=dP (zg s n)++(zg s n).phis.map (·.ver)) (L:=(List.range m).map fun i=>dP (zg s i)++(zg s i).phis.map (·.ver)) (zqI.2 ⟨n,zqL.2 hn,rfl⟩)).length_le
 rw[<- zqk,zp1,zpd]at h1
 omega
theorem zk6 (f:Fl) (g:List Nd) (s:Sf) (r:Ins) (hsz:snodes f.body+zA f.hatches<=1024) (hbk:sbulk f.body<=1000000) (hbig:s.of_.length<=1000000/\(LP s g.length).length<=1000000) (hb:∀ k,(xy r k).length<=1000000000) (v1 v2 v3 gv ofv nodv s1 s2 s3:Value) (D:Nat->Prop) (W:World) (hf:RFl D W f v1 v2 v3) (hg:SlR 4 RNd D W gv g) (hS:RSf D W s ofv nodv) (hi1:SlR 1 yc D W s1 r.secret) (hi2:SlR 1 yc D W s2 r.pub) (hi3:SlR 1 yc D W s3 r.random) (hD:∀ q,D q->q<W.heap.size) :
  Calls Tryz.prog 18 #[.agg #[v1,v2,v3],.agg #[gv],.agg #[ofv,nodv],.agg #[s1,s2,s3]] W (Ret fun rr w'=>(∃ ov t,rr=.tuple #[.agg #[ov,.int .i64 t],.int .i64 (zel f g s r)]/\(zel f g s r ≠ 0->ov=.slice none 0 0/\t=0)/\(zel f g s r=0->SlR 1 yc (fun b=>W.heap.size<=b) w' ov (zfp f r).outs/\t=(zfp f r).time))/\Ext W w'):=by
 obtain⟨a1,c1,rfl⟩:=hf.vars.form
 obtain⟨a2,c2,rfl⟩:=hf.hatches.form
 obtain⟨a3,c3,rfl⟩:=hf.body.form
 obtain⟨ag,cg,rfl⟩:=hg.form
 obtain⟨ao,co,rfl⟩:=hS.of_.form
 obtain⟨an,cn,rfl⟩:=hS.nodes.form
 obtain⟨b1,d1,rfl⟩:=hi1.form
 obtain⟨b2,d2,rfl⟩:=hi2.form
 obtain⟨b3,d3,rfl⟩:=hi3.form
 have hgm:=hg.max
 have hom:=hS.of_.max
 refine zn4 Tryz.func18 O Tryz.ntmps18 O (znb ?_)
 refine Vs 2 O ?_
 refine V.box 4 O O (fun b4=>?_)
 refine V.box 5 O O (fun b5=>?_)
 refine V.box 6 O O (fun b6=>?_)
 refine V.box 7 O O (fun b7=>?_)
 refine V.alloc 8 Tryz.zeroValue47 O O (fun b8=>?_)
 refine Vs 9 O ?_
 refine znw Tryz.call16 O (fun w hI=>kK f g s hsz hbk hbig _ _ _ _ _ _ D w (Tr1 hI.k0 hf) (Tr1 hI.k0 hg) (Tr1 hI.k0 hS) (fun q hq=>zrj (hD q hq) (Keep.size hI.k0))) ?_
 refine Vs 9 O ?_
 refine zld O (fun c0=>?_) (fun c0=>?_)
 .
  have hc:zel f g s r=yq f g s:=zp4 c0
  refine Vs 2 O ?_
  refine znO [Value.slice none 0 0,Value.int IntKind.i64 0] [(0,1),(1,1)] [] O O (fun _=>by kernel_rfl) ?_
  refine Vs 7 O ?_
  refine zlE Tryz.results18 tg47 ts47 O O O O (fun w hI=>⟨_,rfl,⟨_,_,by rw[hc],fun _=>⟨rfl,rfl⟩,fun h=>absurd (hc ▸ h) c0⟩,hI.k0⟩)
 have hc:zel f g s r=zB f.vars r:=zp3 c0
 obtain⟨hgc,hR⟩:=zh9 (zp2.1 c0)
 obtain⟨hck,hgg⟩:=jK (zpg hgc)
 subst hgg
 have vd:Valid f:=⟨hck,hsz,hbk⟩
 have hlens:=vd.lens
 have hss:=vd.ssize
 have hcl:=yH f vd.plain
 have hwl:=xd f.body
 rw[hc]
 refine Vs 6 O ?_
 refine zny Tryz.call44 O (fun w hI=>zj2 f r _ _ _ _ _ _ D w (Tr1 hI.k0 hf) (Tr1 hI.k0 hi1) (Tr1 hI.k0 hi2) (Tr1 hI.k0 hi3) vd.kinds (by omega) hb) ?_
 rintro rr w1 w2 hI1 hk12 ⟨u,rfl,hu⟩ hlow
 refine Vs 14 O ?_
 refine zld O (fun e0=>?_) (fun e0=>?_)
 .
  refine Vs 2 O ?_
  refine znO [Value.slice none 0 0,Value.int IntKind.i64 0] [(0,1),(1,1)] [] O O (fun _=>by kernel_rfl) ?_
  refine Vs 7 O ?_
  refine zlE Tryz.results18 tg47 ts47 O O O O (fun w hI=>⟨_,rfl,⟨_,_,rfl,fun _=>⟨rfl,rfl⟩,fun h=>absurd h e0⟩,hI.k1⟩)
 have e0':zB f.vars r=0:=zp2.1 e0
 have hst:=hu e0'
 obtain⟨au,cu,rfl⟩:=hst.form
 have hsl:=(zbm e0').len
 have hofl:=hR.of_.len
 refine Vs 3 O ?_
 refine V.dat 906 0 O O O (hst) (fun b hb _ hs=>by have:=hlow b hs;omega) ?_
 refine znL (σ:=Nat × Nat × Nat × Nat × Nat × Nat) [4,8,11] [4,8,906] [4,8] O (fun e ⟨la,lz,gb,b45,b49,b51⟩=>(13,.pointer (some ⟨b51,0,none⟩))::e) (fun e ⟨la,lz,gb,b45,b49,b51⟩=>(904,.dat (fun q=>D q\/(la<=q/\q<lz)) (fun w=>GrO (fun q=>D q\/(la<=q/\q<lz)) w f (zi f) gb))::(45,.row 3 1 (.slice (some ⟨b45,0,none⟩) s.of_.length s.of_.length) s.of_.length (List.replicate s.of_.length (.int .i64 0)))::(49,.row 3 1 (.slice (some ⟨b49,0,none⟩) (zi f).length (zi f).length) (zi f).length (List.replicate (zi f).length (.int .i64 0)))::(51,.own b51 [.pointer (some ⟨gb,0,none⟩),.slice ao s.of_.length co,.slice an s.nodes.length cn,.slice (some ⟨b45,0,none⟩) s.of_.length s.of_.length,.slice none 0 0,.slice (some ⟨b49,0,none⟩) (zi f).length (zi f).length,.slice none 0 0,.int .i64 0] 107)::e) (fun⟨la,lz,gb,b45,b49,b51⟩=>True) (fun _=>rfl) (fun _=>rfl) ?_ ?_
 .
  refine Vw [4,5,6,7,8] [] O ?_
  refine Vd [0,1,3,4,5,6,8,9,10] 0 (by kernel_rfl) O O O ?_
  refine zoQ 2 [7,11] (by kernel_rfl) ⟨znA 2 0 tc37 O O O (fun w hI=>yM f (zi f) vd.prOk (by omega) (by omega) _ _ _ _ D w (Tr1 hI.k1 hf) (Tr1 hI.k1 hg) (fun q hq=>zrj (hD q hq) (Keep.size hI.k1))) ?_,zm8 7 45 0 tu27 Tryz.el3 O O O (by omega) (by omega) (by exact xD _ _ O:madeCells _ _=(List.replicate s.of_.length (Value.int .i64 0)).toArray) (by simp) (fun b45=>?_),zm8 11 49 0 tu27 Tryz.el3 O O O (by omega) (by omega) (by exact xD _ _ O:madeCells _ _=(List.replicate (zi f).length (Value.int .i64 0)).toArray) (by simp) (fun b49=>?_),True.intro⟩
  .
   rintro gp w3 w4 hI3 hk34 ⟨gb,rfl,hG⟩ hlow2
   refine zoQ 7 [11] (by kernel_rfl) ⟨zm8 7 45 1 tu27 Tryz.el3 O O O (by omega) (by omega) (by exact xD _ _ O:madeCells _ _=(List.replicate s.of_.length (Value.int .i64 0)).toArray) (by simp) (fun b45=>?_),zm8 11 49 1 tu27 Tryz.el3 O O O (by omega) (by omega) (by exact xD _ _ O:madeCells _ _=(List.replicate (zi f).length (Value.int .i64 0)).toArray) (by simp) (fun b49=>?_),True.intro⟩
   .
    refine zoQ 11 [] (by kernel_rfl) ⟨zm8 11 49 1 tu27 Tryz.el3 O O O (by omega) (by omega) (by exact xD _ _ O:madeCells _ _=(List.replicate (zi f).length (Value.int .i64 0)).toArray) (by simp) (fun b49=>?_),True.intro⟩
    .
     refine znP 12 [Value.pointer none,Value.slice none 0 0,Value.slice none 0 0,Value.slice none 0 0,Value.slice none 0 0,Value.slice none 0 0,Value.slice none 0 0,Value.int IntKind.i64 0] [(0,1),(1,2),(3,1),(4,1),(5,1),(6,2)] [(0,_),(1,_),(2,_),(4,_)] O (by kernel_rfl) O O (fun _=>by kernel_rfl) ?_
     refine znh 13 51 1 O (by kernel_rfl) O O (fun _ _=>M.box O O) (fun b51=>?_)
     refine Vd [14] 1 (by kernel_rfl) O O O ?_
     refine VD.done (by kernel_rfl) ?_
     refine zou 904 0 (F:=fun q=>D q\/(w3.heap.size<=q/\q<w4.heap.size)) (p:=fun w=>GrO (fun q=>D q\/(w3.heap.size<=q/\q<w4.heap.size)) w f (zi f) gb) O O (fun w w' T h hk hT=>GrO.keep h hk (fun b hb _=>hT b hb)) (hG) (fun q hq=>⟨by have h1:=hk34.size;have h2:W.heap.size<=w3.heap.size:=(hI3.k1).size;rcases hq with hq | hq;(· have:=hD q hq;omega);omega,fun hs=>by have h1:=hlow2 q hs;have h2:=hI3.hsE 1 O hs;rcases hq with hq | hq;(· have:=hD q hq;omega);omega⟩) ?_
     refine zlq (⟨w3.heap.size,w4.heap.size,gb,b45,b49,b51⟩) (Sub.of O) (Has.of O) (trivial) 1 O O
   refine zoQ 7 [] (by kernel_rfl) ⟨zm8 7 45 1 tu27 Tryz.el3 O O O (by omega) (by omega) (by exact xD _ _ O:madeCells _ _=(List.replicate s.of_.length (Value.int .i64 0)).toArray) (by simp) (fun b45=>?_),True.intro⟩
   .
    refine znP 12 [Value.pointer none,Value.slice none 0 0,Value.slice none 0 0,Value.slice none 0 0,Value.slice none 0 0,Value.slice none 0 0,Value.slice none 0 0,Value.int IntKind.i64 0] [(0,1),(1,2),(3,1),(4,1),(5,1),(6,2)] [(0,_),(1,_),(2,_),(4,_)] O (by kernel_rfl) O O (fun _=>by kernel_rfl) ?_
    refine znh 13 51 1 O (by kernel_rfl) O O (fun _ _=>M.box O O) (fun b51=>?_)
    refine Vd [14] 1 (by kernel_rfl) O O O ?_
    refine VD.done (by kernel_rfl) ?_
    refine zou 904 0 (F:=fun q=>D q\/(w3.heap.size<=q/\q<w4.heap.size)) (p:=fun w=>GrO (fun q=>D q\/(w3.heap.size<=q/\q<w4.heap.size)) w f (zi f) gb) O O (fun w w' T h hk hT=>GrO.keep h hk (fun b hb _=>hT b hb)) (hG) (fun q hq=>⟨by have h1:=hk34.size;have h2:W.heap.size<=w3.heap.size:=(hI3.k1).size;rcases hq with hq | hq;(· have:=hD q hq;omega);omega,fun hs=>by have h1:=hlow2 q hs;have h2:=hI3.hsE 1 O hs;rcases hq with hq | hq;(· have:=hD q hq;omega);omega⟩) ?_
    refine zlq (⟨w3.heap.size,w4.heap.size,gb,b45,b49,b51⟩) (Sub.of O) (Has.of O) (trivial) 1 O O
  .
   refine zoQ 2 [11] (by kernel_rfl) ⟨znA 2 0 tc37 O O O (fun w hI=>yM f (zi f) vd.prOk (by omega) (by omega) _ _ _ _ D w (Tr1 hI.k1 hf) (Tr1 hI.k1 hg) (fun q hq=>zrj (hD q hq) (Keep.size hI.k1))) ?_,zm8 11 49 0 tu27 Tryz.el3 O O O (by omega) (by omega) (by exact xD _ _ O:madeCells _ _=(List.replicate (zi f).length (Value.int .i64 0)).toArray) (by simp) (fun b49=>?_),True.intro⟩
   .
    rintro gp w3 w4 hI3 hk34 ⟨gb,rfl,hG⟩ hlow2
    refine zoQ 11 [] (by kernel_rfl) ⟨zm8 11 49 1 tu27 Tryz.el3 O O O (by omega) (by omega) (by exact xD _ _ O:madeCells _ _=(List.replicate (zi f).length (Value.int .i64 0)).toArray) (by simp) (fun b49=>?_),True.intro⟩
    .
     refine znP 12 [Value.pointer none,Value.slice none 0 0,Value.slice none 0 0,Value.slice none 0 0,Value.slice none 0 0,Value.slice none 0 0,Value.slice none 0 0,Value.int IntKind.i64 0] [(0,1),(1,2),(3,1),(4,1),(5,1),(6,2)] [(0,_),(1,_),(2,_),(4,_)] O (by kernel_rfl) O O (fun _=>by kernel_rfl) ?_
     refine znh 13 51 1 O (by kernel_rfl) O O (fun _ _=>M.box O O) (fun b51=>?_)
     refine Vd [14] 1 (by kernel_rfl) O O O ?_
     refine VD.done (by kernel_rfl) ?_
     refine zou 904 0 (F:=fun q=>D q\/(w3.heap.size<=q/\q<w4.heap.size)) (p:=fun w=>GrO (fun q=>D q\/(w3.heap.size<=q/\q<w4.heap.size)) w f (zi f) gb) O O (fun w w' T h hk hT=>GrO.keep h hk (fun b hb _=>hT b hb)) (hG) (fun q hq=>⟨by have h1:=hk34.size;have h2:W.heap.size<=w3.heap.size:=(hI3.k1).size;rcases hq with hq | hq;(· have:=hD q hq;omega);omega,fun hs=>by have h1:=hlow2 q hs;have h2:=hI3.hsE 1 O hs;rcases hq with hq | hq;(· have:=hD q hq;omega);omega⟩) ?_
     refine zlq (⟨w3.heap.size,w4.heap.size,gb,b45,b49,b51⟩) (Sub.of O) (Has.of O) (trivial) 1 O O
   refine zoQ 2 [] (by kernel_rfl) ⟨znA 2 0 tc37 O O O (fun w hI=>yM f (zi f) vd.prOk (by omega) (by omega) _ _ _ _ D w (Tr1 hI.k1 hf) (Tr1 hI.k1 hg) (fun q hq=>zrj (hD q hq) (Keep.size hI.k1))) ?_,True.intro⟩
   .
    rintro gp w3 w4 hI3 hk34 ⟨gb,rfl,hG⟩ hlow2
    refine znP 12 [Value.pointer none,Value.slice none 0 0,Value.slice none 0 0,Value.slice none 0 0,Value.slice none 0 0,Value.slice none 0 0,Value.slice none 0 0,Value.int IntKind.i64 0] [(0,1),(1,2),(3,1),(4,1),(5,1),(6,2)] [(0,_),(1,_),(2,_),(4,_)] O (by kernel_rfl) O O (fun _=>by kernel_rfl) ?_
    refine znh 13 51 1 O (by kernel_rfl) O O (fun _ _=>M.box O O) (fun b51=>?_)
    refine Vd [14] 1 (by kernel_rfl) O O O ?_
    refine VD.done (by kernel_rfl) ?_
    refine zou 904 0 (F:=fun q=>D q\/(w3.heap.size<=q/\q<w4.heap.size)) (p:=fun w=>GrO (fun q=>D q\/(w3.heap.size<=q/\q<w4.heap.size)) w f (zi f) gb) O O (fun w w' T h hk hT=>GrO.keep h hk (fun b hb _=>hT b hb)) (hG) (fun q hq=>⟨by have h1:=hk34.size;have h2:W.heap.size<=w3.heap.size:=(hI3.k1).size;rcases hq with hq | hq;(· have:=hD q hq;omega);omega,fun hs=>by have h1:=hlow2 q hs;have h2:=hI3.hsE 1 O hs;rcases hq with hq | hq;(· have:=hD q hq;omega);omega⟩) ?_
    refine zlq (⟨w3.heap.size,w4.heap.size,gb,b45,b49,b51⟩) (Sub.of O) (Has.of O) (trivial) 1 O O
  refine zoQ 2 [7] (by kernel_rfl) ⟨znA 2 0 tc37 O O O (fun w hI=>yM f (zi f) vd.prOk (by omega) (by omega) _ _ _ _ D w (Tr1 hI.k1 hf) (Tr1 hI.k1 hg) (fun q hq=>zrj (hD q hq) (Keep.size hI.k1))) ?_,zm8 7 45 0 tu27 Tryz.el3 O O O (by omega) (by omega) (by exact xD _ _ O:madeCells _ _=(List.replicate s.of_.length (Value.int .i64 0)).toArray) (by simp) (fun b45=>?_),True.intro⟩
  .
   rintro gp w3 w4 hI3 hk34 ⟨gb,rfl,hG⟩ hlow2
   refine zoQ 7 [] (by kernel_rfl) ⟨zm8 7 45 1 tu27 Tryz.el3 O O O (by omega) (by omega) (by exact xD _ _ O:madeCells _ _=(List.replicate s.of_.length (Value.int .i64 0)).toArray) (by simp) (fun b45=>?_),True.intro⟩
   .
    refine znP 12 [Value.pointer none,Value.slice none 0 0,Value.slice none 0 0,Value.slice none 0 0,Value.slice none 0 0,Value.slice none 0 0,Value.slice none 0 0,Value.int IntKind.i64 0] [(0,1),(1,2),(3,1),(4,1),(5,1),(6,2)] [(0,_),(1,_),(2,_),(4,_)] O (by kernel_rfl) O O (fun _=>by kernel_rfl) ?_
    refine znh 13 51 1 O (by kernel_rfl) O O (fun _ _=>M.box O O) (fun b51=>?_)
    refine Vd [14] 1 (by kernel_rfl) O O O ?_
    refine VD.done (by kernel_rfl) ?_
    refine zou 904 0 (F:=fun q=>D q\/(w3.heap.size<=q/\q<w4.heap.size)) (p:=fun w=>GrO (fun q=>D q\/(w3.heap.size<=q/\q<w4.heap.size)) w f (zi f) gb) O O (fun w w' T h hk hT=>GrO.keep h hk (fun b hb _=>hT b hb)) (hG) (fun q hq=>⟨by have h1:=hk34.size;have h2:W.heap.size<=w3.heap.size:=(hI3.k1).size;rcases hq with hq | hq;(· have:=hD q hq;omega);omega,fun hs=>by have h1:=hlow2 q hs;have h2:=hI3.hsE 1 O hs;rcases hq with hq | hq;(· have:=hD q hq;omega);omega⟩) ?_
    refine zlq (⟨w3.heap.size,w4.heap.size,gb,b45,b49,b51⟩) (Sub.of O) (Has.of O) (trivial) 1 O O
  refine zoQ 2 [] (by kernel_rfl) ⟨znA 2 0 tc37 O O O (fun w hI=>yM f (zi f) vd.prOk (by omega) (by omega) _ _ _ _ D w (Tr1 hI.k1 hf) (Tr1 hI.k1 hg) (fun q hq=>zrj (hD q hq) (Keep.size hI.k1))) ?_,True.intro⟩
  .
   rintro gp w3 w4 hI3 hk34 ⟨gb,rfl,hG⟩ hlow2
   refine znP 12 [Value.pointer none,Value.slice none 0 0,Value.slice none 0 0,Value.slice none 0 0,Value.slice none 0 0,Value.slice none 0 0,Value.slice none 0 0,Value.int IntKind.i64 0] [(0,1),(1,2),(3,1),(4,1),(5,1),(6,2)] [(0,_),(1,_),(2,_),(4,_)] O (by kernel_rfl) O O (fun _=>by kernel_rfl) ?_
   refine znh 13 51 1 O (by kernel_rfl) O O (fun _ _=>M.box O O) (fun b51=>?_)
   refine Vd [14] 1 (by kernel_rfl) O O O ?_
   refine VD.done (by kernel_rfl) ?_
   refine zou 904 0 (F:=fun q=>D q\/(w3.heap.size<=q/\q<w4.heap.size)) (p:=fun w=>GrO (fun q=>D q\/(w3.heap.size<=q/\q<w4.heap.size)) w f (zi f) gb) O O (fun w w' T h hk hT=>GrO.keep h hk (fun b hb _=>hT b hb)) (hG) (fun q hq=>⟨by have h1:=hk34.size;have h2:W.heap.size<=w3.heap.size:=(hI3.k1).size;rcases hq with hq | hq;(· have:=hD q hq;omega);omega,fun hs=>by have h1:=hlow2 q hs;have h2:=hI3.hsE 1 O hs;rcases hq with hq | hq;(· have:=hD q hq;omega);omega⟩) ?_
   refine zlq (⟨w3.heap.size,w4.heap.size,gb,b45,b49,b51⟩) (Sub.of O) (Has.of O) (trivial) 1 O O
 rintro⟨la,lz,gb,b45,b49,b51⟩ _
 show V _ _ _ _ _ ((13,.pointer (some ⟨b51,0,none⟩))::_) _ ((904,.dat (fun q=>D q\/(la<=q/\q<lz)) (fun w=>GrO (fun q=>D q\/(la<=q/\q<lz)) w f (zi f) gb))::(45,.row 3 1 (.slice (some ⟨b45,0,none⟩) s.of_.length s.of_.length) s.of_.length (List.replicate s.of_.length (.int .i64 0)))::(49,.row 3 1 (.slice (some ⟨b49,0,none⟩) (zi f).length (zi f).length) (zi f).length (List.replicate (zi f).length (.int .i64 0)))::(51,.own b51 [.pointer (some ⟨gb,0,none⟩),.slice ao s.of_.length co,.slice an s.nodes.length cn,.slice (some ⟨b45,0,none⟩) s.of_.length s.of_.length,.slice none 0 0,.slice (some ⟨b49,0,none⟩) (zi f).length (zi f).length,.slice none 0 0,.int .i64 0] 107)::_) _
 refine zni 13 51 0 O O ?_
 have hz0:(zG f.vars r).map (Value.int .i64)++(List.replicate s.of_.length (Value.int .i64 0)).drop (zG f.vars r).length=(zG f.vars r++List.replicate (s.of_.length - f.vars.length) 0).map zb:=by rw[zqw,List.drop_replicate,zqB,hsl]
 generalize hvl0:zG f.vars r++List.replicate (s.of_.length - f.vars.length) 0=vl0 at hz0
 have hl0:vl0.length=s.of_.length:=by rw[<- hvl0,zp1,zqu];omega
 refine Vs 8 O ?_
 refine V.opM 45 (e':=.row 3 1 (.slice (some ⟨b45,0,none⟩) s.of_.length s.of_.length) s.of_.length (vl0.map zb)) (r:=.int .i64 ((zG f.vars r).length:Int)) O (trivial) (fun _ h=>h) (fun w hI=>zoP tu27 Tryz.el3 O O (hI.at 45 O) (hI.at 906 O).1 (by omega) hz0) ?_
 refine Vs 11 O ?_
 refine zno 907 3 1 O ?_
 refine Vs 1 O ?_
 refine znK (σ:=Nat × Value) [4,8,11,13,59,60] [4,8,904,906] [4,8,13] O (fun e ⟨i,hv⟩=>(61,.int .i64 i)::e) (fun e ⟨i,hv⟩=>(51,.own b51 [.pointer (some ⟨gb,0,none⟩),.slice ao s.of_.length co,.slice an s.nodes.length cn,.slice (some ⟨b45,0,none⟩) s.of_.length s.of_.length,hv,.slice (some ⟨b49,0,none⟩) (zi f).length (zi f).length,.slice none 0 0,.int .i64 0] 107)::(907,.row 3 1 hv i ((zig (zG f.vars r) (f.hatches.take i)).map zb))::(45,.row 3 1 (.slice (some ⟨b45,0,none⟩) s.of_.length s.of_.length) s.of_.length (vl0.map zb))::(49,.row 3 1 (.slice (some ⟨b49,0,none⟩) (zi f).length (zi f).length) (zi f).length (List.replicate (zi f).length (.int .i64 0)))::e) (fun⟨i,hv⟩=>i<=f.hatches.length) (fun⟨i,hv⟩=>f.hatches.length - i) ((0,.slice none 0 0)) (Sub.of O) (Has.of O) (fun _=>rfl) (fun _=>rfl) (fun _=>rfl) (zp8 _) ?_
 rintro⟨i,hv⟩ hi
 show V _ _ _ _ _ ((61,.int .i64 i)::_) _ ((51,.own b51 [.pointer (some ⟨gb,0,none⟩),.slice ao s.of_.length co,.slice an s.nodes.length cn,.slice (some ⟨b45,0,none⟩) s.of_.length s.of_.length,hv,.slice (some ⟨b49,0,none⟩) (zi f).length (zi f).length,.slice none 0 0,.int .i64 0] 107)::(907,.row 3 1 hv i ((zig (zG f.vars r) (f.hatches.take i)).map zb))::(45,.row 3 1 (.slice (some ⟨b45,0,none⟩) s.of_.length s.of_.length) s.of_.length (vl0.map zb))::(49,.row 3 1 (.slice (some ⟨b49,0,none⟩) (zi f).length (zi f).length) (zi f).length (List.replicate (zi f).length (.int .i64 0)))::_) _
 refine Vs 6 O ?_
 refine zld O (fun hlt=>?_) (fun hlt=>?_)
 .
  refine Vs 6 O ?_
  obtain⟨x,he_x,hm_x⟩:=gE_ f.hatches (i) (by omega)
  obtain⟨b_x,o_x,c_x,ha_x,_,hc_x,hR_x⟩:=hf.hatches.at he_x
  obtain⟨v1_x,rfl,hk_x⟩:=hR_x
  obtain⟨a1_x,n1_x,rfl⟩:=hk_x.form
  refine znH 1000 1 O O hc_x ?_
  refine znk 1000 tR23 ts109 O ha_x (by omega) (_) (rfl) O ?_
  obtain⟨g1,g2,g3,g4⟩:=vd.hatch x hm_x
  refine Vs 1 O ?_
  refine V.alloc 15 tz109 O O (fun b15=>?_)
  refine Vs 10 O ?_
  refine znw Tryz.call45 O (fun w hI=>zbj vd.good (zbm e0') x.term g1 g2 g3 _ D D (fun b=>w1.heap.size<=b/\b<w2.heap.size) w _ _ (Tr1 hI.k1 hf.vars) (hI.at 906 O).1 (RTm.put (Tr1 hI.k1 hk_x))) ?_
  refine Vs 7 O ?_
  refine Vw [4,8,51,1000,15] [15] O ?_
  refine Vd [0,1,2,3,4,5,6,7,8,9] 0 (by kernel_rfl) O O O ?_
  refine znx 10 0 Tryz.call46 O (by kernel_rfl) O O (fun w hI=>zdD _ x.low x.high w g4) ?_
  refine VD.bs 11 85 0 [(0,_)] tR27 ts3 tz3 (by decide) O (by kernel_rfl) O O (by kernel_rfl) (fun b85=>?_)
  refine znq 12 907 85 0 tu27 Tryz.el3 O (by decide) O (by kernel_rfl) O O O (by omega) (by omega) (fun u907=>?_)
  refine Vd [13,14] 0 (by kernel_rfl) O O O ?_
  refine zns 907 O (by omega) ?_
  rintro bh chh rfl hcap_907
  refine Vl 15 O (by kernel_rfl) O ?_
  refine VDx.done (by kernel_rfl) ?_
  refine Va 6 O (by omega) ?_
  refine znJ 907 O (e':=.row 3 1 (.slice (some ⟨bh,0,none⟩) (i+1) chh) (i+1) ((zig (zG f.vars r) (f.hatches.take (i+1))).map zb)) (by rw[zgH he_x,zqw];rfl) ?_
  refine V.back (⟨i+1,_⟩) (Sub.of O) (Has.of O) (by omega) (by first | omega | (dsimp only;omega)) 0 O O
 obtain rfl:i=f.hatches.length:=by omega
 rw[zoY]
 have hhl:(ya f r).length=f.hatches.length:=by simp[zig]
 refine zow 907 O (p:=fun w=>SlR 1 yc (fun q=>hv.ownBlock=some q) w hv (ya f r)) (fun w w' T h hk hT=>h.keep ze hk fun b hb _=>hT b hb) (fun w hI=>zmj zb (fun _ _=>rfl) (show w.ownsRow 0 3 1 hv (ya f r).length ((ya f r).map zb) by rw[hhl];exact hI.at 907 O) (fun g hg=>hg)) (fun wp hpin hap=>?_)
 refine V.ren [(51,900),(45,901),(49,902)] [(4,some (4,0)),(8,some (8,0)),(13,some (900,0))] O O ?_
 refine zoD 904 907 O (fun w0 hG0 hh0 hsz0 hoff1 hoff2=>?_)
 obtain⟨v1',v2',v3',gv',sv',pv',hDg,hcellg,hfg,hgsg,_,_⟩:=id hG0
 obtain⟨ag',cg',rfl⟩:=hgsg.form
 refine znI 909 0 O O (fun h=>hoff1 _ h hDg) hcellg ?_
 obtain⟨K,rdK,hK8,hgo⟩:=vd.walk (ya f r) (zih f r)
 have hK:GoesAll f r K:=⟨rdK,hgo⟩
 refine Vs 6 O ?_
 refine zno 903 3 1 O ?_
 refine znJ 901 O (e':=.row 3 1 (.slice (some ⟨b45,0,none⟩) s.of_.length s.of_.length) vl0.length (vl0.map zb)) (by rw[hl0]) ?_
 refine znJ 902 O (e':=.row 3 1 (.slice (some ⟨b49,0,none⟩) (zi f).length (zi f).length) (List.replicate (zi f).length (0:Int)).length ((List.replicate (zi f).length (0:Int)).map zb)) (by rw[zqB,zqu]) ?_
 refine Vs 7 O ?_
 refine znK (σ:=Nat × List Int × List Int × Value) [8,13] [8,904,906,907,909] [8,13] O (fun e ⟨i,vl,ro,ov⟩=>(18,.int .i64 (yJ f r (i - 1)).at_)::(19,.int .i64 (yJ f r i).at_)::e) (fun e ⟨i,vl,ro,ov⟩=>(900,.own b51 [.pointer (some ⟨gb,0,none⟩),.slice ao s.of_.length co,.slice an s.nodes.length cn,.slice (some ⟨b45,0,none⟩) s.of_.length s.of_.length,hv,.slice (some ⟨b49,0,none⟩) (zi f).length (zi f).length,ov,.int .i64 (yJ f r i).σ.time] 107)::(901,.row 3 1 (.slice (some ⟨b45,0,none⟩) s.of_.length s.of_.length) vl.length (vl.map zb))::(902,.row 3 1 (.slice (some ⟨b49,0,none⟩) (zi f).length (zi f).length) ro.length (ro.map zb))::(903,.row 3 1 ov (yJ f r i).σ.outs.length ((yJ f r i).σ.outs.map zb))::e) (fun⟨i,vl,ro,ov⟩=>i<=K/\vl.length=s.of_.length/\ro.length=(zi f).length/\zk0 f s r i vl/\CtOk f ro (yJ f r i).rd) (fun⟨i,vl,ro,ov⟩=>K - i) ((0,vl0,List.replicate (zi f).length 0,.slice none 0 0)) (Sub.of O) (Has.of O) (fun _=>rfl) (fun _=>rfl) (fun _=>rfl) (⟨zp8 _,hl0,zqu,⟨fun _ v hv=>by rw[<- hvl0,zpj (by omega)],fun j hj=>by omega⟩,zfQ f⟩) ?_
 rintro⟨i,vl,ro,ov⟩ ⟨hi,hvl,hrl,hpre,hct⟩
 show V _ _ _ _ _ ((18,.int .i64 (yJ f r (i - 1)).at_)::(19,.int .i64 (yJ f r i).at_)::_) _ ((900,.own b51 [.pointer (some ⟨gb,0,none⟩),.slice ao s.of_.length co,.slice an s.nodes.length cn,.slice (some ⟨b45,0,none⟩) s.of_.length s.of_.length,hv,.slice (some ⟨b49,0,none⟩) (zi f).length (zi f).length,ov,.int .i64 (yJ f r i).σ.time] 107)::(901,.row 3 1 (.slice (some ⟨b45,0,none⟩) s.of_.length s.of_.length) vl.length (vl.map zb))::(902,.row 3 1 (.slice (some ⟨b49,0,none⟩) (zi f).length (zi f).length) ro.length (ro.map zb))::(903,.row 3 1 ov (yJ f r i).σ.outs.length ((yJ f r i).σ.outs.map zb))::_) _
 obtain⟨n,x,hw⟩:=zh2 vd hK hi
 have hnl:=(zp7.1 hw.nd).1
 have hat:=hw.at_
 obtain⟨x2,he_x2,hm_x2⟩:=gE_ (zi f) (n) (by omega)
 obtain⟨b_x2,o_x2,c_x2,ha_x2,hd_x2,hc_x2,hR_x2⟩:=hgsg.atD he_x2
 obtain rfl:=hR_x2
 refine znI 2000 0 O O (fun h_=>by have h1_:=hoff1 _ h_;have h2_:=hd_x2;first | omega | exact h1_ h2_) hc_x2 ?_
 obtain rfl:x2=x:=Option.some.inj (he_x2.symm.trans hw.nd)
 refine Vs 7 O ?_
 refine zni 93 909 0 O O ?_
 refine Vs 4 O ?_
 refine znk 2000 tR34 ts65 O ha_x2 (by omega) (n) (hat) O ?_
 refine Vs 5 O ?_
 refine zld O (fun c=>?_) (fun c=>?_)
 .
  have hiK:i<K:=by
   rcases zrk i K with h | h
   . exact h
   have:=(hw.fin (by omega)).2;omega
  obtain⟨y,hy⟩:∃ y:Nat,(yJ f r (i - 1)).at_=(y:Int):=by
   obtain⟨n0,x0,hw0⟩:=zh2 vd hK (show i - 1<=K by omega)
   exact⟨n0,hw0.at_⟩
  obtain⟨hinv,hyp⟩:=ziX vd hR hK hi hw hy hvl hpre
  refine Vs 8 O ?_
  refine znB 901 (E:=fun _:Unit=>xB (.slice (some ⟨b45,0,none⟩) s.of_.length s.of_.length) (qJ f (zi f) s y vl (zg s n).phis)) Tryz.call47 O (fun _=>⟨trivial,fun _ h=>h⟩) (fun w hI=>hy ▸ hat ▸ zhz f (zi f) s hR n hnl y hyp (by omega) (zk5 hbig.2 hnl) vl _ hvl O hbig.1 b51 gb b45 _ _ _ _ _ _ _ D w (hI.at 900 O).cells (Tr1 hI.k3 hS) (hI.at 901 O) (fun q hq e=>by have h1:=hI.own 901 3 O O q (congrArg some e);have:=hD q hq;omega) (fun e=>hI.sep (k:=901) (k2:=900) O O (by decide) (q:=b51) (congrArg some e) O)) ?_
  rintro _ ⟨⟩ rfl
  have hjl:=zbu (f:=f) (g:=zi f) (s:=s) (y:=y) (vl:=vl) (zg s n).phis
  refine Vs 6 O ?_
  refine zop [900,901,902,903] (Hn:=fun z:List Int × List Int × Value=>[(900,.own b51 [.pointer (some ⟨gb,0,none⟩),.slice ao s.of_.length co,.slice an s.nodes.length cn,.slice (some ⟨b45,0,none⟩) s.of_.length s.of_.length,hv,.slice (some ⟨b49,0,none⟩) (zi f).length (zi f).length,z.2.2,.int .i64 (yJ f r (i+1)).σ.time] 107),(901,.row 3 1 (.slice (some ⟨b45,0,none⟩) s.of_.length s.of_.length) z.1.length (z.1.map zb)),(902,.row 3 1 (.slice (some ⟨b49,0,none⟩) (zi f).length (zi f).length) z.2.1.length (z.2.1.map zb)),(903,.row 3 1 z.2.2 (yJ f r (i+1)).σ.outs.length ((yJ f r (i+1)).σ.outs.map zb))]) [(8,some (8,0)),(13,some (900,0)),(90,some (900,0)),(91,some (900,0)),(92,some (900,0)),(93,some (909,0)),(94,some (909,0)),(95,some (909,3)),(98,some (2000,0)),(99,some (2000,0)),(102,some (900,0)),(107,some (900,0))] Tryz.call48 O (fun _ _=>rfl) (fun _=>rfl) (fun w hI=>zbA O O (hat ▸ zj1 f s vd hR r e0' K hK i hiK n x2 hw (qJ f (zi f) s y vl (zg s n).phis) ro (by omega) hrl hinv hct b51 gb _ _ _ _ _ ov (fun q=>D q\/(la<=q/\q<lz)) (fun q=>hv.ownBlock=some q) w (fun q hq=>zrj (hsz0 q hq) (Keep.size hI.k0)) (hI.held O O O) ((Tr1 hI.k3 hS).wide fun q h=>.inl h) (hG0.keep hI.k0 fun q hq _ h=>hoff1 q h hq) (hh0.keep ze hI.k0 fun q hq _ h=>hoff2 q h hq) (fun q hq hd=>hI.offF 904 O q hd (zho O hq)) (fun q hq hd=>hI.offF 907 O q hd (zho O hq)))) ?_
  rintro _ ⟨vl',ro',ov'⟩ ⟨rfl,hl',hpre',hrl',hct'⟩
  have hl2:vl'.length=s.of_.length:=hl'.trans (hjl.trans hvl)
  have hrl2:ro'.length=(zi f).length:=hrl'.trans hrl
  refine Vs 4 O ?_
  refine V.back (⟨i+1,vl',ro',ov'⟩) (Sub.of O) (Has.of O) (⟨by omega,hl2,hrl2,ziY hw hpre',hct'⟩) (by first | omega | (dsimp only;omega)) 0 O O
 have hiK:i=K:=by
  rcases zrk i K with h | h
  . have:=(hw.go h).2;omega
  omega
 have hfin:(yJ f r i).σ=zfp f r:=by rw[hiK];exact congrArg Mc.σ hgo.1
 rw[hfin]
 refine znd (p:=∃ a c,ov=.slice a (zfp f r).outs.length c) (fun w hI=>xW (hI.at 903 O)) (fun hform=>?_)
 obtain⟨oa,oc,rfl⟩:=hform
 refine Vs 16 O ?_
 refine zlE Tryz.results18 tg47 ts47 O O O O (fun w hI=>⟨_,rfl,⟨_,_,by rw[e0'],fun h=>absurd e0' h,fun _=>⟨zmj (R:=yc) (D:=fun b=>W.heap.size<=b) zb (fun _ _=>rfl) (hI.at 903 O) (fun q hq=>hI.own 903 3 O O q hq),rfl⟩⟩,hI.k3⟩)
theorem zhA {w:World} {e:TypeId} {k:Nat} {v:Value} {n:Nat} {xs:List Value} (h:w.ownsRow 0 e k v n xs):∃ ao c,v=.slice ao n c/\(0<n->∃ b,ao=some ⟨b,0,none⟩):=by
 rcases h.2 with⟨rfl,rfl⟩ | ⟨g,cap,cur,rfl,_⟩
 . exact⟨_,_,rfl,fun h=>by omega⟩
 exact⟨_,_,rfl,fun _=>⟨_,rfl⟩⟩
def FdOk (D:Nat->Prop) (W:World) (hs:List Value) (fl:List (List Int)) (G:Nat->Prop) (w:World):Prop:=hs.length=fl.length/\∀ (j:Nat) l,fl[j]?=some l->∃ v,hs[j]?=some v/\(SlR 1 yc D W v l\/SlR 1 yc G w v l)
abbrev FdP (D:Nat->Prop) (W:World) (hs:List Value) (fl:List (List Int)) (G:Nat->Prop):HE:=.res G (FdOk D W hs fl G)
theorem FdP.loc {D:Nat->Prop} {W:World} {hs:List Value} {fl:List (List Int)} {G:Nat->Prop}:(FdP D W hs fl G).loc:=fun w w' T h hk hT=>by
 have h:FdOk D W hs fl G w:=h
 refine⟨h.1,fun j l hj=>?_⟩
 obtain⟨v,h1,h2⟩:=h.2 j l hj
 exact⟨v,h1,h2.imp id fun h3=>h3.keep ze hk fun b hb hlt=>hT b hlt hb⟩
theorem zoc {D:Nat->Prop} {W w:World} (n:Nat):FdOk D W (List.replicate n (.slice none 0 0)) (List.replicate n []) (fun _=>False) w:=by
 refine⟨by simp,fun j l hj=>?_⟩
 rw[List.getElem?_replicate]at hj
 split at hj
 .
  rename_i h
  cases hj
  exact⟨_,by rw[List.getElem?_replicate,zp4 h],.inl SlR.nil⟩
 cases hj
theorem FdOk.set {D:Nat->Prop} {W w:World} {hs:List Value} {fl:List (List Int)} {G G':Nat->Prop} (h:FdOk D W hs fl G w) {q:Nat} {v:Value} {l:List Int} (hG:∀ b,G b->G' b) (hv:SlR 1 yc D W v l\/SlR 1 yc G' w v l):FdOk D W (hs.set q v) (fl.set q l) G' w:=by
 refine⟨by rw[zqv,zqv];exact h.1,fun j l' hj=>?_⟩
 by_cases e:q=j
 .
  subst e
  have hlt:q<fl.length:=by have:=(zp7.1 hj).1;rw[zqv]at this;exact this
  rw[List.getElem?_set_self hlt]at hj
  cases hj
  exact⟨v,List.getElem?_set_self (by rw[h.1];exact hlt),hv⟩
 rw[List.getElem?_set_ne e]at hj
 obtain⟨v',h1,h2⟩:=h.2 j l' hj
 exact⟨v',by rw[List.getElem?_set_ne e];exact h1,h2.imp id fun h3=>h3.wide ze hG⟩
theorem FdOk.get {D:Nat->Prop} {W w:World} {hs:List Value} {fl:List (List Int)} {G:Nat->Prop} (h:FdOk D W hs fl G w) (hE:Ext W w) {j:Nat} {l:List Int} {v:Value} (hj:fl[j]?=some l) (hv:hs[j]?=some v):SlR 1 yc (fun q=>D q\/G q) w v l:=by
 obtain⟨v',h1,h2⟩:=h.2 j l hj
 rw[hv]at h1
 cases h1
 rcases h2 with h2 | h2
 . exact(h2.ext ze hE).wide ze fun _ h=>.inl h
 exact h2.wide ze fun _ h=>.inr h
theorem FdOk.form {D:Nat->Prop} {W w:World} {hs:List Value} {fl:List (List Int)} {G:Nat->Prop} (h:FdOk D W hs fl G w) {j:Nat} {l:List Int} (hj:fl[j]?=some l):∃ a c,hs[j]?=some (.slice a l.length c):=by
 obtain⟨v',h1,h2⟩:=h.2 j l hj
 rcases h2 with h2 | h2
 . obtain⟨a,c,rfl⟩:=h2.form;exact⟨a,c,h1⟩
 obtain⟨a,c,rfl⟩:=h2.form;exact⟨a,c,h1⟩
theorem zcN (l:List Int):l.flatMap (fun x=>[zb x])=l.map zb:=by
 induction l with
 | nil=>rfl
 | cons x l ih=>rw[zqj,ih];rfl
theorem zj3 {w:World} {t:TypeId} {b m c j:Nat} {xs:List Value} (h:w.ownsRow 0 t 1 (.slice (some ⟨b,0,none⟩) m c) m xs) (hj:j<=m):w.ownsRow 0 t 1 (.slice (some ⟨b,0,none⟩) j c) j (xs.take j):=by
 obtain⟨sp,hB,hc,hcm,hlen⟩:=qQ h
 have hx:=h.1
 have:=yp (k:=1) (n:=j) (cap:=c) hB (by omega) hcm hlen
 rwa [zrm,zr6 (by omega)]at this
theorem zfR (f:Fl) (g:List Nd) (s:Sf) (hsz:snodes f.body+zA f.hatches<=1024) (hbk:sbulk f.body<=1000000) (hbig:s.of_.length<=1000000/\(LP s g.length).length<=1000000) (hM:(yi f g s g.length).length+muN s g.length (List.replicate s.of_.length false)<=1000000000) (hul:∀ x ∈ s.nodes,x.uses.length<=1000000) (v1 v2 v3 gv ofv nodv:Value) (D:Nat->Prop) (W:World) (hf:RFl D W f v1 v2 v3) (hg:SlR 4 RNd D W gv g) (hS:RSf D W s ofv nodv) (hD:∀ q,D q->q<W.heap.size) :
  Calls Tryz.prog 21 #[.agg #[v1,v2,v3],.agg #[gv],.agg #[ofv,nodv]] W (Ret fun rr w'=>(∃ u,rr=.tuple #[u,.int .i64 (yq f g s)]/\(yq f g s ≠ 0->u=.slice none 0 0)/\(yq f g s=0->SlR 1 zhG (fun b=>W.heap.size<=b) w' u (kM f g s)))/\Ext W w'):=by
 obtain⟨a1,c1,rfl⟩:=hf.vars.form
 obtain⟨a2,c2,rfl⟩:=hf.hatches.form
 obtain⟨a3,c3,rfl⟩:=hf.body.form
 have hg0:=hg
 obtain⟨ag,cg,rfl⟩:=hg.form
 have hofs:=hS.of_
 have hnod:=hS.nodes
 obtain⟨ao,co,rfl⟩:=hofs.form
 obtain⟨an,cn,rfl⟩:=hnod.form
 have hgm:=hg.max
 have hom:=hofs.max
 have hnm:=hnod.max
 refine zn3 Tryz.func21 O Tryz.ntmps21 O (znb ?_)
 refine Vs 2 O ?_
 refine V.box 3 O O (fun b3=>?_)
 refine V.box 4 O O (fun b4=>?_)
 refine V.box 5 O O (fun b5=>?_)
 refine Vs 10 O ?_
 refine znw Tryz.call16 O (fun w hI=>kK f g s hsz hbk hbig _ _ _ _ _ _ D w (Tr1 hI.k0 hf) (Tr1 hI.k0 hg) (Tr1 hI.k0 hS) (fun q hq=>zrj (hD q hq) (Keep.size hI.k0))) ?_
 refine Vs 9 O ?_
 refine zld O (fun c0=>?_) (fun c0=>?_)
 .
  refine Vs 9 O ?_
  refine zlw Tryz.results21 O O (fun w hI=>⟨_,rfl,⟨_,rfl,fun _=>rfl,fun h=>absurd h c0⟩,hI.k0⟩)
 have c0':yq f g s=0:=zp2.1 c0
 obtain⟨hgc,hR⟩:=zh9 c0'
 obtain⟨hck,hgg⟩:=jK (zpg hgc)
 have vd:Valid f:=⟨hck,hsz,hbk⟩
 have hF:=hR.toFormF
 have hlen:=hF.len
 have hlens:=vd.lens
 have hss:=vd.ssize
 have hp:PrOk f g:=by rw[hgg];exact vd.prOk
 have hk:GOk f g:=by rw[hgg];exact vd.gOk
 have hgl1:g.length<=8000:=by
  have h1:=yH f vd.plain
  have h2:=xd f.body
  rw[hgg];omega
 refine Vs 6 O ?_
 refine zny tc37 O (fun w hI=>yM f g hp (by omega) (by omega) _ _ _ _ D w (Tr1 hI.k0 hf) (Tr1 hI.k0 hg) (fun q hq=>zrj (hD q hq) (Keep.size hI.k0))) ?_
 rintro gp w1 w2 hI1 hk12 ⟨gb,rfl,hG⟩ hlow
 have hoff:∀ q,HS _ q->¬ (D q\/(w1.heap.size<=q/\q<w2.heap.size)):=fun q hs hq=>by
  have h1:=hlow q hs
  have h2:=hI1.hsE 0 rfl hs
  rcases hq with hq | hq
  . have:=hD q hq;omega
  omega
 obtain⟨v1',v2',v3',gv',sv',pv',hDg,hcellg,hfg,hgsg,hstg,_⟩:=id hG
 obtain⟨ag',cg',rfl⟩:=hgsg.form
 obtain⟨as',cs',rfl⟩:=hstg.form
 have hstm:(g.map (stN f)).length=g.length:=zpd _
 generalize hgm':g.map (stN f)=gm at *
 refine znI 909 0 O O (fun h=>hoff _ h hDg) hcellg ?_
 refine Vs 4 O ?_
 refine zni 9 909 0 O O ?_
 refine Vs 4 O ?_
 refine zm6 34 tu89 Tryz.el27 O (by omega) (by omega) (zs:=List.replicate s.of_.length (.slice none 0 0)) (xD _ _ O) (by simp) (fun b34=>?_)
 refine Vs 4 O ?_
 refine zno 902 3 1 O ?_
 refine zno 904 3 1 O ?_
 refine zog 904 (e':=FdP D W (List.replicate s.of_.length (.slice none 0 0)) (xi s 0) (fun _=>False)) O (fun w hI=>zoc _) (FdP.loc) (fun _ h=>h) (fun q hq=>hq.elim) ?_
 refine Vs 14 O ?_
 refine znK (σ:=Nat × List Value × Value × (Nat->Prop)) [5,9,10,36,37] [5,909] [5,9] O (fun e ⟨i,hs,wv,G⟩=>(38,.int .i64 i)::(11,wv)::e) (fun e ⟨i,hs,wv,G⟩=>(34,.row 27 1 (.slice (some ⟨b34,0,none⟩) s.of_.length s.of_.length) s.of_.length hs)::(902,.row 3 1 wv (yi f g s i).length ((yi f g s i).map zb))::(904,FdP D W hs (xi s i) G)::e) (fun⟨i,hs,wv,G⟩=>i<=s.nodes.length/\hs.length=s.of_.length) (fun⟨i,hs,wv,G⟩=>s.nodes.length - i) ((0,List.replicate s.of_.length (.slice none 0 0),.slice none 0 0,fun _=>False)) (Sub.of O) (Has.of O) (fun _=>rfl) (fun _=>rfl) (fun _=>rfl) (⟨zp8 _,zqu⟩) ?_
 rintro⟨i,hs,wv,G⟩ ⟨hi,hhl⟩
 show V _ _ _ _ _ ((38,.int .i64 i)::(11,wv)::_) _ ((34,.row 27 1 (.slice (some ⟨b34,0,none⟩) s.of_.length s.of_.length) s.of_.length hs)::(902,.row 3 1 wv (yi f g s i).length ((yi f g s i).map zb))::(904,FdP D W hs (xi s i) G)::_) _
 refine Vs 6 O ?_
 refine zld O (fun li=>?_) (fun li=>?_)
 .
  refine Vs 7 O ?_
  obtain⟨x,he_x,hm_x⟩:=gE_ s.nodes (i) (by omega)
  obtain⟨b_x,o_x,c_x,ha_x,_,hc_x,hR_x⟩:=hnod.at he_x
  obtain⟨v1_x,v2_x,rfl,hp_x,hu_x⟩:=hR_x
  obtain⟨a1_x,n1_x,rfl⟩:=hp_x.form
  obtain⟨a2_x,n2_x,rfl⟩:=hu_x.form
  refine znH 1000 1 O O hc_x ?_
  refine znk 1000 tR28 ts59 O ha_x (by omega) (_) (rfl) O ?_
  have hxn:zg s i=x:=yC he_x
  have hnodf:=hF.nod i x he_x
  have hix:i<g.length:=by omega
  have hdfn:=hF.dfn hix
  rw[hxn]at hdfn
  have hulx:=hul x hm_x
  refine Vs 1 O ?_
  refine V.alloc 13 tz59 O O (fun b13=>?_)
  refine Vs 5 O ?_
  refine zno 903 3 1 O ?_
  refine Vs 14 O ?_
  refine znK (σ:=Nat × Value) [5,9,10,11,12,13,36,37,38,44,45] [5,13,909] [5,9,13] O (fun e ⟨j,uv⟩=>(46,.int .i64 j)::(14,uv)::e) (fun e ⟨j,uv⟩=>(903,.row 3 1 uv ((x.uses.take j).map (·.2)).length (((x.uses.take j).map (·.2)).map zb))::(34,.row 27 1 (.slice (some ⟨b34,0,none⟩) s.of_.length s.of_.length) s.of_.length hs)::(902,.row 3 1 wv (yi f g s i).length ((yi f g s i).map zb))::(904,FdP D W hs (xi s i) G)::e) (fun⟨j,uv⟩=>j<=x.uses.length) (fun⟨j,uv⟩=>x.uses.length - j) ((0,.slice none 0 0)) (Sub.of O) (Has.of O) (fun _=>rfl) (fun _=>rfl) (fun _=>rfl) (zp8 _) ?_
  rintro⟨j,uv⟩ hj
  show V _ _ _ _ _ ((46,.int .i64 j)::(14,uv)::_) _ ((903,.row 3 1 uv ((x.uses.take j).map (·.2)).length (((x.uses.take j).map (·.2)).map zb))::(34,.row 27 1 (.slice (some ⟨b34,0,none⟩) s.of_.length s.of_.length) s.of_.length hs)::(902,.row 3 1 wv (yi f g s i).length ((yi f g s i).map zb))::(904,FdP D W hs (xi s i) G)::_) _
  have hul2:((x.uses.take j).map (·.2)).length<=1000000:=by rw[zpd,zpn];omega
  refine Vs 6 O ?_
  refine zld O (fun lj=>?_) (fun lj=>?_)
  .
   refine Vs 6 O ?_
   obtain⟨u,he_u,hm_u⟩:=gE_ x.uses (j) (by omega)
   obtain⟨b_u,o_u,c_u,ha_u,_,hc_u,hR_u⟩:=hu_x.at he_u
   obtain rfl:=hR_u
   refine znH 2000 1 O O hc_u ?_
   refine znk 2000 tR57 ts85 O ha_u (by omega) (_) (rfl) O ?_
   refine Vs 1 O ?_
   refine V.alloc 16 tz85 O O (fun b16=>?_)
   refine Vs 7 O ?_
   refine V.bs 53 [(0,_)] tR27 ts3 tz3 (by decide) O O (by kernel_rfl) (fun b53=>?_)
   refine znp 903 53 tu27 Tryz.el3 O (by decide) O O (by omega) (by omega) (fun u903=>?_)
   refine Va 8 O (by omega) ?_
   refine znJ 903 O (e':=.row 3 1 u903 ((x.uses.take (j+1)).map (·.2)).length (((x.uses.take (j+1)).map (·.2)).map zb)) (by rw[zd he_u];simp[zb]) ?_
   refine V.back (⟨j+1,u903⟩) (Sub.of O) (Has.of O) (by omega) (by first | omega | (dsimp only;omega)) 0 O O
  obtain rfl:j=x.uses.length:=by omega
  rw[zoY]at hul2
  refine znJ 903 O (e':=.row 3 1 uv (x.uses.map (·.2)).length ((x.uses.map (·.2)).map zb)) (by rw[zoY]) ?_
  refine Vs 15 O ?_
  refine znK (σ:=Nat × List Value) [5,9,10,11,12,13,14,36,37,38,57,58] [5,13,909] [5,9,13] O (fun e ⟨j,hs⟩=>(59,.int .i64 j)::e) (fun e ⟨j,hs⟩=>(34,.row 27 1 (.slice (some ⟨b34,0,none⟩) s.of_.length s.of_.length) s.of_.length hs)::(904,FdP D W hs (zbM s i x j) G)::(903,.row 3 1 uv (x.uses.map (·.2)).length ((x.uses.map (·.2)).map zb))::(902,.row 3 1 wv (yi f g s i).length ((yi f g s i).map zb))::e) (fun⟨j,hs⟩=>j<=x.phis.length/\hs.length=s.of_.length) (fun⟨j,hs⟩=>x.phis.length - j) ((0,hs)) (Sub.of O) (Has.of O) (fun _=>rfl) (fun _=>rfl) (fun _=>rfl) (⟨zp8 _,hhl⟩) ?_
  rintro⟨j,hs⟩ ⟨hj,hhl⟩
  show V _ _ _ _ _ ((59,.int .i64 j)::_) _ ((34,.row 27 1 (.slice (some ⟨b34,0,none⟩) s.of_.length s.of_.length) s.of_.length hs)::(904,FdP D W hs (zbM s i x j) G)::(903,.row 3 1 uv (x.uses.map (·.2)).length ((x.uses.map (·.2)).map zb))::(902,.row 3 1 wv (yi f g s i).length ((yi f g s i).map zb))::_) _
  have hpmx:=hp_x.max
  refine Vs 6 O ?_
  refine zld O (fun lj=>?_) (fun lj=>?_)
  .
   refine Vs 6 O ?_
   obtain⟨p,he_p,hm_p⟩:=gE_ x.phis (j) (by omega)
   obtain⟨b_p,o_p,c_p,ha_p,_,hc_p,hR_p⟩:=hp_x.at he_p
   obtain⟨v1_p,v2_p,rfl,hf_p,hg_p⟩:=hR_p
   obtain⟨a1_p,n1_p,rfl⟩:=hf_p.form
   obtain⟨a2_p,n2_p,rfl⟩:=hg_p.form
   refine znH 3000 1 O O hc_p ?_
   refine znk 3000 tR56 ts88 O ha_p (by omega) (_) (rfl) O ?_
   obtain⟨q,hq,hql⟩:=xR (hnodf.phi.ver p hm_p)
   refine Vs 1 O ?_
   refine V.alloc 18 tz88 O O (fun b18=>?_)
   refine Va 10 O (by omega) ?_
   refine znu 34 (q) ts27 O (by omega) (by omega) ?_
   refine zog 904 (e':=FdP D W (hs.set q (.slice a2_p p.args.length n2_p)) (zbM s i x (j+1)) G) O (fun w hI=>(by rw[zfJ he_p,hq,zpf];exact(show FdOk _ _ _ _ _ _ from hI.at 904 O).set (fun _ h=>h) (.inl hg_p))) (FdP.loc) (fun _ h=>h) (fun q h=>h) ?_
   refine Va 7 O (by omega) ?_
   refine V.back (⟨j+1,hs.set q (.slice a2_p p.args.length n2_p)⟩) (Sub.of O) (Has.of O) (⟨by omega,by rw[zqv];exact hhl⟩) (by first | omega | (dsimp only;omega)) 0 O O
  obtain rfl:j=x.phis.length:=by omega
  refine znd (p:=∃ a c,uv=.slice a (x.uses.map (·.2)).length c) (fun w hI=>xW (hI.at 903 O)) (fun hform=>?_)
  obtain⟨au,cu,rfl⟩:=hform
  refine Vs 12 O ?_
  refine zld O (fun d0=>?_) (fun d0=>?_)
  .
   obtain⟨q,hq,hql⟩:=xR (hnodf.yes (hdfn.1 d0))
   refine Va 6 O (by omega) ?_
   refine znu 34 (q) ts27 O (by omega) (by omega) ?_
   refine zot 904 903 (e':=FdP D W (hs.set q (.slice au (x.uses.map (·.2)).length cu)) (xi s (i+1)) (fun b=>G b\/(Value.slice au (x.uses.map (·.2)).length cu).ownBlock=some b)) [(5,some (5,0)),(9,some (909,0)),(13,some (13,0)),(70,some (13,2)),(74,some (13,2))] O O O (fun w hI=>(by rw[zhj he_x d0,hq,zpf];exact(show FdOk _ _ _ _ _ _ from hI.at 904 O).set (fun _ h=>.inl h) (.inr (zmj zb (fun _ _=>rfl) (hI.at 903 O) fun b hb=>.inr hb)))) (FdP.loc) (fun _ h=>h) (fun b hb=>hb) ?_
   have hns:¬ xV f g s i=true:=by unfold xV;rw[hxn];simp[d0]
   refine znJ 902 O (e':=.row 3 1 wv (yi f g s (i+1)).length ((yi f g s (i+1)).map zb)) (by rw[kN hns]) ?_
   refine Va 7 O (by omega) ?_
   refine V.back (⟨i+1,hs.set q (.slice au (x.uses.map (·.2)).length cu),wv,fun b=>G b\/(Value.slice au (x.uses.map (·.2)).length cu).ownBlock=some b⟩) (Sub.of O) (Has.of O) (⟨by omega,by rw[zqv];exact hhl⟩) (by first | omega | (dsimp only;omega)) 0 O O
  obtain⟨y,he_y,hm_y⟩:=gE_ g (i) (by omega)
  obtain⟨b_y,o_y,c_y,ha_y,hd_y,hc_y,hR_y⟩:=hgsg.atD he_y
  obtain rfl:=hR_y
  refine znI 4000 0 O O (fun h_=>by have h1_:=hoff _ h_;have h2_:=hd_y;first | omega | exact h1_ h2_) hc_y ?_
  have hyn:xk g i=y:=yD he_y
  have hsk:xV f g s i=decide (y.kind ≠ 2\/(zO f y.at_).act=1):=by unfold xV;rw[hxn,hyn];simp[d0]
  have hwl:=zhl (f:=f) (g:=g) (s:=s) i
  have hwm:=ziV (f:=f) (g:=g) (s:=s) (show i<=g.length by omega)
  obtain⟨st,he_st,hm_st⟩:=gE_ gm (i) (by omega)
  obtain⟨b_st,o_st,c_st,ha_st,hd_st,hc_st,hR_st⟩:=hstg.atD he_st
  obtain⟨v1_st,v2_st,v3_st,v4_st,rfl,hk_st,ht_st,hs_st,hb_st⟩:=hR_st.get
  obtain⟨a1_st,n1_st,rfl⟩:=hk_st.form
  obtain⟨a2_st,n2_st,rfl⟩:=ht_st.form
  obtain⟨a3_st,n3_st,rfl⟩:=hs_st.form
  obtain⟨a4_st,n4_st,rfl⟩:=hb_st.form
  refine znI 5000 0 O O (fun h_=>by have h1_:=hoff _ h_;have h2_:=hd_st;first | omega | exact h1_ h2_) hc_st ?_
  refine Vs 7 O ?_
  refine znk 4000 tR34 ts65 O ha_y (by omega) (_) (rfl) O ?_
  refine Vs 4 O ?_
  refine V.sp 87 O (fun k2=>?_) (fun k2=>?_)
  .
   have hs1:xV f g s i=true:=by rw[hsk];simp[k2]
   refine Vs 16 O ?_
   refine znN 902 (fun x=>[zb x]) (fun _=>rfl) (by simp[Value.oneCell']) zcD tu27 Tryz.el3 O (by decide) O (fun w hI=>⟨_,zmj (D:=fun _=>True) zb (fun _ _=>rfl) (hI.at 903 O) (fun _ _=>trivial)⟩) (by omega) (by omega) (fun u902=>?_)
   refine znJ 904 O (e':=FdP D W hs (xi s (i+1)) G) (by rw[zcI he_x d0]) ?_
   refine znJ 902 O (e':=.row 3 1 u902 (yi f g s (i+1)).length ((yi f g s (i+1)).map zb)) (by rw[je hs1,hxn,zp1,zqw,zcN]) ?_
   refine Va 8 O (by omega) ?_
   refine V.back (⟨i+1,hs,u902,G⟩) (Sub.of O) (Has.of O) (⟨by omega,hhl⟩) (by first | omega | (dsimp only;omega)) 0 O O
  refine Vs 5 O ?_
  refine znk 5000 tR24 ts72 O ha_st (by omega) (_) (rfl) O ?_
  have hstn:st.act=(zO f y.at_).act:=by
   have h1:gm[i]?=some (stN f y):=by rw[<- hgm',zpa,he_y];rfl
   rw[Option.some.inj (he_st.symm.trans h1)]
   have h2:=(hk.at he_y (.inl (by omega))).1
   unfold stN;rw[zp4 h2]
  refine Vs 6 O ?_
  refine zld O (fun a1=>?_) (fun a1=>?_)
  .
   have hs1:xV f g s i=true:=by rw[hsk,<- hstn];simp[a1]
   refine Vs 3 O ?_
   refine znN 902 (fun x=>[zb x]) (fun _=>rfl) (by simp[Value.oneCell']) zcD tu27 Tryz.el3 O (by decide) O (fun w hI=>⟨_,zmj (D:=fun _=>True) zb (fun _ _=>rfl) (hI.at 903 O) (fun _ _=>trivial)⟩) (by omega) (by omega) (fun u902=>?_)
   refine znJ 904 O (e':=FdP D W hs (xi s (i+1)) G) (by rw[zcI he_x d0]) ?_
   refine znJ 902 O (e':=.row 3 1 u902 (yi f g s (i+1)).length ((yi f g s (i+1)).map zb)) (by rw[je hs1,hxn,zp1,zqw,zcN]) ?_
   refine Va 8 O (by omega) ?_
   refine V.back (⟨i+1,hs,u902,G⟩) (Sub.of O) (Has.of O) (⟨by omega,hhl⟩) (by first | omega | (dsimp only;omega)) 0 O O
  have hns:¬ xV f g s i=true:=by
   have hk2:y.kind=2:=by omega
   rw[hsk,<- hstn];simp[a1,hk2]
  refine znJ 904 O (e':=FdP D W hs (xi s (i+1)) G) (by rw[zcI he_x d0]) ?_
  refine znJ 902 O (e':=.row 3 1 wv (yi f g s (i+1)).length ((yi f g s (i+1)).map zb)) (by rw[kN hns]) ?_
  refine Va 7 O (by omega) ?_
  refine V.back (⟨i+1,hs,wv,G⟩) (Sub.of O) (Has.of O) (⟨by omega,hhl⟩) (by first | omega | (dsimp only;omega)) 0 O O
 obtain rfl:i=s.nodes.length:=by omega
 refine Vs 10 O ?_
 refine zm6 105 Tryz.underlying52 Tryz.el4 O (by omega) (by omega) (zs:=List.replicate s.of_.length (.bool false)) (xD _ _ O) (by simp) (fun b105=>?_)
 refine znJ 105 O (e':=.row 4 1 (.slice (some ⟨b105,0,none⟩) s.of_.length s.of_.length) s.of_.length ((List.replicate s.of_.length false).map Value.bool)) (by rw[zqB]) ?_
 refine znJ 902 O (e':=.row 3 1 wv (yi f g s g.length).length ((yi f g s g.length).map zb)) (by rw[hlen]) ?_
 refine znJ 904 O (e':=FdP D W hs (xi s g.length) G) (by rw[hlen]) ?_
 refine Vs 5 O ?_
 refine znK (σ:=List Bool × List Int × Value) [10,19] [] [] O (fun e ⟨nl,wl,wv⟩=>(11,wv)::e) (fun e ⟨nl,wl,wv⟩=>(105,.row 4 1 (.slice (some ⟨b105,0,none⟩) s.of_.length s.of_.length) s.of_.length (nl.map Value.bool))::(902,.row 3 1 wv wl.length (wl.map zb))::(34,.row 27 1 (.slice (some ⟨b34,0,none⟩) s.of_.length s.of_.length) s.of_.length hs)::(904,FdP D W hs (xi s g.length) G)::e) (fun⟨nl,wl,wv⟩=>WkN f g s nl wl/\wl.length+muN s g.length nl<=1000000000) (fun⟨nl,wl,wv⟩=>wl.length+muN s g.length nl) ((List.replicate s.of_.length false,yi f g s g.length,wv)) (Sub.of O) (Has.of O) (fun _=>rfl) (fun _=>rfl) (fun _=>rfl) (⟨zob hF,hM⟩) ?_
 rintro⟨nl,wl,wv⟩ ⟨hW,hmu⟩
 show V _ _ _ _ _ ((11,wv)::_) _ ((105,.row 4 1 (.slice (some ⟨b105,0,none⟩) s.of_.length s.of_.length) s.of_.length (nl.map Value.bool))::(902,.row 3 1 wv wl.length (wl.map zb))::(34,.row 27 1 (.slice (some ⟨b34,0,none⟩) s.of_.length s.of_.length) s.of_.length hs)::(904,FdP D W hs (xi s g.length) G)::_) _
 have hnll:=hW.len
 refine znd (p:=∃ a c,wv=.slice a wl.length c/\(0<wl.length->∃ b,a=some ⟨b,0,none⟩)) (fun w hI=>zhA (hI.at 902 O)) (fun hwf=>?_)
 obtain⟨aw,cw,rfl,haw⟩:=hwf
 refine Vs 8 O ?_
 refine zld O (fun lw=>?_) (fun lw=>?_)
 .
  obtain⟨wl',v0,rfl⟩:∃ a b,wl=a++[b]:=by
   rcases List.eq_nil_or_concat wl with h | ⟨a,b,h⟩
   . subst h;simp at lw
   exact⟨a,b,by simpa using h⟩
  obtain⟨hN,v,rfl,hvl⟩:=hW.wrk v0 (by simp)
  have hwl1:(wl'++[(v:Int)]).length=wl'.length+1:=by simp
  obtain⟨b,hb⟩:∃ b,nl[v]?=some b:=⟨_,zoT (by omega)⟩
  obtain⟨l,hl⟩:∃ l,(xi s g.length)[v]?=some l:=⟨_,zoT (by rw[zdF];exact hvl)⟩
  obtain⟨bw,rfl⟩:=haw (by omega)
  refine znd (p:=(wl'++[(v:Int)]).length<=cw) (fun w hI=>(qQ (show w.ownsRow 0 3 1 (.slice (some ⟨bw,0,none⟩) (wl'++[(v:Int)]).length cw) (wl'++[(v:Int)]).length ((wl'++[(v:Int)]).map zb) from hI.at 902 O)).choose_spec.2.1) (fun hcw=>?_)
  refine Va 10 O (by omega) ?_
  refine znt 902 (wl'.length) tg3 O (by omega) (show _=some (Value.int .i64 (v:Int)) by simp[zb]) ?_
  refine Va 9 O (by omega) ?_
  refine zmS O (fun w hI=>zml tR27 ts3 O O (by omega)) ?_
  refine V.eq 119 (v:=.slice (some ⟨bw,0,none⟩) wl'.length cw) O (by congr 1;omega) ?_
  refine zog 902 (e':=.row 3 1 (.slice (some ⟨bw,0,none⟩) wl'.length cw) wl'.length (wl'.map zb)) O (fun w hI=>(by have h:=zj3 (j:=wl'.length) (show w.ownsRow 0 3 1 (.slice (some ⟨bw,0,none⟩) (wl'++[(v:Int)]).length cw) (wl'++[(v:Int)]).length ((wl'++[(v:Int)]).map zb) from hI.at 902 O) (by omega);rwa [zqw,List.take_left' (by simp)]at h)) (trivial) (fun _ h=>h) (fun q h=>h) ?_
  refine Va 8 O (by omega) ?_
  refine znt 105 (v) tg4 O (by omega) (show _=some (Value.bool b) by rw[zpa,hb];rfl) ?_
  refine zmS O (fun w hI=>zms O (by first | exact za | rfl)) ?_
  refine Vs 2 O ?_
  refine V.bool O (fun n0=>?_) (fun n0=>?_)
  .
   obtain rfl:b=false:=by cases b<;>simp_all
   refine Va 5 O (by omega) ?_
   refine znu 105 (v) ts4 O (by omega) (by simp;omega) ?_
   refine znJ 105 O (e':=.row 4 1 (.slice (some ⟨b105,0,none⟩) s.of_.length s.of_.length) s.of_.length ((nl.set v true).map Value.bool)) (by rw[zqC]) ?_
   refine znd (p:=∃ a c,hs[v]?=some (.slice a l.length c)) (fun w hI=>(show FdOk _ _ _ _ _ _ from hI.at 904 O).form hl) (fun hfd=>?_)
   obtain⟨al,cl,hfd⟩:=hfd
   have hms:=zjY hl (by rw[hb];exact fun e=>by cases e) (show v<nl.length by omega)
   refine Va 7 O (by omega) ?_
   refine znt 34 (v) tg27 O (by omega) (hfd) ?_
   refine znN 902 (fun x=>[zb x]) (fun _=>rfl) (by simp[Value.oneCell']) zcD tu27 Tryz.el3 O (by decide) O (fun w hI=>⟨_,(show FdOk _ _ _ _ _ _ from hI.at 904 O).get hI.k1 hl hfd⟩) (by omega) (by omega) (fun u902=>?_)
   refine znJ 902 O (e':=.row 3 1 u902 (wl'++l).length ((wl'++l).map zb)) (by rw[zp1,zqw,zcN]) ?_
   refine Vs 3 O ?_
   refine V.back (⟨nl.set v true,wl'++l,u902⟩) (Sub.of O) (Has.of O) (⟨hW.take hF hl,by rw[zp1];omega⟩) (by simp only[zp1];omega) 0 O O
  obtain rfl:b=true:=by cases b<;>simp_all
  refine Vs 2 O ?_
  refine V.back (⟨nl,wl',.slice (some ⟨bw,0,none⟩) wl'.length cw⟩) (Sub.of O) (Has.of O) (⟨hW.skip hb,by omega⟩) (by simp only[];omega) 0 O O
 obtain rfl:wl=[]:=by cases wl;(· rfl);simp at lw
 have hfin:=hW.fin hF
 refine Vs 13 O ?_
 refine zlw Tryz.results21 O O (fun w hI=>⟨_,rfl,⟨_,by rw[c0'],fun h=>absurd c0' h,fun _=>by rw[<- hfin];exact zmj (R:=zhG) (D:=fun b=>W.heap.size<=b) Value.bool (fun _ _=>rfl) (show w.ownsRow 0 4 1 (.slice (some ⟨b105,0,none⟩) s.of_.length s.of_.length) nl.length (nl.map Value.bool) by rw[hnll];exact hI.at 105 O) (fun q hq=>hI.own 105 1 O O q hq)⟩,hI.k1⟩)
end Go.Proofs.YtckdhgbepmpgiaaGreat
namespace Go.GL
section
variable {P:Program} {n:Nat} {Q:Exit->Act->World->Prop} {ks:List Fr} {env:Env} {A:Tgs} {H Hs:Hp} {Bs B0:zC} {ops:Array Oper} {L:List Nat} {fuel:Nat} {listed:Array Bool} {v:Value}
variable {ty:TypeId} {ps:String} {aft:Array Edge} {g:Option (Nat × Bool)}
theorem zoR (i k q j:Nat) {ts:TypeId} {x y:Operand} {b o:Nat} {cs:List Value} {e:TypeId} (hss:∀ w,(sizeOf ts).run P w=.ok 1 w) (hi:ops[i]?=some ⟨none,.store ts x y,ty,ps,aft,g⟩) (hr:Region.ready .any ops listed=[i])
  (hn:(gd ops env g,hget H k,ev env x,ev env y,qu (Hs.map (·.1)),ql k (Hs.map (·.1)))=(some true,some (.own b cs e),some (.pointer (some ⟨b,o,none⟩)),some v,true,true)) (h1:Go.GL.one v=true) (hj:o=q) (hl:q<cs.length) (hB:Bs.drop j=B0)
  (h:VD P n Q ks ops Hs B0 L fuel (listed.setIfInBounds i true) env A (yx H k (.own b (cs.set q v) e)) Bs):VD P n Q ks ops Hs B0 L (fuel+1) listed env A H Bs:=by
 simp only[Prod.mk.injEq]at hn
 subst hj hB
 obtain⟨h2,h3,h4,h5,h6,h7⟩:=hn
 intro hH hA w hI
 have hB:Blk w b cs e:=hI.at k h3
 obtain⟨c1,c2⟩:=xE h1
 have hH':Has Hs (yx H k (.own b (cs.set o v) e)):=hH.set h3 h7
 refine znF i hi hr h2 (M.store hss h4 h5 c1 c2 hB hl) ?_
 rintro w2 ⟨_,hB2,hk2⟩
 have hI2:VI Bs (yx H k (.own b (cs.set o v) e)) w2:=hI.set h3 hk2 hB2 trivial (fun _ h=>h) fun q hq=>⟨.inl hq,by have hq:q=b:=hq;rw[hq];exact hB2.lt⟩
 exact⟨(hI2.drop j).pick hH' h6,h hH' (hA.set h3) w2 hI2⟩
end
section
theorem VI.all {Bs:zC} {H E:Hp} {w:World} (hI:VI Bs H w) (h:E.map (fun x=>hget H x.1)=E.map (fun x=>some x.2)):∀ x ∈ E,x.2.holds w:=fun x hx=>hI.at x.1 (Has.of h x hx)
end
end Go.GL
namespace Go.Proofs.YtckdhgbepmpgiaaGreat
open Go.GL
theorem zc9 {P:Program} {f:FuncId} {args:Array Value} {w:World} {k k':Int} (h:k=k') (hc:Calls P f args w (Ret fun r w'=>r=.int .i64 k/\Ext w w')):Calls P f args w (Ret fun r w'=>r=.int .i64 k'/\Ext w w'):=h ▸ hc
theorem zfS (W:World):Calls Tryz.prog 11 #[] W (Ret fun r w'=>r=.bool true/\Ext W w'):=by
 have hsz:=zhg
 have hbk:=zhh
 have hbig:exS22.of_.length<=1000000/\(LP exS22 exG22.length).length<=1000000:=by decide +kernel
 have hbig2:exT22.of_.length<=1000000/\(LP exT22 exG22.length).length<=1000000:=by decide +kernel
 have hbi:∀ k,(xy zhr k).length<=1000000000:=fun k=>by unfold xy;split<;>(try split)<;>decide
 refine zn0 Tryz.func11 O Tryz.ntmps11 (znb ?_)
 refine Vs 7 O ?_
 refine zop [] (Hn:=fun b:B22=>[(906,.own b.1 [.string ⟨#[120]⟩,.int .i64 1,.int .i64 0,.int .i64 1,.int .i64 0,.string ⟨#[121]⟩,.int .i64 0,.int .i64 0,.int .i64 1,.int .i64 0] 142),(910,.own b.2.1 [.int .i64 0,.int .i64 0,.int .i64 1,.int .i64 0,.int .i64 0,.int .i64 1,.slice none 0 0,.slice none 0 0,.slice none 0 0,.slice none 0 0] 72),(914,.own b.2.2.1 [.int .i64 3,.int .i64 0,.int .i64 0,.int .i64 0,.int .i64 24,.int .i64 0,.slice none 0 0,.slice (some ⟨b.2.1,0,none⟩) 1 1,.slice none 0 0,.slice none 0 0,.int .i64 1,.int .i64 0,.int .i64 0,.int .i64 0,.int .i64 24,.int .i64 1,.slice none 0 0,.slice none 0 0,.slice none 0 0,.slice none 0 0] 72),(916,.own b.2.2.2.1 [.int .i64 0,.int .i64 1,.int .i64 1,.int .i64 1] 3),(919,.own b.2.2.2.2.1 [.int .i64 0,.int .i64 0] 85),(922,.own b.2.2.2.2.2.1 [.int .i64 1,.int .i64 2] 3),(923,.own b.2.2.2.2.2.2.1 [.int .i64 1,.int .i64 2] 3),(925,.own b.2.2.2.2.2.2.2.1 [.int .i64 1,.int .i64 3,.slice (some ⟨b.2.2.2.2.2.1,0,none⟩) 2 2,.slice (some ⟨b.2.2.2.2.2.2.1,0,none⟩) 2 2] 88),(927,.own b.2.2.2.2.2.2.2.2.1 [.int .i64 1,.int .i64 3] 85),(930,.own b.2.2.2.2.2.2.2.2.2 [.slice none 0 0,.slice none 0 0,.int .i64 (-1),.slice none 0 0,.slice (some ⟨b.2.2.2.2.1,0,none⟩) 1 1,.int .i64 (-1),.slice none 0 0,.slice none 0 0,.int .i64 2,.slice (some ⟨b.2.2.2.2.2.2.2.1,0,none⟩) 1 1,.slice (some ⟨b.2.2.2.2.2.2.2.2.1,0,none⟩) 1 1,.int .i64 (-1),.slice none 0 0,.slice none 0 0,.int .i64 (-1)] 59)]) [] Tryz.call31 O (fun _ _=>rfl) (fun _=>rfl) (fun w hI=>zbA O O (zdG w)) ?_
 rintro _ ⟨bv,bb,bx,bo,b9,bf,ba,bp,bu,bn⟩ rfl
 refine Vs 3 O ?_
 refine V.alloc 1 tz26 O O (fun b1=>?_)
 refine V.alloc 2 tz30 O O (fun b2=>?_)
 refine Vs 7 O ?_
 refine zny Tryz.call14 O (fun w hI=>zhp exF22 _ _ _ (fun q=>q<w.heap.size) w (kO (hI.all O) (fun q h=>h)) (by decide)) ?_
 rintro rr w1 w2 hI1 hk12 ⟨nv,rfl,hnv⟩ hlow
 rw[zc3]at hnv
 obtain⟨an,cn,rfl⟩:=hnv.form
 refine V.alloc 3 tz36 O O (fun b3=>?_)
 refine Vs 8 O ?_
 refine V.bs 18 [(0,_)] tR27 ts3 tz3 (by decide) O O (by kernel_rfl) (fun b18=>?_)
 refine znO [Value.slice none 0 0,Value.slice none 0 0,Value.slice none 0 0] [(0,1),(1,1),(2,1)] [(0,_)] O O (fun _=>by kernel_rfl) ?_
 refine zny Tryz.call18 O (fun w hI=>zk6 exF22 exG22 exS22 zhr hsz hbk hbig hbi _ _ _ _ _ _ _ _ _ (fun q=>q<w.heap.size) w (kO (hI.all O) (fun q h=>h)) ((SlR.narrow (by omega) kE (hnv.keep zI hI.k0 (fun b hb _ hs=>by have:=hlow b hs;omega))).wide zI fun q h=>h.2) (zcJ (hI.all O) (fun q h=>h)) (zoE (R:=yc) (l:=[(1:Int)]) [[.int .i64 1]] (hI.at 18 O) (Blk.lt (hI.at 18 O)) (fun c hc=>by rw[zpb]at hc;subst hc;rfl) (by decide) ⟨rfl,trivial⟩) SlR.nil SlR.nil (fun q h=>h)) ?_
 rintro rr w3 w4 hI3 hk34 ⟨ov,t,rfl,_,hov⟩ hlow2
 have hc:zel exF22 exG22 exS22 zhr=0:=by unfold zel;rw[zp3 (by rw[zbw];decide)];exact zfN
 rw[hc]at hov ⊢
 obtain⟨hov,_⟩:=hov rfl
 rw[zhs]at hov
 obtain⟨ovl,hO⟩:∃ ovl:List Int,ovl=[1]:=⟨_,rfl⟩
 rw[<- hO]at hov
 obtain⟨ao,co,rfl⟩:=hov.form
 have hOl:ovl.length=1:=by rw[hO];rfl
 have hN4:(kM exF22 exG22 exS22).length=4:=(zhi _ _ _).trans rfl
 have hN0:=zfO
 have hN3:=zfP
 refine Vs 3 O ?_
 refine V.alloc 4 Tryz.zeroValue47 O O (fun b4=>?_)
 refine Vs 9 O ?_
 refine zny Tryz.call21 O (fun w hI=>zfR exF22 exG22 exS22 hsz hbk hbig zjZ (by decide) _ _ _ _ _ _ (fun q=>q<w.heap.size) w (kO (hI.all O) (fun q h=>h)) ((SlR.narrow (by omega) kE (hnv.keep zI hI.k1 (fun b hb _ hs=>by have:=hlow b hs;omega))).wide zI fun q h=>h.2) (zcJ (hI.all O) (fun q h=>h)) (fun q h=>h)) ?_
 rintro rr w5 w6 hI5 hk56 ⟨nu,rfl,_,hnl⟩ hlow3
 rw[zbw]at hnl ⊢
 have hnl:=hnl rfl
 obtain⟨N,hNN⟩:∃ N,N=kM exF22 exG22 exS22:=⟨_,rfl⟩
 rw[<- hNN]at hnl hN4 hN0 hN3
 obtain⟨au,cu,rfl⟩:=hnl.form
 refine Vs 13 O ?_
 refine znw Tryz.call16 O (fun w hI=>(zc9 zbw (kK exF22 exG22 exS22 hsz hbk hbig _ _ _ _ _ _ (fun q=>q<w.heap.size) w (kO (hI.all O) (fun q h=>h)) ((SlR.narrow (by omega) kE (hnv.keep zI hI.k2 (fun b hb _ hs=>by have:=hlow b hs;omega))).wide zI fun q h=>h.2) (zcJ (hI.all O) (fun q h=>h)) (fun q h=>h)))) ?_
 refine Vs 2 O ?_
 refine V.sp 35 O (fun q1=>?_) (fun q1=>?_)
 . exact absurd O q1
 refine Vs 4 O ?_
 refine V.sp 39 O (fun q2=>?_) (fun q2=>?_)
 . exact absurd O q2
 refine Vs 6 O ?_
 refine V.sp 45 O (fun q3=>?_) (fun q3=>?_)
 . omega
 obtain⟨z,he_z,hm_z⟩:=gE_ ovl (0) (by omega)
 obtain⟨b_z,o_z,c_z,ha_z,hd_z,hc_z,hR_z⟩:=hov.atD he_z
 obtain rfl:=hR_z
 refine znI 1000 1 O O (fun h_=>by have h1_:=hlow2 _ h_;have h2_:=hd_z;first | omega | exact h1_ h2_) hc_z ?_
 obtain rfl:z=1:=by rw[hO]at he_z;exact(Option.some.inj he_z).symm
 refine Vs 2 O ?_
 refine znk 1000 tR27 ts3 O ha_z (by omega) (_) (rfl) O ?_
 refine Vs 4 O ?_
 refine V.sp 52 O (fun q4=>?_) (fun q4=>?_)
 . exact absurd O q4
 refine Vs 4 O ?_
 refine V.sp 56 O (fun q5=>?_) (fun q5=>?_)
 . exact absurd O q5
 refine Vs 5 O ?_
 refine V.sp 61 O (fun q6=>?_) (fun q6=>?_)
 . omega
 obtain⟨x0,he_x0,hm_x0⟩:=gE_ N (0) (by omega)
 obtain⟨b_x0,o_x0,c_x0,ha_x0,hd_x0,hc_x0,hR_x0⟩:=hnl.atD he_x0
 obtain rfl:=hR_x0
 refine znI 2000 0 O O (fun h_=>by have h1_:=hlow3 _ h_;have h2_:=hd_x0;first | omega | exact h1_ h2_) hc_x0 ?_
 obtain rfl:x0=true:=Option.some.inj (he_x0.symm.trans hN0)
 refine Vs 1 O ?_
 refine znk 2000 tR52 ts4 O ha_x0 (by omega) (_) (rfl) O ?_
 refine Vs 1 O ?_
 refine zmS O (fun w hI=>zms O (by first | exact za | rfl)) ?_
 refine Vs 2 O ?_
 refine V.sb 67 O (fun q7=>?_) (fun q7=>?_)
 . cases q7
 obtain⟨x3,he_x3,hm_x3⟩:=gE_ N (3) (by omega)
 obtain⟨b_x3,o_x3,c_x3,ha_x3,hd_x3,hc_x3,hR_x3⟩:=hnl.atD he_x3
 obtain rfl:=hR_x3
 refine znI 3000 0 O O (fun h_=>by have h1_:=hlow3 _ h_;have h2_:=hd_x3;first | omega | exact h1_ h2_) hc_x3 ?_
 obtain rfl:x3=true:=Option.some.inj (he_x3.symm.trans hN3)
 refine Vs 1 O ?_
 refine znk 3000 tR52 ts4 O ha_x3 (by omega) (_) (rfl) O ?_
 refine Vs 1 O ?_
 refine zmS O (fun w hI=>zms O (by first | exact za | rfl)) ?_
 refine Vs 3 O ?_
 refine V.bool O (fun q8=>?_) (fun q8=>?_)
 . cases q8
 refine Vs 3 O ?_
 refine Vw [906,910,914,916,919,922,923,925,1,2,3,18,4,1000,2000,3000] [] O ?_
 refine Vd [0,1,2,3] 0 (by kernel_rfl) O O O ?_
 refine znQ 4 O (by kernel_rfl) O (fun w=>zlO tR28 ts59 O O O (by decide)) ?_
 refine Vd [5] 0 (by kernel_rfl) O O O ?_
 refine zmT 6 0 O (by kernel_rfl) O O (fun w hI=>R.load Tryz.isAgg57 O (v:=.slice (some ⟨bu,0,none⟩) 1 1) (by exact Blk.cells (hI.at 930 O) 10 _ O)) ?_
 refine znQ 7 O (by kernel_rfl) O (fun w=>zlO tR28 ts59 O O O (by decide)) ?_
 refine Vd [8] 0 (by kernel_rfl) O O O ?_
 refine zoR 9 930 9 0 Tryz.sizeOf56 O (by kernel_rfl) O O O (by simp) O ?_
 refine znQ 10 O (by kernel_rfl) O (fun w=>zlO tR57 ts85 O O O (by decide)) ?_
 refine Vd [11] 0 (by kernel_rfl) O O O ?_
 refine zoR 12 927 1 0 ts3 O (by kernel_rfl) O O O (by simp) O ?_
 refine VD.done (by kernel_rfl) ?_
 refine Vs 6 O ?_
 refine znw Tryz.call16 O (fun w hI=>(zc9 zfI (kK exF22 exG22 exT22 hsz hbk hbig2 _ _ _ _ _ _ (fun q=>q<w.heap.size) w (kO (hI.all O) (fun q h=>h)) ((SlR.narrow (by omega) kE (hnv.keep zI hI.k2 (fun b hb _ hs=>by have:=hlow b hs;omega))).wide zI fun q h=>h.2) (zhq (hI.all O) (fun q h=>h)) (fun q h=>h)))) ?_
 refine Vs 5 O ?_
 refine zlt Tryz.results11 O (fun w hI=>⟨_,rfl,rfl,hI.k3⟩)
attribute [local instance 1] Classical.propDecidable
theorem zkG (f:Fl) (g:List Nd) (s:Sf) (hk:GOk f g) (hz:ssize f.body<=10000) (hg1:1<=g.length) (hgl:g.length<=100000) (hvl:f.vars.length<=1000) (hbig:s.of_.length<=1000000/\(LP s s.nodes.length).length<=1000000) (v1 v2 v3 gv ofv nodv:Value) (D:Nat->Prop) (W:World) (hf:RFl D W f v1 v2 v3) (hg:SlR 4 RNd D W gv g) (hS:RSf D W s ofv nodv) :
  Calls Tryz.prog 15 #[.agg #[v1,v2,v3],.agg #[gv],.agg #[ofv,nodv]] W (Ret fun r w'=>(∃ q:Bool,r=.bool q/\(q=true ↔ RightF f g s (rdV f g)))/\Ext W w'):=by
 have hf0:=hf
 have hg0:=hg
 have hS0:=hS
 have hnd:=hS.nodes
 obtain⟨an,cn,rfl⟩:=hnd.form
 have hnm:=hnd.max
 have hno:¬ RightF f g s (rdV f g)->((false:Bool)=true ↔ RightF f g s (rdV f g)):=fun hb=>⟨fun h=>(by cases h),fun h=>absurd h hb⟩
 refine zn3 Tryz.func15 O Tryz.ntmps15 O (znb ?_)
 refine Vs 2 O ?_
 refine V.box 3 O O (fun b3=>?_)
 refine V.box 4 O O (fun b4=>?_)
 refine V.box 5 O O (fun b5=>?_)
 refine Vs 9 O ?_
 refine znw Tryz.call34 O (fun w hI=>kJ (zfv f g s hk hz (by omega) hbig _ _ _ _ _ _ D w (Tr1 hI.k0 hf0) (Tr1 hI.k0 hg0) (Tr1 hI.k0 hS0))) ?_
 refine zmS O (fun w hI=>zms O (by first | exact za | rfl)) ?_
 refine Vs 2 O ?_
 refine zld O (fun n1=>?_) (fun n1=>?_)
 .
  have hb:¬ RightF f g s (rdV f g):=fun h=>n1 h.toFormF
  refine Vs 7 O ?_
  refine zlt tr15 O (fun w hI=>⟨_,rfl,⟨_,rfl,hno hb⟩,hI.k0⟩)
 have hF:FormF f g s (rdV f g):=Classical.not_not.1 n1
 have hlen:=hF.len
 have hnn:=hF.nn
 have hUA:¬ jB f g s->((false:Bool)=true ↔ RightF f g s (rdV f g)):=fun hb=>hno fun h=>hb ⟨h.use,h.arg⟩
 refine Vs 7 O ?_
 refine zny Tryz.call35 O (fun w hI=>ziM f g s hk hF hz hg1 hgl hvl _ _ _ _ _ _ D w (Tr1 hI.k0 hf0) (Tr1 hI.k0 hg0) (Tr1 hI.k0 hS0)) ?_
 rintro rr w1 w2 hI1 hk12 ⟨u1,u2,ins,outs,rfl,hsi,hso,hsol,hout,hins,houts⟩ hlow
 obtain⟨b1,d1,rfl⟩:=hins.form
 obtain⟨b2,d2,rfl⟩:=houts.form
 have hil:=hsi.len
 have hol:=hso.len
 have hir:=hsi.row
 have hor:=hso.row
 have him:=hins.max
 have hom:=houts.max
 refine Vs 17 O ?_
 refine znK (σ:=Nat) [7,8,30,31] [] [] O (fun e n=>(32,.int .i64 n)::e) (fun e n=>e) (fun n=>n<=s.nodes.length/\(∀ (m:Nat) x,m<n->s.nodes[m]?=some x->NodU f g s m x)) (fun n=>s.nodes.length - n) (0) (Sub.of O) (Has.of O) (fun _=>rfl) (fun _=>rfl) (fun _=>rfl) (⟨zp8 _,fun m x h=>absurd h (zrn _)⟩) ?_
 rintro n ⟨hn,hall⟩
 refine Vs 6 O ?_
 refine zld O (fun ln=>?_) (fun ln=>?_)
 .
  refine Vs 7 O ?_
  obtain⟨x,he_x,hm_x⟩:=gE_ s.nodes (n) (by omega)
  obtain⟨b_x,o_x,c_x,ha_x,_,hc_x,hR_x⟩:=hnd.at he_x
  obtain⟨v1_x,v2_x,rfl,hp_x,hu_x⟩:=hR_x
  obtain⟨a1_x,n1_x,rfl⟩:=hp_x.form
  obtain⟨a2_x,n2_x,rfl⟩:=hu_x.form
  refine znH 1000 1 O O hc_x ?_
  refine znk 1000 tR28 ts59 O ha_x (by omega) (_) (rfl) O ?_
  have hnod:=hF.nod n x he_x
  have hum:=hu_x.max
  have hpm:=hp_x.max
  have hng:n<g.length:=by omega
  refine Vs 1 O ?_
  refine V.alloc 10 tz59 O O (fun b10=>?_)
  refine Vs 14 O ?_
  refine znK (σ:=Nat) [7,8,9,10,30,31,32,38,39] [10] [10] O (fun e k=>(40,.int .i64 k)::e) (fun e k=>e) (fun k=>k<=x.uses.length/\(∀ (j:Nat) u,j<k->x.uses[j]?=some u->inV f g s n u.1=u.2)) (fun k=>x.uses.length - k) (0) (Sub.of O) (Has.of O) (fun _=>rfl) (fun _=>rfl) (fun _=>rfl) (⟨zp8 _,fun j u h=>absurd h (zrn _)⟩) ?_
  rintro k ⟨hkk,hku⟩
  refine Vs 6 O ?_
  refine zld O (fun lk=>?_) (fun lk=>?_)
  .
   refine Vs 6 O ?_
   obtain⟨u,he_u,hm_u⟩:=gE_ x.uses (k) (by omega)
   obtain⟨b_u,o_u,c_u,ha_u,_,hc_u,hR_u⟩:=hu_x.at he_u
   obtain rfl:=hR_u
   refine znH 2000 1 O O hc_u ?_
   refine znk 2000 tR57 ts85 O ha_u (by omega) (_) (rfl) O ?_
   have hub:=kI hF.of_ (hnod.ver u hm_u)
   obtain⟨p1,p2⟩:=u
   dsimp only at hub
   obtain⟨v,rfl⟩:∃ v:Nat,p1=(v:Int):=⟨p1.toNat,by omega⟩
   obtain⟨r,he_r,hm_r⟩:=gE_ ins (n) (by omega)
   obtain⟨b_r,o_r,c_r,ha_r,hd_r,hc_r,hR_r⟩:=hins.atD he_r
   obtain⟨v1_r,rfl,hs_r⟩:=hR_r
   obtain⟨a1_r,n1_r,rfl⟩:=hs_r.form
   refine znI 3000 0 O O (fun h_=>by have h1_:=hlow _ h_;have h2_:=hd_r;first | omega | exact h1_ h2_) hc_r ?_
   have hrn:=hir r hm_r
   obtain⟨y,he_y,hm_y⟩:=gE_ r (v) (by omega)
   obtain⟨b_y,o_y,c_y,ha_y,hd_y,hc_y,hR_y⟩:=hs_r.atD he_y
   obtain rfl:=hR_y
   refine znI 4000 0 O O (fun h_=>by have h1_:=hlow _ h_;have h2_:=hd_y;first | omega | exact h1_ h2_) hc_y ?_
   have hyin:y=inV f g s n v:=by rw[<- zak he_r he_y];exact hsol.is hnn (by omega) (by omega) hng
   refine Vs 1 O ?_
   refine V.alloc 12 tz85 O O (fun b12=>?_)
   refine Vs 4 O ?_
   refine Vq (by kernel_rfl) ?_
   refine Vs 2 O ?_
   refine znn 3000 tR89 ts27 O ha_r (by omega) (n) (by omega) O ?_
   refine Vs 3 O ?_
   refine znn 4000 tR27 ts3 O ha_y (by omega) (v) (by omega) O ?_
   refine Vs 6 O ?_
   refine zld O (fun e1=>?_) (fun e1=>?_)
   .
    have hbad:¬ jB f g s:=fun h=>e1 (by rw[hyin];exact h.1 n x he_x _ hm_u)
    refine Vs 16 O ?_
    refine zlt tr15 O (fun w hI=>⟨_,rfl,⟨_,rfl,hUA hbad⟩,hI.k1⟩)
   have hnx:=zW hku he_u (show inV f g s n v=p2 by omega)
   refine Va 7 O (by omega) ?_
   refine V.back (k+1) (Sub.of O) (Has.of O) (⟨by omega,hnx⟩) (by first | omega | (dsimp only;omega)) 0 O O
  obtain rfl:k=x.uses.length:=by omega
  refine Vs 14 O ?_
  refine znK (σ:=Nat) [7,8,30,31,32,57,58] [] [] O (fun e k=>(59,.int .i64 k)::e) (fun e k=>e) (fun k=>k<=x.phis.length/\(∀ (j:Nat) p,j<k->x.phis[j]?=some p->zkt f g s p)) (fun k=>x.phis.length - k) (0) (Sub.of O) (Has.of O) (fun _=>rfl) (fun _=>rfl) (fun _=>rfl) (⟨zp8 _,fun j u h=>absurd h (zrn _)⟩) ?_
  rintro k ⟨hkp,hpu⟩
  refine Vs 6 O ?_
  refine zld O (fun lp=>?_) (fun lp=>?_)
  .
   refine Vs 6 O ?_
   obtain⟨p,he_p,hm_p⟩:=gE_ x.phis (k) (by omega)
   obtain⟨b_p,o_p,c_p,ha_p,_,hc_p,hR_p⟩:=hp_x.at he_p
   obtain⟨v1_p,v2_p,rfl,hf_p,hg_p⟩:=hR_p
   obtain⟨a1_p,n1_p,rfl⟩:=hf_p.form
   obtain⟨a2_p,n2_p,rfl⟩:=hg_p.form
   refine znH 5000 1 O O hc_p ?_
   refine znk 5000 tR56 ts88 O ha_p (by omega) (_) (rfl) O ?_
   have hfr:=hnod.phi.frm p hm_p
   have hal:=hnod.phi.len p hm_p
   have hpv:=kI hF.of_ (hnod.phi.ver p hm_p)
   have hfm:=hf_p.max
   have hgm:=hg_p.max
   obtain⟨v,hv⟩:∃ v:Nat,p.var=(v:Int):=⟨p.var.toNat,by omega⟩
   refine Vs 1 O ?_
   refine V.alloc 14 tz88 O O (fun b14=>?_)
   refine Vs 12 O ?_
   refine znK (σ:=Nat) [7,8,14,30,31,32,57,58,59,64,65] [14] [14] O (fun e j=>(66,.int .i64 j)::e) (fun e j=>e) (fun j=>j<=p.frm.length/\(∀ (m:Nat) y,m<j->p.frm[m]?=some y->∀ a,p.args[m]?=some a->kZ f g s y.toNat p.var=a)) (fun j=>p.frm.length - j) (0) (Sub.of O) (Has.of O) (fun _=>rfl) (fun _=>rfl) (fun _=>rfl) (⟨zp8 _,fun m y h=>absurd h (zrn _)⟩) ?_
   rintro j ⟨hj,hja⟩
   refine Vs 6 O ?_
   refine zld O (fun lj=>?_) (fun lj=>?_)
   .
    refine Vs 7 O ?_
    obtain⟨y,he_y,hm_y⟩:=gE_ p.frm (j) (by omega)
    obtain⟨b_y,o_y,c_y,ha_y,_,hc_y,hR_y⟩:=hf_p.at he_y
    obtain rfl:=hR_y
    refine znH 6000 1 O O hc_y ?_
    refine znk 6000 tR27 ts3 O ha_y (by omega) (_) (rfl) O ?_
    obtain⟨q,rfl,hq1,hq2⟩:=kG (hfr ▸ he_y)
    obtain⟨r,he_r,hm_r⟩:=gE_ outs (q) (by omega)
    obtain⟨b_r,o_r,c_r,ha_r,hd_r,hc_r,hR_r⟩:=houts.atD he_r
    obtain⟨v1_r,rfl,hs_r⟩:=hR_r
    obtain⟨a1_r,n1_r,rfl⟩:=hs_r.form
    refine znI 7000 0 O O (fun h_=>by have h1_:=hlow _ h_;have h2_:=hd_r;first | omega | exact h1_ h2_) hc_r ?_
    have hrn:=hor r hm_r
    obtain⟨z,he_z,hm_z⟩:=gE_ r (v) (by omega)
    obtain⟨b_z,o_z,c_z,ha_z,hd_z,hc_z,hR_z⟩:=hs_r.atD he_z
    obtain rfl:=hR_z
    refine znI 8000 0 O O (fun h_=>by have h1_:=hlow _ h_;have h2_:=hd_z;first | omega | exact h1_ h2_) hc_z ?_
    obtain⟨a,he_a,hm_a⟩:=gE_ p.args (j) (by omega)
    obtain⟨b_a,o_a,c_a,ha_a,_,hc_a,hR_a⟩:=hg_p.at he_a
    obtain rfl:=hR_a
    refine znH 9000 1 O O hc_a ?_
    have hzo:z=kZ f g s q p.var:=by
     rw[hv,<- zak he_r he_z,hout q hq2 v (by omega) (by omega)]
     exact zgY (hsol.is hnn (by omega) (by omega) hq2)
    refine Vs 6 O ?_
    refine Vq (by kernel_rfl) ?_
    refine Vs 2 O ?_
    refine znn 7000 tR89 ts27 O ha_r (by omega) (q) (by omega) O ?_
    refine Vs 3 O ?_
    refine znn 8000 tR27 ts3 O ha_z (by omega) (v) (by omega) O ?_
    refine Vs 4 O ?_
    refine znn 9000 tR27 ts3 O ha_a (by omega) (j) (by omega) O ?_
    refine Vs 4 O ?_
    refine zld O (fun e1=>?_) (fun e1=>?_)
    .
     have hbad:¬ jB f g s:=fun h=>e1 (by rw[hzo];exact h.2 n x he_x p hm_p j _ a he_y he_a)
     refine Vs 19 O ?_
     refine zlt tr15 O (fun w hI=>⟨_,rfl,⟨_,rfl,hUA hbad⟩,hI.k1⟩)
    have hnx:=zW hja he_y (show ∀ a',p.args[j]?=some a'->kZ f g s (Int.toNat (q:Int)) p.var=a' from fun a' ha'=>by
     obtain rfl:a'=a:=Option.some.inj (ha'.symm.trans he_a)
     have e2:=zp2.1 e1
     rw[hzo]at e2;exact e2)
    refine Va 7 O (by omega) ?_
    refine V.back (j+1) (Sub.of O) (Has.of O) (⟨by omega,hnx⟩) (by first | omega | (dsimp only;omega)) 0 O O
   obtain rfl:j=p.frm.length:=by omega
   have hnx:=zW hpu he_p (show zkt f g s p from fun m y hm a ha=>hja m y (zp7.1 hm).1 hm a ha)
   refine Va 10 O (by omega) ?_
   refine V.back (k+1) (Sub.of O) (Has.of O) (⟨by omega,hnx⟩) (by first | omega | (dsimp only;omega)) 0 O O
  obtain rfl:k=x.phis.length:=by omega
  have hnx:∀ (m:Nat) x',m<n+1->s.nodes[m]?=some x'->NodU f g s m x':=fun m x' hm hx=>by
   by_cases e:m=n
   .
    subst e
    obtain rfl:x'=x:=Option.some.inj (hx.symm.trans he_x)
    exact⟨fun u hu=>by obtain⟨q,hq⟩:=zqH.1 hu;exact xC hku q u hq,fun p hp=>by obtain⟨q,hq⟩:=zqH.1 hp;exact xC hpu q p hq⟩
   exact hall m x' (by omega) hx
  refine Va 10 O (by omega) ?_
  refine V.back (n+1) (Sub.of O) (Has.of O) (⟨by omega,hnx⟩) (by first | omega | (dsimp only;omega)) 0 O O
 obtain rfl:n=s.nodes.length:=by omega
 have hyes:jB f g s:=zdy (xC hall)
 have hR:RightF f g s (rdV f g):=⟨hF,hyes.1,hyes.2⟩
 refine Vs 11 O ?_
 refine zlt tr15 O (fun w hI=>⟨_,rfl,⟨_,rfl,⟨fun _=>hR,fun _=>rfl⟩⟩,hI.k1⟩)
end Go.Proofs.YtckdhgbepmpgiaaGreat
namespace Go.GL
section
variable {P:Program} {n:Nat} {Q:Exit->Act->World->Prop} {ks:List Fr} {pos:Pos} {env:Env} {A:Tgs} {H:Hp} {Bs:zC} {ops:Array Oper} {rest:List Oper} {v:Value}
variable {d:Nat} {ty:TypeId} {ps:String} {aft:Array Edge} {g:Option (Nat × Bool)}
theorem zoS (kk:List Nat) {f:FuncId} {x:Operand} {fs cs:List Value} {xs:Array Operand} {ts:Array TypeId} {vs:List Value} {α:Type} {Hn:α->Hp} {Φ:Value->α->Prop} (A1:Tgs) (hf:∀ args w,(callFunc f args).run P w=.ok (.enter f args) w) (hn:(Nat.blt d n,gd ops env g,qM env xs.toList,ev env x)=(true,some true,some vs,some (.func (.func f) fs.toArray cs.toArray)))
  (hA1:∀ r x,A1.map (fun p=>zdM ((d,r)::env) p.1)=A1.map (fun p=>jC (Hn x++yL kk H) p.2)) (hA2:∀ x,A1.all (fun p=>(jC (Hn x++yL kk H) p.2).isSome)=true)
  (hc:∀ w,VI Bs H w->Calls P f (fs++vs++cs).toArray w (Ret fun r w'=>∃ x,Φ r x/\Hands H kk (Hn x) w w'))
  (h:∀ r x,Φ r x->V P n Q ks (.o ops rest) ((d,r)::env) A1 (Hn x++yL kk H) Bs):V P n Q ks (.o ops (⟨some d,.call ⟨.value x,xs,ts⟩,ty,ps,aft,g⟩::rest)) env A H Bs:=by
 simp only[Prod.mk.injEq]at hn
 refine fun hA w hI=>zlV (by rw[hn.1,hn.2.1,hn.2.2.1,hn.2.2.2]) hf (hc w hI) ?_
 rintro r w' ⟨x,hP,hh⟩
 exact h r x hP (TgOk.of (hA1 r x) (hA2 x)) w' (hI.hands hh)
end
end Go.GL
namespace Go.Proofs.YtckdhgbepmpgiaaGreat
open Go.GL
abbrev ndH (bs bw bb n:Nat) (l:List Bool) (b:Bool):Hp:=[(907,.own bs [.slice (some ⟨bw,0,none⟩) n n] 52),(924,.row 4 1 (.slice (some ⟨bw,0,none⟩) n n) n (l.map Value.bool)),(908,.own bb [.bool b] 4)]
def addN (l:List Bool) (b:Bool) (k:Nat):List Bool × Bool:=if l[k]?=some true then (l,b) else (l.set k true,true)
theorem zhB (l:List Bool) (b:Bool) (k bs bw bb n:Nat) (hl:l.length=n) (hk:k<n) (W:World) (hE:zkA (ndH bs bw bb n l b) W) :
  Calls Tryz.prog 50 #[.int .i64 k,.pointer (some ⟨bs,0,none⟩),.pointer (some ⟨bb,0,none⟩)] W (Ret fun r w'=>∃ x:List Bool × Bool,(r=.tuple #[]/\x=addN l b k)/\GBack (ndH bs bw bb n l b) (ndH bs bw bb n x.1 x.2) W w'):=by
 obtain⟨z,hz⟩:∃ z,l[k]?=some z:=⟨_,zoT (by omega)⟩
 refine zn3 Tryz.func50 O Tryz.ntmps50 O (zoo [(907,.own bs [.slice (some ⟨bw,0,none⟩) n n] 52),(924,.row 4 1 (.slice (some ⟨bw,0,none⟩) n n) n (l.map Value.bool)),(908,.own bb [.bool b] 4)] hE.1 hE.2 ?_)
 refine zni 1 907 0 O O ?_
 refine zni 2 908 0 O O ?_
 refine Va 5 O (by omega) ?_
 refine znt 924 (k) tg4 O (by omega) (show _=some (Value.bool z) by rw[zpa,hz];rfl) ?_
 refine zmS O (fun w hI=>zms O (by first | exact za | rfl)) ?_
 refine Vs 2 O ?_
 refine V.bool O (fun q=>?_) (fun q=>?_)
 .
  obtain rfl:z=false:=by cases z<;>simp_all
  refine Va 4 O (by omega) ?_
  refine znu 924 (k) ts4 O (by omega) (by simp;omega) ?_
  refine znJ 924 O (e':=.row 4 1 (.slice (some ⟨bw,0,none⟩) n n) n ((l.set k true).map Value.bool)) (by rw[zqC]) ?_
  refine Vs 2 O ?_
  refine zlH Tryz.results50 (fun w hI=>⟨_,rfl,(l.set k true,true),⟨rfl,by unfold addN;rw[zp3 (by rw[hz];exact fun e=>by cases e)]⟩,hI.back 0 O O O rfl⟩)
 obtain rfl:z=true:=by cases z<;>simp_all
 refine Vs 1 O ?_
 refine zlH Tryz.results50 (fun w hI=>⟨_,rfl,(l,b),⟨rfl,by unfold addN;rw[zp4 hz]⟩,hI.back 0 O O O rfl⟩)
theorem PassX.addN {f:Fl} {g:List Nd} {s:Sf} {l0 l:List Bool} {b:Bool} {C C':Prop} (h:PassX f g s l0 l b C) {k:Nat} (hN:NeedV f g s (k:Int)) (hk:k<s.of_.length) (hi:C->l0[k]?=some true->C'):PassX f g s l0 (addN l b k).1 (addN l b k).2 C':=by
 unfold Go.Proofs.YtckdhgbepmpgiaaGreat.addN
 by_cases e:l[k]?=some true
 .
  rw[zp4 e]
  exact(h.same e).imp fun _ hc=>hi hc.1 hc.2
 rw[zp3 e]
 have hl:=h.snd.len
 have h2:=zoT (show k<l.length by omega)
 have h3:l[k]?=some false:=by
  rw[h2]at e ⊢
  cases hb:l[k] with
  | true=>rw[hb]at e;exact absurd rfl e
  | false=>rfl
 exact h.add h3 hN C'
theorem zf7 {H:Hp} {f:Fl} {x:Nd} (v:Value) (D:Nat->Prop) (w:World) (hl:SlR 10 RSt D w v f.body) (hx:0<=x.at_->x.at_<((preL f.body).length:Int)) (hz:ssize f.body<=10000) :
  Calls Tryz.prog 25 #[v,.int .i64 x.at_] w (Ret fun r w'=>∃ y:FQ,r=.tuple #[zkr (stN f x) y,.bool (decide (0<=x.at_))]/\Hands H [] [] w w'):=by
 by_cases h:0<=x.at_
 .
  have e:stN f x=zO f x.at_:=by unfold stN;rw[zp4 h]
  rw[e,zp5 h]
  exact zee f.body v D w x.at_ _ hl h (qH h (hx h)) hz
 have e:stN f x=zjB:=by unfold stN;rw[zp3 h]
 rw[e,zp6 h]
 refine(zag f.body v D w x.at_ hl (by omega)).mono ?_
 rintro _ w' ⟨_,rfl,rfl,hk⟩
 exact⟨_,rfl,((none,0),(none,0),(none,0),(none,0)),rfl,hk.mono fun q _ h=>h.elim,fun x hx=>(by cases hx),List.Pairwise.nil⟩
theorem zk7 {l0 l:List Bool} {b:Bool} {C:Prop} (h1:b=false->l=l0/\C) (h2:b=true->l.count false<l0.count false):2*l.count false+(if b=true then 1 else 0)<2*l0.count false+1:=by
 cases b with
 | false=>rw[(h1 rfl).1];simp
 | true=>have:=h2 rfl;simp;omega
def zdL (f:Fl) (g:List Nd) (s:Sf) (l:List Bool) (n:Nat):Prop:=(xV f g s n=true\/(0<=(zg s n).dfn/\l[(zg s n).dfn.toNat]?=some true))->∀ u ∈ (zg s n).uses,l[u.2.toNat]?=some true
theorem zkb (f:Fl) (g:List Nd) (s:Sf) (hk:GOk f g) (hF:FormF f g s (rdV f g)) (hz:ssize f.body<=10000) (hgl:g.length<=100000) (hofl:s.of_.length<=1000000) (v1 v2 v3 gv ofv nodv:Value) (D D' Ds:Nat->Prop) (W:World) (hf:RFl D W f v1 v2 v3) (hg:SlR 4 RNd D' W gv g) (hS:RSf Ds W s ofv nodv) :
  Calls Tryz.prog 22 #[.agg #[v1,v2,v3],.agg #[gv],.agg #[ofv,nodv]] W (Ret fun r w'=>SlR 1 zhG (fun b=>W.heap.size<=b) w' r (kM f g s)/\Ext W w'):=by
 obtain⟨ag,cg,rfl⟩:=hg.form
 obtain⟨ao,co,rfl⟩:=hS.of_.form
 have hnod:=hS.nodes
 obtain⟨an,cn,rfl⟩:=hnod.form
 have hgm:=hg.max
 have hnm:=hnod.max
 have hlen:=hF.len
 refine zn3 Tryz.func22 O Tryz.ntmps22 O (znb ?_)
 refine Vs 2 O ?_
 refine V.box 3 O O (fun b3=>?_)
 refine V.box 4 O O (fun b4=>?_)
 refine V.box 5 O O (fun b5=>?_)
 refine Vs 8 O ?_
 refine zm6 24 Tryz.underlying52 Tryz.el4 O (by omega) (by omega) (zs:=List.replicate s.of_.length (.bool false)) (xD _ _ O) (by simp) (fun b24=>?_)
 refine znJ 24 O (e':=.row 4 1 (.slice (some ⟨b24,0,none⟩) s.of_.length s.of_.length) s.of_.length ((List.replicate s.of_.length false).map Value.bool)) (by rw[zqB]) ?_
 refine V.alloc 7 Tryz.zeroValue52 O O (fun b7=>?_)
 refine Vs 6 O ?_
 refine V.alloc 8 tz4 O O (fun b8=>?_)
 refine Vs 3 O ?_
 refine V.ren [(8,908),(7,907),(24,924)] [(3,some (3,0)),(4,some (4,0)),(5,some (5,0)),(7,some (907,0)),(8,some (908,0)),(21,some (5,0))] O O ?_
 refine Vs 1 O ?_
 refine znK (σ:=List Bool × Bool × Nat) [3,4,5,7] [3,4,5] [3,4,5,7] O (fun e ⟨l0,b0,b8⟩=>(8,.pointer (some ⟨b8,0,none⟩))::e) (fun e ⟨l0,b0,b8⟩=>(907,.own b7 [.slice (some ⟨b24,0,none⟩) s.of_.length s.of_.length] 52)::(924,.row 4 1 (.slice (some ⟨b24,0,none⟩) s.of_.length s.of_.length) s.of_.length (l0.map Value.bool))::(908,.own b8 [.bool b0] 4)::e) (fun⟨l0,b0,b8⟩=>NSnd f g s l0/\(b0=false->∀ n,n<g.length->NCl f g s l0 n)) (fun⟨l0,b0,b8⟩=>2*l0.count false+(if b0=true then 1 else 0)) ((List.replicate s.of_.length false,true,b8)) (Sub.of O) (Has.of O) (fun _=>rfl) (fun _=>rfl) (fun _=>rfl) (⟨⟨by simp,fun k e=>by have:=zqd (zoU e);cases this⟩,fun h=>by cases h⟩) ?_
 rintro⟨l0,b0,b8⟩ ⟨hN0,hc0⟩
 show V _ _ _ _ _ ((8,.pointer (some ⟨b8,0,none⟩))::_) _ ((907,.own b7 [.slice (some ⟨b24,0,none⟩) s.of_.length s.of_.length] 52)::(924,.row 4 1 (.slice (some ⟨b24,0,none⟩) s.of_.length s.of_.length) s.of_.length (l0.map Value.bool))::(908,.own b8 [.bool b0] 4)::_) _
 refine zni 8 908 0 O O ?_
 refine Vs 6 O ?_
 refine V.bool O (fun t=>?_) (fun t=>?_)
 .
  subst t
  refine Vs 24 O ?_
  refine znK (σ:=Nat × List Bool × Bool) [3,4,5,7,8,9,28,29] [3,4,5] [3,4,5,7,8] O (fun e ⟨i,l,b⟩=>(30,.int .i64 i)::e) (fun e ⟨i,l,b⟩=>(907,.own b7 [.slice (some ⟨b24,0,none⟩) s.of_.length s.of_.length] 52)::(924,.row 4 1 (.slice (some ⟨b24,0,none⟩) s.of_.length s.of_.length) s.of_.length (l.map Value.bool))::(908,.own b8 [.bool b] 4)::e) (fun⟨i,l,b⟩=>i<=s.nodes.length/\PassX f g s l0 l b (∀ n,n<i->NCl f g s l0 n)) (fun⟨i,l,b⟩=>s.nodes.length - i) ((0,l0,false)) (Sub.of O) (Has.of O) (fun _=>rfl) (fun _=>rfl) (fun _=>rfl) (⟨zp8 _,hN0,fun _=>⟨rfl,fun n hn=>by omega⟩,fun h=>by cases h⟩) ?_
  rintro⟨i,l,b⟩ ⟨hi,hP⟩
  show V _ _ _ _ _ ((30,.int .i64 i)::_) _ ((907,.own b7 [.slice (some ⟨b24,0,none⟩) s.of_.length s.of_.length] 52)::(924,.row 4 1 (.slice (some ⟨b24,0,none⟩) s.of_.length s.of_.length) s.of_.length (l.map Value.bool))::(908,.own b8 [.bool b] 4)::_) _
  refine Vs 6 O ?_
  refine zld O (fun li=>?_) (fun li=>?_)
  .
   refine Vs 7 O ?_
   obtain⟨x,he_x,hm_x⟩:=gE_ s.nodes (i) (by omega)
   obtain⟨b_x,o_x,c_x,ha_x,_,hc_x,hR_x⟩:=hnod.at he_x
   obtain⟨v1_x,v2_x,rfl,hp_x,hu_x⟩:=hR_x
   obtain⟨a1_x,n1_x,rfl⟩:=hp_x.form
   obtain⟨a2_x,n2_x,rfl⟩:=hu_x.form
   refine znH 1000 0 O O hc_x ?_
   refine znk 1000 tR28 ts59 O ha_x (by omega) (_) (rfl) O ?_
   have hxn:zg s i=x:=yC he_x
   have hix:i<g.length:=by omega
   have hdfn:=hF.dfn hix
   rw[hxn]at hdfn
   obtain⟨y,he_y,hm_y⟩:=gE_ g (i) (by omega)
   obtain⟨b_y,o_y,c_y,ha_y,_,hc_y,hR_y⟩:=hg.at he_y
   obtain rfl:=hR_y
   refine znH 2000 0 O O hc_y ?_
   have hyn:xk g i=y:=yD he_y
   refine Vs 1 O ?_
   refine V.alloc 11 tz59 O O (fun b11=>?_)
   refine Vs 5 O ?_
   refine znL (σ:=Nat × FQ) [3,4,5,7,8,9,10,11,28,29,30] [3,4,5,11] [3,4,5,7,8,11] O (fun e ⟨b12,z⟩=>(12,.pointer (some ⟨b12,0,none⟩))::e) (fun e ⟨b12,z⟩=>(12,.own b12 [.int .i64 (stN f y).act,.int .i64 (stN f y).cost,.int .i64 (stN f y).var,.int .i64 (stN f y).n,.int .i64 (stN f y).term.op,.int .i64 (stN f y).term.n,.slice z.1.1 (stN f y).term.kids.length z.1.2,.slice z.2.1.1 (stN f y).thn.length z.2.1.2,.slice z.2.2.1.1 (stN f y).els.length z.2.2.1.2,.slice z.2.2.2.1 (stN f y).bounds.length z.2.2.2.2] 72)::(907,.own b7 [.slice (some ⟨b24,0,none⟩) s.of_.length s.of_.length] 52)::(924,.row 4 1 (.slice (some ⟨b24,0,none⟩) s.of_.length s.of_.length) s.of_.length (l.map Value.bool))::(908,.own b8 [.bool b] 4)::e) (fun⟨b12,z⟩=>True) (fun _=>rfl) (fun _=>rfl) ?_ ?_
   .
    refine Vw [3,4,5,907,908,1000,2000,11] [] O ?_
    refine Vd [0,1,2,3,4] 0 (by kernel_rfl) O O O ?_
    refine znl 5 2000 tR34 ts65 O (by kernel_rfl) O ha_y (by omega) (_) (rfl) O ?_
    refine Vd [6,7] 0 (by kernel_rfl) O O O ?_
    refine zov 8 12 12 0 [] (Hn:=fun z:FQ=>[]) [(3,some (3,0)),(4,some (4,0)),(5,some (5,0)),(7,some (907,0)),(8,some (908,0)),(11,some (11,0)),(33,some (1000,0)),(36,some (3,2)),(38,some (4,0)),(41,some (2000,0)),(42,some (2000,1))] tc25 O (by kernel_rfl) O O (fun _=>rfl) (fun _ _=>rfl) (fun _=>rfl) tz72 O (fun w hI=>zf7 v3 D w (Tr1 hI.k0 hf.body) (fun h=>((hk i y he_y).2 h).1) hz) ?_ (fun b12=>?_)
    .
     rintro _ z rfl
     refine Vd [9,10,11] 0 (by kernel_rfl) O O O ?_
     refine znh 12 12 0 O (by kernel_rfl) O O (fun _ _=>M.alloc tz72 O) (fun b12=>?_)
     refine Ve 13 0 O (by kernel_rfl) O O O ?_
     refine Vd [14] 0 (by kernel_rfl) O O O ?_
     refine VD.done (by kernel_rfl) ?_
     refine zlq (⟨b12,z⟩) (Sub.of O) (Has.of O) (trivial) 0 O O
    refine zoq 8 0 [] (Hn:=fun z:FQ=>[]) [(3,some (3,0)),(4,some (4,0)),(5,some (5,0)),(7,some (907,0)),(8,some (908,0)),(11,some (11,0)),(12,some (12,0)),(33,some (1000,0)),(36,some (3,2)),(38,some (4,0)),(41,some (2000,0)),(42,some (2000,1))] tc25 O (by kernel_rfl) O O (fun _=>rfl) (fun _ _=>rfl) (fun _=>rfl) (fun w hI=>zf7 v3 D w (Tr1 hI.k0 hf.body) (fun h=>((hk i y he_y).2 h).1) hz) ?_
    rintro _ z rfl
    refine Vd [9,10,11] 0 (by kernel_rfl) O O O ?_
    refine Ve 13 0 O (by kernel_rfl) O O O ?_
    refine Vd [14] 0 (by kernel_rfl) O O O ?_
    refine VD.done (by kernel_rfl) ?_
    refine zlq (⟨b12,z⟩) (Sub.of O) (Has.of O) (trivial) 0 O O
   rintro⟨b12,z⟩ _
   show V _ _ _ _ _ ((12,.pointer (some ⟨b12,0,none⟩))::_) _ ((12,.own b12 [.int .i64 (stN f y).act,.int .i64 (stN f y).cost,.int .i64 (stN f y).var,.int .i64 (stN f y).n,.int .i64 (stN f y).term.op,.int .i64 (stN f y).term.n,.slice z.1.1 (stN f y).term.kids.length z.1.2,.slice z.2.1.1 (stN f y).thn.length z.2.1.2,.slice z.2.2.1.1 (stN f y).els.length z.2.2.1.2,.slice z.2.2.2.1 (stN f y).bounds.length z.2.2.2.2] 72)::(907,.own b7 [.slice (some ⟨b24,0,none⟩) s.of_.length s.of_.length] 52)::(924,.row 4 1 (.slice (some ⟨b24,0,none⟩) s.of_.length s.of_.length) s.of_.length (l.map Value.bool))::(908,.own b8 [.bool b] 4)::_) _
   refine zni 12 12 0 O O ?_
   have hsk:xV f g s i=true->(y.kind ≠ 2\/(stN f y).act=1)/\¬ 0<=x.dfn:=fun h=>by
    unfold xV at h
    rw[hxn,hyn,decide_eq_true_iff]at h
    refine⟨?_,h.1⟩
    rcases h.2 with h2 | h2
    . exact .inl h2
    by_cases k2:y.kind=2
    .
     refine .inr ?_
     unfold stN;rw[zp4 (hk.at he_y (.inl k2)).1];exact h2
    exact .inl k2
   have hks:(y.kind ≠ 2\/(stN f y).act=1)->xV f g s i=true:=fun h=>by
    have hnd:¬ 0<=x.dfn:=fun h0=>by
     have h1:=hdfn.1 h0
     unfold xA zdn at h1
     rw[hyn]at h1
     split at h1
     .
      rename_i h2
      simp at h2
      obtain⟨k2,h2⟩:=h2
      have h3:stN f y=zO f y.at_:=by unfold stN;rw[zp4 (hk.at he_y (.inl k2)).1]
      rcases h with h | h
      . exact h k2
      rw[h3]at h;omega
     omega
    unfold xV
    rw[hxn,hyn,decide_eq_true_iff]
    refine⟨hnd,?_⟩
    by_cases k2:y.kind=2
    .
     refine .inr ?_
     have h3:stN f y=zO f y.at_:=by unfold stN;rw[zp4 (hk.at he_y (.inl k2)).1]
     rw[<- h3]
     exact h.resolve_left (fun h=>h k2)
    exact .inl k2
   have hrel:0<=x.dfn->(stN f y).act ≠ 0->x.uses=[]:=fun h0 ha=>by
    have h1:=hdfn.1 h0
    unfold xA zdn at h1
    rw[hyn]at h1
    split at h1
    .
     rename_i h2
     simp at h2
     obtain⟨k2,h2⟩:=h2
     have h3:stN f y=zO f y.at_:=by unfold stN;rw[zp4 (hk.at he_y (.inl k2)).1]
     rw[h3]at ha
     have hu:=(hF.nod i x he_x).use
     have hrb:rdB f y=false:=by unfold rdB;exact zp6 (by omega)
     unfold rdV rdN at hu
     rw[hyn,hrb]at hu
     simpa using hu
    omega
   have hum:=hu_x.max
   refine Vs 2 O ?_
   refine znL (σ:=Bool) [3,4,5,7,8,9,11,12,28,29,30] [3,4,5,11,12] [3,4,5,7,8,11,12] O (fun e q=>(14,.bool q)::e) (fun e q=>(907,.own b7 [.slice (some ⟨b24,0,none⟩) s.of_.length s.of_.length] 52)::(924,.row 4 1 (.slice (some ⟨b24,0,none⟩) s.of_.length s.of_.length) s.of_.length (l.map Value.bool))::(908,.own b8 [.bool b] 4)::e) (fun q=>q=decide (y.kind ≠ 2\/(stN f y).act=1)) (fun _=>rfl) (fun _=>rfl) ?_ ?_
   .
    obtain⟨y2,he_y2,hm_y2⟩:=gE_ g (i) (by omega)
    obtain⟨b_y2,o_y2,c_y2,ha_y2,_,hc_y2,hR_y2⟩:=hg.at he_y2
    obtain rfl:=hR_y2
    refine znH 3000 0 O O hc_y2 ?_
    obtain rfl:y2=y:=Option.some.inj (he_y2.symm.trans he_y)
    refine Vs 4 O ?_
    refine znk 3000 tR34 ts65 O ha_y2 (by omega) (_) (rfl) O ?_
    refine Vs 4 O ?_
    refine V.sp 54 O (fun k2=>?_) (fun k2=>?_)
    .
     refine Vs 6 O ?_
     refine zlq (true) (Sub.of O) (Has.of O) (by simp[k2]) 0 O O
    have hk2:y2.kind=2:=by omega
    refine Vs 6 O ?_
    refine zlq ((decide ((stN f y2).act=1))) (Sub.of O) (Has.of O) (by simp[hk2]) 0 O O
   rintro q hq
   refine Vs 3 O ?_
   refine znL (σ:=Bool) [3,4,5,7,8,9,11,28,29,30] [3,4,5,11] [3,4,5,7,8,11] O (fun e c=>(76,.bool c)::e) (fun e c=>(907,.own b7 [.slice (some ⟨b24,0,none⟩) s.of_.length s.of_.length] 52)::(924,.row 4 1 (.slice (some ⟨b24,0,none⟩) s.of_.length s.of_.length) s.of_.length (l.map Value.bool))::(908,.own b8 [.bool b] 4)::e) (fun c=>c=true ↔ (q=true\/(0<=x.dfn/\(stN f y).act=0/\l[x.dfn.toNat]?=some true))) (fun _=>rfl) (fun _=>rfl) ?_ ?_
   .
    refine Vs 3 O ?_
    refine V.sb 60 O (fun q1=>?_) (fun q1=>?_)
    .
     refine Vs 17 O ?_
     refine zlq (true) (Sub.of O) (Has.of O) (by simp[q1]) 0 O O
    refine Vs 4 O ?_
    refine V.sp 64 O (fun d0=>?_) (fun d0=>?_)
    .
     refine Vs 5 O ?_
     refine V.sp 69 O (fun a0=>?_) (fun a0=>?_)
     .
      obtain⟨k,hkk,hkl⟩:=xR ((hF.nod i x he_x).yes (hdfn.1 d0))
      obtain⟨z,hz1⟩:∃ z,l[k]?=some z:=⟨_,zoT (by have:=hP.snd.len;omega)⟩
      refine Va 4 O (by omega) ?_
      refine znt 924 (k) tg4 O (by omega) (show _=some (Value.bool z) by rw[zpa,hz1];rfl) ?_
      refine Vs 3 O ?_
      refine zlq (z) (Sub.of O) (Has.of O) (by rw[hkk,zpf,hz1];simp[q1,a0]) 0 O O
     refine Vs 8 O ?_
     refine zlq (false) (Sub.of O) (Has.of O) (by simp[q1,a0]) 0 O O
    refine Vs 13 O ?_
    refine zlq (false) (Sub.of O) (Has.of O) (by simp[q1,d0]) 0 O O
   rintro c hc
   refine Vs 1 O ?_
   refine znL (σ:=List Bool × Bool) [3,4,5,7,8,9,11,28,29,30] [3,4,5,11] [3,4,5,7,8,11] O (fun e ⟨l,b⟩=>e) (fun e ⟨l,b⟩=>(907,.own b7 [.slice (some ⟨b24,0,none⟩) s.of_.length s.of_.length] 52)::(924,.row 4 1 (.slice (some ⟨b24,0,none⟩) s.of_.length s.of_.length) s.of_.length (l.map Value.bool))::(908,.own b8 [.bool b] 4)::e) (fun⟨l,b⟩=>PassX f g s l0 l b ((∀ n,n<i->NCl f g s l0 n)/\zdL f g s l0 i)) (fun _=>rfl) (fun _=>rfl) ?_ ?_
   .
    refine V.bool O (fun c1=>?_) (fun c1=>?_)
    .
     have hcc:=hc.1 c1
     refine Vs 9 O ?_
     refine znK (σ:=Nat × List Bool × Bool) [3,4,5,7,8,9,11,28,29,30,78,79] [3,4,5,11] [3,4,5,7,8,11] O (fun e ⟨j,l',b'⟩=>(80,.int .i64 j)::e) (fun e ⟨j,l',b'⟩=>(907,.own b7 [.slice (some ⟨b24,0,none⟩) s.of_.length s.of_.length] 52)::(924,.row 4 1 (.slice (some ⟨b24,0,none⟩) s.of_.length s.of_.length) s.of_.length (l'.map Value.bool))::(908,.own b8 [.bool b'] 4)::e) (fun⟨j,l',b'⟩=>j<=x.uses.length/\PassX f g s l0 l' b' ((∀ n,n<i->NCl f g s l0 n)/\∀ u ∈ x.uses.take j,l0[u.2.toNat]?=some true)) (fun⟨j,l',b'⟩=>x.uses.length - j) ((0,l,b)) (Sub.of O) (Has.of O) (fun _=>rfl) (fun _=>rfl) (fun _=>rfl) (⟨zp8 _,hP.imp fun _ h=>⟨h,fun u hu=>by simp at hu⟩⟩) ?_
     rintro⟨j,l',b'⟩ ⟨hj,hP'⟩
     show V _ _ _ _ _ ((80,.int .i64 j)::_) _ ((907,.own b7 [.slice (some ⟨b24,0,none⟩) s.of_.length s.of_.length] 52)::(924,.row 4 1 (.slice (some ⟨b24,0,none⟩) s.of_.length s.of_.length) s.of_.length (l'.map Value.bool))::(908,.own b8 [.bool b'] 4)::_) _
     refine Vs 6 O ?_
     refine zld O (fun lj=>?_) (fun lj=>?_)
     .
      refine Vs 6 O ?_
      obtain⟨u,he_u,hm_u⟩:=gE_ x.uses (j) (by omega)
      obtain⟨b_u,o_u,c_u,ha_u,_,hc_u,hR_u⟩:=hu_x.at he_u
      obtain rfl:=hR_u
      refine znH 4000 0 O O hc_u ?_
      refine znk 4000 tR57 ts85 O ha_u (by omega) (_) (rfl) O ?_
      have hum1:u ∈ (zg s i).uses:=by rw[hxn];exact hm_u
      obtain⟨k,hkk,hkl⟩:=zhk hF hix hum1
      have hN:NeedV f g s (k:Int):=by
       rw[<- hkk]
       rcases hcc with h | ⟨h0,_,h1⟩
       . exact .sink hix (hks (by rw[hq]at h;simpa using h)) hum1
       refine .use hix (by rw[hxn];exact h0) ?_ hum1
       have:=hP.snd.snd _ h1
       rw[hxn,show x.dfn=((x.dfn.toNat:Nat):Int) by omega];exact this
      refine Vs 1 O ?_
      refine V.alloc 16 tz85 O O (fun b16=>?_)
      refine Vs 7 O ?_
      refine zoS [907,924,908] (Hn:=fun y:List Bool × Bool=>[(907,.own b7 [.slice (some ⟨b24,0,none⟩) s.of_.length s.of_.length] 52),(924,.row 4 1 (.slice (some ⟨b24,0,none⟩) s.of_.length s.of_.length) s.of_.length (y.1.map Value.bool)),(908,.own b8 [.bool y.2] 4)]) [(3,some (3,0)),(4,some (4,0)),(5,some (5,0)),(7,some (907,0)),(8,some (908,0)),(11,some (11,0)),(16,some (16,0)),(82,some (4000,0)),(85,some (16,1))] Tryz.call50 O (fun _ _=>rfl) (fun _=>rfl) (fun w hI=>zbA O O (hkk ▸ zhB l' b' k b7 b24 b8 _ hP'.snd.len hkl w (hI.held O O O))) ?_
      rintro _ ⟨l2,b2⟩ ⟨rfl,hadd⟩
      have hP2:=hP'.addN (C':=(∀ n,n<i->NCl f g s l0 n)/\∀ u ∈ x.uses.take (j+1),l0[u.2.toNat]?=some true) hN hkl (fun h h2=>⟨h.1,fun v hv=>by rcases (qr he_u).1 hv with hv | rfl;(· exact h.2 v hv);rw[hkk,zpf];exact h2⟩)
      rw[<- hadd]at hP2
      refine Va 7 O (by omega) ?_
      refine V.back (⟨j+1,l2,b2⟩) (Sub.of O) (Has.of O) (⟨by omega,hP2⟩) (by first | omega | (dsimp only;omega)) 0 O O
     obtain rfl:j=x.uses.length:=by omega
     rw[zoY]at hP'
     refine Vs 4 O ?_
     refine zlq (⟨l',b'⟩) (Sub.of O) (Has.of O) (hP'.imp fun _ h=>⟨h.1,fun _ u hu=>h.2 u (by rwa [hxn]at hu)⟩) 0 O O
    have hP2:PassX f g s l0 l b ((∀ n,n<i->NCl f g s l0 n)/\zdL f g s l0 i):=hP.imp fun e h=>⟨h,fun hu u hu2=>by
     exfalso
     have hnc:¬ (q=true\/(0<=x.dfn/\(stN f y).act=0/\l[x.dfn.toNat]?=some true)):=fun h=>by rw[hc.2 h]at c1;cases c1
     rw[hxn]at hu hu2
     rcases hu with hu | ⟨h0,h1⟩
     . exact hnc (.inl (by rw[hq];simpa using (hsk hu).1))
     .
      by_cases ha:(stN f y).act=0
      . exact hnc (.inr ⟨h0,ha,by rw[e];exact h1⟩)
      .
       rw[hrel h0 ha]at hu2;cases hu2⟩
    refine Vs 1 O ?_
    refine zlq (⟨l,b⟩) (Sub.of O) (Has.of O) (hP2) 0 O O
   rintro⟨l,b⟩ hP
   show V _ _ _ _ _ (_) _ ((907,.own b7 [.slice (some ⟨b24,0,none⟩) s.of_.length s.of_.length] 52)::(924,.row 4 1 (.slice (some ⟨b24,0,none⟩) s.of_.length s.of_.length) s.of_.length (l.map Value.bool))::(908,.own b8 [.bool b] 4)::_) _
   have hpm:=hp_x.max
   refine Vs 10 O ?_
   refine znK (σ:=Nat × List Bool × Bool) [3,4,5,7,8,9,28,29,30,90,91] [3,4,5] [3,4,5,7,8] O (fun e ⟨j,l,b⟩=>(92,.int .i64 j)::e) (fun e ⟨j,l,b⟩=>(907,.own b7 [.slice (some ⟨b24,0,none⟩) s.of_.length s.of_.length] 52)::(924,.row 4 1 (.slice (some ⟨b24,0,none⟩) s.of_.length s.of_.length) s.of_.length (l.map Value.bool))::(908,.own b8 [.bool b] 4)::e) (fun⟨j,l,b⟩=>j<=x.phis.length/\PassX f g s l0 l b (((∀ n,n<i->NCl f g s l0 n)/\zdL f g s l0 i)/\∀ p ∈ x.phis.take j,l0[p.ver.toNat]?=some true->∀ a ∈ p.args,l0[a.toNat]?=some true)) (fun⟨j,l,b⟩=>x.phis.length - j) ((0,l,b)) (Sub.of O) (Has.of O) (fun _=>rfl) (fun _=>rfl) (fun _=>rfl) (⟨zp8 _,hP.imp fun _ h=>⟨h,fun p hp=>by simp at hp⟩⟩) ?_
   rintro⟨j,l,b⟩ ⟨hj,hP⟩
   show V _ _ _ _ _ ((92,.int .i64 j)::_) _ ((907,.own b7 [.slice (some ⟨b24,0,none⟩) s.of_.length s.of_.length] 52)::(924,.row 4 1 (.slice (some ⟨b24,0,none⟩) s.of_.length s.of_.length) s.of_.length (l.map Value.bool))::(908,.own b8 [.bool b] 4)::_) _
   refine Vs 6 O ?_
   refine zld O (fun lj=>?_) (fun lj=>?_)
   .
    refine Vs 6 O ?_
    obtain⟨p,he_p,hm_p⟩:=gE_ x.phis (j) (by omega)
    obtain⟨b_p,o_p,c_p,ha_p,_,hc_p,hR_p⟩:=hp_x.at he_p
    obtain⟨v1_p,v2_p,rfl,hf_p,hg_p⟩:=hR_p
    obtain⟨a1_p,n1_p,rfl⟩:=hf_p.form
    obtain⟨a2_p,n2_p,rfl⟩:=hg_p.form
    refine znH 5000 0 O O hc_p ?_
    refine znk 5000 tR56 ts88 O ha_p (by omega) (_) (rfl) O ?_
    have hpm1:p ∈ (zg s i).phis:=by rw[hxn];exact hm_p
    obtain⟨k,hkk,hkl⟩:=xR ((hF.nod i x he_x).phi.ver p hm_p)
    obtain⟨z,hz1⟩:∃ z,l[k]?=some z:=⟨_,zoT (by have:=hP.snd.len;omega)⟩
    have hgm1:=hg_p.max
    refine Vs 1 O ?_
    refine V.alloc 18 tz88 O O (fun b18=>?_)
    refine Va 9 O (by omega) ?_
    refine znt 924 (k) tg4 O (by omega) (show _=some (Value.bool z) by rw[zpa,hz1];rfl) ?_
    refine Vs 2 O ?_
    refine V.bool O (fun z1=>?_) (fun z1=>?_)
    .
     subst z1
     have hNk:NeedV f g s (k:Int):=hP.snd.snd k hz1
     refine Vs 9 O ?_
     refine znK (σ:=Nat × List Bool × Bool) [3,4,5,7,8,9,28,29,30,90,91,92,102,103] [3,4,5] [3,4,5,7,8] O (fun e ⟨q,l',b'⟩=>(104,.int .i64 q)::e) (fun e ⟨q,l',b'⟩=>(907,.own b7 [.slice (some ⟨b24,0,none⟩) s.of_.length s.of_.length] 52)::(924,.row 4 1 (.slice (some ⟨b24,0,none⟩) s.of_.length s.of_.length) s.of_.length (l'.map Value.bool))::(908,.own b8 [.bool b'] 4)::e) (fun⟨q,l',b'⟩=>q<=p.args.length/\PassX f g s l0 l' b' ((((∀ n,n<i->NCl f g s l0 n)/\zdL f g s l0 i)/\∀ p ∈ x.phis.take j,l0[p.ver.toNat]?=some true->∀ a ∈ p.args,l0[a.toNat]?=some true)/\∀ a ∈ p.args.take q,l0[a.toNat]?=some true)) (fun⟨q,l',b'⟩=>p.args.length - q) ((0,l,b)) (Sub.of O) (Has.of O) (fun _=>rfl) (fun _=>rfl) (fun _=>rfl) (⟨zp8 _,hP.imp fun _ h=>⟨h,fun a ha=>by simp at ha⟩⟩) ?_
     rintro⟨q,l',b'⟩ ⟨hq,hP'⟩
     show V _ _ _ _ _ ((104,.int .i64 q)::_) _ ((907,.own b7 [.slice (some ⟨b24,0,none⟩) s.of_.length s.of_.length] 52)::(924,.row 4 1 (.slice (some ⟨b24,0,none⟩) s.of_.length s.of_.length) s.of_.length (l'.map Value.bool))::(908,.own b8 [.bool b'] 4)::_) _
     refine Vs 6 O ?_
     refine zld O (fun lq=>?_) (fun lq=>?_)
     .
      refine Vs 6 O ?_
      obtain⟨a,he_a,hm_a⟩:=gE_ p.args (q) (by omega)
      obtain⟨b_a,o_a,c_a,ha_a,_,hc_a,hR_a⟩:=hg_p.at he_a
      obtain rfl:=hR_a
      refine znH 6000 0 O O hc_a ?_
      refine znk 6000 tR27 ts3 O ha_a (by omega) (_) (rfl) O ?_
      obtain⟨k2,hk2,hkl2⟩:=zjf hF hix hpm1 hm_a
      have hN:NeedV f g s (k2:Int):=hk2 ▸ .arg hix hpm1 (by rw[hkk];exact hNk) hm_a
      refine Vs 7 O ?_
      refine zoS [907,924,908] (Hn:=fun y:List Bool × Bool=>[(907,.own b7 [.slice (some ⟨b24,0,none⟩) s.of_.length s.of_.length] 52),(924,.row 4 1 (.slice (some ⟨b24,0,none⟩) s.of_.length s.of_.length) s.of_.length (y.1.map Value.bool)),(908,.own b8 [.bool y.2] 4)]) [(3,some (3,0)),(4,some (4,0)),(5,some (5,0)),(7,some (907,0)),(8,some (908,0)),(106,some (6000,0))] Tryz.call50 O (fun _ _=>rfl) (fun _=>rfl) (fun w hI=>zbA O O (hk2 ▸ zhB l' b' k2 b7 b24 b8 _ hP'.snd.len hkl2 w (hI.held O O O))) ?_
      rintro _ ⟨l2,b2⟩ ⟨rfl,hadd⟩
      have hP2:=hP'.addN (C':=(((∀ n,n<i->NCl f g s l0 n)/\zdL f g s l0 i)/\∀ p ∈ x.phis.take j,l0[p.ver.toNat]?=some true->∀ a ∈ p.args,l0[a.toNat]?=some true)/\∀ a ∈ p.args.take (q+1),l0[a.toNat]?=some true) hN hkl2 (fun h h2=>⟨h.1,fun v hv=>by rcases (qr he_a).1 hv with hv | rfl;(· exact h.2 v hv);rw[hk2,zpf];exact h2⟩)
      rw[<- hadd]at hP2
      refine Va 7 O (by omega) ?_
      refine V.back (⟨q+1,l2,b2⟩) (Sub.of O) (Has.of O) (⟨by omega,hP2⟩) (by first | omega | (dsimp only;omega)) 0 O O
     obtain rfl:q=p.args.length:=by omega
     rw[zoY]at hP'
     refine Va 10 O (by omega) ?_
     refine V.back (⟨j+1,l',b'⟩) (Sub.of O) (Has.of O) (⟨by omega,hP'.imp fun _ h=>⟨h.1.1,fun p' hp' h1 a ha=>by rcases (qr he_p).1 hp' with hp' | rfl;(· exact h.1.2 p' hp' h1 a ha);exact h.2 a ha⟩⟩) (by first | omega | (dsimp only;omega)) 0 O O
    obtain rfl:z=false:=z1
    refine Va 7 O (by omega) ?_
    refine V.back (⟨j+1,l,b⟩) (Sub.of O) (Has.of O) (⟨by omega,hP.imp fun e h=>⟨h.1,fun p' hp' h1 a ha=>by rcases (qr he_p).1 hp' with hp' | rfl;(· exact h.2 p' hp' h1 a ha);rw[<- e,hkk,zpf,hz1]at h1;cases h1⟩⟩) (by first | omega | (dsimp only;omega)) 0 O O
   obtain rfl:j=x.phis.length:=by omega
   rw[zoY]at hP
   have hP2:PassX f g s l0 l b (∀ n,n<i+1->NCl f g s l0 n):=hP.imp fun _ h n hn=>by
    by_cases e:n=i
    .
     subst e
     refine⟨h.1.2,?_⟩
     rw[hxn]
     exact h.2
    exact h.1.1 n (by omega)
   refine Va 10 O (by omega) ?_
   refine V.back (⟨i+1,l,b⟩) (Sub.of O) (Has.of O) (⟨by omega,hP2⟩) (by first | omega | (dsimp only;omega)) 0 O O
  obtain rfl:i=s.nodes.length:=by omega
  refine Vs 12 O ?_
  refine V.alloc 8 tz4 O O (fun b8=>?_)
  refine Vs 2 O ?_
  refine V.ren [(908,950),(8,908)] [(3,some (3,0)),(4,some (4,0)),(5,some (5,0)),(7,some (907,0)),(8,some (908,0))] O O ?_
  refine V.back (⟨l,b,b8⟩) (Sub.of O) (Has.of O) (⟨hP.snd,fun hb n hn=>by rw[(hP.no hb).1];exact(hP.no hb).2 n (by omega)⟩) (zk7 hP.no hP.yes) 0 O O
 obtain rfl:b0=false:=t
 have hfin:=zhn hN0 (hc0 rfl)
 refine Vs 12 O ?_
 refine zlt Tryz.results22 O (fun w hI=>⟨_,rfl,(by rw[<- hfin];exact zmj (R:=zhG) (D:=fun b=>W.heap.size<=b) Value.bool (fun _ _=>rfl) (show w.ownsRow 0 4 1 (.slice (some ⟨b24,0,none⟩) s.of_.length s.of_.length) l0.length (l0.map Value.bool) by rw[hN0.len];exact hI.at 924 O) (fun q hq=>hI.own 924 0 O O q hq)),hI.k0⟩)
end Go.Proofs.YtckdhgbepmpgiaaGreat
namespace Go.GL
theorem zj4 {p:Prop} [Decidable p] (h:¬ p):some (Value.bool false)=some (Value.bool (decide p)):=by rw[zp6 h]
theorem zj5 {q p:Prop} [Decidable q] [Decidable p] (h:q ↔ p):some (Value.bool (decide q))=some (Value.bool (decide p)):=by rw[zpl.2 h]
end Go.GL
namespace Go.Proofs.YtckdhgbepmpgiaaGreat
open Go.GL
theorem jM (vs:List Vr) (k:Int) (vv:Value) (D:Nat->Prop) (W:World) (hk:0<=k/\k<=3) (hg:∀ v ∈ vs,yz (v.low,v.high)) (hlen:vs.length<=1000000) (hvs:SlR 5 RVr D W vv vs) :
  Calls Tryz.prog 42 #[vv,.int .i64 k] W (Ret fun r w'=>r=.tuple #[.int .i64 ((zo k vs).getD 0),.int .i64 (if (zo k vs).isSome then 0 else 4)]/\Ext W w'):=by
 have hgo:∀ v ∈ zp k vs,yz (v.low,v.high):=fun v hv=>hg v (zqF.1 hv).1
 have hsp:yj k (zp k vs) 1=zo k vs:=xG k vs 1
 have hall:∀ v ∈ zp k vs,v.kind=k:=fun v hv=>by simpa using (zqF.1 hv).2
 have hol:=zoZ (jq k vs) hlen
 refine zn2 Tryz.func42 O Tryz.ntmps42 O (znb ?_)
 refine Vs 8 O ?_
 refine znL (σ:=Unit) [0,1] [] [] O (fun e u=>(23,.bool (decide (¬ (0<=k/\k<=3))))::e) (fun e u=>e) (fun u=>True) (fun _=>rfl) (fun _=>rfl) ?_ ?_
 .
  refine Vs 4 O ?_
  refine V.sp 12 O (fun k1_=>?_) (fun k1_=>?_)
  .
   refine Vs 4 O ?_
   refine V.sp 16 O (fun k2_=>?_) (fun k2_=>?_)
   .
    refine Vs 4 O ?_
    refine V.sp 20 O (fun k3_=>?_) (fun k3_=>?_)
    .
     refine Vs 4 O ?_
     refine zlq (()) (Sub.cons (by first | exact boolT (by omega) | exact zj4 (by omega) | exact zj5 (by omega)) (Sub.of O)) (Has.of O) (trivial) 0 O O
    refine Vs 4 O ?_
    refine zlq (()) (Sub.cons (by first | exact boolT (by omega) | exact zj4 (by omega) | exact zj5 (by omega)) (Sub.of O)) (Has.of O) (trivial) 0 O O
   refine Vs 8 O ?_
   refine zlq (()) (Sub.cons (by first | exact boolT (by omega) | exact zj4 (by omega) | exact zj5 (by omega)) (Sub.of O)) (Has.of O) (trivial) 0 O O
  refine Vs 12 O ?_
  refine zlq (()) (Sub.cons (by first | exact boolT (by omega) | exact zj4 (by omega) | exact zj5 (by omega)) (Sub.of O)) (Has.of O) (trivial) 0 O O
 rintro u _
 refine Vs 1 O ?_
 refine zld O (fun h0=>?_) (fun h0=>?_)
 . exact absurd hk h0
 refine Vs 6 O ?_
 refine zny Tryz.call85 O (fun w hI=>ziD vs k vv D w (Tr1 hI.k0 hvs) hlen) ?_
 rintro l w1 w2 hI1 hk12 hos hlow
 obtain⟨al,cl,rfl⟩:=hos.form
 have hml:=hos.max
 refine Vs 10 O ?_
 refine znK (σ:=Nat) [6] [] [] O (fun e i=>(7,.int .i64 i)::e) (fun e i=>e) (fun i=>i<=(zp k vs).length) (fun i=>(zp k vs).length - i) (0) (Sub.of O) (Has.of O) (fun _=>rfl) (fun _=>rfl) (fun _=>rfl) (zp8 _) ?_
 rintro i hi
 refine Vs 9 O ?_
 refine zld O (fun hlt=>?_) (fun hlt=>?_)
 .
  refine Vs 5 O ?_
  obtain⟨x,he_x,hm_x⟩:=gE_ (zp k vs) (i) (by omega)
  obtain⟨b_x,o_x,c_x,ha_x,hd_x,hc_x,hR_x⟩:=hos.atD he_x
  obtain rfl:=hR_x
  refine znI 1000 0 O O (fun h_=>by have h1_:=hlow _ h_;have h2_:=hd_x;first | omega | exact h1_ h2_) hc_x ?_
  have hgx:=hgo x hm_x
  unfold yz at hgx
  dsimp only at hgx
  refine Vq (by kernel_rfl) ?_
  refine Vs 2 O ?_
  refine znn 1000 tR22 ts142 O ha_x (by omega) (_) (rfl) O ?_
  refine Vs 4 O ?_
  refine znn 1000 tR22 ts142 O ha_x (by omega) (_) (rfl) O ?_
  refine Vs 4 O ?_
  refine V.sp 44 O (fun b1=>?_) (fun b1=>?_)
  . exact absurd b1 (by omega)
  refine Vs 2 O ?_
  refine znn 1000 tR22 ts142 O ha_x (by omega) (_) (rfl) O ?_
  refine Vs 5 O ?_
  refine V.sp 52 O (fun b2=>?_) (fun b2=>?_)
  . exact absurd b2 (by omega)
  refine Vs 2 O ?_
  refine znn 1000 tR22 ts142 O ha_x (by omega) (_) (rfl) O ?_
  refine Vs 6 O ?_
  refine zld O (fun b3=>?_) (fun b3=>?_)
  . exact absurd b3 (by omega)
  refine Va 8 O (by omega) ?_
  refine V.back (i+1) (Sub.of O) (Has.of O) (by omega) (by first | omega | (dsimp only;omega)) 0 O O
 refine Vs 17 O ?_
 refine znK (σ:=Nat × Int) [6] [] [] O (fun e ⟨j,n⟩=>(8,.int .i64 n)::(9,.int .i64 j)::e) (fun e ⟨j,n⟩=>e) (fun⟨j,n⟩=>j<=(zp k vs).length/\yj k ((zp k vs).take j) 1=some n) (fun⟨j,n⟩=>(zp k vs).length - j) ((0,1)) (Sub.of O) (Has.of O) (fun _=>rfl) (fun _=>rfl) (fun _=>rfl) (⟨zp8 _,rfl⟩) ?_
 rintro⟨j,n⟩ ⟨hj,hs⟩
 show V _ _ _ _ _ ((8,.int .i64 n)::(9,.int .i64 j)::_) _ (_) _
 have hn:=yP k ((zp k vs).take j) 1 n (fun v hv=>hgo v (zqK hv)) (by omega) (by omega) hs
 refine Vs 9 O ?_
 refine zld O (fun hlt2=>?_) (fun hlt2=>?_)
 .
  refine Vs 5 O ?_
  obtain⟨x,he_x,hm_x⟩:=gE_ (zp k vs) (j) (by omega)
  obtain⟨b_x,o_x,c_x,ha_x,hd_x,hc_x,hR_x⟩:=hos.atD he_x
  obtain rfl:=hR_x
  refine znI 2000 0 O O (fun h_=>by have h1_:=hlow _ h_;have h2_:=hd_x;first | omega | exact h1_ h2_) hc_x ?_
  have hgx:=hgo x hm_x
  unfold yz at hgx
  dsimp only at hgx
  have hp:=zdY (n:=n) (s:=x.high - x.low+1) hn.1 hn.2 (by omega) (by omega)
  have hst:yj k ((zp k vs).take (j+1)) 1=if 4096<n*(x.high - x.low+1) then none else some (n*(x.high - x.low+1)):=by
   rw[zd he_x,zU,hs];simp[yj,hall x hm_x]
  refine Vq (by kernel_rfl) ?_
  refine Vs 3 O ?_
  refine znn 2000 tR22 ts142 O ha_x (by omega) (_) (rfl) O ?_
  refine Vs 4 O ?_
  refine znn 2000 tR22 ts142 O ha_x (by omega) (_) (rfl) O ?_
  refine Va 14 O (by omega) ?_
  refine zld O (fun hb=>?_) (fun hb=>?_)
  .
   rw[zp4 hb]at hst
   have hnone:zo k vs=none:=by
    rw[<- hsp,<- zr5 (j+1) (zp k vs),zU,hst];rfl
   refine Vs 12 O ?_
   refine zlw Tryz.results42 O O (fun w hI=>⟨_,rfl,by rw[hnone];rfl,hI.k1⟩)
  rw[zp3 hb]at hst
  refine Va 8 O (by omega) ?_
  refine V.back ((j+1,n*(x.high - x.low+1))) (Sub.of O) (Has.of O) (⟨by omega,hst⟩) (by first | omega | (dsimp only;omega)) 0 O O
 have:j=(zp k vs).length:=by omega
 subst this
 rw[zoY,hsp]at hs
 refine Vs 13 O ?_
 refine zlw Tryz.results42 O O (fun w hI=>⟨_,rfl,by rw[hs];rfl,hI.k1⟩)
def spN (f:Fl):Nat:=((zo 1 f.vars).getD 0).toNat
theorem jN {f:Fl} (vd:Valid f):(∃ m,zo 1 f.vars=some m)/\(∃ m,zo 2 f.vars=some m)/\∃ m,zo 3 f.vars=some m:=by
 have h:=(zZ vd.ok).2.1
 unfold zr at h
 split at h
 . rename_i h1;exact absurd h h1
 split at h
 . cases h
 rename_i h2
 unfold yI at h2
 cases h3:zo 1 f.vars<;>cases h4:zo 2 f.vars<;>cases h5:zo 3 f.vars<;>simp[h3,h4,h5]at h2 ⊢
def rnN (f:Fl):Nat:=((zo 3 f.vars).getD 0).toNat
theorem zkH {f:Fl} (vd:Valid f):(zo 1 f.vars).getD 0=(spN f:Int)/\1<=spN f/\spN f<=4096:=by
 obtain⟨⟨m,h⟩,_⟩:=jN vd
 have h1:=yP 1 f.vars 1 m vd.good (by omega) (by omega) h
 unfold spN
 rw[h,zrs]
 omega
theorem zkI {f:Fl} (vd:Valid f):(zo 3 f.vars).getD 0=(rnN f:Int)/\1<=rnN f/\rnN f<=4096:=by
 obtain⟨_,_,m,h⟩:=jN vd
 have h1:=yP 3 f.vars 1 m vd.good (by omega) (by omega) h
 unfold rnN
 rw[h,zrs]
 omega
structure FitC (f:Fl) (a b c:Int):Prop where
 vd:Valid f
 vars:f.vars.length<=10
 hatches:f.hatches.length<=10
 small:sbulk f.body+zA f.hatches<=80
 sp:(spN f:Int)<=a
 pb:(zo 2 f.vars).getD 0<=b
 rn:(rnN f:Int)<=c
theorem zk8 (f:Fl) (a b c:Int) (v1 v2 v3:Value) (D:Nat->Prop) (W:World) (hf:RFl D W f v1 v2 v3) :
  Calls Tryz.prog 32 #[.agg #[v1,v2,v3],.int .i64 a,.int .i64 b,.int .i64 c] W (Ret fun r w'=>(∃ q:Bool,r=.bool q/\(q=true->FitC f a b c))/\Ext W w'):=by
 obtain⟨a1,n1,rfl⟩:=hf.vars.form
 obtain⟨a2,n2,rfl⟩:=hf.hatches.form
 obtain⟨a3,n3,rfl⟩:=hf.body.form
 refine zn4 Tryz.func32 O Tryz.ntmps32 O (znb ?_)
 refine Vs 2 O ?_
 refine V.box 4 O O (fun b4=>?_)
 refine Vs 7 O ?_
 refine znw Tryz.call28 O (fun w hI=>zhQ f 10 80 _ _ _ D w (Tr1 hI.k0 hf) (by decide) (by decide)) ?_
 refine znc (p:=(f.vars.length:Int)<=10/\(f.hatches.length:Int)<=10/\((sbulk f.body+zA f.hatches:Nat):Int)<=80) (fun hfew=>?_) (fun hfew=>?_)
 .
  have h1:=zd0 f.body
  have hsz:snodes f.body+zA f.hatches<=1024:=by omega
  have hbk:sbulk f.body<=1000000:=by omega
  refine zmS O (fun w hI=>zms O (by first | exact za | rfl)) ?_
  refine Vs 1 O ?_
  refine V.sp 21 O (fun q1=>?_) (fun q1=>?_)
  . exact absurd hfew q1
  refine Vs 1 O ?_
  refine znw Tryz.call29 O (fun w hI=>zbf f _ _ _ D w (Tr1 hI.k0 hf) hsz hbk) ?_
  refine Vs 4 O ?_
  refine zld O (fun c0=>?_) (fun c0=>?_)
  .
   refine Vs 7 O ?_
   refine zlt tr32 O (fun w hI=>⟨_,rfl,⟨_,rfl,fun h=>by cases h⟩,hI.k0⟩)
  have c0':yt f=0:=by omega
  have vd:Valid f:=⟨c0',hsz,hbk⟩
  have hst:=(zZ c0').2.2.2.1
  obtain⟨s1,s2,s3⟩:=jN vd
  refine Vs 6 O ?_
  refine znw Tryz.call42 O (fun w hI=>jM f.vars 1 _ D w (by decide) vd.good (by omega) (Tr1 hI.k0 hf.vars)) ?_
  refine Vs 11 O ?_
  refine znw Tryz.call42 O (fun w hI=>jM f.vars 2 _ D w (by decide) vd.good (by omega) (Tr1 hI.k0 hf.vars)) ?_
  refine Vs 11 O ?_
  refine znw Tryz.call42 O (fun w hI=>jM f.vars 3 _ D w (by decide) vd.good (by omega) (Tr1 hI.k0 hf.vars)) ?_
  refine Vs 11 O ?_
  refine znw Tryz.call65 O (fun w hI=>zad f.vars f.hatches.length f.body _ D w true hst (Tr1 hI.k0 hf.body) hbk) ?_
  have e1:=(zkH vd).1
  have e3:=(zkI vd).1
  refine Vs 15 O ?_
  refine V.sp 54 O (fun g1=>?_) (fun g1=>?_)
  .
   refine Vs 5 O ?_
   refine V.sp 59 O (fun g2=>?_) (fun g2=>?_)
   .
    refine Vs 5 O ?_
    refine V.sp 64 O (fun g3=>?_) (fun g3=>?_)
    .
     refine Vs 7 O ?_
     refine zlt tr32 O (fun w hI=>⟨_,rfl,⟨_,rfl,fun _=>⟨vd,by omega,by omega,by omega,by omega,by omega,by omega⟩⟩,hI.k0⟩)
    refine Vs 7 O ?_
    refine zlt tr32 O (fun w hI=>⟨_,rfl,⟨_,rfl,fun h=>by cases h⟩,hI.k0⟩)
   refine Vs 12 O ?_
   refine zlt tr32 O (fun w hI=>⟨_,rfl,⟨_,rfl,fun h=>by cases h⟩,hI.k0⟩)
  refine Vs 17 O ?_
  refine zlt tr32 O (fun w hI=>⟨_,rfl,⟨_,rfl,fun h=>by cases h⟩,hI.k0⟩)
 refine zmS O (fun w hI=>zms O (by first | exact za | rfl)) ?_
 refine Vs 1 O ?_
 refine V.sp 21 O (fun q1=>?_) (fun q1=>?_)
 .
  refine Vs 14 O ?_
  refine zlt tr32 O (fun w hI=>⟨_,rfl,⟨_,rfl,fun h=>by cases h⟩,hI.k0⟩)
 exact absurd (zp2.1 q1) hfew
end Go.Proofs.YtckdhgbepmpgiaaGreat
namespace Go.GL
theorem SlR.now {α:Type} {k:Nat} {R:Rel α} {D S:Nat->Prop} {w w':World} {v:Value} {l:List α} (h:SlR k R D w v l) (hs:yd R) (hn:xX R) [NeZero k] (hk:Keep S w w') (hD:∀ b,D b->¬ S b):SlR k R (fun q=>q<w'.heap.size) w' v l :=
 (SlR.narrow (Nat.pos_of_ne_zero (NeZero.ne k)) hn (h.keep hs hk fun b hb _=>hD b hb)).wide hs fun _ h=>h.2
theorem RFl.now {D:Nat->Prop} {w:World} {f:Fl} {v1 v2 v3:Value} (h:RFl D w f v1 v2 v3):RFl (fun q=>q<w.heap.size) w f v1 v2 v3 :=
 ⟨(SlR.narrow (by omega) zcV h.vars).wide xl fun _ h=>h.2,(SlR.narrow (by omega) zcU h.hatches).wide xm fun _ h=>h.2,(SlR.narrow (by omega) qP h.body).wide zc fun _ h=>h.2⟩
end Go.GL
namespace Go.Proofs.YtckdhgbepmpgiaaGreat
open Go.GL
theorem RSf.now {D:Nat->Prop} {w:World} {s:Sf} {u1 u2:Value} (h:RSf D w s u1 u2):RSf (fun q=>q<w.heap.size) w s u1 u2 :=
 ⟨(SlR.narrow (by omega) qk h.of_).wide ze fun _ h=>h.2,(SlR.narrow (by omega) zgL h.nodes).wide kD fun _ h=>h.2⟩
theorem zbD {i n:Nat} (h:i<=n):List.range n=List.range i++List.range' i (n - i):=by
 have h1:=@List.range'_append_1 0 i (n - i)
 rw[zrq,show i+(n - i)=n by omega]at h1
 rw[zqT,zqT]
 exact h1.symm
theorem zkJ (s:Sf) (n:Nat):(LP s n).length<=(LP s s.nodes.length).length:=by
 by_cases h:n<=s.nodes.length
 .
  have e:LP s s.nodes.length=LP s n++(List.range' n (s.nodes.length - n)).flatMap fun i=>dP (zg s i)++(zg s i).phis.map (·.ver):=by
   unfold LP
   rw[zbD h,zqi]
  rw[e,zp1];omega
 have e:LP s n=LP s s.nodes.length++(List.range' s.nodes.length (n - s.nodes.length)).flatMap fun i=>dP (zg s i)++(zg s i).phis.map (·.ver):=by
  unfold LP
  rw[zbD (show s.nodes.length<=n by omega),zqi]
 have e2:((List.range' s.nodes.length (n - s.nodes.length)).flatMap fun i=>dP (zg s i)++(zg s i).phis.map (·.ver))=[]:=by
  rw[List.flatMap_eq_nil_iff]
  intro i hi
  have:=(List.mem_range'_1.1 hi).1
  rw[za0 (by omega)];rfl
 rw[e,e2,zq4];exact zpi _
theorem FewS.big {s:Sf} (h:FewS s) (n:Nat):s.of_.length<=1000000/\(LP s n).length<=1000000:=by
 have:=h.lp
 have:=zkJ s n
 have:=h.of_
 omega
theorem zj6 (f:Fl) (v1 v2 v3:Value) (D:Nat->Prop) (W:World) (hf:RFl D W f v1 v2 v3) :
  Calls Tryz.prog 12 #[.agg #[v1,v2,v3]] W (Ret fun r w'=>(∃ q:Bool,r=.bool q/\(q=true->FitC f 16 4 4))/\Ext W w'):=by
 refine zn1 Tryz.func12 O Tryz.ntmps12 O (znb ?_)
 refine Vs 2 O ?_
 refine V.box 1 O O (fun b1=>?_)
 refine Vs 6 O ?_
 refine zny Tryz.call32 O (fun w hI=>zk8 f 16 4 4 v1 v2 v3 D w (Tr1 hI.k0 hf)) ?_
 rintro rr w1 w2 hI1 hk12 ⟨q,rfl,hq⟩ hlow
 refine Vs 4 O ?_
 refine zlt Tryz.results12 O (fun w hI=>⟨_,rfl,⟨_,rfl,hq⟩,hI.k1⟩)
theorem zkc {f:Fl} (vd:Valid f):¬ yu f (zi f) ≠ 0:=zpg (by unfold yu;rw[zp3 (zpg vd.ok),zp4 rfl])
end Go.Proofs.YtckdhgbepmpgiaaGreat
