/-
  Contracts and the mathematics that the proof needs. Nothing here is a claim.
-/
import Derived.Test.YtckdhgbepmpgiaaGreatKV6
theorem j5 {p:Prop}(h:p:=by (try simp only[ne_eq]at *);first | exact zx tO | exact zy tO | exact zk tO | exact zk (by simp only[ne_eq,ztP];omega)):p:=h
theorem j7 {p:Prop}(h:p:=by (try simp only[ne_eq,ztP]at *);first | exact zx tO | exact zy tO | exact zk tO | exact zk (by simp only[ne_eq,ztP];omega)):p:=h
theorem iB {p:Prop}(h:p:=by exact fun w hI=>yS 961 tO (da.keep zc hI.k1 fun q hd _ h=>hY q h hd)):p:=h
theorem iC {p:Prop}(h:p:=by exact zpl tr97 O (fun w hI=>⟨_,rfl,⟨_,rfl,hY fun h=>by have h1:=h.k0;have h2:=h.k1;have h3:=h.k2;have h4:=h.n0;have h5:=h.n1;have h6:=h.o1;have h7:=h.o0;have h8:=h.a0;have h9:=h.a1;omega⟩,hI.k0⟩)):p:=h
theorem ic {p:Prop}(h:p:=by exact fun b_ d_ h_=>by have dc:=hY _ h_;first | omega | exact dc d_):p:=h
theorem ij {p:Prop}(h:p:=by exact fun w hI=>xd O O (ym v ol tO b gb _ _ _ _ w (hI.held O O O))):p:=h
theorem JS {p:Prop}(h:p:=by exact zpo tr100 O O (fun w hI=>⟨_,rfl,.slice none 0 0,tD,fun _=>rfl,fun h=>absurd (hb.symm.trans h) tS,hI.k1⟩)):p:=h
theorem J4 {p:Prop}(h:p:=by have h_:=hS.1.cells dx (fun h=>hY _ h dw) 0 _ rfl;simpa using h_):p:=h
theorem UE {p:Prop}(h:p:=by exact fun q hq=>qo hq):p:=h
theorem Ua {p:Prop}(h:p:=by exact zrF 29 Tryz.szsOk O tK O (VDx.done tK (zpi ⟨ov2,(au,cu),b100,b13⟩ j2 j3 True.intro 0 O O))):p:=h
theorem Ui {p:Prop}(h:p:=by exact Sub.cons j5 j2):p:=h
theorem Um {p:Prop}(h:p:=by exact Sub.cons j7 j2):p:=h
theorem U7 {p:Prop}(h:p:=by exact VDx.done tK (zpi ⟨ov2,(au,cu),b100,b13⟩ j2 j3 True.intro 0 O O)):p:=h
theorem YC {p:Prop}(h:p:=by exact zqH O (fun w hI=>zqi O j6) (Vs 3 O (zpi () Ui j3 trivial 0 O O))):p:=h
open Go.Proofs.Tryz
variable {α β:Type} {m a b c j B root k i q nv d kk fuel by' o:Nat} {op' pl T of1 ofl:List Int} {w w':Go.World} {t e:Go.TypeId} {xs rv cs ndc da db vs hY has:List Go.Value} {es:List (Int × Int)} {Rw R rows als rows1 frs:List (List Int)} {order L:List Nat} {v z u:Go.Value} {f:Go.GL.Fl} {g:List Go.GL.Nd} {s:Go.Proofs.YtckdhgbepmpgiaaGreat.Sf} {cl ucs pcs:List (List Go.Value)} {P:Go.Program} {Q:Go.Exit->Go.Act->Go.World->Prop} {ks:List Go.GL.Fr} {env:Go.GL.Env} {A:Go.GL.Tgs} {H Hs E' E0:Go.GL.Hp} {Bs B0:Go.GL.zq} {ops:Array Go.Oper} {listed:Array Bool} {aft:Array Go.Edge} {y:Go.Operand} {l:List (Go.Proofs.YtckdhgbepmpgiaaGreat.Phn × Nat)} {p:Go.Proofs.YtckdhgbepmpgiaaGreat.Phn × Nat} {pw:Nat->List (Go.Proofs.YtckdhgbepmpgiaaGreat.Phn × Nat)} {Dn':Nat->Nat->Prop} {D:Nat->Prop} {E:List (Nat × Nat)} {parts:Array (Nat × Go.Operand)} {ts:Array Go.TypeId} {Hn:α->Go.GL.Hp} {Φ:Go.Value->α->Prop} {enc:α->Go.Value} {r:List α} {x:Go.GL.Nd}
namespace Go.Proofs.YtckdhgbepmpgiaaGreat
open Go.GL Go.GL.Dom Go.GL.Dfs
inductive ItS (Fr:Nat->Nat->Prop) (nodes:List Int):Nat->Prop
 | node {a b:Nat}:(a:Int) ∈ nodes->Fr a b->ItS Fr nodes b
 | it {a b:Nat}:ItS Fr nodes a->Fr a b->ItS Fr nodes b
structure ItI (Fr:Nat->Nat->Prop) (nodes:List Int) (m:Nat) (ex:Nat->Prop) (ins:List Bool) (out op:List Int):Prop where
 len:ins.length=m
 sound:∀ b:Nat,ins[b]?=some true->ItS Fr nodes b
 mem:∀ y,y ∈ out ↔ ∃ b:Nat,y=(b:Int)/\ins[b]?=some true
 nodup:out.Nodup
 todo:∀ x ∈ op,∃ a:Nat,x=(a:Int)/\a<m/\(x ∈ nodes\/ins[a]?=some true)
 done:∀ a:Nat,((a:Int) ∈ nodes\/ins[a]?=some true)->(a:Int) ∈ op\/ex a\/∀ b,Fr a b->ins[b]?=some true
section
variable {Fr:Nat->Nat->Prop} {nodes:List Int} {ex:Nat->Prop} {ins:List Bool} {out op:List Int}
theorem ItI.start (hn:∀ x ∈ nodes,∃ a:Nat,x=(a:Int)/\a<m):ItI Fr nodes m (fun _=>False) (List.replicate m false) [] nodes:=by
 have hf:∀ b:Nat,¬ (List.replicate m false)[b]?=some true:=by
  grind
 refine⟨tR,fun b h=>absurd h (hf b),fun y=>⟨fun h=>tD,fun⟨b,_,h⟩=>absurd h (hf b)⟩,.nil,fun x hx=>?_,fun a h=>?_⟩
 . grind
 grind
theorem ItI.pop (h:ItI Fr nodes m (fun _=>False) ins out op) (ho:∀ y,y ∈ op ↔ y ∈ op'\/y=(a:Int)):ItI Fr nodes m (fun c=>c=a) ins out op':=by
 refine⟨h.len,h.sound,h.mem,h.nodup,fun x hx=>h.todo x ((ho x).2 (.inl hx)),fun c hc=>?_⟩;rcases h.done c hc with h1 | h1 | h1
 . grind
 . exact h1.elim
 grind
theorem ItI.push (h:ItI Fr nodes m ex ins out op) (hb:b<m) (hn:ins[b]?=some false) (ha:(a:Int) ∈ nodes\/ins[a]?=some true) (hF:Fr a b) (ho:∀ y,y ∈ op' ↔ y ∈ op\/y=(b:Int)):ItI Fr nodes m ex (ins.set b true) (out++[(b:Int)]) op':=by
 have hY:b<ins.length:=tD
 have hset:∀ c:Nat,(ins.set b true)[c]?=some true ↔ ins[c]?=some true\/c=b:=by
  intro c;by_cases e:c=b
  . grind
  rw[zvj (fun h=>e h.symm)];simp[e]
 refine⟨by simp[h.len],fun c hc=>?_,fun y=>?_,?_,fun x hx=>?_,fun c hc=>?_⟩
 .
  rcases (hset c).1 hc with h1 | rfl
  . exact h.sound c h1
  rcases ha with ha | ha
  . exact .node ha hF
  exact .it (h.sound a ha) hF
 .
  rw[ztG,h.mem,ztF];constructor
  .
   rintro (⟨c,h1,h2⟩ | h1)
   . exact⟨c,h1,(hset c).2 (.inl h2)⟩
   exact⟨b,h1,(hset b).2 (.inr O)⟩
  rintro⟨c,h1,h2⟩;rcases (hset c).1 h2 with h3 | rfl
  . exact .inl ⟨c,h1,h3⟩
  exact .inr h1
 .
  refine zvP.2 ⟨h.nodup,tR,fun x hx y hy=>?_⟩;rw[ztF]at hy;subst hy;rintro rfl;obtain⟨c,h1,h2⟩:=(h.mem _).1 hx;have:c=b:=tO;subst this;rw[hn]at h2;cases h2
 .
  rcases (ho x).1 hx with h1 | rfl
  .
   obtain⟨c,h2,h3,h4⟩:=h.todo x h1
   grind
  grind
 have h0:((c:Int) ∈ nodes\/ins[c]?=some true)\/c=b:=by
  grind
 rcases h0 with h1 | rfl
 .
  rcases h.done c h1 with h2 | h2 | h2
  . grind
  . grind
  grind
 grind
theorem ItI.close (h:ItI Fr nodes m (fun c=>c=a) ins out op) (hY:∀ b,Fr a b->ins[b]?=some true):ItI Fr nodes m (fun _=>False) ins out op:=by
 refine⟨h.len,h.sound,h.mem,h.nodup,h.todo,fun c hc=>?_⟩;rcases h.done c hc with h1 | rfl | h1
 . grind
 . grind
 grind
theorem ItI.fin (h:ItI Fr nodes m (fun _=>False) ins out []) (b:Nat):ins[b]?=some true ↔ ItS Fr nodes b:=by
 refine⟨h.sound b,fun hb=>?_⟩
 have key:∀ a:Nat,((a:Int) ∈ nodes\/ins[a]?=some true)->∀ b,Fr a b->ins[b]?=some true:=by
  intro a ha;rcases h.done a ha with h1 | h1 | h1
  . grind
  . exact h1.elim
  exact h1
 induction hb with
 | node h1 h2=>exact key _ (.inl h1) _ h2
 | it _ h2 ih=>exact key _ (.inr ih) _ h2
theorem ItI.outlen (h:ItI Fr nodes m ex ins out op):out.length<=m:=by
 have h1:=nodup_le m (out.map Int.toNat) (by
  rw[List.Nodup,zvW];refine h.nodup.imp_of_mem ?_;intro p q hp hq hY;obtain⟨p,rfl,_⟩:=(h.mem _).1 hp;obtain⟨q,rfl,_⟩:=(h.mem _).1 hq;omega) (by
  intro y hy;obtain⟨z,hz,rfl⟩:=zvI.1 hy;obtain⟨c,rfl,h2⟩:=(h.mem _).1 hz;have:=(ztB.1 h2).1;rw[h.len]at this
  omega)
 rwa [ztH]at h1
theorem znn {l:List Bool} (h:l[b]?=some false):(l.set b true).count false+1=l.count false:=by
 obtain⟨h1,h2⟩:=ztB.1 h;have h3:0<l.count false:=List.count_pos_iff.2 tD;rw[List.count_set h1,h2];simp;omega
end
def jy (n:Int) (es:List (Int × Int)) (root:Int) (nodes:List Int):Int:=if yo n es root ≠ 0 then yo n es root else if nodes.all (fun x=>decide (0<=x/\x<n)) then 0 else 3
theorem zno (h:w.ownsRow 0 t 1 (.slice (some ⟨b,0,none⟩) m c) m xs) (hj:j<=m):w.ownsRow 0 t 1 (.slice (some ⟨b,0,none⟩) j c) j (xs.take j):=by
 obtain⟨sp,hB,hc,da,hY⟩:=xw h;have hx:=h.1;have:=zG (k:=1) (n:=j) (cap:=c) hB tO da hY
 grind
theorem Prep.keep {n bw bp bt:Nat} {Pw:List (List Int)} {nv bv ov:Value} {S:Nat->Prop} (h:Prep B w n root es bw Rw Pw order pl T nv bv ov bp bt) (hE:Keep S w w') (hS:∀ q,S q->q<B):Prep B w' n root es bw Rw Pw order pl T nv bv ov bp bt :=
 have g:=h.ge;have ne:∀ {q:Nat},B<=q->¬ S q:=fun h1 h2=>tD
 { h with hw:=hE.blk h.hw (ne g.1),hnv:=h.hnv.keep (zP zc) hE (fun b hb _ hs=>ne hb hs),hbv:=h.hbv.keep (zP zc) hE (fun b hb _ hs=>ne hb hs),hov:=zj h.hov hE (fun q h1 h2=>ne (h.hog q h1) h2),hP:=hE.blk h.hP (ne g.2.1),hT:=hE.blk h.hT (ne g.2.2) }
theorem zjZ {n:Nat} (h:w.ownsRow 0 e k v n xs):∃ a c,v=.slice a n c/\(0<n->∃ b,a=some ⟨b,0,none⟩):=by
 rcases h.2 with⟨rfl,rfl⟩ | ⟨g,cap,cur,rfl,_⟩
 . grind
 grind
theorem znp (l:List Int) (u:Value) (h:w.ownsRow 0 3 1 u l.length (l.map (Value.int .i64))) (hl:l.length<=1048576):Calls prog 116 #[u] w (Ret fun r w'=>∃ _:Unit,r=.tuple #[]/\(HE.row 3 1 u (xm l).length ((xm l).map (Value.int .i64))).holds w'/\Keep (HE.row 3 1 u l.length (l.map (Value.int .i64))).S w w'/\∀ q,(HE.row 3 1 u (xm l).length ((xm l).map (Value.int .i64))).S q->((HE.row 3 1 u l.length (l.map (Value.int .i64))).S q\/w.heap.size<=q)/\q<w'.heap.size):=by
 refine(zdM l u l.length w h hl).mono ?_;rintro _ w' ⟨_,rfl,rfl,h1,h2⟩;have hY:(HE.row 3 1 u (xm l).length ((xm l).map (Value.int .i64))).holds w':=by rw[<- xC l]at h1;exact h1
 exact⟨_,rfl,(),rfl,hY,h2,fun q hq=>⟨.inl hq,xp h1 hq⟩⟩
theorem zge (n root:Int) (es:List (Int × Int)) (nodes:List Int) (ev nv:Value) (D D':Nat->Prop) (w:World) (dI:SlR 2 xu D w ev es) (hnv:SlR 1 zv D' w nv nodes) (eb:n<=1000) (ec:nodes.length<=1000):Calls prog 100 #[.agg #[.int .i64 n,ev],.int .i64 root,nv] w (Ret fun v w'=>∃ u,v=.tuple #[u,.int .i64 (jy n es root nodes)]/\(jy n es root nodes ≠ 0->u=.slice none 0 0)/\(jy n es root nodes=0->∃ Rw order pl T L,Known n.toNat root.toNat es Rw order pl T/\L.Pairwise (·<·)/\(∀ y:Int,y ∈ L ↔ ∃ b:Nat,y=(b:Int)/\ItS (xF Rw root.toNat) nodes b)/\SlR 1 zv (fun b=>w.heap.size<=b) w' u L)/\Ext w w'):=by
 obtain⟨ao,cap,rfl⟩:=dI.form;obtain⟨an,cn,rfl⟩:=hnv.form;refine zqS func100 O ntmps100 O (V.inn (Vs 2 O (V.box 3 O O (fun b3=>?_))));refine Vs 8 O (zru call99 O (fun w hI=>(show Calls prog 99 #[.agg #[.int .i64 n,.slice ao es.length cap],.int .i64 root] w (Ret fun v w'=>(∃ u,v=.tuple #[u,.int .i64 (yo n es root)]/\(yo n es root ≠ 0->u=.pointer none)/\(yo n es root=0->∃ bw Rw Pw order pl T nv bv ov bp bt,u=.pointer (some ⟨bw,0,none⟩)/\Prep w.heap.size w' n.toNat root.toNat es bw Rw Pw order pl T nv bv ov bp bt))/\Ext w w') from (zdd n root es _ D w (Tr1 hI.k0 dI)).mono tD)) ?_);rintro r w1 w2 ed dK ⟨u,rfl,ee,dL⟩ dw;refine Vs 14 O (zp4 O (fun hc=>?_) (fun hc=>?_))
 .
  have hi:jy n es root nodes=yo n es root:=by rw[jy,zty hc]
  refine Vs 9 O (zpo tr100 O O (fun w hI=>⟨_,rfl,.slice none 0 0,tD,fun _=>rfl,fun h=>absurd (hi.symm.trans h) hc,hI.k1⟩))
 have dx:yo n es root=0:=by simpa using hc
 have hi:jy n es root nodes=if nodes.all (fun x=>decide (0<=x/\x<n)) then 0 else 3:=by rw[jy,ztx hc]
 obtain⟨bw,Rw,Pw,order,pl,T,nv,bv,ov,bp,bt,rfl,hp⟩:=dL dx;obtain⟨m,rfl⟩:=zul (show 0<=n from by have:=zfs dx;omega);obtain⟨rt,rfl⟩:=zul (show 0<=root from by have:=zfs dx;omega);simp only[ztJ]at hp ⊢;have hK:=hp.known;refine Vs 11 O (zrM (σ:=Nat) [2,3,8,28,29] [3] [3] O (fun e k=>(30,.int .i64 k)::e) (fun e k=>e) (fun k=>k<=nodes.length/\(nodes.take k).all (fun x=>decide (0<=x/\x<(m:Int)))=true) (fun k=>nodes.length - k) 0 j2 j3 j1 j1 j1 y8 ?_);rintro k ⟨ef,da⟩;refine Vs 6 O (zp4 O (fun eh=>?_) (fun ei=>?_))
 .
  refine Vs 6 O (zrJ 1000 1 k tO hnv O O (fun x ej ek dy dM dz=>?_));refine zrg 1000 tR27 ts3 O dz tO _ rfl O ?_
  have dl:¬ (0<=x/\x<(m:Int))->jy m es rt nodes=3:=by
   grind
  refine Vs 9 O (V.sp 36 O (fun dN=>?_) (fun dN=>?_))
  .
   have hb:=dl tO;refine Vs 20 O JS
  refine Vs 7 O (zp4 O (fun dO=>?_) (fun dO=>?_))
  .
   have hb:=dl tO;refine Vs 12 O JS
  refine Va 7 O tO (V.back (k+1) j2 j3 ⟨tO,Gr.all_take_succ dy da tD⟩ tO 0 O O)
 obtain rfl:k=nodes.length:=tO;rw[zts]at da;have dJ:jy m es rt nodes=0:=tD
 have dA:∀ x ∈ nodes,∃ a:Nat,x=(a:Int)/\a<m:=by
  intro x hx;have:=zuB.1 da x hx;simp at this;exact⟨x.toNat,tO,tO⟩
 refine Vs 8 O (zru call148 O (fun w hI=>(show Calls prog 148 #[.pointer (some ⟨bw,0,none⟩)] w (Ret fun u w'=>(∃ F,FrontRows Rw rt m F/\SlR 1 (RSl 1 zv) (fun b=>w.heap.size<=b) w' u F)/\Ext w w') from (zfr w (hp.keep hI.k0 dw) tO).mono tD)) ?_);rintro u w3 w4 em dQ ⟨Fm,hF,hu⟩ hY;obtain⟨fa,fc,rfl⟩:=hu.form;have er:=hF.len;refine Vs 7 O (zpW 47 tu52 Tryz.el4 O tO tO (zs:=List.replicate m (.bool false)) (xj _ m O) tR (fun b47=>?_));refine Vs 6 O (zsf [] (Hn:=fun x:Value=>[(49,.row 3 1 x nodes.length (nodes.flatMap zdx))]) [(3,some (3,0)),(45,some (3,0))] tc101 O j9 j1 (fun w hI=>zh0 49 (zfq nodes _ D' w (Tr1 hI.k2 hnv) tO)) ?_);rintro vs _ rfl
 have dR:∀ x r,Fm[x]?=some r->∀ y ∈ r,∃ c:Nat,y=(c:Int)/\c<m/\xF Rw rt x c:=by
  intro x r hr y hy;obtain⟨c,rfl,dt⟩:=(hF.mem x r hr y).1 hy;refine⟨c,rfl,?_,dt⟩;obtain⟨d,h1,h2,_⟩:=dt;have:=(Dfs.Reach.step h1 h2).lt hp.rows (by rw[hp.succ.len];exact hp.hroot);rw[hp.succ.len]at this;exact this
 refine Vs 4 O (zrk 15 3 1 O (Vs 5 O (zrL 47 O (e':=.row 4 1 (.slice (some ⟨b47,0,none⟩) m m) m ((List.replicate m false).map Value.bool)) (by rw[zvA]) (zrL 49 O (e':=.row 3 1 vs nodes.length (nodes.map (Value.int .i64))) (by rw[zoB]) (Vs 1 O (zrM (σ:=List Bool × List Int × List Int × Value × Value) [12,13] [] [] O (fun e ⟨ins,out,op,vs,vo⟩=>(14,vs)::(15,vo)::e) (fun e ⟨ins,out,op,vs,vo⟩=>(47,.row 4 1 (.slice (some ⟨b47,0,none⟩) m m) m (ins.map Value.bool))::(49,.row 3 1 vs op.length (op.map (Value.int .i64)))::(15,.row 3 1 vo out.length (out.map (Value.int .i64)))::e) (fun⟨ins,out,op,vs,vo⟩=>ItI (xF Rw rt) nodes m (fun _=>False) ins out op/\op.length+ins.count false<=nodes.length+m) (fun⟨ins,out,op,vs,vo⟩=>op.length+ins.count false) (List.replicate m false,[],nodes,vs,.slice none 0 0) j2 j3 j1 j1 j1 ⟨ItI.start dA,tR⟩ ?_))))));rintro⟨ins,out,op,vs,vo⟩ ⟨hT,dS⟩;refine zr8 (p:=∃ a c,vs=.slice a op.length c/\(0<op.length->∃ b,a=some ⟨b,0,none⟩)) (fun w hI=>zjZ (hI.at 49 O)) (fun dT=>?_);obtain⟨aw,cw,rfl,dU⟩:=dT;refine Vs 8 O (zp4 O (fun lw=>?_) (fun lw=>?_))
 .
  obtain⟨op',x,rfl⟩:∃ op' x,op=op'++[x]:=by
   rcases zuU op with rfl | ⟨s,x,rfl⟩
   . grind
   grind
  obtain⟨a,rfl,ew,dV⟩:=hT.todo x tR;have ez:(op'++[(a:Int)]).length=op'.length+1:=tR;obtain⟨bz,rfl⟩:=dU tO;refine zr8 (p:=(op'++[(a:Int)]).length<=cw) (fun w hI=>(xw (show w.ownsRow 0 3 1 (.slice (some ⟨bz,0,none⟩) (op'++[(a:Int)]).length cw) (op'++[(a:Int)]).length ((op'++[(a:Int)]).map (Value.int .i64)) from hI.at 49 O)).choose_spec.2.1) (fun eA=>(Va 10 O tO (zrp 49 (op'.length) tg3 O tO (show _=some (Value.int .i64 (a:Int)) by simp) (Va 9 O tO (zqH O (fun w hI=>zqc tR27 ts3 O O tO) (V.eq 63 (v:=.slice (some ⟨bz,0,none⟩) op'.length cw) O tD (zs4 49 (e':=.row 3 1 (.slice (some ⟨bz,0,none⟩) op'.length cw) op'.length (op'.map (Value.int .i64))) O (fun w hI=>(by have h:=zno (j:=op'.length) (show w.ownsRow 0 3 1 (.slice (some ⟨bz,0,none⟩) (op'++[(a:Int)]).length cw) (op'++[(a:Int)]).length ((op'++[(a:Int)]).map (Value.int .i64)) from hI.at 49 O) tO;rwa [zvv,List.take_left' tR]at h)) trivial (fun _ h=>h) (fun q h=>h) ?_)))))));refine Vs 7 O (zrH 2000 0 a tO hu O O O (fun b_ d_ h_=>by have dB:=hY _ h_;first | omega | exact dB d_) (fun z eC eD eE dm dW dC dX dD=>?_));obtain⟨dY,rfl,db⟩:=dD;obtain⟨dZ,d5,rfl⟩:=db.form;refine zrg 2000 tR89 ts27 O dC tO _ rfl O ?_;have d6:=hT.pop (a:=a) (op':=op') (fun y=>tR);have eF:=db.max;obtain⟨K,eG⟩:∃ K,K=(op'++[(a:Int)]).length+ins.count false:=Jm;refine Vs 6 O (zrM (σ:=Nat × List Bool × List Int × List Int × Value × Value) [12,13,67,68] [] [] O (fun e ⟨j,ins2,out2,op2,vs2,vo2⟩=>(14,vs2)::(15,vo2)::(69,.int .i64 j)::e) (fun e ⟨j,ins2,out2,op2,vs2,vo2⟩=>(47,.row 4 1 (.slice (some ⟨b47,0,none⟩) m m) m (ins2.map Value.bool))::(49,.row 3 1 vs2 op2.length (op2.map (Value.int .i64)))::(15,.row 3 1 vo2 out2.length (out2.map (Value.int .i64)))::e) (fun⟨j,ins2,out2,op2,vs2,vo2⟩=>j<=z.length/\ItI (xF Rw rt) nodes m (fun c=>c=a) ins2 out2 op2/\((a:Int) ∈ nodes\/ins2[a]?=some true)/\(∀ b:Nat,(b:Int) ∈ z.take j->ins2[b]?=some true)/\op2.length+ins2.count false+1<=K) (fun⟨j,ins2,out2,op2,vs2,vo2⟩=>z.length - j) (0,ins,out,op',.slice (some ⟨bz,0,none⟩) op'.length cw,vo) j2 j3 j1 j1 j1 ⟨ztC _,d6,dV,tR,tO⟩ ?_);rintro⟨j,ins2,out2,op2,vs2,vo2⟩ ⟨eH,dc,dg,du,d7⟩;refine Vs 6 O (zp4 O (fun eI=>?_) (fun eJ=>?_))
  .
   refine Vs 6 O (zrH 3000 0 j tO db O O O (fun b_ d_ h_=>by have dB:=hY _ h_;first | omega | exact dB d_) (fun y eK eL eM dr dE dF d8 dG=>?_));obtain rfl:=dG;refine zrg 3000 tR27 ts3 O dF tO _ rfl O ?_;obtain⟨c,rfl,dh,dt⟩:=dR a z dm y dE;obtain⟨s,hs⟩:∃ s,ins2[c]?=some s:=⟨_,ztn (by rw[dc.len];exact dh)⟩;have d9:=dc.outlen;refine Va 9 O tO (zrp 47 (c) tg4 O tO (show _=some (Value.bool s) by rw[ztE,hs];rfl) ?_);refine zqH O (fun w hI=>zqi O j6) (Vs 2 O (V.bool O (fun dH=>?_) (fun dH=>?_)))
   .
    obtain rfl:s=false:=by simpa using dH
    have eN:=znn hs
    have g1:(a:Int) ∈ nodes\/(ins2.set c true)[a]?=some true:=dg.imp id fun h=>by
     by_cases e:a=c
     . subst e;rw[hs]at h;cases h
     rw[zvj (fun h=>e h.symm)];exact h
    have g2:∀ b:Nat,(b:Int) ∈ z.take (j+1)->(ins2.set c true)[b]?=some true:=by
     intro b hb;by_cases e:b=c
     . subst e;rw[zvk (by rw[dc.len];exact dh)]
     rcases ztG.1 (by rw[zw9,dr]at hb;exact hb) with h | h
     . rw[zvj (fun h=>e h.symm)];exact du b h
     simp at h;omega
    refine Va 5 O tO (zrq 47 (c) ts4 O tO (by rw[ztH,dc.len];omega) (zrL 47 O (e':=.row 4 1 (.slice (some ⟨b47,0,none⟩) m m) m ((ins2.set c true).map Value.bool)) (by rw[zvB]) (Vs 6 O (zrP 83 [(0,_)] tR27 ts3 tz3 tS O O tK (fun b83=>?_)))));refine zrl 15 83 tu27 Tryz.el3 O tS O O tO tO (fun u15=>(Vs 6 O (zrP 87 [(0,_)] tR27 ts3 tz3 tS O O tK (fun b87=>?_))));refine zrl 49 87 tu27 Tryz.el3 O tS O O tO tO (fun u49=>(Va 8 O tO (zrL 15 O (e':=.row 3 1 u15 (out2++[(c:Int)]).length ((out2++[(c:Int)]).map (Value.int .i64))) tR (zrL 49 O (e':=.row 3 1 u49 (op2++[(c:Int)]).length ((op2++[(c:Int)]).map (Value.int .i64))) tR (V.back ⟨j+1,ins2.set c true,out2++[(c:Int)],op2++[(c:Int)],u49,u15⟩ j2 j3 ⟨tO,dc.push dh hs dg dt (fun y=>tR),g1,g2,tX⟩ tZ 0 O O)))))
   obtain rfl:s=true:=by simpa using dH
   have g2:∀ b:Nat,(b:Int) ∈ z.take (j+1)->ins2[b]?=some true:=by
    intro b hb;rcases ztG.1 (by rw[zw9,dr]at hb;exact hb) with h | h
    . exact du b h
    simp at h;obtain rfl:b=c:=tO;exact hs
   refine Va 7 O tO (V.back ⟨j+1,ins2,out2,op2,vs2,vo2⟩ j2 j3 ⟨tO,dc,dg,g2,d7⟩ tZ 0 O O)
  obtain rfl:j=z.length:=tO;rw[zts]at du;refine Vs 5 O (V.back ⟨ins2,out2,op2,vs2,vo2⟩ j2 j3 ⟨dc.close (fun b hb=>du b ((hF.mem a z dm _).2 ⟨b,rfl,hb⟩)),tO⟩ (by dsimp only;omega) 0 O O)
 obtain rfl:op=[]:=zuT tO;have d9:=hT.outlen;refine Vs 8 O (zrx 15 (E:=fun _:Unit=>.row 3 1 vo (xm out).length ((xm out).map (Value.int .i64))) call116 O iK (fun w hI=>znp out vo (hI.at 15 O) tO) ?_);rintro _ _ rfl;have g1:(xm out).Pairwise (·<·):=((zaW out).and ((List.mergeSort_perm out _).nodup_iff.2 hT.nodup)).imp (fun h=>Int.lt_iff_le_and_ne.2 h)
 have g2:∀ y:Int,y ∈ xm out ↔ ∃ b:Nat,y=(b:Int)/\ItS (xF Rw rt) nodes b:=by
  intro y;rw[za6,hT.mem];constructor
  . rintro⟨b,h1,h2⟩;exact⟨b,h1,(hT.fin b).1 h2⟩
  rintro⟨b,h1,h2⟩;exact⟨b,h1,(hT.fin b).2 h2⟩
 refine Vs 10 O (zpo tr100 O O (fun w hI=>⟨_,rfl,vo,by rw[dJ],fun h=>absurd dJ h,fun _=>⟨Rw,order,pl,T,xm out,hK,g1,g2,zqa (Value.int .i64) j9 (hI.at 15 O) (fun q hq=>(hI.inS 2 15 O O hq).1.elim False.elim id)⟩,hI.k2⟩))
end Go.Proofs.YtckdhgbepmpgiaaGreat
namespace Go.GL.Dom
open Go.GL.Dfs
section
variable {n:Nat}
theorem znq (h:Solved R root n pl T) (hO:Dfs.Order R root order) (hP:Dfs.Place n order pl) (hn:∀ x,Dfs.Reach R root x->x<n) {Fl:Nat->Prop} {O:Nat->α}
  (hY:∀ z,Dfs.Reach R root z->z ≠ root->¬ Fl z->∀ q:Nat,lk T z=(q:Int)->O z=O q) (hi:Dfs.Reach R root i) (dm:∀ z,xF R root z i->¬ Fl z) (hq:lk T i=(q:Int)) {y:Nat} (hy:Dfs.Reach R root y) (dl:Dfs.Edge R y i):O y=O q:=by
 rcases h.tree_or hi (hn _ hi) with⟨_,e⟩ | ⟨q',dy,e,dr,hd,dc,dt,_⟩
 . omega
 obtain rfl:q'=q:=Int.ofNat.inj (e.symm.trans hq)
 have main:∀ (k:Nat) z,lk pl z<=k->Dfs.Reach R root z->Dom R root z y->Dom R root q' z->O z=O q':=by
  intro k;induction k with
  | zero =>
   intro z hk hz dg db;by_cases e0:q'=z
   . rw[e0]
   have h1:=h.lt hO hP hz db e0;have h2:=h.tree_or hz (hn _ hz);rcases h2 with⟨h3,_⟩ | ⟨p,_,_,_,_,_,dh,du⟩
   . exact absurd ((zt8 (root:=root) (R:=R) tD).trans h3.symm) e0
   have:=xT hO hP dh;omega
  | succ k ih =>
   intro z hk hz dg db;by_cases e0:q'=z
   . rw[e0]
   have hF:xF R root z i:=⟨y,hy,dl,dg,fun h1=>by
    have h2:=dc z h1.1 h1.2;have h3:=h.lt hO hP dt h2 (fun e=>e0 e.symm);have h4:=h.lt hO hP hz db e0
    omega⟩
   rcases h.tree_or hz (hn _ hz) with⟨h3,_⟩ | ⟨p,dw,hp,_,dx,da,dh,du⟩
   . exact absurd ((zt8 (root:=root) (R:=R) tD).trans h3.symm) e0
   rw[hY z hz dw (dm z hF) p hp];exact ih p tO dh (dx.trans dg) (da q' e0 db)
 exact main (lk pl y).toNat y tO hy (Dom.refl y) (hd.pred dr dl)
end
end Go.GL.Dom
namespace Go.Proofs.YtckdhgbepmpgiaaGreat
open Go.GL Go.GL.Dom
structure TreeG (g:List Nd) (R:List (List Int)) (order:List Nat) (pl T:List Int):Prop where
 edge:∀ a b:Nat,b<g.length->(Dfs.Edge R a b ↔ a ∈ zJ g b)
 all:∀ i,i<g.length->Dfs.Reach R 0 i
 lt:∀ i,Dfs.Reach R 0 i->i<g.length
 sol:Solved R 0 g.length pl T
 ord:Dfs.Order R 0 order
 place:Dfs.Place g.length order pl
structure RenV (f:Fl) (g:List Nd) (s:Sf) (nv:Nat) (R:List (List Int)) (T:List Int) (B:Nat->Int->Int):Prop where
 zero:∀ v:Int,0<=v->v<nv->B 0 v=v
 phi:∀ i v k,i<g.length->i ≠ 0->zc9 s i v=some k->B i v=k
 up:∀ (i q:Nat) v,i<g.length->i ≠ 0->zc9 s i v=none->lk T i=(q:Int)->B i v=xc f g s B q v
 free:∀ (i:Nat) (v:Int),i<g.length->i ≠ 0->0<=v->v<nv->zc9 s i v=none->∀ z,xF R 0 z i->¬ (yy f g z=v\/∃ k,z ≠ 0/\zc9 s z v=some k)
section
variable {B:Nat->Int->Int}
theorem zk0 (x:Int):xM x x=x:=zty (.inr rfl)
theorem zlR (x:Int):xM (-1) x=x:=by
 unfold xM;split
 . omega
 rfl
theorem zib {l:List Int} {c:Int} (hl:l ≠ []) (h:∀ x ∈ l,x=c):zax l=c:=by
 obtain⟨x,l,rfl⟩:=List.exists_cons_of_ne_nil hl;obtain rfl:=h x (ztr ..)
 have main:∀ l:List Int,(∀ y ∈ l,y=x)->l.foldl xM x=x:=fun l=>by
  induction l with
  | nil=>exact fun _=>rfl
  | cons y l ih =>
   intro hl;rw[zv9,hl y (ztr ..),zk0];exact ih fun z hz=>hl z (ztq _ hz)
 show (x::l).foldl xM (-1)=x;rw[zv9,zlR];exact main l fun y hy=>h y iq
theorem RenV.pred (h:RenV f g s nv R T B) (ht:TreeG g R order pl T) {y:Nat} {v:Int} (hi:i<g.length) (h0:i ≠ 0) (hv:0<=v) (hn:v<nv) (hp:zc9 s i v=none) (hy:y ∈ zJ g i) (hq:lk T i=(q:Int)):xc f g s B y v=xc f g s B q v:=by
 refine znq (Fl:=fun z=>yy f g z=v\/∃ k,z ≠ 0/\zc9 s z v=some k) (O:=fun z=>xc f g s B z v) ht.sol ht.ord ht.place ht.lt (fun z hz da hF p db=>?_) (ht.all i hi) (fun z hF=>h.free i v hi h0 hv hn hp z hF) hq (ht.all y (xN hy)) ((ht.edge y i hi).2 hy)
 have hY:zc9 s z v=none:=by
  cases e:zc9 s z v with
  | none=>rfl
  | some k=>exact absurd (.inr ⟨k,da,e⟩) hF
 show xc f g s B z v=xc f g s B p v;rw[show xc f g s B z v=B z v from ztx fun e=>hF (.inl e)];exact h.up z p v (ht.lt z hz) da hY db
theorem TreeG.up (ht:TreeG g R order pl T) (hi:i<g.length) (h0:i ≠ 0):∃ q:Nat,lk T i=(q:Int)/\q<g.length/\lk pl q<lk pl i:=by
 rcases ht.sol.tree_or (ht.all i hi) hi with⟨e,_⟩ | ⟨q,_,h1,_,_,_,h2,h3⟩
 . omega
 exact⟨q,h1,ht.lt q h2,h3⟩
theorem TreeG.pre (ht:TreeG g R order pl T) (hi:i<g.length) (h0:i ≠ 0):∃ y,y ∈ zJ g i:=by
 cases ht.all i hi with
 | refl=>exact absurd rfl h0
 | @step a _ _ he=>exact⟨a,(ht.edge a i hi).1 he⟩
theorem RenV.sol (h:RenV f g s nv R T B) (ht:TreeG g R order pl T) (hs:NnS f g s):SolV f g s nv B:=by
 refine⟨fun i hi v hv hn=>?_,fun i hi v hv hn=>?_⟩
 .
  have hr:RV f g s v i (B i v):=by
   have:=ht.all i hi;induction this with
   | refl=>rw[h.zero v hv hn];exact .ini
   | @step a i ha he ih =>
    by_cases h0:i=0
    . subst h0;rw[h.zero v hv hn];exact .ini
    cases hp:zc9 s i v with
    | some k=>rw[h.phi i v k hi h0 hp];exact .phi h0 hp
    | none =>
     have hy:=(ht.edge a i hi).1 he;obtain⟨q,hq,_⟩:=ht.up hi h0;have h1:=h.pred ht hi h0 hv hn hp hy hq;rw[h.up i q v hi h0 hp hq,<- h1];unfold xc;split
     . rename_i hd;exact .dfn h0 hp hy hd
     rename_i hd;exact .pass h0 hp hy hd (ih (ht.lt a ha))
  exact .inr (.inl ⟨hr.nn hs hv,hr⟩)
 unfold eqV;split
 . rename_i h0;subst h0;exact h.zero v hv hn
 rename_i h0;split
 . rename_i k hp;exact h.phi i v k hi h0 hp
 rename_i hp;obtain⟨q,hq,_⟩:=ht.up hi h0;obtain⟨y,hy⟩:=ht.pre hi h0;rw[h.up i q v hi h0 hp hq];refine(zib (fun e=>?_) fun x hx=>?_).symm
 .
  rw[List.map_eq_nil_iff]at e
  grind
 obtain⟨z,hz,rfl⟩:=zvI.1 hx;exact h.pred ht hi h0 hv hn hp hz hq
end
end Go.Proofs.YtckdhgbepmpgiaaGreat
namespace Go.GL.Dom
def chT (T:List Int) (i:Nat):List Nat:=(List.range T.length).filter fun c=>decide (T[c]?=some (i:Int))
def zfG (T:List Int):Nat->Nat->List Nat
 | 0,_=>[]
 | m+1,i=>i::(chT T i).flatMap (zfG T m)
inductive AncT (T:List Int) (i:Nat):Nat->Prop
 | refl:AncT T i i
 | step {j q:Nat}:lk T j=(q:Int)->AncT T i q->AncT T i j
structure TrT (T:List Int) (n:Nat) (rk:Nat->Int):Prop where
 len:T.length=n
 up:∀ j q:Nat,j<n->lk T j=(q:Int)->q<n/\rk q<rk j
section
variable {n:Nat} {rk:Nat->Int}
theorem chT_mem:c ∈ chT T i ↔ c<T.length/\lk T c=(i:Int):=by
 unfold chT;rw[zvE,zvN,decide_eq_true_iff];refine⟨fun⟨h1,h2⟩=>⟨h1,xS h2⟩,fun⟨h1,h2⟩=>⟨h1,?_⟩⟩;have:=ku (l:=T) (i:=c) tO;rw[this,h2]
theorem zk1 (i:Nat):(chT T i).Nodup:=List.Pairwise.filter _ zvR
theorem TrT.rk_le (h:TrT T n rk) (ha:AncT T i j):j<n->i<n/\(i=j\/rk i<rk j):=by
 induction ha with
 | refl=>exact fun hj=>⟨hj,.inl rfl⟩
 | @step j q hq _ ih =>
  intro hj;obtain⟨h1,h2⟩:=h.up j q hj hq;obtain⟨h3,h4⟩:=ih h1;exact⟨h3,.inr tD⟩
theorem AncT.trans (h:AncT T a b) (h':AncT T b c):AncT T a c:=by
 induction h' with
 | refl=>exact h
 | step hq _ ih=>exact .step hq ih
theorem TrT.child (h:TrT T n rk) (ha:AncT T i j):j<n->j ≠ i->∃ c,c ∈ chT T i/\AncT T c j:=by
 induction ha with
 | refl=>exact fun _ hn=>absurd rfl hn
 | @step j q hq _ ih =>
  intro hj _;obtain⟨h1,h2⟩:=h.up j q hj hq;by_cases e:q=i
  .
   subst e;exact⟨j,chT_mem.2 ⟨by rw[h.len];exact hj,hq⟩,.refl⟩
  obtain⟨c,hc,hY⟩:=ih h1 e;exact⟨c,hc,.step hq hY⟩
theorem AncT.comp (ha:AncT T a j) (hb:AncT T b j):AncT T a b\/AncT T b a:=by
 induction ha with
 | refl=>exact .inr hb
 | @step j q hq ha ih =>
  cases hb with
  | refl=>exact .inl (.step hq ha)
  | @step _ q' hq' hb =>
   obtain rfl:q'=q:=Int.ofNat.inj (hq'.symm.trans hq);exact ih hb
theorem TrT.child_uniq (h:TrT T n rk) (_:j<n) (hc:c ∈ chT T i) (hd:d ∈ chT T i) (hY:AncT T c j) (da:AncT T d j):c=d:=by
 have main:∀ {c d:Nat},c ∈ chT T i->d ∈ chT T i->AncT T c d->c=d:=fun {c d} hc hd db=>by
  obtain⟨h1,h2⟩:=chT_mem.1 hc;obtain⟨h3,h4⟩:=chT_mem.1 hd;rw[h.len]at h1 h3;cases db with
  | refl=>rfl
  | @step _ q hq hcq =>
   obtain rfl:q=i:=Int.ofNat.inj (hq.symm.trans h4);have h5:=h.up c q h1 h2;have h6:=h.rk_le hcq h5.1;rcases h6.2 with e | e
   . grind
   omega
 rcases hY.comp da with e | e
 . grind
 grind
theorem zgf {l:List Nat} (hl:l.Nodup) {p:Nat->Prop} [DecidablePred p] (hc:c ∈ l) (hp:p c) (hu:∀ d ∈ l,p d->d=c):(l.map fun d=>if p d then 1 else 0).sum=1:=by
 induction l with
 | nil=>cases hc
 | cons x l ih =>
  rw[zvQ]at hl;rw[zvx,zw8];rcases ztD.1 hc with rfl | hc
  .
   rw[zty hp]
   have:∀ m:List Nat,(∀ d ∈ m,¬ p d)->(m.map fun d=>if p d then 1 else 0).sum=0:=fun m=>by
    induction m with
    | nil=>exact fun _=>rfl
    | cons y m ih=>intro hm;rw[zvx,zw8,ztx (hm y (ztr ..)),ih fun d hd=>hm d (ztq _ hd)]
   rw[this l fun d hd hY=>hl.1 (by rw[<- hu d (ztq _ hd) hY];exact hd)]
  grind
theorem zk2 {l:List Nat} {p:Nat->Prop} [DecidablePred p] (hu:∀ d ∈ l,¬ p d):(l.map fun d=>if p d then 1 else 0).sum=0:=by
 induction l with
 | nil=>rfl
 | cons y m ih=>rw[zvx,zw8,ztx (hu y (ztr ..)),ih fun d hd=>hu d (ztq _ hd)]
open Classical in
theorem TrT.count (h:TrT T n rk):∀ (m i:Nat),i<n->(∀ j,j<n->AncT T i j->rk j - rk i<m)->∀ j,j<n->(zfG T m i).count j=if AncT T i j then 1 else 0:=by
 intro m;induction m with
 | zero=>intro i hi hm j _;have:=hm i hi .refl;omega
 | succ m ih =>
  intro i hi hm j hj
  have da:∀ c ∈ chT T i,c<n/\rk i<rk c/\AncT T i c:=fun c hc=>by
   obtain⟨h1,h2⟩:=chT_mem.1 hc;rw[h.len]at h1;exact⟨h1,(h.up c i h1 h2).2,.step h2 .refl⟩
  have hs:((chT T i).flatMap (zfG T m)).count j=((chT T i).map fun c=>if AncT T c j then 1 else 0).sum:=by
   rw[zuK];congr 1;refine zvw fun c hc=>?_;obtain⟨h1,h2,h3⟩:=da c hc;exact ih c h1 (fun j' db ha=>by have:=hm j' db (h3.trans ha);omega) j hj
  show (i::(chT T i).flatMap (zfG T m)).count j=_;rw[List.count_cons,hs];by_cases e:j=i
  .
   subst e;rw[zk2 fun c hc ha=>?_,zty tR,zty .refl];obtain⟨h1,h2,_⟩:=da c hc;have:=(h.rk_le ha hj).2;rcases this with e | e
   . subst e;omega
   omega
  rw[ztx (by simpa using fun e'=>e e'.symm),zwl];by_cases ha:AncT T i j
  .
   obtain⟨c,hc,hY⟩:=h.child ha hj e;rw[zty ha];exact zgf (zk1 i) hc hY fun d hd dc=>h.child_uniq hj hd hc dc hY
  rw[ztx ha];exact zk2 fun c hc hY=>ha ((da c hc).2.2.trans hY)
theorem znr (h:TrT T n rk):∀ (m i:Nat),i<n->∀ j ∈ zfG T m i,j<n:=by
 intro m;induction m with
 | zero=>intro i _ j hj;cases hj
 | succ m ih =>
  intro i hi j hj;rcases ztD.1 hj with rfl | hj
  . exact hi
  obtain⟨c,hc,hj⟩:=zvF.1 hj;exact ih c (by have:=(chT_mem.1 hc).1;rw[h.len]at this;exact this) j hj
end
end Go.GL.Dom
namespace Go.Proofs.YtckdhgbepmpgiaaGreat
open Go.GL Go.GL.Dom
theorem TreeG.trt (h:TreeG g R order pl T):TrT T g.length (fun i=>lk pl i):=⟨h.sol.len,fun j q hj hq=>by
 by_cases h0:j=0
 .
  subst h0;have:=h.sol.out 0 hj (.inr rfl);rw[xS this]at hq;omega
 .
  obtain⟨q',h1,h2,h3⟩:=h.up hj h0
  grind⟩
theorem TreeG.rk0 (h:TreeG g R order pl T) (hi:i<g.length):0<=lk pl i:=xT h.ord h.place (h.all i hi)
theorem TreeG.rk1 (h:TreeG g R order pl T) (hor:order.length<=g.length) (hi:i<g.length):lk pl i<g.length:=by
 have h1:=zaE h.place (h.rk0 hi);have:=(ztB.1 h1.1).1;omega
theorem TreeG.anc (h:TreeG g R order pl T):∀ (k:Nat) (i:Nat),lk pl i<=k->i<g.length->AncT T 0 i:=by
 intro k;induction k with
 | zero =>
  intro i hk hi;by_cases h0:i=0
  . subst h0;exact .refl
  obtain⟨q,h1,h2,h3⟩:=h.up hi h0;have:=h.rk0 h2;omega
 | succ k ih =>
  intro i hk hi;by_cases h0:i=0
  . subst h0;exact .refl
  obtain⟨q,h1,h2,h3⟩:=h.up hi h0;exact .step h1 (ih q tO h2)
theorem TreeG.walk (h:TreeG g R order pl T) (hor:order.length<=g.length) (h0:0<g.length):(zfG T (g.length+1) 0).Perm (List.range g.length):=by
 rw[zvY];intro j;by_cases hj:j<g.length
 . rw[h.trt.count _ 0 h0 (fun j' hY _=>by have:=h.rk1 hor hY;have:=h.rk0 h0;omega) j hj,zty (h.anc (lk pl j).toNat j tO hj),List.nodup_range.count,zty (zvN.2 hj)]
 rw[zuJ.2 fun hm=>hj (znr h.trt _ 0 h0 j hm),zuJ.2 fun hm=>hj (zvN.1 hm)]
section
variable (f:Fl) (g:List Nd) (T:List Int) (of1:List Int) (ph:Nat->List Phn)
def zhb (j:Nat):Bool:=decide (0<=yy f g j)
def qe:List Nat:=zfG T (g.length+1) 0
def zcF (k:Nat):List Nat:=((qe g T).take k).filter (zhb f g)
def dfW (j:Nat):Int:=if 0<=yy f g j then ((of1.length+(zcF f g T ((qe g T).idxOf j)).length:Nat):Int) else -1
def zlS:Nat->Nat->Int->Int
 | 0,_,v=>v
 | m+1,i,v=>match zbe (ph i) v with
  | some k=>k
  | none=>if 0<=lk T i then (if yy f g (lk T i).toNat=v then dfW f g T of1 (lk T i).toNat else zlS m (lk T i).toNat v) else v
def ze3 (i:Nat) (v:Int):Int:=zlS f g T of1 ph (g.length+1) i v
def zcq (i:Nat) (v:Int):Int:=if yy f g i=v then dfW f g T of1 i else ze3 f g T of1 ph i v
def zov (i:Nat) (p:Phn):Phn:=⟨p.var,p.ver,p.frm,(zJ g i).map fun y=>zcq f g T of1 ph y p.var⟩
def zns (i:Nat):Sn:=⟨(ph i).map (zov f g T of1 ph i),(rdV f g i).map fun v=>(v,ze3 f g T of1 ph i v),dfW f g T of1 i⟩
def zcG:Sf:=⟨of1++((qe g T).filter (zhb f g)).map (yy f g),(List.range g.length).map (zns f g T of1 ph)⟩
structure DefOk:Prop where
 dfn:∀ j,j<g.length->0<=yy f g j->∃ x,f.vars[(yy f g j).toNat]?=some x/\x.kind=0
 no:∀ j,-1<=yy f g j
 rd:∀ j v,v ∈ rdV f g j->0<=v/\v<f.vars.length
structure PlcF (R:List (List Int)):Prop where
 len:f.vars.length<=of1.length
 ini:∀ (k:Nat) v,of1[k]?=some v->k<f.vars.length->v=(k:Int)
 new:∀ (k:Nat) v,of1[k]?=some v->f.vars.length<=k->0<=v/\∃ x,f.vars[v.toNat]?=some x/\x.kind=0
 zero:ph 0=[]
 asc:∀ i,(ph i).Pairwise fun p q=>p.var<q.var
 ver:∀ i,∀ p ∈ ph i,(f.vars.length:Int)<=p.ver/\of1[p.ver.toNat]?=some p.var
 frm:∀ i,∀ p ∈ ph i,p.frm=zi g i
 one:∀ k:Nat,f.vars.length<=k->k<of1.length->((List.range g.length).flatMap fun i=>(ph i).map (·.ver)).count (k:Int)=1
 free:∀ (i:Nat) (v:Int),i<g.length->i ≠ 0->0<=v->v<f.vars.length->zbe (ph i) v=none->∀ z,xF R 0 z i->¬ (yy f g z=v\/∃ k,z ≠ 0/\zbe (ph z) v=some k)
end
section
variable {ph:Nat->List Phn}
theorem zlT (F:Phn->Phn) (hF:∀ p,(F p).var=p.var/\(F p).ver=p.ver) (l:List Phn) (v:Int):zbe (l.map F) v=zbe l v:=by
 unfold zbe;induction l with
 | nil=>rfl
 | cons p l ih =>
  rw[zvx];by_cases e:p.var=v
  .
   rw[zv1 tD,zv1 tD];simp[hF]
  rw[zv0 tD,zv0 tD];exact ih
theorem zk3 (ht:TreeG g R order pl T) {v:Int}:∀ (m m' i:Nat),i<g.length->lk pl i<m->lk pl i<m'->zlS f g T of1 ph m i v=zlS f g T of1 ph m' i v:=by
 intro m;induction m with
 | zero=>intro m' i hi h _;have:=ht.rk0 hi;omega
 | succ m ih =>
  intro m' i hi h h';cases m' with
  | zero=>have:=ht.rk0 hi;omega
  | succ m' =>
   unfold zlS;split
   . rfl
   split
   .
    rename_i hT;obtain⟨h1,h2⟩:=ht.trt.up i (lk T i).toNat hi tO;split
    . rfl
    exact ih m' _ h1 tO tO
   rfl
theorem ze4 (ht:TreeG g R order pl T) (hor:order.length<=g.length) (hi:i<g.length) (v:Int):ze3 f g T of1 ph i v=match zbe (ph i) v with
  | some k=>k
  | none=>if 0<=lk T i then zcq f g T of1 ph (lk T i).toNat v else v:=by
 show zlS f g T of1 ph (g.length+1) i v=_;rw[zlS];split
 . rfl
 split
 .
  rename_i hT;obtain⟨h1,h2⟩:=ht.trt.up i (lk T i).toNat hi tO;have:=ht.rk1 hor hi;unfold zcq ze3;rw[zk3 ht g.length (g.length+1) _ h1 tO tO]
 rfl
theorem zk4 {p:α->Bool} {l:List α} {x:α} (hx:l[k]?=some x) (hp:p x=true):(l.filter p)[((l.take k).filter p).length]?=some x:=by
 have h1:l=l.take k++x::l.drop (k+1):=by
  obtain⟨hk,hY⟩:=ztB.1 hx;have e:=zuO hk;rw[hY]at e;rw[<- e,zwa]
 have h2:l.filter p=(l.take k).filter p++x::(l.drop (k+1)).filter p:=by
  grind
 rw[h2,ztO (ztM _),zwA];rfl
theorem jQ (ht:TreeG g R order pl T) (hor:order.length<=g.length) (h0:0<g.length):(qe g T).Perm (List.range g.length):=ht.walk hor h0
theorem zmD (ht:TreeG g R order pl T) (hor:order.length<=g.length) (h0:0<g.length) (hj:j<g.length) (hd:0<=yy f g j):((qe g T).filter (zhb f g))[(zcF f g T ((qe g T).idxOf j)).length]?=some j:=by
 have hm:j ∈ qe g T:=(jQ ht hor h0).mem_iff.2 (zvN.2 hj);refine zk4 ?_ (by unfold zhb;exact ztz hd);rw[ztn (zvo hm),zvm]
theorem zhc (ht:TreeG g R order pl T) (hor:order.length<=g.length) (h0:0<g.length) (hj:j<g.length) (hd:0<=yy f g j):(of1.length:Int)<=dfW f g T of1 j/\(zcG f g T of1 ph).of_[(dfW f g T of1 j).toNat]?=some (yy f g j):=by
 have h1:=zmD ht hor h0 hj hd;unfold dfW;rw[zty hd];refine⟨tO,?_⟩;rw[ztJ];show (of1++_)[_]?=_;rw[ztO tO,zwk,ztE,h1];rfl
theorem zk5 (hp:PlcF f g of1 ph R) (ht:TreeG g R order pl T) (hor:order.length<=g.length) (h0:0<g.length) {v:Int} (hv:0<=v) (hn:v<f.vars.length):∀ (m i:Nat),i<g.length->zay f (zcG f g T of1 ph) (zlS f g T of1 ph m i v) v false:=by
 have hY:zay f (zcG f g T of1 ph) v v false:=by
  refine⟨hv,?_,fun h=>tD⟩;have hl:=hp.len;have e:=ztn (show v.toNat<of1.length by omega);show (of1++_)[_]?=_;rw[ztN tO,e,hp.ini _ _ e tO];congr 1;omega
 intro m;induction m with
 | zero=>exact fun i _=>hY
 | succ m ih =>
  intro i hi;unfold zlS;split
  .
   rename_i k hk;obtain⟨p,da,rfl,rfl⟩:=zbf hk;obtain⟨h1,h2⟩:=hp.ver i p da;refine⟨tO,?_,fun h=>tO⟩;show (of1++_)[_]?=_;rw[ztN (ztB.1 h2).1,h2]
  split
  .
   rename_i hT;obtain⟨h1,_⟩:=ht.trt.up i (lk T i).toNat hi tO;split
   .
    rename_i hd;obtain⟨h3,h4⟩:=zhc (f:=f) (of1:=of1) (ph:=ph) ht hor h0 h1 tO;rw[hd]at h4;exact⟨tO,h4,fun h=>tD⟩
   grind
  exact hY
theorem znt (hp:PlcF f g of1 ph R) (ht:TreeG g R order pl T) (hor:order.length<=g.length) (h0:0<g.length) {v:Int} (hv:0<=v) (hn:v<f.vars.length) (hi:i<g.length):zay f (zcG f g T of1 ph) (zcq f g T of1 ph i v) v false:=by
 unfold zcq;split
 .
  rename_i hd;obtain⟨h3,h4⟩:=zhc (f:=f) (of1:=of1) (ph:=ph) ht hor h0 hi tO;rw[hd]at h4;exact⟨tO,h4,fun h=>tD⟩
 exact zk5 hp ht hor h0 hv hn _ i hi
theorem qV (hi:i<g.length):zp (zcG f g T of1 ph) i=zns f g T of1 ph i:=yL (by show ((List.range g.length).map _)[i]?=_;rw[ztE,zvf hi];rfl)
theorem zbj (hi:i<g.length) (v:Int):zc9 (zcG f g T of1 ph) i v=zbe (ph i) v:=by
 unfold zc9;rw[qV hi];show zbe ((ph i).map (zov f g T of1 ph i)) v=zbe (ph i) v;exact zlT (zov f g T of1 ph i) (fun _=>JL) _ _
theorem zhd {z:Nat} (ha:Dfs.Reach R root a) (hz:¬ Dfs.Reach R root z):∃ k,AvN R root z k a:=by
 induction ha with
 | refl=>exact⟨0,.start fun e=>hz (e ▸ .refl)⟩
 | @step a b ha he ih =>
  obtain⟨k,hk⟩:=ih;exact⟨k+1,.step hk he fun e=>hz (e ▸ .step ha he)⟩
theorem zk6 (hd:DefOk f g) (hp:PlcF f g of1 ph R) (ht:TreeG g R order pl T) (hor:order.length<=g.length) (h0:0<g.length):FormF f g (zcG f g T of1 ph) (rdV f g):=by
 have dx:=hp.len;have hW:=jQ ht hor h0;have dt:∀ j ∈ qe g T,j<g.length:=fun j hj=>zvN.1 (hW.mem_iff.1 hj);have dy:(qe g T).Nodup:=hW.nodup_iff.2 zvR
 have dc:∀ (i:Nat) p,p ∈ ph i->0<=p.var/\p.var<f.vars.length:=fun i p hY=>by
  obtain⟨h1,h2⟩:=hp.ver i p hY;obtain⟨h3,x,h4,_⟩:=hp.new _ _ h2 tO;have:=(ztB.1 h4).1;omega
 refine⟨⟨?_,fun k v hk dz=>?_,fun k v hk dA=>?_⟩,?_,fun n x hx=>?_,fun k dB dC=>?_⟩
 .
  show f.vars.length<=(of1++_).length
  grind
 .
  have hk:(of1++_)[k]?=some v:=hk;rw[ztN tO]at hk;exact hp.ini k v hk dz
 .
  have hk:(of1++((qe g T).filter (zhb f g)).map (yy f g))[k]?=some v:=hk;by_cases hl:k<of1.length
  . rw[ztN hl]at hk;exact hp.new k v hk dA
  rw[ztO tO,ztE]at hk;obtain⟨j,hj,rfl⟩:=zwI.1 hk;obtain⟨dg,dh⟩:=zvE.1 (zto hj);have da:=of_decide_eq_true dh;exact⟨da,hd.dfn j (dt j dg) da⟩
 .
  show ((List.range g.length).map _).length=_
  grind
 .
  have hn:n<g.length:=by
   have h1:((List.range g.length).map (zns f g T of1 ph))[n]?=some x:=hx;have:=(ztB.1 h1).1;simpa using this
  obtain rfl:zns f g T of1 ph n=x:=by rw[<- qV hn,yL hx]
  refine⟨⟨fun e=>?_,?_,fun p hY=>?_,fun p hY=>?_,fun p hY=>?_,fun p hY a ha=>?_⟩,fun e=>?_,fun e=>?_,?_,fun u hu=>?_⟩
  . subst e;show (ph 0).map _=[];rw[hp.zero];rfl
  . exact List.Pairwise.map _ (fun _ _ h=>h) (hp.asc n)
  .
   obtain⟨q,hq,rfl⟩:=zvI.1 hY;obtain⟨h1,h2⟩:=hp.ver n q hq;refine⟨show 0<=q.ver by omega,?_,fun _=>h1⟩;show (of1++_)[q.ver.toNat]?=some q.var;rw[ztN (ztB.1 h2).1,h2]
  .
   obtain⟨q,hq,rfl⟩:=zvI.1 hY;exact hp.frm n q hq
  .
   obtain⟨q,hq,rfl⟩:=zvI.1 hY;show ((zJ g n).map _).length=q.frm.length;rw[hp.frm n q hq];unfold zi
   grind
  .
   obtain⟨q,hq,rfl⟩:=zvI.1 hY;obtain⟨y,hy,rfl⟩:=zvI.1 ha;obtain⟨h1,h2⟩:=dc n q hq;exact znt hp ht hor h0 h1 h2 (xN hy)
  .
   show dfW f g T of1 n=-1;unfold dfW;omega
  .
   obtain⟨h1,h2⟩:=zhc (f:=f) (of1:=of1) (ph:=ph) ht hor h0 hn e;exact⟨show 0<=dfW f g T of1 n by omega,h2,fun _=>show (f.vars.length:Int)<=dfW f g T of1 n by omega⟩
  .
   show ((rdV f g n).map _).map _=_;rw[zvy];exact List.map_id'' j1 _
  obtain⟨v,hv,rfl⟩:=zvI.1 hu;obtain⟨h1,h2⟩:=hd.rd n v hv;exact zk5 hp ht hor h0 h1 h2 _ n hn
 have dl:k<(of1++((qe g T).filter (zhb f g)).map (yy f g)).length:=dC;rw[ztv,ztH]at dl
 have dD:∀ i,i<g.length->dfL f g (zcG f g T of1 ph) i=(ph i).map (·.ver)++if 0<=yy f g i then [dfW f g T of1 i] else []:=fun i hi=>by
  unfold dfL;rw[qV hi];show ((ph i).map _).map _++_=_;rw[zvy];rfl
 have dm:(qx f g (zcG f g T of1 ph)).count (k:Int)=((List.range g.length).map fun i=>((ph i).map (·.ver)).count (k:Int)+if 0<=yy f g i/\dfW f g T of1 i=(k:Int) then 1 else 0).sum:=by
  unfold qx;rw[zuK];congr 1;refine zvw fun i hi=>?_;show (dfL f g (zcG f g T of1 ph) i).count (k:Int)=_;rw[dD i (zvN.1 hi),zuI];congr 1;by_cases e1:0<=yy f g i
  . grind
  grind
 have dr:∀ (F G:Nat->Nat) (l:List Nat),(l.map fun i=>F i+G i).sum=(l.map F).sum+(l.map G).sum:=fun F G l=>by
  induction l with
  | nil=>rfl
  | cons x l ih=>simp only[zvx,zw8,ih];omega
 rw[dm,dr];by_cases hl:k<of1.length
 .
  have h1:=hp.one k dB hl;rw[zuK]at h1;rw[zk2 fun i hi h=>?_]
  . exact h1
  have:=(zhc (f:=f) (of1:=of1) (ph:=ph) ht hor h0 (zvN.1 hi) h.1).1;omega
 have h1:((List.range g.length).map fun i=>((ph i).map (·.ver)).count (k:Int)).sum=0:=by
  have:∀ l:List Nat,(l.map fun i=>((ph i).map (·.ver)).count (k:Int)).sum=0:=fun l=>by
   induction l with
   | nil=>rfl
   | cons i l ih =>
    rw[zvx,zw8,ih,zuJ.2 fun hm=>?_];obtain⟨p,hY,e⟩:=zvI.1 hm;obtain⟨_,h2⟩:=hp.ver i p hY;have:=(ztB.1 h2).1;omega
  exact this _
 rw[h1,zwC];obtain⟨j,hj⟩:∃ j,((qe g T).filter (zhb f g))[k - of1.length]?=some j:=iA;obtain⟨dg,dh⟩:=zvE.1 (zto hj);have da:0<=yy f g j:=of_decide_eq_true dh;have du:=dt j dg;have dE:((qe g T).filter (zhb f g)).Nodup:=List.Pairwise.filter _ dy
 have db:∀ i,i<g.length->0<=yy f g i->(dfW f g T of1 i=(k:Int) ↔ i=j):=fun i hi dw=>by
  have h2:=zmD (f:=f) ht hor h0 hi dw;unfold dfW;rw[zty dw];constructor
  .
   intro e;have e2:(zcF f g T ((qe g T).idxOf i)).length=k - of1.length:=tO;rw[e2,hj]at h2;exact(Option.some.inj h2).symm
  rintro rfl;have h3:=(zvd (ztB.1 hj).1 dE).1 (hj.trans h2.symm);omega
 exact zgf zvR (zvN.2 du) ⟨da,(db j du da).2 rfl⟩ fun i hi h=>(db i (zvN.1 hi) h.1).1 h.2
theorem zlU (hp:PlcF f g of1 ph R) (ht:TreeG g R order pl T) (hor:order.length<=g.length) (h0:0<g.length):RenV f g (zcG f g T of1 ph) f.vars.length R T (ze3 f g T of1 ph):=by
 refine⟨fun v hv hn=>?_,fun i v k hi _ hk=>?_,fun i q v hi _ hk hq=>?_,fun i v hi db hv hn hk z hz h=>?_⟩
 .
  rw[ze4 ht hor h0,hp.zero];show (if 0<=lk T 0 then _ else v)=v;rw[ztx];rw[xS (ht.sol.out 0 h0 (.inr rfl))];decide
 .
  rw[zbj hi]at hk;rw[ze4 ht hor hi,hk]
 .
  rw[zbj hi]at hk;rw[ze4 ht hor hi,hk];have dc:=(ht.trt.up i q hi hq).1;show (if 0<=lk T i then _ else v)=_;rw[zty tO,hq,ztJ];unfold xc zcq;rw[qV dc];rfl
 rw[zbj hi]at hk
 have dg:z<g.length:=by
  obtain⟨a,ha,_,hY,_⟩:=hz;by_cases da:z<g.length
  . exact da
  exfalso
  have hr:Dfs.Reach R 0 z:=by
   have:=hY
   exact Classical.byContradiction fun dh=>by
    have dl:∃ k,AvN R 0 z k a:=zhd ha dh;obtain⟨k,hk⟩:=dl;exact hY k hk
  exact da (ht.lt z hr)
 refine hp.free i v hi db hv hn hk z hz ?_;rcases h with h | ⟨k,h1,h2⟩
 . omega
 rw[zbj dg]at h2
 grind
theorem zk7 (hd:DefOk f g) (hp:PlcF f g of1 ph R) (ht:TreeG g R order pl T) (hor:order.length<=g.length) (h0:0<g.length):RightF f g (zcG f g T of1 ph) (rdV f g):=by
 have hF:=zk6 hd hp ht hor h0;have hS:=(zlU hp ht hor h0).sol ht hF.nn;have db:∀ (i:Nat) (v:Int),i<g.length->0<=v->v<f.vars.length->inV f g (zcG f g T of1 ph) i v=ze3 f g T of1 ph i v:=fun i v hi hv hn=>(hS.is hF.nn hv hn hi).symm
 have hY:∀ (n:Nat) x,(zcG f g T of1 ph).nodes[n]?=some x->n<g.length/\x=zns f g T of1 ph n:=fun n x hx=>by
  have hn:n<g.length:=by
   have h1:((List.range g.length).map (zns f g T of1 ph))[n]?=some x:=hx;have:=(ztB.1 h1).1;simpa using this
  exact⟨hn,by rw[<- qV hn,yL hx]⟩
 refine⟨hF,fun n x hx u hu=>?_,fun n x hx p dc i y a hy ha=>?_⟩
 .
  obtain⟨hn,rfl⟩:=hY n x hx;obtain⟨v,hv,rfl⟩:=zvI.1 hu;obtain⟨h1,h2⟩:=hd.rd n v hv
  grind
 obtain⟨hn,rfl⟩:=hY n x hx;obtain⟨q,hq,rfl⟩:=zvI.1 dc;have hy:q.frm[i]?=some y:=hy;rw[hp.frm n q hq]at hy;unfold zi at hy;have ha:((zJ g n).map fun y=>zcq f g T of1 ph y q.var)[i]?=some a:=ha;rw[ztE]at hy ha;obtain⟨z,hz,rfl⟩:=zwI.1 hy;rw[hz]at ha;obtain rfl:=Option.some.inj ha;have da:=xN (zto hz);obtain⟨h1,h2⟩:=hp.ver n q hq;obtain⟨h3,x,h4,_⟩:=hp.new _ _ h2 tO;have h5:=(ztB.1 h4).1;show zaV f g (zcG f g T of1 ph) (z:Int).toNat q.var=_;rw[ztJ];unfold zaV xc zcq;rw[qV da,db z q.var da h3 tO];rfl
end
open Go.GL Go.GL.Dom
section
variable (f:Fl) (g:List Nd) (T:List Int) (of1:List Int) (ph:Nat->List Phn)
def inK (k i:Nat):Bool:=decide (i ∈ (qe g T).take k)
def ofK (k:Nat):List Int:=of1++(zcF f g T k).map (yy f g)
def dsK (k i:Nat):Int:=if inK g T k i=true then dfW f g T of1 i else -1
def usK (k i:Nat):List (Int × Int):=if inK g T k i=true then (rdV f g i).map fun v=>(v,ze3 f g T of1 ph i v) else []
def alK (k i:Nat) (v:Int):List Int:=(zJ g i).map fun y=>if inK g T k y=true then zcq f g T of1 ph y v else 0
end
section
variable {ph:Nat->List Phn}
theorem ze5 (i:Nat):inK g T 0 i=false:=by unfold inK;rw[zwf];simp
theorem zah (h:(qe g T)[k]?=some i) (j:Nat):inK g T (k+1) j=(inK g T k j || decide (j=i)):=by
 unfold inK;rw[zw9,h]
 grind
theorem znu (hn:(qe g T).Nodup) (h:(qe g T)[k]?=some i):inK g T k i=false:=by
 unfold inK;rw[decide_eq_false_iff_not];intro hm;obtain⟨j,hj⟩:=zvH.1 hm;rw[ztT]at hj;split at hj
 .
  rename_i hY;have:=(zvd (ztB.1 hj).1 hn).1 (hj.trans h.symm);omega
 cases hj
theorem idxW (hn:(qe g T).Nodup) (h:(qe g T)[k]?=some i):(qe g T).idxOf i=k:=by
 have hm:=zto h;have h1:(qe g T)[(qe g T).idxOf i]?=some i:=by rw[ztn (zvo hm),zvm]
 exact(zvd (zvo hm) hn).1 (h1.trans h.symm)
theorem zlV:ofK f g T of1 0=of1:=by unfold ofK zcF;rw[zwf];simp
theorem zlW (h:(qe g T)[k]?=some i):ofK f g T of1 (k+1)=if 0<=yy f g i then ofK f g T of1 k++[yy f g i] else ofK f g T of1 k:=by
 have e:zcF f g T (k+1)=zcF f g T k++if 0<=yy f g i then [i] else []:=by
  unfold zcF;rw[zw9,h,zuX];congr 1;by_cases hd:0<=yy f g i
  . rw[zty hd];show [i].filter (zhb f g)=[i];rw[zuZ (by unfold zhb;exact ztz hd)];rfl
  rw[ztx hd];show [i].filter (zhb f g)=[];rw[zuY (by unfold zhb;simpa using hd)];rfl
 unfold ofK;rw[e];split
 . rw[zvv,<- zuE];rfl
 rw[zuF]
theorem znv (hn:(qe g T).Nodup) (h:(qe g T)[k]?=some i) (hd:0<=yy f g i):dfW f g T of1 i=((ofK f g T of1 k).length:Int):=by
 unfold dfW ofK
 grind
theorem zoj (hd:¬ 0<=yy f g i):dfW f g T of1 i=-1:=by unfold dfW;rw[ztx hd]
theorem zlX (i:Nat):dsK f g T of1 0 i=-1:=by unfold dsK;rw[ze5];rfl
theorem zlY (h:(qe g T)[k]?=some i) (j:Nat):dsK f g T of1 (k+1) j=if j=i then dfW f g T of1 i else dsK f g T of1 k j:=by
 unfold dsK;rw[zah h];by_cases e:j=i
 . subst e;simp
 rw[ztx e];simp[e]
theorem zlZ (i:Nat):usK f g T of1 ph 0 i=[]:=by unfold usK;rw[ze5];rfl
theorem zm0 (h:(qe g T)[k]?=some i) (j:Nat):usK f g T of1 ph (k+1) j=if j=i then (rdV f g i).map (fun v=>(v,ze3 f g T of1 ph i v)) else usK f g T of1 ph k j:=by
 unfold usK;rw[zah h];by_cases e:j=i
 . subst e;simp
 rw[ztx e];simp[e]
theorem zm1 (i:Nat) (v:Int):alK f g T of1 ph 0 i v=List.replicate (zJ g i).length 0:=by
 unfold alK;rw[zvw (g:=fun _=>(0:Int)) fun y _=>by rw[ze5];rfl];exact List.map_const'
theorem zm2 (h:(qe g T)[k]?=some i) (hj:i ∉ zJ g j) (v:Int):alK f g T of1 ph (k+1) j v=alK f g T of1 ph k j v:=by
 unfold alK;refine zvw fun y hy=>?_;have hY:y ≠ i:=fun e=>hj tD;rw[zah h,ztA hY,zuh]
theorem zm3 (_:(qe g T).Nodup) (h:(qe g T)[k]?=some i) {p:Nat} (hp:(zJ g j)[p]?=some i) (v:Int):alK f g T of1 ph (k+1) j v=(alK f g T of1 ph k j v).set p (zcq f g T of1 ph i v):=by
 have da:(zJ g j).Nodup:=List.Pairwise.filter _ zvR;have hY:=(ztB.1 hp).1;unfold alK;apply zuW;intro q;rw[zvi,ztE];by_cases e:p=q
 .
  subst e;rw[zty rfl,ztH,zty hY,hp,zwJ,zah h];simp
 rw[ztx e,ztE];cases hq:(zJ g j)[q]? with
 | none=>rfl
 | some y =>
  have hy:y ≠ i:=fun hy=>e ((zvd hY da).1 (hp.trans (hy ▸ hq.symm)));simp only[zwJ];rw[zah h,ztA hy,zuh]
theorem zgg (ht:TreeG g R order pl T) (hor:order.length<=g.length) (h0:0<g.length) (hi:i<g.length):inK g T (qe g T).length i=true:=by
 unfold inK;rw[zts,decide_eq_true_iff];exact(jQ ht hor h0).mem_iff.2 (zvN.2 hi)
theorem znw (ht:TreeG g R order pl T) (hor:order.length<=g.length) (h0:0<g.length) :
  zcG f g T of1 ph=⟨ofK f g T of1 (qe g T).length,(List.range g.length).map fun i=>⟨(ph i).map (fun p=>⟨p.var,p.ver,p.frm,alK f g T of1 ph (qe g T).length i p.var⟩),usK f g T of1 ph (qe g T).length i,dsK f g T of1 (qe g T).length i⟩⟩:=by
 unfold zcG ofK zcF;rw[zts];congr 1;refine zvw fun i hi=>?_;have hi:=zvN.1 hi;unfold zns usK dsK;rw[zty (zgg ht hor h0 hi),zty (zgg ht hor h0 hi)];congr 1;refine zvw fun p _=>?_;unfold zov alK;congr 1;refine zvw fun y hy=>?_;rw[zty (zgg ht hor h0 (xN hy))]
end
end Go.Proofs.YtckdhgbepmpgiaaGreat
namespace Go.GL
structure RowsC (kk:Nat) (e:TypeId) (w:World) (rv:List Value) (cl:List (List Value)):Prop where
 len:rv.length=cl.length
 row:∀ (i:Nat) (v:Value) (c:List Value),rv[i]?=some v->cl[i]?=some c->∃ m,w.ownsRow 0 e kk v m c
 apart:∀ (i j:Nat) (vi vj:Value) (g:Nat),i ≠ j->rv[i]?=some vi->rv[j]?=some vj->vi.ownBlock=some g->vj.ownBlock ≠ some g
section
variable {w1:World}
theorem RowsC.blk (h:RowsC kk e w rv cl) {g:Nat} (hv:rv[i]?=some v) (hg:v.ownBlock=some g):g<w.heap.size:=by
 have hi:i<cl.length:=by rw[<- h.len];exact(ztB.1 hv).1
 obtain⟨m,hm⟩:=h.row i v _ hv (ztn hi);exact xp hm hg
theorem RowsC.keep {S:Nat->Prop} (h:RowsC kk e w rv cl) (hk:Keep S w w1) (hS:∀ (i:Nat) v g,rv[i]?=some v->v.ownBlock=some g->¬ S g):RowsC kk e w1 rv cl :=
 ⟨h.len,fun i v r hv hr=>by obtain⟨m,hm⟩:=h.row i v r hv hr;exact⟨m,zj hm hk (fun g hg=>hS i v g hv hg)⟩,h.apart⟩
theorem RowsC.put (h:RowsC kk e w rv cl) {v':Value} {c':List Value} (hv:rv[i]?=some v) (da:w1.ownsRow 0 e kk v' m c') (dt:v'.ownBlock=v.ownBlock\/∃ g,v'.ownBlock=some g/\w.heap.size<=g) (hk:Keep (fun q=>v.ownBlock=some q) w w1):RowsC kk e w1 (rv.set i v') (cl.set i c'):=by
 have db:=(ztB.1 hv).1
 have dh:∀ (j:Nat) u g,i ≠ j->rv[j]?=some u->v'.ownBlock=some g->u.ownBlock ≠ some g:=by
  intro j u g hY hu hg dl;rcases dt with hf | ⟨g',hf,dm⟩
  . exact h.apart i j v u g hY hv hu (hf ▸ hg) dl
  rw[hf]at hg;cases hg;have:=h.blk hu dl;omega
 refine⟨by simp[h.len],fun j u r hu hr=>?_,fun a b va vb g dc ha hb hg=>?_⟩
 .
  by_cases hY:i=j
  .
   subst hY;rw[zvk db]at hu;rw[zvk tD]at hr;cases hu;cases hr;exact⟨m,da⟩
  rw[zvj hY]at hu hr;obtain⟨m',du⟩:=h.row j u r hu hr;exact⟨m',zj du hk fun g hg hq=>h.apart i j v u g hY hv hu hq hg⟩
 by_cases dg:i=a
 .
  subst dg;rw[zvk db]at ha;rw[zvj dc]at hb;cases ha;exact dh b vb g dc hb hg
 rw[zvj dg]at ha;by_cases dr:i=b
 .
  subst dr;rw[zvk db]at hb;cases hb;exact fun dm=>dh a va g dg ha dm hg
 rw[zvj dr]at hb;exact h.apart a b va vb g dc ha hb hg
end
abbrev RowsCP (kk:Nat) (e:TypeId) (rv:List Value) (cl:List (List Value)):HE:=.res (fun q=>∃ (i:Nat) (v:Value),rv[i]?=some v/\v.ownBlock=some q) (fun w=>RowsC kk e w rv cl)
theorem RowsCP.loc:(RowsCP kk e rv cl).loc:=fun _ _ _ h hk hT=>h.keep hk fun i v g hv hg=>hT g (h.blk hv hg) ⟨i,v,hv,hg⟩
section
variable {n:Fm}
variable {ty:TypeId} {ps:String} {g:Option (Nat × Bool)}
theorem ztd (ia k kb j i:Nat) {x:Operand} {tb:TypeId}
  (hu:P.underlying t=some (.slice e)) (he:(P.info? e).map (fun i=>(i.zero,i.size,i.bytes))=some (some z,kk,by')) (dl:z.cells.size=kk) (dm:0<kk)
  (hi:ops[ia]?=some ⟨some d,.call ⟨.builtin .append,#[x,y],#[t,t]⟩,ty,ps,aft,g⟩) (hr:Region.ready .any ops listed=[ia]) (hB:Bs.drop j=B0)
  (hn:(Nat.blt d n,gd ops env g,hget H k,qA H k,hget H kb,ev env x,ev env y,qd (Hs.map (·.1)),qr k (Hs.map (·.1)))=(true,some true,some (RowsCP kk e rv cl),none,some (.own b xs tb),some v,some (.slice (some ⟨b,0,none⟩) 1 c),true,true))
  (hl:xs.length=kk) (dr:∀ u ∈ xs,u.oneCell'=true) (hv:rv[i]?=some v) (hY:cl[i]?=some cs) (hb:∀ m,cs.length=m*kk->m+1<=9223372036854775807/\(m+1)*by'<=140737488355328)
  (h:∀ u,Go.GL.one u=true->VD P n Q ks ops Hs B0 L fuel (listed.setIfInBounds ia true) ((d,u)::env) ((d,none)::A) (hset H k (RowsCP kk e (rv.set i u) (cl.set i (cs++xs)))) Bs):VD P n Q ks ops Hs B0 L (fuel+1) listed env A H Bs:=by
 simp only[Prod.mk.injEq]at hn;subst hB;obtain⟨h1,h2,h3,h4,h5,h6,h7,h9,dt⟩:=hn;intro hH hA w hI;have hM:RowsC kk e w rv cl:=hI.at k h3;have du:=(ztB.1 hv).1;obtain⟨m,hm⟩:=hM.row i v cs hv hY;obtain⟨dw,dx⟩:=hb m hm.1;refine zrA ia hi hr h1 h2 (.inl (M.append (j:=1) (news:=xs) hu he dl dm h6 h7 hm tO (Cells.add (Blk.cells (hI.at kb h5))) dr dw dx)) ?_;rintro u w1 ⟨ho,hf,da,_⟩;have db:=hM.put hv ho hf da
 have dc:VI Bs (hset H k (RowsCP kk e (rv.set i u) (cl.set i (cs++xs)))) w1:=hI.set h3 (da.mono fun q _ hq=>⟨i,v,hv,hq⟩) db RowsCP.loc (fun _ h=>h) fun q hq=>by
  refine⟨?_,?_⟩
  .
   obtain⟨j,vj,hj,hq⟩:=hq;by_cases dg:i=j
   .
    subst dg;rw[zvk du]at hj;cases hj;rcases hf with hf | ⟨g',hf,dy⟩
    . exact .inl ⟨i,v,hv,hf ▸ hq⟩
    grind
   rw[zvj dg]at hj;exact .inl ⟨j,vj,hj,hq⟩
  obtain⟨j,vj,hj,hq⟩:=hq;exact db.blk hj hq
 have dh:Has Hs (hset H k (RowsCP kk e (rv.set i u) (cl.set i (cs++xs)))):=hH.set h3 dt;obtain⟨au,cu,rfl,_,_⟩:=xv ho;exact UO
end
end Go.GL
namespace Go.Proofs.YtckdhgbepmpgiaaGreat
open Go.GL Go.GL.Dom
def RPw (hasf:Nat->Option Addr × Nat × Nat):Rel (Phn × Nat):=fun D w x cs=>∃ fh,cs=[.int .i64 x.1.var,.int .i64 x.1.ver,fh,.slice (hasf x.2).1 (hasf x.2).2.1 (hasf x.2).2.2]/\SlR 1 zv D w fh x.1.frm
theorem zk8 (hY:Nat->Option Addr × Nat × Nat):ye (RPw hY):=fun _ _ _ _ hD hk _ _ ⟨u,h0,h1⟩=>⟨u,h0,h1.stable zc hD hk⟩
abbrev Clo:=Nat × Nat × Nat
def zok (c:Clo):Deferred:=⟨.fn (.func 149) #[.pointer (some ⟨c.1,0,none⟩),.pointer (some ⟨c.2.1,0,none⟩)],#[]⟩
def CloOk (b:Nat) (w:World) (cl:List Clo):Prop:=∀ c ∈ cl,Blk w c.1 [.pointer (some ⟨b,0,none⟩)] 121/\Blk w c.2.1 [.int .i64 c.2.2] 3
abbrev CloP (b:Nat) (cl:List Clo):HE:=.res (fun q=>∃ c ∈ cl,q=c.1\/q=c.2.1) (fun w=>CloOk b w cl)
theorem CloP.loc {cl:List Clo}:(CloP b cl).loc:=fun _ _ _ h hk hT c hc=>⟨hk.blk (h c hc).1 (fun hY=>hT _ (h c hc).1.lt ⟨c,hc,.inl rfl⟩ hY),hk.blk (h c hc).2 (fun hY=>hT _ (h c hc).2.lt ⟨c,hc,.inr rfl⟩ hY)⟩
abbrev CloQ (b:Nat) (cl:List Clo) (bx:Nat):HE:=.res (fun q=>(∃ c ∈ cl,q=c.1\/q=c.2.1)\/q=bx) (fun w=>CloOk b w cl/\Blk w bx [.pointer (some ⟨b,0,none⟩)] 121)
theorem CloQ.loc {bx:Nat} {cl:List Clo}:(CloQ b cl bx).loc:=fun w w' T h hk hT=>⟨CloP.loc w w' T h.1 hk (fun q hq hs=>hT q hq (.inl hs)),hk.blk h.2 (fun h'=>hT _ h.2.lt (.inr rfl) h')⟩
theorem CloOk.cons {cl:List Clo} {c:Clo} (h:CloOk b w cl) (h1:Blk w c.1 [.pointer (some ⟨b,0,none⟩)] 121) (h2:Blk w c.2.1 [.int .i64 c.2.2] 3):CloOk b w (c::cl):=fun d hd=>by
 rcases ztD.1 hd with rfl | hd
 . grind
 exact h d hd
def jA (rows:List (List Int)) (v:Nat) (k:Int):List (List Int):=rows.set v ((rows[v]?.getD [])++[k])
def xa (rows:List (List Int)) (l:List (Nat × Int)):List (List Int):=l.foldl (fun r p=>jA r p.1 p.2) rows
theorem zcr (rows:List (List Int)) (v:Nat) (k:Int):(jA rows v k).length=rows.length:=by unfold jA;rw[zvu]
theorem kf (rows:List (List Int)) (l:List (Nat × Int)) (p:Nat × Int):xa rows (l++[p])=jA (xa rows l) p.1 p.2:=by unfold xa;rw[zv8];rfl
theorem qW (l:List (Nat × Int)):∀ rows,(xa rows l).length=rows.length:=by
 induction l with
 | nil=>exact fun _=>rfl
 | cons p l ih=>intro rows;show (xa (jA rows p.1 p.2) l).length=_;rw[ih,zcr]
theorem popR {v:Nat} {k:Int} (hv:v<rows.length):(jA rows v k)[v]?=some ((rows[v]?.getD [])++[k])/\(jA rows v k).set v (rows[v]?.getD [])=rows:=by
 unfold jA;refine⟨by rw[zvk hv],?_⟩;rw[zw5];have e:=ztn hv;rw[e];exact set_same e
def zai (l:List (Phn × Nat)) (t:Nat):List (Nat × Int):=(l.take t).map fun p=>(p.1.var.toNat,p.1.ver)
theorem zft {t:Nat} (h:l[t]?=some p):zai l (t+1)=zai l t++[(p.1.var.toNat,p.1.ver)]:=by unfold zai;rw[ze h,zvv];rfl
theorem ze6 {t:Nat} (h:t<=l.length):(zai l t).length=t:=by unfold zai;rw[ztH,ztR];omega
theorem zm4 {fn:Func} (dt:fn.results=#[]) {tmps:Array Value} {R:Ending->World->Prop} (b gb:Nat) (ofv ndv chv cuv:Value) (rows:List (List Int)) (l:List (Nat × Int)) (hl:∀ p ∈ l,p.1<rows.length) (du:∀ q,∀ r ∈ xa rows (l.take q),r.length<=1000000000) (w0:World) (S0:Nat->Prop) (dw:∀ q,w0.heap.size<=q->S0 q)
  (hR:∀ rv w,rv.length=rows.length->Held (zi8 b gb ofv ndv chv cuv rv rows) w->Keep S0 w0 w->(∀ q,HS (zi8 b gb ofv ndv chv cuv rv rows) q->S0 q)->R (.returned (.tuple #[])) w) :
  ∀ (q:Nat) (cls:List Clo) (rv:List Value) (w:World),q<=l.length->cls.map (·.2.2)=((l.take q).map (·.1)).reverse->rv.length=rows.length->Held (zi8 b gb ofv ndv chv cuv rv (xa rows (l.take q))) w->CloOk b w cls->(∀ c ∈ cls,¬ S0 c.1/\¬ S0 c.2.1)->Keep S0 w0 w->(∀ x,HS (zi8 b gb ofv ndv chv cuv rv (xa rows (l.take q))) x->S0 x)->Leaves prog fn tmps R (cls.map zok) .returning w:=by
 intro q;induction q with
 | zero =>
  intro cls rv w _ hc dc hE _ _ hk hS;rw[zwf]at hc hE hS
  have:cls=[]:=by
   cases cls with
   | nil=>rfl
   | cons c cls=>simp at hc
  subst this;exact⟨.tuple #[],results_none dt _ _ _,hR rv w dc hE hk hS⟩
 | succ q ih =>
  intro cls rv w hq hc dc hE dh dg hk hS;obtain⟨p,hp⟩:∃ p,l[q]?=some p:=iA;have dl:l.take (q+1)=l.take q++[p]:=ze hp;rw[dl,zvv,zw2]at hc;cases cls with
  | nil=>simp at hc
  | cons c cls =>
   obtain⟨dx,dy⟩:c.2.2=p.1/\cls.map (·.2.2)=((l.take q).map (·.1)).reverse:=tD;have dm:p.1<(xa rows (l.take q)).length:=by rw[qW];exact hl p (zto hp)
   have da:xa rows (l.take (q+1))=jA (xa rows (l.take q)) p.1 p.2:=by rw[dl,kf]
   obtain⟨dz,dA⟩:=popR (k:=p.2) dm;rw[da]at hE hS
   have db:((xa rows (l.take q))[p.1]?.getD []).length<=1000000000:=by
    have e:=ztn dm;rw[e];exact du q _ (zto e)
   have hb:=dh c (ztr ..);have dr:=dg c (ztr ..);refine leaves_cons (f:=149) (args:=#[.pointer (some ⟨c.1,0,none⟩),.pointer (some ⟨c.2.1,0,none⟩)]) (fun h=>tD) (by simp[invoke,call149]) ?_;refine(zjT p.1 p.2 _ rv _ dz db (by rw[zcr,qW];exact dc) b gb ofv ndv chv cuv w hE c.1 c.2.1 (Blk.cells hb.1) (dx ▸ Blk.cells hb.2) (fun x hx=>⟨fun e=>dr.1 (e ▸ hS x hx),fun e=>dr.2 (e ▸ hS x hx)⟩)).mono ?_;rintro e u w' ⟨rfl,v,rfl,y,rfl,hY⟩;rw[dA]at hY;have dB:Keep S0 w0 w':=hk.trans hY.keep fun x _ hx=>hS x hx;refine ih cls (rv.set p.1 y) w' tO dy tD hY.held (fun d hd=>?_) (fun d hd=>dg d (ztq _ hd)) dB (fun x hx=>?_)
   .
    obtain⟨h1,h2⟩:=dh d (ztq _ hd);obtain⟨h3,h4⟩:=dg d (ztq _ hd);exact⟨hY.keep.blk h1 (fun hx=>h3 (hS _ hx)),hY.keep.blk h2 (fun hx=>h4 (hS _ hx))⟩
   obtain⟨z,hz,dC⟩:=hx;rcases hY.new z hz x dC with h1 | h1
   . grind
   exact dw x (by have:=hk.size;omega)
end Go.Proofs.YtckdhgbepmpgiaaGreat
namespace Go.GL
abbrev NodP (g:Nat) (cs:List Value) (e:TypeId):HE:=.res (fun q=>q=g) (fun w=>Blk w g cs e)
theorem NodP.loc {g:Nat}:(NodP g cs e).loc:=fun _ _ _ h hk hT=>hk.blk h (hT g (show Blk _ g cs e from h).lt rfl)
end Go.GL
namespace Go.Proofs.YtckdhgbepmpgiaaGreat
open Go.GL Go.GL.Dom
def zm5 (u:Int × Int):List Value:=[.int .i64 u.1,.int .i64 u.2]
def phW (pw:Nat->List (Phn × Nat)) (j:Nat):List Phn:=(pw j).map (·.1)
structure StW (f:Fl) (g:List Nd) (T of1:List Int) (pw:Nat->List (Phn × Nat)) (hpf:Nat->Value) (k:Nat) (ofl:List Int) (ndc hus:List Value) (ucs:List (List Value)) (als:List (List Int)):Prop where
 of:ofl=ofK f g T of1 k
 hl:hus.length=g.length
 ul:ucs.length=g.length
 nl:g.length*3<=ndc.length
 n0:∀ j,j<g.length->ndc[j*3]?=some (hpf j)
 n1:∀ j,j<g.length->ndc[j*3+1]?=hus[j]?
 n2:∀ j,j<g.length->ndc[j*3+2]?=some (.int .i64 (dsK f g T of1 k j))
 us:∀ j,j<g.length->ucs[j]?=some ((usK f g T of1 (phW pw) k j).flatMap zm5)
 al:∀ j,j<g.length->∀ (q:Nat) p,(pw j)[q]?=some p->als[p.2]?=some (alK f g T of1 (phW pw) k j p.1.var)
def zoN (g:List Nd) (pw:Nat->List (Phn × Nat)):Prop:=∀ j j',j<g.length->j'<g.length->∀ (q q':Nat) p p',(pw j)[q]?=some p->(pw j')[q']?=some p'->p.2=p'.2->j=j'/\q=q'
abbrev zk9 (b gb bn cn nl:Nat) (ofv chv cuv:Value) (ofl:List Int) (rv:List Value) (rows:List (List Int)) (ndc hus:List Value) (ucs:List (List Value)) (has:List Value) (als:List (List Int)):Hp :=
 [(900,.own b (rnm gb ofv (.slice (some ⟨bn,0,none⟩) nl cn) chv cuv) 123),(901,.row 3 1 ofv ofl.length (ofl.map zb)),(902,.row 27 1 cuv rv.length rv),(903,RowsP zb 3 rv rows),(904,NodP bn ndc 59),(907,RowsCP 2 85 hus ucs),(909,RowsP zb 3 has als)]
def TopW (f:Fl) (g:List Nd) (T of1:List Int) (pw:Nat->List (Phn × Nat)) (i:Nat) (rows:List (List Int)):Prop:=∀ (v:Nat) r,rows[v]?=some r->r ≠ []/\r[r.length - 1]?=some (if i=0 then (v:Int) else zcq f g T of1 (phW pw) (lk T i).toNat v)
theorem StW.next_of {hY:Nat->Value} (h:StW f g T of1 pw hY k ofl ndc da ucs als) (_:(qe g T).Nodup) (hk:(qe g T)[k]?=some i) (hi:i<g.length) {als':List (List Int)} (db:∀ j,j<g.length->∀ (q:Nat) p,(pw j)[q]?=some p->als'[p.2]?=some (alK f g T of1 (phW pw) (k+1) j p.1.var)) :
  StW f g T of1 pw hY (k+1) (if 0<=yy f g i then ofl++[yy f g i] else ofl) ((ndc.set (i*3+1) u).set (i*3+2) (.int .i64 (dfW f g T of1 i))) (da.set i u) (ucs.set i (((rdV f g i).map fun v=>(v,ze3 f g T of1 (phW pw) i v)).flatMap zm5)) als':=by
 have h3:=h.nl;refine⟨?_,by rw[zvu];exact h.hl,by rw[zvu];exact h.ul,tD,fun j hj=>?_,fun j hj=>?_,fun j hj=>?_,fun j hj=>?_,db⟩
 . rw[zlW hk,h.of]
 . rw[zvj tO,zvj tO];exact h.n0 j hj
 .
  rw[zvj tO];by_cases e:j=i
  .
   subst e;rw[zvk tO,zvk (by rw[h.hl];exact hj)]
  rw[zvj tO,zvj (fun e'=>e e'.symm)];exact h.n1 j hj
 .
  rw[zlY hk];by_cases e:j=i
  .
   subst e;rw[zty rfl,zvk tD]
  rw[ztx e,zvj tO,zvj tO];exact h.n2 j hj
 rw[zm0 hk];by_cases e:j=i
 .
  subst e;rw[zty rfl,zvk (by rw[h.ul];exact hj)]
 rw[ztx e,zvj (fun e'=>e e'.symm)];exact h.us j hj
section
variable (f:Fl) (g:List Nd) (T of1:List Int) (pw:Nat->List (Phn × Nat)) (k:Nat)
def AlP (Dn:Nat->Nat->Prop) (als:List (List Int)):Prop:=∀ j,j<g.length->∀ (q:Nat) p,(pw j)[q]?=some p->(Dn j q->als[p.2]?=some (alK f g T of1 (phW pw) (k+1) j p.1.var))/\(¬ Dn j q->als[p.2]?=some (alK f g T of1 (phW pw) k j p.1.var))
end
section
theorem AlP.start {hY:Nat->Value} (h:StW f g T of1 pw hY k ofl ndc da ucs als):AlP f g T of1 pw k (fun _ _=>False) als:=fun j hj q p hp=>⟨fun h=>h.elim,fun _=>h.al j hj q p hp⟩
theorem AlP.imp {Dn:Nat->Nat->Prop} (h:AlP f g T of1 pw k Dn als) (hi:∀ j q,Dn j q ↔ Dn' j q):AlP f g T of1 pw k Dn' als:=fun j hj q p hp=>⟨fun hd=>(h j hj q p hp).1 ((hi j q).2 hd),fun hd=>(h j hj q p hp).2 fun h'=>hd ((hi j q).1 h')⟩
theorem zka (k j:Nat) (v:Int):(alK f g T of1 (phW pw) k j v).length=(zJ g j).length:=by unfold alK;rw[ztH]
theorem AlP.step {Dn:Nat->Nat->Prop} (h:AlP f g T of1 pw k Dn als) (hd:zoN g pw) (hn:(qe g T).Nodup) (hk:(qe g T)[k]?=some i) {to t:Nat} (ht:to<g.length) (hi:i ∈ zJ g to) (hp:(pw to)[t]?=some p) :
  ∃ row,als[p.2]?=some row/\row.length=(zJ g to).length/\(zJ g to).idxOf i<row.length/\AlP f g T of1 pw k (fun j q=>Dn j q\/(j=to/\q=t)) (als.set p.2 (row.set ((zJ g to).idxOf i) (zcq f g T of1 (phW pw) i p.1.var))):=by
 have dg:(zJ g to)[(zJ g to).idxOf i]?=some i:=by rw[ztn (zvo hi),zvm]
 have dr:=zvo hi;have dc:=zm3 (f:=f) (of1:=of1) (ph:=phW pw) hn hk dg p.1.var
 obtain⟨row,hY,hset⟩:∃ row,als[p.2]?=some row/\(row.length=(zJ g to).length/\row.set ((zJ g to).idxOf i) (zcq f g T of1 (phW pw) i p.1.var)=alK f g T of1 (phW pw) (k+1) to p.1.var):=by
  by_cases hD:Dn to t
  .
   refine⟨_,(h to ht t p hp).1 hD,zka _ _ _,?_⟩;rw[dc,zw5]
  exact⟨_,(h to ht t p hp).2 hD,zka _ _ _,dc.symm⟩
 have dh:=(ztB.1 hY).1;refine⟨row,hY,hset.1,tO,fun j hj q p' da=>?_⟩;rw[hset.2];by_cases e:p'.2=p.2
 .
  obtain⟨rfl,rfl⟩:=hd j to hj ht q t p' p da hp e;obtain rfl:p'=p:=Option.some.inj (da.symm.trans hp);rw[zvk dh];exact⟨fun _=>rfl,fun dl=>absurd (.inr JL) dl⟩
 rw[zvj (fun e'=>e e'.symm)]
 have dm:¬ (j=to/\q=t):=fun⟨e1,e2⟩=>by
  grind
 exact⟨fun db=>(h j hj q p' da).1 (db.resolve_right dm),fun db=>(h j hj q p' da).2 fun h'=>db (.inl h')⟩
theorem AlP.done {Dn:Nat->Nat->Prop} (h:AlP f g T of1 pw k Dn als) (hk:(qe g T)[k]?=some i) (hY:∀ j q,j<g.length->i ∈ zJ g j->q<(pw j).length->Dn j q):∀ j,j<g.length->∀ (q:Nat) p,(pw j)[q]?=some p->als[p.2]?=some (alK f g T of1 (phW pw) (k+1) j p.1.var):=fun j hj q p hp=>by
 by_cases hD:Dn j q
 . exact(h j hj q p hp).1 hD
 rw[(h j hj q p hp).2 hD,zm2 hk (fun hm=>hD (hY j q hj hm (ztB.1 hp).1))]
end
open Go.GL Go.GL.Dom
def zaF (r:List Int):Option Int:=r[r.length - 1]?
theorem zde (r:List Int) (k:Int):zaF (r++[k])=some k:=by
 unfold zaF;rw[ztv,ztI,zwj,ztO (ztM _),zwA];rfl
theorem zfu {v:Nat} {k:Int} (hv:v<rows.length) (u:Nat):(jA rows v k)[u]?=if u=v then some ((rows[v]?.getD [])++[k]) else rows[u]?:=by
 unfold jA;by_cases e:u=v
 . subst e;rw[zty rfl,zvk hv]
 rw[ztx e,zvj (fun e'=>e e'.symm)]
theorem zkb:∀ (l:List (Nat × Int)) (rows:List (List Int)),(∀ p ∈ l,p.1<rows.length)->(l.map (·.1)).Nodup->∀ (u:Nat) r,(xa rows l)[u]?=some r->∃ r0,rows[u]?=some r0/\(r0 ≠ []->r ≠ [])/\zaF r=match l.find? (fun p=>decide (p.1=u)) with
  | some p=>some p.2
  | none=>zaF r0:=by
 intro l;induction l with
 | nil=>exact fun rows _ _ u r hr=>⟨r,hr,fun h=>h,rfl⟩
 | cons p l ih =>
  intro rows hl hn u r hr;have hY:=hl p (ztr ..);rw[zvx,zvQ]at hn;obtain⟨r1,h1,h2,h3⟩:=ih (jA rows p.1 p.2) (fun q hq=>by rw[zcr];exact hl q (ztq _ hq)) hn.2 u r hr;rw[zfu hY]at h1;by_cases e:u=p.1
  .
   rw[zty e]at h1;obtain rfl:=Option.some.inj h1
   have da:l.find? (fun q=>decide (q.1=u))=none:=by
    rw[zv2];intro q hq;have:q.1 ≠ u:=fun e'=>hn.1 (zvI.2 ⟨q,hq,tO⟩);simpa using this
   rw[da]at h3;rw[zv1 tD];have e0:=ztn hY;exact⟨_,by rw[e];exact e0,fun _=>h2 tR,by rw[h3];exact zde _ _⟩
  rw[ztx e]at h1;rw[zv0 tD];exact⟨r1,h1,h2,h3⟩
section
theorem zm6 (h0:∀ p ∈ l,0<=p.1.var) (u:Nat):((zai l l.length).find? (fun p=>decide (p.1=u))).map (·.2)=zbe (l.map (·.1)) (u:Int):=by
 unfold zai zbe;rw[zts];induction l with
 | nil=>rfl
 | cons p l ih =>
  have hp:=h0 p (ztr ..);rw[zvx,zvx];by_cases e:p.1.var=(u:Int)
  . rw[zv1 tD,zv1 tD];rfl
  rw[zv0 tD,zv0 tD];exact ih fun q hq=>h0 q (ztq _ hq)
theorem zkc (h0:∀ p ∈ l,0<=p.1.var) (ha:(l.map (·.1)).Pairwise fun p q=>p.var<q.var):((zai l l.length).map (·.1)).Nodup:=by
 unfold zai;rw[zts,zvy];rw[zvW]at ha;refine zvW.2 (ha.imp_of_mem ?_);intro a b hY da h e;have h1:=h0 a hY;have h2:=h0 b da;have e:a.1.var.toNat=b.1.var.toNat:=e;omega
theorem TopW.phis (ht:TreeG g R order pl T) (hor:order.length<=g.length) (hi:i<g.length) (h:TopW f g T of1 pw i rows) (h0:∀ p ∈ pw i,0<=p.1.var/\p.1.var<rows.length) (ha:(phW pw i).Pairwise fun p q=>p.var<q.var) (u:Nat) (r:List Int) (hr:(xa rows (zai (pw i) (pw i).length))[u]?=some r):r ≠ []/\zaF r=some (ze3 f g T of1 (phW pw) i u):=by
 obtain⟨r0,h1,h2,h3⟩:=zkb _ rows (fun p hp=>by
  unfold zai at hp
  grind) (zkc (fun p hp=>(h0 p hp).1) ha) u r hr
 obtain⟨h4,h5⟩:=h u r0 h1;refine⟨h2 h4,?_⟩;rw[h3,ze4 ht hor hi];have hf:=zm6 (l:=pw i) (fun p hp=>(h0 p hp).1) u
 show _=some (match zbe ((pw i).map (·.1)) (u:Int) with
  | some k=>k
  | none=>_)
 rw[<- hf];cases hfd:(zai (pw i) (pw i).length).find? (fun p=>decide (p.1=u)) with
 | some p=>rfl
 | none =>
  show zaF r0=some (if 0<=lk T i then zcq f g T of1 (phW pw) (lk T i).toNat u else (u:Int));unfold zaF;rw[h5];by_cases e:i=0
  .
   subst e;rw[zty rfl,xS (ht.sol.out 0 hi (.inr rfl)),ztx tS]
  obtain⟨q,hq,_⟩:=ht.up hi e
  grind
theorem TopW.out (h:∀ (u:Nat) r,rows1[u]?=some r->r ≠ []/\zaF r=some (ze3 f g T of1 (phW pw) i u)) {v:Nat} (hd:yy f g i=v) (hv:v<rows1.length) (u:Nat) (r:List Int) (hr:(jA rows1 v (dfW f g T of1 i))[u]?=some r):r ≠ []/\zaF r=some (zcq f g T of1 (phW pw) i u):=by
 rw[zfu hv]at hr;unfold zcq;by_cases e:u=v
 .
  rw[zty e]at hr;obtain rfl:=Option.some.inj hr;rw[zty tO];exact⟨tR,zde _ _⟩
 grind
end
open Go.GL Go.GL.Dom
section
def PreW (g:List Nd) (T:List Int) (k m i:Nat):Prop:=∃ rest,(qe g T).drop k=zfG T m i++rest
def Deep (T:List Int) (pl:List Int) (n m i:Nat):Prop:=∀ j,j<n->AncT T i j->lk pl j - lk pl i<m
theorem PreW.at (h:PreW g T k (m+1) i):(qe g T)[k]?=some i:=by
 obtain⟨rest,h⟩:=h;have:((qe g T).drop k)[0]?=some i:=by rw[h];rfl
 grind
theorem PreW.child (h:PreW g T k (m+1) i) {s:Nat} (hs:(chT T i)[s]?=some c):PreW g T (k+1+(((chT T i).take s).flatMap (zfG T m)).length) m c:=by
 obtain⟨rest,h⟩:=h
 have h1:chT T i=(chT T i).take s++c::(chT T i).drop (s+1):=by
  obtain⟨hk,hx⟩:=ztB.1 hs;have e:=zuO hk;rw[hx]at e;rw[<- e,zwa]
 refine⟨((chT T i).drop (s+1)).flatMap (zfG T m)++rest,?_⟩;rw[zwg,<- zuN,h];show ((i::(chT T i).flatMap (zfG T m))++rest).drop (1+_)=_;rw[zwh 1,zuH,zuR]
 conv=>lhs;rhs;rw[h1]
 rw[zv3,zv4,zuE,zuE,List.drop_left]
theorem Deep.child (ht:TreeG g R order pl T) (h:Deep T pl g.length (m+1) i) (hc:c ∈ chT T i):Deep T pl g.length m c:=fun j hj ha=>by
 obtain⟨h1,h2⟩:=chT_mem.1 hc;rw[ht.sol.len]at h1;have h3:=(ht.trt.up c i h1 h2).2;have h4:=h j hj (AncT.trans (.step h2 .refl) ha);omega
theorem Deep.pos (h:Deep T pl g.length m i) (hi:i<g.length):0<m:=by
 have:=h i hi .refl;omega
theorem PreW.start (T:List Int):PreW g T 0 (g.length+1) 0:=⟨[],by rw[zuF];rfl⟩
theorem TreeG.deep (ht:TreeG g R order pl T) (hor:order.length<=g.length) (h0:0<g.length):Deep T pl g.length (g.length+1) 0:=fun j hj _=>by
 have:=ht.rk1 hor hj;have:=ht.rk0 h0;omega
theorem TopW.child (ht:TreeG g R order pl T) (hc:c ∈ chT T i) (h:∀ (u:Nat) r,rows[u]?=some r->r ≠ []/\zaF r=some (zcq f g T of1 (phW pw) i u)):TopW f g T of1 pw c rows:=fun v r hr=>by
 obtain⟨h1,h2⟩:=chT_mem.1 hc;rw[ht.sol.len]at h1
 have hY:c ≠ 0:=fun e=>by
  subst e;have:=xS (ht.sol.out 0 h1 (.inr rfl));omega
 rw[ztx hY,h2,ztJ];exact h v r hr
theorem TopW.same (h:∀ (u:Nat) r,rows1[u]?=some r->r ≠ []/\zaF r=some (ze3 f g T of1 (phW pw) i u)) (hd:yy f g i<0) (u:Nat) (r:List Int) (hr:rows1[u]?=some r):r ≠ []/\zaF r=some (zcq f g T of1 (phW pw) i u):=by
 unfold zcq
 grind
end
end Go.Proofs.YtckdhgbepmpgiaaGreat
namespace Go.GL
theorem zte (h:Blk w b cs e) (hv:cs[j]?=some v) (ho:o=j):w.cell? ⟨b,o,none⟩=some v:=by
 subst ho;have:=Blk.cells h o v hv
 grind
section
variable {dst:Option Tmp} {ty:TypeId} {pos:String} {g:Option (Nat × Bool)}
theorem ztf {x:Operand} (hs:∀ w,(sizeOf t).run P w=.ok 1 w) (hb:Blk w b cs e) (hx:ev env x=some (.pointer (some ⟨b,o,none⟩))) (hy:ev env y=some v) (h1:Go.GL.one v=true) (ho:o=j) (hl:j<cs.length) :
  xY P ⟨dst,.store t x y,ty,pos,aft,g⟩ env w (fun w'=>(NodP b (cs.set j v) e).holds w'/\Keep (NodP b cs e).S w w'/\∀ q,(NodP b (cs.set j v) e).S q->((NodP b cs e).S q\/w.heap.size<=q)/\q<w'.heap.size):=by
 subst ho;obtain⟨c1,c2⟩:=xU h1;obtain⟨w',hr,h2,h3,h4⟩:=M.store (dst:=dst) (ty:=ty) (pos:=pos) (aft:=aft) (g:=g) hs hx hy c1 c2 hb hl;exact⟨w',hr,h3,h4,fun q hq=>⟨.inl hq,by have hq:q=b:=hq;subst hq;exact h3.lt⟩⟩
end
section
variable {n:Fm}
variable {ty:TypeId} {ps:String} {g:Option (Nat × Bool)} {op:Op}
theorem ztg (is k:Nat) {e e':HE} (hi:ops[is]?=some ⟨none,op,ty,ps,aft,g⟩) (hr:Region.ready .any ops listed=[is]) (hn:(gd ops env g,hget H k,qA H k,L.contains is)=(some true,some e,none,true)) (hl:e'.loc) (hz:∀ b,¬ e'.fz b)
  (hm:∀ w,VI Bs H w->xY P ⟨none,op,ty,ps,aft,g⟩ env w (fun w'=>e'.holds w'/\Keep e.S w w'/\∀ q,e'.S q->(e.S q\/w.heap.size<=q)/\q<w'.heap.size))
  (h:VDx P n Q ks ops (VI B0 Hs) L fuel (listed.setIfInBounds is true) env A (hset H k e') Bs):VD P n Q ks ops Hs B0 L (fuel+1) listed env A H Bs:=by
 simp only[Prod.mk.injEq]at hn;obtain⟨h2,h3,h4,h6⟩:=hn;intro hH hA w hI;refine zs6 is hi hr h2 h6 (hm w hI) ?_;rintro w2 ⟨hh,hk,hS⟩;exact h (hA.res h3 h4) w2 (hI.set h3 hk hh hl hz hS)
end
theorem Held.perm {E:Hp} (h:Held E w) (hp:E.Perm E'):Held E' w :=
 ⟨fun x hx=>h.1 x (hp.mem_iff.2 hx),(hp.pairwise_iff fun hY q hq h'=>hY q h' hq).1 h.2⟩
theorem GBack.perm {E:Hp} (h:GBack E0 E w w') (hp:E.Perm E'):GBack E0 E' w w':=⟨h.keep,h.held.perm hp,fun x hx q hq=>h.new x (hp.mem_iff.2 hx) q hq⟩
theorem GBack.join {A A' B:Hp} {w0:World} (h:GBack E0 (A++B) w w0) (h':GBack A A' w0 w'):GBack E0 (A'++B) w w':=by
 have hA:∀ q,HS A q->HS E0 q\/w.heap.size<=q:=fun q ⟨x,hx,hq⟩=>h.new x (zvC _ hx) q hq
 have hB:∀ y ∈ B,∀ q,y.2.S q->q<w0.heap.size/\¬ HS A q:=fun y hy q hq=>by
  refine⟨(h.held.1 y (zvD _ hy)).2.2.2 q hq,?_⟩;rintro⟨x,hx,hY⟩;exact(zvT.1 h.held.2).2.2 x hx y hy q hY hq
 refine⟨h.keep.trans h'.keep fun q da hq=>(hA q hq).resolve_right tO,⟨fun x hx=>?_,zvT.2 ⟨h'.held.2,(zvT.1 h.held.2).2.1,fun x hx y hy q hq hY=>?_⟩⟩,fun x hx q hq=>?_⟩
 .
  rcases ztG.1 hx with hx | hx
  . exact h'.held.1 x hx
  obtain⟨h1,h2,h3,h4⟩:=h.held.1 x (zvD _ hx);exact⟨HE.keep h1 h2 h'.keep (fun q hq=>(hB x hx q hq).2) (fun b hb=>absurd hb (h3 b)),h2,h3,fun q hq=>by have:=h4 q hq;have:=h'.keep.size;omega⟩
 .
  obtain⟨h1,h2⟩:=hB y hy q hY;rcases h'.new x hx q hq with h3 | h3
  . grind
  omega
 have hs:=h.keep.size;rcases ztG.1 hx with hx | hx
 .
  rcases h'.new x hx q hq with h3 | h3
  . grind
  omega
 exact h.new x (zvD _ hx) q hq
end Go.GL
namespace Go.Proofs.YtckdhgbepmpgiaaGreat
open Go.GL Go.GL.Dom
theorem zm7:∀ (l:List (Nat × Int)) (rows:List (List Int)),(∀ r ∈ rows,r.length<=B)->∀ r ∈ xa rows l,r.length<=B+l.length:=by
 intro l;induction l generalizing B with
 | nil=>exact fun rows h r hr=>h r hr
 | cons p l ih =>
  intro rows h r hr
  have:=ih (B:=B+1) (jA rows p.1 p.2) (fun r hr=>by
   unfold jA at hr;rcases zvM hr with hr | rfl
   . grind
   .
    rw[ztv,ztI];by_cases e:p.1<rows.length
    .
     rw[ztn e];have:=h _ (zvn e);show (rows[p.1]).length+1<=_;omega
    .
     rw[ztL tO];show 0+1<=B+1
     omega) r hr
  rw[ztQ];omega
theorem zkd {N:Nat}:∀ (l:List (Nat × Int)) (rows:List (List Int)),(∀ r ∈ rows,r.length+(c+l.length)<=N)->∀ r ∈ xa rows l,r.length+c<=N:=by
 intro l;induction l with
 | nil=>exact fun rows h r hr=>h r hr
 | cons p l ih =>
  intro rows h r hr;refine ih (jA rows p.1 p.2) (fun r hr=>?_) r hr;rw[ztQ]at h;unfold jA at hr;by_cases e:p.1<rows.length
  .
   rcases zvM hr with hr | rfl
   . grind
   rw[ztv,ztI,ztn e];have:=h _ (zvn e);show (rows[p.1]).length+1+_<=_;omega
  rw[List.set_eq_of_length_le tO]at hr
  grind
theorem zm8 {l:List Nat}:(l.map fun y:Nat=>(y:Int)).idxOf (i:Int)=l.idxOf i:=by
 induction l with
 | nil=>rfl
 | cons y l ih =>
  rw[zvx,List.idxOf_cons,List.idxOf_cons,ih];by_cases e:y=i
  . grind
  grind
def ze7 (f:Fl) (g:List Nd) (T of1:List Int) (l:List (Phn × Nat)) (i:Nat):List (Nat × Int):=zai l l.length++(if 0<=yy f g i then [((yy f g i).toNat,dfW f g T of1 i)] else [])
theorem zhe (f:Fl) (g:List Nd) (T of1:List Int) (l:List (Phn × Nat)) (i:Nat):(ze7 f g T of1 l i).length<=l.length+1:=by
 unfold ze7;rw[ztv,ze6 (ztM _)]
 grind
theorem znx (f:Fl) (g:List Nd) (T of1:List Int) (k:Nat):(ofK f g T of1 k).length<=of1.length+(qe g T).length:=by
 unfold ofK zcF
 grind
theorem zm9 (hk:GOk f g) (hi:i<g.length):(rdV f g i).length<=100000:=by
 obtain⟨x,hx⟩:∃ x,g[i]?=some x:=⟨_,ztn hi⟩;unfold rdV rdN;rw[yl hx];split
 .
  rename_i hb;have hY:=of_decide_eq_true hb;have h2:=hk.at hx tO;refine ztt (Gr.compactL_len _) ?_;rw[xC];exact h2.2.2
 grind
theorem AlP.imp2 {Dn:Nat->Nat->Prop} (h:AlP f g T of1 pw k Dn als) (hi:∀ j q,q<(pw j).length->(Dn j q ↔ Dn' j q)):AlP f g T of1 pw k Dn' als:=fun j hj q p hp=>by
 have hq:=(ztB.1 hp).1;exact⟨fun hd=>(h j hj q p hp).1 ((hi j q hq).2 hd),fun hd=>(h j hj q p hp).2 fun h'=>hd ((hi j q hq).1 h')⟩
theorem zoO {a b c d e f g:Nat × HE}:([a,c,d]++[b,e,f,g]).Perm [a,b,c,d,e,f,g]:=(List.perm_middle (l₁:=[c,d]) (l₂:=[e,f,g])).cons a
theorem zhf (hl:rv.length=rows.length) (h1:w.ownsRow 0 27 1 v rv.length rv) (h2:RowsOk zb 3 w rv rows):SlR 1 (RSl 1 zv) (fun _=>True) w v rows:=zce (hl ▸ h1) h2 (fun _ _=>trivial) (fun _ _ _ _ _=>trivial)
def chL (T:List Int) (n:Nat):List (List Int):=(List.range n).map fun i=>(chT T i).map fun c:Nat=>(c:Int)
theorem zny {n:Nat} (h:i<n):(chL T n)[i]?=some ((chT T i).map fun c:Nat=>(c:Int)):=by unfold chL;rw[ztE,zvf h];rfl
structure WkG (f:Fl) (g:List Nd) (R:List (List Int)) (order:List Nat) (pl T of1:List Int) (pw:Nat->List (Phn × Nat)):Prop where
 ht:TreeG g R order pl T
 hor:order.length<=g.length
 hk:GOk f g
 pr:PrOk f g
 df:DefOk f g
 small:g.length<=10000
 few:f.vars.length<=1000
 ofs:of1.length<=100000000
 asc:∀ i,i<g.length->(phW pw i).Pairwise fun p q=>p.var<q.var
 var:∀ i,i<g.length->∀ p ∈ pw i,0<=p.1.var/\p.1.var<f.vars.length
 frm:∀ i,i<g.length->∀ p ∈ pw i,p.1.frm=zi g i
 len:∀ i,i<g.length->(pw i).length<=1000
 dis:zoN g pw
theorem zth {R:Rel α} {R':Rel β} {l:List α} (F:α->β) (h:SlR k R D w v l) (hR:∀ (i:Nat) x cs,l[i]?=some x->R D w x cs->R' D w (F x) cs):SlR k R' D w v (l.map F):=by
 obtain⟨ao,cap,h1,h2,h3,h4⟩:=h;refine⟨ao,cap,tD,tD,h3,fun i x hx=>?_⟩;rw[ztE]at hx;obtain⟨y,hy,rfl⟩:=zwI.1 hx;obtain⟨b,o,cs,h5,h6,h7,h8,h9⟩:=h4 i y hy;exact⟨b,o,cs,h5,h6,h7,h8,hR i y cs hy h9⟩
theorem zke {da:Nat->Value}
  (ht:TreeG g R order pl T) (hor:order.length<=g.length) (h0:0<g.length) (hY:StW f g T of1 pw da (qe g T).length ofl ndc db ucs als) {has:Nat->Option Addr × Nat × Nat} {hasv:List Value} {eo en eu ea:TypeId} {ofv:Value} {bn cn:Nat}
  (dg:w.ownsRow 0 eo 1 ofv ofl.length (ofl.map zb)) (hB:Blk w bn ndc en) (dh:g.length<=cn/\cn<=9223372036854775807) (hU:RowsC 2 eu w db ucs) (hA:RowsOk zb ea w hasv als) (hP:∀ j,j<g.length->SlR 4 (RPw has) D w (da j) (pw j))
  (dc:∀ j,j<g.length->∀ (q:Nat) p,(pw j)[q]?=some p->hasv[p.2]?=some (.slice (has p.2).1 (has p.2).2.1 (has p.2).2.2))
  (d1:∀ q,ofv.ownBlock=some q->D q) (d2:D bn) (d3:∀ (i:Nat) v q,db[i]?=some v->v.ownBlock=some q->D q) (d4:∀ (i:Nat) v q,hasv[i]?=some v->v.ownBlock=some q->D q) :
  RSf D w (zcG f g T of1 (phW pw)) ofv (.slice (some ⟨bn,0,none⟩) g.length cn):=by
 rw[znw ht hor h0];refine⟨?_,?_⟩
 .
  show SlR 1 zv D w ofv (ofK f g T of1 (qe g T).length);rw[<- hY.of];exact zqa zb j9 dg d1
 refine⟨some ⟨bn,0,none⟩,cn,tD,tD,dh.2,fun i x hx=>?_⟩;rw[ztE]at hx;obtain⟨j,hj,rfl⟩:=zwI.1 hx;have hi:i<g.length:=by have:=(ztB.1 hj).1;simpa using this
 rw[zvf hi]at hj;obtain rfl:=Option.some.inj hj;obtain⟨u,hu⟩:∃ u,db[i]?=some u:=⟨_,ztn (by rw[hY.hl];exact hi)⟩;obtain⟨m,hm⟩:=hU.row i u _ hu (hY.us i hi);refine⟨bn,0,[da i,u,.int .i64 (dsK f g T of1 (qe g T).length i)],rfl,d2,rfl,fun q v hq=>?_,da i,u,rfl,?_,zqb tS zm5 j1 j9 hm (fun q hq=>d3 i u q hu hq)⟩
 .
  have hc:=Blk.cells hB
  match q,hq with
  | 0,hq =>
   obtain rfl:=Option.some.inj hq;have:=hc (i*3) _ (hY.n0 i hi);simpa using this
  | 1,hq =>
   obtain rfl:=Option.some.inj hq;have:=hc (i*3+1) _ ((hY.n1 i hi).trans hu);simpa[zwg] using this
  | 2,hq =>
   obtain rfl:=Option.some.inj hq;have:=hc (i*3+2) _ (hY.n2 i hi);simpa[zwg] using this
 show SlR 4 zmw D w (da i) ((phW pw i).map _);unfold phW;rw[zvy];refine zth _ (hP i hi) fun q p cs hp dl=>?_;obtain⟨fh,rfl,dm⟩:=dl;exact⟨fh,_,rfl,dm,zqa zb j9 (hA.row p.2 _ _ (dc i hi q p hp) (hY.al i hi q p hp)) (fun b hb=>d4 p.2 _ b (dc i hi q p hp) hb)⟩
end Go.Proofs.YtckdhgbepmpgiaaGreat
namespace Go.GL.Dom
section
variable {R':List (List Int)}
theorem zgh (h:∀ a b,Dfs.Edge R a b ↔ Dfs.Edge R' a b) (hr:Dfs.Reach R root b):Dfs.Reach R' root b:=by
 induction hr with
 | refl=>exact .refl
 | step _ he ih=>exact .step ih ((h _ _).1 he)
theorem zfv (h:∀ a b,Dfs.Edge R a b ↔ Dfs.Edge R' a b) {x:Nat} (ha:AvN R root x k b):AvN R' root x k b:=by
 induction ha with
 | start hne=>exact .start hne
 | step _ he hne ih=>exact .step ih ((h _ _).1 he) hne
theorem zfw (h:∀ a b,Dfs.Edge R a b ↔ Dfs.Edge R' a b) {x:Nat}:Dom R root x b ↔ Dom R' root x b :=
 ⟨fun hd k hk=>hd k (zfv (fun a b=>(h a b).symm) hk),fun hd k hk=>hd k (zfv h hk)⟩
theorem zgi (h:∀ a b,Dfs.Edge R a b ↔ Dfs.Edge R' a b) {x:Nat}:xF R root x b ↔ xF R' root x b:=by
 have main:∀ {R R':List (List Int)},(∀ a b,Dfs.Edge R a b ↔ Dfs.Edge R' a b)->xF R root x b->xF R' root x b:=fun {R R'} h=>by
  rintro⟨a,h1,h2,h3,h4⟩;exact⟨a,zgh h h1,(h a b).1 h2,(zfw h).1 h3,fun h5=>h4 ⟨h5.1,(zfw h).2 h5.2⟩⟩
 exact⟨main h,main fun a b=>(h a b).symm⟩
end
end Go.GL.Dom
namespace Go.Proofs.YtckdhgbepmpgiaaGreat
open Go.GL Go.GL.Dom
theorem zfx {Fr Fr':Nat->Nat->Prop} (h:∀ a b,Fr a b ↔ Fr' a b) {nodes:List Int} (hi:ItS Fr nodes b):ItS Fr' nodes b:=by
 induction hi with
 | node hn hf=>exact .node hn ((h _ _).1 hf)
 | it _ hf ih=>exact .it ih ((h _ _).1 hf)
def pwE (nv:Nat) (g:List Nd) (E:List (Nat × Nat)) (i:Nat):List (Phn × Nat):=E.zipIdx.filterMap fun e=>if e.1.2=i then some (⟨(e.1.1:Int),((nv+e.2:Nat):Int),zi g i,[]⟩,e.2) else none
def ofE (nv:Nat) (E:List (Nat × Nat)):List Int:=(List.range nv).map (fun v:Nat=>(v:Int))++E.map fun e=>(e.1:Int)
def zow (a b:Nat × Nat):Prop:=a.1<b.1\/(a.1=b.1/\a.2<b.2)
section
theorem zaG:(ofE nv E).length=nv+E.length:=by unfold ofE;rw[ztv,ztH,ztH,zvs]
theorem zma (v i:Nat):ofE nv (E++[(v,i)])=ofE nv E++[(v:Int)]:=by unfold ofE;rw[zvv,<- zuE];rfl
theorem zhg (v j i:Nat):pwE nv g (E++[(v,j)]) i=pwE nv g E i++if j=i then [(⟨(v:Int),((nv+E.length:Nat):Int),zi g i,[]⟩,E.length)] else []:=by
 unfold pwE;rw[List.zipIdx_append,List.filterMap_append];congr 1;show List.filterMap _ [((v,j),0+E.length)]=_;rw[zwC];by_cases e:j=i
 .
  rw[zty e,List.filterMap_cons_some (b:=(⟨(v:Int),((nv+E.length:Nat):Int),zi g i,[]⟩,E.length)) (by simp[e])];rfl
 rw[ztx e,List.filterMap_cons_none (by simp[e])];rfl
theorem mem_pwE {x:Phn × Nat}:x ∈ pwE nv g E i ↔ ∃ v a:Nat,E[a]?=some (v,i)/\x=(⟨(v:Int),((nv+a:Nat):Int),zi g i,[]⟩,a):=by
 unfold pwE;rw[List.mem_filterMap];constructor
 . grind
 rintro⟨v,a,ha,rfl⟩;exact⟨((v,i),a),List.mem_zipIdx_iff_getElem?.2 ha,tR⟩
theorem ze8 (hE:E.Pairwise zow) (i:Nat):(pwE nv g E i).Pairwise fun x y=>x.2<y.2/\x.1.var<y.1.var:=by
 have main:∀ k,k<=E.length->(pwE nv g (E.take k) i).Pairwise fun x y=>x.2<y.2/\x.1.var<y.1.var:=by
  intro k;induction k with
  | zero=>intro _;exact .nil
  | succ k ih =>
   intro hk;obtain⟨⟨v,j⟩,he⟩:∃ e,E[k]?=some e:=iA;rw[ze he,zhg];by_cases e:j=i
   .
    rw[zty e,zvT];refine⟨ih tO,zvX _ _,fun x hx y hy=>?_⟩;rw[ztF]at hy;subst hy;obtain⟨v',a,ha,rfl⟩:=mem_pwE.1 hx;rw[ztT]at ha;split at ha
    .
     rename_i hY;have hl:(E.take k).length=k:=tD;rw[hl];refine⟨hY,?_⟩;have h1:=zvV.1 hE a k tO tO hY;rw[(ztB.1 ha).2,(ztB.1 he).2]at h1;subst e;rcases h1 with h1 | ⟨_,h1⟩
     . grind
     omega
    cases ha
   grind
 have:=main E.length (ztM _);rwa [zts]at this
theorem znz (hE:E.Pairwise zow):zoN g (pwE nv g E):=by
 intro j j' _ _ q q' p p' hp hY e;obtain⟨v,a,ha,rfl⟩:=mem_pwE.1 (zto hp);obtain⟨v',a',da,rfl⟩:=mem_pwE.1 (zto hY);obtain rfl:a=a':=e;rw[ha]at da;obtain⟨rfl,rfl⟩:v=v'/\j=j':=tD;refine⟨rfl,?_⟩;have h1:=zvV.1 (ze8 (nv:=nv) (g:=g) hE j);obtain⟨hq,eq⟩:=ztB.1 hp;obtain⟨db,eq'⟩:=ztB.1 hY;rcases zwu q q' with h | h | h
 . grind
 . exact h
 grind
theorem znA (hE:E.Pairwise zow) (hv:∀ e ∈ E,e.1<nv) (i:Nat):(pwE nv g E i).length<=nv:=by
 have h1:=ze8 (nv:=nv) (g:=g) hE i
 have h2:(((pwE nv g E i).map fun x=>x.1.var.toNat)).Pairwise (·<·):=by
  rw[zvW];refine h1.imp_of_mem fun {x y} hx hy h=>?_;obtain⟨v,a,_,rfl⟩:=mem_pwE.1 hx;obtain⟨v',a',_,rfl⟩:=mem_pwE.1 hy;have:=h.2;dsimp only at this ⊢;omega
 have h3:∀ x ∈ (pwE nv g E i).map (fun x=>x.1.var.toNat),x<nv:=fun x hx=>by
  obtain⟨y,hy,rfl⟩:=zvI.1 hx;obtain⟨v,a,ha,rfl⟩:=mem_pwE.1 hy
  grind
 have h4:=Dfs.nodup_le nv _ (h2.imp (fun h=>Nat.ne_of_lt h)) h3;rwa [ztH]at h4
end
open Go.GL Go.GL.Dom
theorem zcs {n:Nat} (h:Succs n es R) (hY:∀ a b:Nat,((a:Int),(b:Int)) ∈ es->a<n) (a b:Nat):Dfs.Edge R a b ↔ ((a:Int),(b:Int)) ∈ es:=by
 constructor
 .
  rintro⟨r,hr,hb⟩;exact(h.mem a r hr b).1 hb
 intro hm;have e:=ztn (show a<R.length by rw[h.len];exact hY a b hm);exact⟨_,e,(h.mem a _ e b).2 hm⟩
theorem zgj {n:Nat} {Rw':List (List Int)} {o o':List Nat} {pl' T':List Int} (h:Known n root es Rw o pl T) (h':Known n root es Rw' o' pl' T') (hY:∀ a b:Nat,((a:Int),(b:Int)) ∈ es->a<n) (a b:Nat):xF Rw root a b ↔ xF Rw' root a b:=zgi fun x y=>by rw[zcs h.succ hY,zcs h'.succ hY]
def zoP (f:Fl) (v:Nat):Prop:=∃ x,f.vars[v]?=some x/\x.kind=0
def zaj (f:Fl) (g:List Nd) (i v:Nat):List Int:=0::(((List.range i).filter fun z=>decide (yy f g z=(v:Int))).map fun z:Nat=>(z:Int))
theorem zfy (f:Fl) (g:List Nd) (i v:Nat):zaj f g (i+1) v=zaj f g i v++if yy f g i=(v:Int) then [(i:Int)] else []:=by
 unfold zaj;rw[zw0,zuX,zvv];by_cases e:yy f g i=(v:Int)
 . rw[zty e,zuZ (by simpa using e)];rfl
 rw[ztx e,zuY (by simpa using e)];rfl
theorem zmb (f:Fl) (g:List Nd) (i v:Nat):(zaj f g i v).length<=i+1:=by
 unfold zaj
 grind
theorem dfsI_mem {v:Nat} {z:Nat}:(z:Int) ∈ zaj f g i v ↔ z=0\/(z<i/\yy f g z=(v:Int)):=by
 unfold zaj;rw[ztD,zvI];constructor
 .
  rintro (h | ⟨y,hy,e⟩)
  . exact .inl tO
  obtain⟨h1,h2⟩:=zvE.1 hy;obtain rfl:y=z:=tO;exact .inr ⟨zvN.1 h1,of_decide_eq_true h2⟩
 rintro (rfl | ⟨h1,h2⟩)
 . exact .inl O
 exact .inr ⟨z,zvE.2 ⟨zvN.2 h1,ztz h2⟩,rfl⟩
theorem zmc {v:Nat} (h:(zaj f g i v).length=1):∀ z,z<i->yy f g z ≠ (v:Int):=fun z hz e=>by
 have hm:z ∈ (List.range i).filter fun z=>decide (yy f g z=(v:Int)):=zvE.2 ⟨zvN.2 hz,ztz e⟩;unfold zaj at h
 grind
theorem zkf {v:Nat} (h:(zaj f g i v).length ≠ 1):∃ z,z<i/\yy f g z=(v:Int):=by
 unfold zaj at h;rw[ztQ,ztH]at h;obtain⟨z,hz⟩:=List.exists_mem_of_length_pos (show 0<((List.range i).filter fun z=>decide (yy f g z=(v:Int))).length by omega);obtain⟨h1,h2⟩:=zvE.1 hz;exact⟨z,zvN.1 h1,of_decide_eq_true h2⟩
def zol (f:Fl) (g:List Nd) (Fr:Nat->Nat->Prop) (v i:Nat):Prop:=zoP f v/\(∃ z,z<g.length/\yy f g z=(v:Int))/\ItS Fr (zaj f g g.length v) i
structure PlcV (f:Fl) (g:List Nd) (Fr:Nat->Nat->Prop) (v:Nat) (E:List (Nat × Nat)):Prop where
 asc:E.Pairwise zow
 mem:∀ u i,(u,i) ∈ E ↔ u<v/\zol f g Fr u i
section
variable {Fr:Nat->Nat->Prop} {v:Nat}
theorem PlcV.start (f:Fl) (g:List Nd) (Fr:Nat->Nat->Prop):PlcV f g Fr 0 []:=⟨.nil,fun u i=>tR⟩
theorem PlcV.skip (h:PlcV f g Fr v E) (hn:∀ i,¬ zol f g Fr v i):PlcV f g Fr (v+1) E:=⟨h.asc,fun u i=>by
 rw[h.mem];constructor
 . grind
 .
  rintro⟨h1,h2⟩;refine⟨?_,h2⟩;by_cases e:u=v
  . grind
  .
   omega⟩
def zhh (E:List (Nat × Nat)) (v:Nat) (L:List Int):List (Nat × Nat):=E++L.map fun y=>(v,y.toNat)
theorem zkg {L:List Int} {y:Int} (h:L[k]?=some y):zhh E v (L.take (k+1))=zhh E v (L.take k)++[(v,y.toNat)]:=by
 unfold zhh;rw[ze h,zvv,<- zuE];rfl
theorem PlcV.step (h:PlcV f g Fr v E) {L:List Int} (hL:L.Pairwise (·<·)) (hl:zoP f v) (hd:∃ z,z<g.length/\yy f g z=(v:Int)) (hm:∀ y:Int,y ∈ L ↔ ∃ b:Nat,y=(b:Int)/\ItS Fr (zaj f g g.length v) b):PlcV f g Fr (v+1) (zhh E v L):=by
 refine⟨?_,fun u i=>?_⟩
 .
  unfold zhh;rw[zvT];refine⟨h.asc,?_,fun x hx y hy=>?_⟩
  .
   rw[zvW];refine hL.imp_of_mem fun {a b} ha hb hY=>?_;obtain⟨a',rfl,_⟩:=(hm a).1 ha;obtain⟨b',rfl,_⟩:=(hm b).1 hb;exact .inr ⟨rfl,tO⟩
  obtain⟨z,_,rfl⟩:=zvI.1 hy;exact .inl ((h.mem x.1 x.2).1 hx).1
 unfold zhh;rw[ztG,h.mem,zvI];constructor
 .
  rintro (⟨h1,h2⟩ | ⟨y,hy,e⟩)
  . grind
  obtain⟨b,rfl,hb⟩:=(hm y).1 hy;cases e;exact⟨tO,hl,hd,tD⟩
 rintro⟨h1,h2⟩;by_cases e:u=v
 .
  subst e;exact .inr ⟨(i:Int),(hm i).2 ⟨i,rfl,h2.2.2⟩,tD⟩
 grind
end
theorem zkh {Fr:Nat->Nat->Prop} {nodes:List Int} (h:ItS Fr nodes b):∃ a,Fr a b:=by
 cases h with
 | node _ hf=>exact⟨_,hf⟩
 | it _ hf=>exact⟨_,hf⟩
theorem zhi (ht:TreeG g R order pl T) (h0:zJ g 0=[]) {nodes:List Int} (h:ItS (xF R 0) nodes b):b<g.length/\b ≠ 0:=by
 obtain⟨a,c,h1,h2,_⟩:=zkh h;have hb:=ht.lt b (.step h1 h2);refine⟨hb,fun e=>?_⟩;subst e;have:=(ht.edge c 0 hb).1 h2;rw[h0]at this;cases this
theorem zti (ht:TreeG g R order pl T) (h0:zJ g 0=[]) (dl:DefOk f g) (h:PlcV f g (xF R 0) f.vars.length E):PlcF f g (ofE f.vars.length E) (phW (pwE f.vars.length g E)) R:=by
 have dm:∀ (k:Nat) v,(ofE f.vars.length E)[k]?=some v->f.vars.length<=k->∃ e,E[k - f.vars.length]?=some e/\v=(e.1:Int):=fun k v hk dg=>by
  unfold ofE at hk;rw[ztO tD,ztH,zvs,ztE]at hk;obtain⟨e,he,rfl⟩:=zwI.1 hk;exact⟨e,he,rfl⟩
 have hY:∀ (i:Nat) p,p ∈ phW (pwE f.vars.length g E) i->∃ v a:Nat,E[a]?=some (v,i)/\p=⟨(v:Int),((f.vars.length+a:Nat):Int),zi g i,[]⟩:=fun i p hp=>by
  obtain⟨x,hx,rfl⟩:=zvI.1 hp;obtain⟨v,a,ha,rfl⟩:=mem_pwE.1 hx
  grind
 have da:∀ (i v:Nat),(v,i) ∈ E->zbe (phW (pwE f.vars.length g E) i) (v:Int) ≠ none:=fun i v hm e=>by
  obtain⟨a,ha⟩:=zvH.1 hm;exact zgL e _ (zvI.2 ⟨_,mem_pwE.2 ⟨v,a,ha,rfl⟩,rfl⟩) O
 refine⟨by rw[zaG];omega,fun k v hk dr=>?_,fun k v hk dg=>?_,?_,fun i=>?_,fun i p hp=>?_,fun i p hp=>?_,fun k dx dt=>?_,fun i v hi dy hv hn db z hz hF=>?_⟩
 .
  unfold ofE at hk;rw[ztN tD,ztE,zvf dr]at hk;exact(Option.some.inj hk).symm
 .
  obtain⟨e,he,rfl⟩:=dm k v hk dg;obtain⟨_,⟨x,hx,h3⟩,_⟩:=(h.mem e.1 e.2).1 (zto he)
  grind
 .
  apply zuS.2;intro p hp;obtain⟨v,a,ha,_⟩:=hY 0 p hp;exact(zhi ht h0 ((h.mem v 0).1 (zto ha)).2.2.2).2 O
 .
  show ((pwE f.vars.length g E i).map (·.1)).Pairwise _;rw[zvW];exact(ze8 h.asc i).imp fun h=>h.2
 .
  obtain⟨v,a,ha,rfl⟩:=hY i p hp;refine⟨show (f.vars.length:Int)<=((f.vars.length+a:Nat):Int) by omega,?_⟩;show (ofE f.vars.length E)[((f.vars.length+a:Nat):Int).toNat]?=some (v:Int);rw[ztJ];unfold ofE;rw[ztO tD,ztH,zvs,zwk,ztE,ha];rfl
 . grind
 .
  rw[zaG]at dt;obtain⟨⟨v,i⟩,he⟩:∃ e,E[k - f.vars.length]?=some e:=iA;have hi:=(zhi ht h0 ((h.mem v i).1 (zto he)).2.2.2).1
  have dz:∀ j,(k:Int) ∈ (phW (pwE f.vars.length g E) j).map (·.ver) ↔ j=i:=fun j=>by
   constructor
   . grind
   rintro rfl;refine zvI.2 ⟨_,zvI.2 ⟨_,mem_pwE.2 ⟨v,_,he,rfl⟩,rfl⟩,?_⟩;show ((f.vars.length+(k - f.vars.length):Nat):Int)=(k:Int);omega
  have dA:∀ j,((phW (pwE f.vars.length g E) j).map (·.ver)).Nodup:=fun j=>by
   show (((pwE f.vars.length g E j).map (·.1)).map (·.ver)).Nodup;rw[zvy];refine zvW.2 ((ze8 h.asc j).imp_of_mem fun {x y} hx hy dB=>?_);obtain⟨_,a,_,rfl⟩:=mem_pwE.1 hx;obtain⟨_,b,_,rfl⟩:=mem_pwE.1 hy;intro e;have e:((f.vars.length+a:Nat):Int)=((f.vars.length+b:Nat):Int):=e;omega
  rw[zuK]
  have hc:((List.range g.length).map (List.count (k:Int) ∘ fun i=>(phW (pwE f.vars.length g E) i).map (·.ver)))=(List.range g.length).map fun j=>if j=i then 1 else 0:=by
   refine zvw fun j _=>?_;show List.count (k:Int) ((phW (pwE f.vars.length g E) j).map (·.ver))=_;by_cases e:j=i
   . grind
   grind
  rw[hc];exact zgf zvR (zvN.2 hi) O fun d _ e=>e
 obtain⟨vn,rfl⟩:∃ vn:Nat,v=(vn:Int):=⟨v.toNat,tO⟩
 have dc:z<g.length:=by
  obtain⟨a,ha,dC,du,_⟩:=hz;by_cases dh:z<g.length
  . exact dh
  exfalso
  have hr:Dfs.Reach R 0 z:=Classical.byContradiction fun db=>by
   obtain⟨k,hk⟩:=zhd ha db;exact du k hk
  exact dh (ht.lt z hr)
 have hJ:zol f g (xF R 0) vn i:=by
  rcases hF with hd | ⟨k,dD,hk⟩
  .
   refine⟨?_,⟨z,dc,hd⟩,.node (dfsI_mem.2 (.inr ⟨dc,hd⟩)) hz⟩;obtain⟨x,hx,dw⟩:=dl.dfn z dc tO;rw[hd,ztJ]at hx;exact⟨x,hx,dw⟩
  obtain⟨p,hp,e1,_⟩:=zbf hk;obtain⟨v',a,ha,rfl⟩:=hY z p hp;have e1:(v':Int)=(vn:Int):=e1;obtain rfl:v'=vn:=tO;obtain⟨_,h3,h4,h5⟩:=(h.mem v' z).1 (zto ha);exact⟨h3,h4,.it h5 hz⟩
 exact da i vn ((h.mem vn i).2 ⟨tO,hJ⟩) db
end Go.Proofs.YtckdhgbepmpgiaaGreat
namespace Go.GL
section
variable {n:Fm} {S:World->Prop} {Z:Szs}
theorem ztj {id:Nat} {l:List Oper} (S:World->Prop) (L:List Nat) (hm:P.follows .mixedOrders=true) (h:VDx P n Q ks l.toArray S L l.length (Array.replicate l.length false) env A H Bs):V P n Q ks (.c (.region id l.toArray true)) env A H Bs :=
 fun hA _ hI=>zq4 S L hm (fun w' hY _=>h hA w' (hI.ext hY))
variable {op:Op} {ty:TypeId} {ps:String} {g:Option (Nat × Bool)}
theorem ztk (i:Nat) (hi:ops[i]?=some ⟨some d,op,ty,ps,aft,g⟩) (hc:(Region.noSelect ops&&Region.free .any ops listed i&&(Region.ready .any ops listed).contains i&&L.all (qZ .any ops i)&&!L.contains i)=true) (hn:(Nat.blt d n,gd ops env g)=(true,some true)) (hS:∀ w,VI Bs H w->S w) (hr:∀ w,S w->yx P ⟨some d,op,ty,ps,aft,g⟩ env w v w)
  (h:VDx P n Q ks ops S L fuel (listed.setIfInBounds i true) ((d,v)::env) ((d,none)::A) H Bs):VDx P n Q ks ops S L (fuel+1) listed env A H Bs:=by
 simp only[Prod.mk.injEq]at hn;exact fun hA w hI=>zqt i hi hc O hn.1 (hS w hI) (.inl ⟨qf hn.2,hr⟩) (h hA.none w hI)
theorem zs0 (i:Nat) (hi:ops[i]?=some ⟨some d,op,ty,ps,aft,g⟩) (hc:zel ops [i] listed=true) (hn:(Nat.blt d n,gd ops env g)=(true,some true)) (hr:∀ w,yx P ⟨some d,op,ty,ps,aft,g⟩ env w v w)
  (h:VDx P n Q ks ops S L fuel (listed.setIfInBounds i true) ((d,v)::env) ((d,none)::A) H Bs):VDx P n Q ks ops S L (fuel+1) listed env A H Bs:=by
 simp only[Prod.mk.injEq]at hn;unfold zel at hc;rw[zu8]at hc;exact fun hA w hI=>zqU i hi hc.1 O hn.1 (.inl ⟨qf hn.2,fun w' nn a hY=>hr w' nn a hY⟩) (h hA.none w hI)
theorem zrY (i:Nat) {l:List Value} (zs:List Value) (places:List (Nat × Nat)) (vs:List (Nat × Value)) (hi:ops[i]?=some ⟨some d,.build t parts,ty,ps,aft,g⟩) (hc:zel ops [i] listed=true) (hn:(Nat.blt d n,gd ops env g,parts.toList.map (fun p=>(p.1,ev env p.2)))=(true,some true,vs.map (fun p=>(p.1,some p.2)))) (_hl:zkE places zs vs=some l) (hb:∀ w,(Instr.build t vs.toArray).run P w=.ok (.agg l.toArray) w)
  (h:VDx P n Q ks ops S L fuel (listed.setIfInBounds i true) ((d,.agg l.toArray)::env) ((d,none)::A) H Bs):VDx P n Q ks ops S L (fuel+1) listed env A H Bs:=by
 simp only[Prod.mk.injEq]at hn;exact zs0 i hi hc tD (fun _=>R.build vs hn.2.2 hb) h
theorem zrF (i:Nat) (hZ:zqv P Z) {x:Operand} {H':Hp} (hi:ops[i]?=some ⟨none,.store t x y,ty,ps,aft,g⟩) (hr:Region.ready .any ops listed=[i]) (hn:(gd ops env g,zaI Z env A H t x y,L.contains i)=(some true,some H',true))
  (h:VDx P n Q ks ops S L fuel (listed.setIfInBounds i true) env A H' Bs):VDx P n Q ks ops S L (fuel+1) listed env A H Bs:=by
 simp only[Prod.mk.injEq]at hn;intro hA w hI a ha;obtain⟨h1,h2⟩:=kM (w:=w) (Bs:=Bs) hZ hn.2.1 hA;obtain⟨w',da,hR⟩:=h2 hI ty ps aft;refine⟨fun h0=>tD,fun k hk=>?_⟩;rw[hr]at hk;have:k=i:=tD;subst this;unfold wpOp;simp only[hi];rw[zty (qf hn.1 a ha)];refine .inl ?_;unfold Oper.wp;have hY:(execOp a.eval ⟨none,.store t x y,ty,ps,aft,g⟩).run P w=.ok .skip w':=da n a ha;rw[hY,Oper.upon_skip];exact⟨fun hc _=>absurd tD hc,h h1 w' hR _ ha.put0⟩
def VTx (P:Program) (n:Fm) (Q:Exit->Act->World->Prop) (ks:List Fr) (ops:Array Oper) (S:World->Prop) (L:List Nat) (fuel:Nat) (listed:Array Bool) (env:Env) (A:Tgs) (H:Hp) (Bs:zq) (i:Nat):Prop :=
 TgOk A env H->∀ w,VI Bs H w->∀ a,Ok n env a->wpOp P ops (NQ (QK P Q ks)) i (fun a' w'=>(i ∉ L->S w->S w')/\kn P .any ops (NQ (QK P Q ks)) S L fuel (listed.setIfInBounds i true) a' w') a w
def VTxs (P:Program) (n:Fm) (Q:Exit->Act->World->Prop) (ks:List Fr) (ops:Array Oper) (S:World->Prop) (L:List Nat) (fuel:Nat) (listed:Array Bool) (env:Env) (A:Tgs) (H:Hp) (Bs:zq):List Nat->Prop
 | []=>True
 | i::r=>VTx P n Q ks ops S L fuel listed env A H Bs i/\VTxs P n Q ks ops S L fuel listed env A H Bs r
theorem VTxs.all:∀ {l:List Nat},VTxs P n Q ks ops S L fuel listed env A H Bs l->∀ i ∈ l,VTx P n Q ks ops S L fuel listed env A H Bs i
 | x::r,h,i,hi=>by
  rcases ztD.1 hi with rfl | hi
  . exact h.1
  exact VTxs.all h.2 i hi
theorem zsX (i:Nat) (r:List Nat) (hr:Region.ready .any ops listed=i::r) (h:VTxs P n Q ks ops S L fuel listed env A H Bs (i::r)):VDx P n Q ks ops S L (fuel+1) listed env A H Bs:=by
 intro hA w hI a ha;exact⟨fun h0=>tD,fun k hk=>h.all k (hr ▸ hk) hA w hI a ha⟩
theorem zrC (hi:ops[i]?=some ⟨some d,op,ty,ps,aft,g⟩) (hn:Nat.blt d n=true) (hg:gd ops env g=some true) {R:World->Value->World->Prop}
  (hm:∀ w,VI Bs H w->Does P ⟨some d,op,ty,ps,aft,g⟩ env w (R w)) (h:TgOk A env H->∀ w,VI Bs H w->∀ v w',R w v w'->S w'/\WD P n ops (QK P Q ks) S L fuel (listed.setIfInBounds i true) ((d,v)::env) w'):VTx P n Q ks ops S L fuel listed env A H Bs i:=by
 intro hA w hI a ha;have hd:=hm w hI;have h:=h hA w hI;unfold wpOp;simp only[hi];rw[zty (qf hg a ha)];refine .inl ?_;unfold Oper.wp;rcases hd with⟨v,w',hY,hR⟩ | ⟨f,args,hm,hc⟩
 .
  rw[hY n a ha,Oper.upon_value];exact iW
 rw[hm n a ha,Oper.upon_enter];refine hc.mono ?_;rintro e w' ⟨v,rfl,hR⟩;exact iW
theorem zpZ (i k:Nat) {x:Operand} {kl kc:IntKind} {zs:List Value} (hu:P.underlying t=some (.slice e)) (he:(P.info? e).map (fun i=>(i.zero,i.size,i.bytes))=some (some z,kk,by'))
  (hi:ops[i]?=some ⟨some d,.makeSlice t x y,ty,ps,aft,g⟩) (hn:(Nat.blt d n,gd ops env g,(hget H k).isNone,ev env x,ev env y)=(true,some true,true,some (.int kl (m:Int)),some (.int kc (m:Int))))
  (hb:by'*m<=281474976710656) (hm:m<=9223372036854775807) (hz:madeCells z.cells (m*kk)=zs.toArray) (hl:zs.length=m*kk)
  (hS:∀ b w,VI Bs ((k,.row e kk (.slice (some ⟨b,0,none⟩) m m) m zs)::H) w->S w)
  (h:∀ b,VDx P n Q ks ops S L fuel (listed.setIfInBounds i true) ((d,.slice (some ⟨b,0,none⟩) m m)::env) ((d,none)::A) ((k,.row e kk (.slice (some ⟨b,0,none⟩) m m) m zs)::H) Bs):VTx P n Q ks ops S L fuel listed env A H Bs i:=by
 simp only[Prod.mk.injEq,zwF]at hn;obtain⟨h1,h2,h3,h4,h5⟩:=hn;refine zrC hi h1 h2 (fun w hI=>.inl (zpV hu he h4 h5 hb hm hz)) fun hA w hI=>?_;rintro _ w1 ⟨b,rfl,hN⟩;have hY:=hI.row k hm hl hN;exact⟨hS b w1 hY,h b Ju w1 hY⟩
theorem zrd (i k:Nat) (hi:ops[i]?=some ⟨some d,op,ty,ps,aft,g⟩) (hn:(Nat.blt d n,gd ops env g,(hget H k).isNone)=(true,some true,true))
  (hm:∀ w,VI Bs H w->yM P ⟨some d,op,ty,ps,aft,g⟩ env w (fun r w'=>∃ b,r=.pointer (some ⟨b,0,none⟩)/\New w cs e b w'))
  (hS:∀ b w,VI Bs ((k,.own b cs e)::H) w->S w)
  (h:∀ b,VDx P n Q ks ops S L fuel (listed.setIfInBounds i true) ((d,.pointer (some ⟨b,0,none⟩))::env) ((d,some (k,0))::A) ((k,.own b cs e)::H) Bs):VTx P n Q ks ops S L fuel listed env A H Bs i:=by
 simp only[Prod.mk.injEq,zwF]at hn;refine zrC hi hn.1 hn.2.1 (fun w hI=>.inl (hm w hI)) fun hA w hI=>?_;rintro _ w' ⟨b,rfl,hb,hs,hB,hk⟩;have hY:VI Bs ((k,.own b cs e)::H) w':=hI.new hk k hB trivial (fun _ h=>h) JE;refine⟨hS b w' hY,h b ((hA.new hn.2.2).push (fun k' off hg=>?_)) w' hY⟩;cases hg;exact Jf
theorem zsh (i:Nat) (kk:List Nat) {f:FuncId} {xs:Array Operand} (A1:Tgs) (hf:∀ args w,(callFunc f args).run P w=.ok (.enter f args) w) (hi:ops[i]?=some ⟨some d,.call ⟨.value (.func f),xs,ts⟩,ty,ps,aft,g⟩) (hn:(Nat.blt d n,gd ops env g,qM env xs.toList)=(true,some true,some vs))
  (da:∀ r x,A1.map (fun p=>zcJ ((d,r)::env) p.1)=A1.map (fun p=>jc (Hn x++yB kk H) p.2)) (db:∀ x,A1.all (fun p=>(jc (Hn x++yB kk H) p.2).isSome)=true)
  (hS:∀ x w,VI Bs (Hn x++yB kk H) w->S w)
  (hc:∀ w,VI Bs H w->Calls P f vs.toArray w (Ret fun r w'=>∃ x,Φ r x/\Hands H kk (Hn x) w w'))
  (h:∀ r x,Φ r x->VDx P n Q ks ops S L fuel (listed.setIfInBounds i true) ((d,r)::env) A1 (Hn x++yB kk H) Bs):VTx P n Q ks ops S L fuel listed env A H Bs i:=by
 simp only[Prod.mk.injEq]at hn;refine zrC hi hn.1 hn.2.1 (fun w hI=>.inr ⟨f,_,F.call hf (yr hn.2.2),hc w hI⟩) fun hA w hI=>?_;rintro r w' ⟨x,hP,hh⟩;have hY:=hI.hands hh;exact⟨hS x w' hY,h r x hP (TgOk.of (da r x) (db x)) w' hY⟩
end
section
variable {n:Fm}
variable {op:Op} {ty:TypeId} {ps:String} {g:Option (Nat × Bool)}
theorem zsi (i j:Nat) (kk:List Nat) {f:FuncId} {xs:Array Operand} (A1:Tgs) (hf:∀ args w,(callFunc f args).run P w=.ok (.enter f args) w) (hi:ops[i]?=some ⟨some d,.call ⟨.value (.func f),xs,ts⟩,ty,ps,aft,g⟩) (hn:(Nat.blt d n,gd ops env g,qM env xs.toList,qd (Hs.map (·.1)))=(true,some true,some vs,true)) (hB:Bs.drop j=B0)
  (hY:∀ x,Hs.map (fun y=>hget (Hn x++yB kk H) y.1)=Hs.map (fun y=>some y.2))
  (db:∀ r x,A1.map (fun p=>zcJ ((d,r)::env) p.1)=A1.map (fun p=>jc (Hn x++yB kk H) p.2)) (dc:∀ x,A1.all (fun p=>(jc (Hn x++yB kk H) p.2).isSome)=true)
  (hc:∀ w,VI Bs H w->Calls P f vs.toArray w (Ret fun r w'=>∃ x,Φ r x/\Hands H kk (Hn x) w w'))
  (h:∀ r x,Φ r x->VD P n Q ks ops Hs B0 L fuel (listed.setIfInBounds i true) ((d,r)::env) A1 (Hn x++yB kk H) Bs):VT P n Q ks ops Hs B0 L fuel listed env A H Bs i:=by
 simp only[Prod.mk.injEq]at hn;subst hB;refine zrB hi hn.1 hn.2.1 (fun w hI=>.inr ⟨f,_,F.call hf (yr hn.2.2.1),hc w hI⟩) fun hH hA w hI=>?_;rintro r w' ⟨x,hP,hh⟩;have da:=hI.hands hh;exact⟨(da.drop j).pick (Has.of (hY x)) hn.2.2.2,h r x hP (Has.of (hY x)) (TgOk.of (db r x) (dc x)) w' da⟩
theorem VT.rd (i j:Nat) (hi:ops[i]?=some ⟨some d,op,ty,ps,aft,g⟩) (hn:(Nat.blt d n,gd ops env g,qd (Hs.map (·.1)))=(true,some true,true)) (hB:Bs.drop j=B0) (hr:∀ w,VI Bs H w->yx P ⟨some d,op,ty,ps,aft,g⟩ env w v w)
  (h:VD P n Q ks ops Hs B0 L fuel (listed.setIfInBounds i true) ((d,v)::env) ((d,none)::A) H Bs):VT P n Q ks ops Hs B0 L fuel listed env A H Bs i:=by
 simp only[Prod.mk.injEq]at hn;subst hB;refine zrB hi hn.1 hn.2.1 (R:=fun w u w'=>u=v/\w'=w) (fun w hI=>.inl ⟨v,w,hr w hI,rfl,rfl⟩) fun hH hA w hI=>?_;rintro u w' ⟨rfl,rfl⟩;exact⟨(hI.drop j).pick hH hn.2.2,h hH hA.none _ hI⟩
theorem zrR (i k j:Nat) {len:Nat} (vs:List (Nat × Value)) (hu:∀ w,(underlying t).run P w=.ok (.slice e) w) (hs:∀ w,(sizeOf e).run P w=.ok kk w) (hz:∀ w,(zeroValue e).run P w=.ok z w)
  (hY:len*kk ≠ 0/\len*kk<=16777216) (hi:ops[i]?=some ⟨some d,.buildSlice t len parts,ty,ps,aft,g⟩) (hn:(Nat.blt d n,gd ops env g,(hget H k).isNone,qd (Hs.map (·.1)),parts.toList.map (fun p=>(p.1,ev env p.2)),Bs.drop j)=(true,some true,true,true,vs.map (fun p=>(p.1,some p.2)),B0)) (_hcs:zb8 (vs.map (·.2))=some cs) (hf:Instr.fill (fun i=>some (i*kk,kk)) ((Array.range (len*kk)).map (z.cells[· % z.cells.size]!)) vs=some cs.toArray)
  (h:∀ b,VD P n Q ks ops Hs B0 L fuel (listed.setIfInBounds i true) ((d,.slice (some ⟨b,0,none⟩) len len)::env) ((d,none)::A) ((k,.own b cs e)::H) Bs):VT P n Q ks ops Hs B0 L fuel listed env A H Bs i:=by
 simp only[Prod.mk.injEq,zwF]at hn;obtain⟨h1,h2,h3,h4,h5,h6⟩:=hn;subst h6;refine zrB hi h1 h2 (fun w hI=>.inl (M.buildSlice vs hu hs hz hY h5 hf)) fun hH hA w hI=>?_;rintro _ w' ⟨b,rfl,hb,hs,hB,hk⟩;have da:VI Bs ((k,.own b cs e)::H) w':=hI.new hk k hB trivial (fun _ h=>h) JE;have db:Has Hs ((k,.own b cs e)::H):=hH.new h3;exact⟨(da.drop j).pick db h4,h b db Ju w' da⟩
end
section
variable {n:Fm} {pos:Pos}
theorem ztl (k m kk:Nat) (hn:hget H k=some (.own b cs t)) (hA:A.all (fun p=>match p.2 with | some (j,_)=>!Nat.beq k j | none=>true)=true) (hl:cs.length=m*kk) (hm:m<=9223372036854775807) (h:V P n Q ks pos env A (hset H k (.row t kk (.slice (some ⟨b,0,none⟩) m m) m cs)) Bs):V P n Q ks pos env A H Bs :=
 V.as (e':=.row t kk (.slice (some ⟨b,0,none⟩) m m) m cs) k hn hA (fun w hB=>by have:=zG (k:=kk) hB (ztM m) hm hl;rwa [<- hl,zts]at this) trivial (fun _ h=>h) (fun q hq=>(Option.some.inj hq).symm) h
end
theorem RowsOk.snoc {rows:List (List α)} (h:RowsOk enc e w rv rows) (hu:w.ownsRow 0 e 1 u r.length (r.map enc)) (dc:∀ g,u.ownBlock=some g->∀ (i:Nat) v,rv[i]?=some v->v.ownBlock ≠ some g):RowsOk enc e w (rv++[u]) (rows++[r]):=by
 have hY:=h.len
 have da:∀ (i:Nat) (v:Value),(rv++[u])[i]?=some v->(i<rv.length/\rv[i]?=some v)\/(i=rv.length/\v=u):=fun i v hv=>by
  by_cases hi:i<rv.length
  . rw[ztN hi]at hv;exact .inl ⟨hi,hv⟩
  have hl:=(ztB.1 hv).1;rw[ztv,ztI]at hl;obtain rfl:i=rv.length:=tO;rw[ztO tO,zwA]at hv;exact .inr ⟨rfl,tD⟩
 refine⟨tD,fun i v r' hv hr=>?_,fun i j vi vj g db hi hj hg=>?_⟩
 .
  rcases da i v hv with⟨h1,h2⟩ | ⟨rfl,rfl⟩
  .
   rw[ztN tO]at hr;exact h.row i v r' h2 hr
  rw[hY,ztO tO,zwA]at hr;obtain rfl:r=r':=tD;exact hu
 rcases da i vi hi with⟨h1,h2⟩ | ⟨rfl,rfl⟩
 .
  rcases da j vj hj with⟨h3,h4⟩ | ⟨rfl,rfl⟩
  . exact h.apart i j vi vj g db h2 h4 hg
  grind
 grind
theorem RowsOk.none:RowsOk enc e w [] ([]:List (List α)):=⟨rfl,fun i v r h=>tD,fun i j vi vj g _ h=>tD⟩
theorem qo (hq:∃ (i:Nat) (v:Value),(rv++[u])[i]?=some v/\v.ownBlock=some q):(∃ (i:Nat) (v:Value),rv[i]?=some v/\v.ownBlock=some q)\/u.ownBlock=some q:=by
 obtain⟨i,v,h1,h2⟩:=hq;by_cases hi:i<rv.length
 . exact .inl ⟨i,v,by rwa [ztN hi]at h1,h2⟩
 have hl:=(ztB.1 h1).1;rw[ztv,ztI]at hl;obtain rfl:i=rv.length:=tO;rw[ztO tO,zwA]at h1;obtain rfl:u=v:=tD;exact .inr h2
theorem qX (hI:VI Bs H w) (k k2:Nat) {rows:List (List α)} (h1:hget H k=some (RowsP enc e rv rows)) (h2:hget H k2=some (.row e 1 u m (r.map enc))) (hm:m=r.length) (hk:k ≠ k2):RowsOk enc e w (rv++[u]) (rows++[r]):=by
 subst hm;exact RowsOk.snoc (hI.at k h1) (hI.at k2 h2) fun g hg i v hv hY=>hI.sep h1 h2 hk (q:=g) ⟨i,v,hv,hY⟩ hg
theorem zaZ {α β:Type} {f g:α->List β}:∀ {l:List α},(∀ x ∈ l,f x=g x)->l.flatMap f=l.flatMap g
 | [],_=>rfl
 | x::l,h=>by rw[zv4,zv4,h x (ztr ..),zaZ fun y hy=>h y iq]
end Go.GL
namespace Go.Proofs.YtckdhgbepmpgiaaGreat
open Go.GL Go.GL.Dom
theorem yS {l:List Int} (k:Nat) (hY:l.length<=1048576) (hl:SlR 1 zv D w v l):Calls prog 101 #[v] w (Ret fun r w'=>∃ y:Option Addr × Nat,r=.slice y.1 l.length y.2/\Hands H [] [(k,.row 3 1 (.slice y.1 l.length y.2) l.length (l.map zb))] w w'):=by
 refine(zfq l v D w hl hY).mono ?_;rintro _ w' ⟨r,rfl,h1,h2,hk⟩;have e:l.flatMap zdx=l.map zb:=by rw[List.map_eq_flatMap];rfl
 rw[e]at h1;obtain⟨ao,co,rfl⟩:=zI h1;refine⟨_,rfl,(ao,co),rfl,hk.mono fun q _ h=>h.elim,fun x hx=>?_,zvX _ _⟩;rw[ztF]at hx;subst hx;exact UW
def phC (hfs has:List Value) (p:Phn × Nat):List Value:=[.int .i64 p.1.var,.int .i64 p.1.ver,hfs[p.2]?.getD undef,has[p.2]?.getD undef]
theorem znB (h1:p.2<hY.length) (h2:p.2<has.length) (u a:Value):phC (hY++[u]) (has++[a]) p=phC hY has p:=by
 unfold phC;rw[ztN h1,ztN h2]
structure PlS (g:List Nd) (nv:Nat) (E:List (Nat × Nat)) (ofl:List Int) (ndc hps:List Value) (pcs:List (List Value)) (hfs:List Value) (frs:List (List Int)) (has:List Value) (als:List (List Int)):Prop where
 of:ofl=ofE nv E
 hl:hps.length=g.length
 cl:pcs.length=g.length
 nl:g.length*3<=ndc.length
 n0:∀ j,j<g.length->ndc[j*3]?=hps[j]?
 n1:∀ j,j<g.length->ndc[j*3+1]?=some (.slice none 0 0)
 n2:∀ j,j<g.length->ndc[j*3+2]?=some (.int .i64 (-1))
 pc:∀ j,j<g.length->pcs[j]?=some ((pwE nv g E j).flatMap (phC hfs has))
 fl:hfs.length=E.length
 fr:frs=E.map fun e=>zi g e.2
 al:has.length=E.length
 as_:als=E.map fun e=>List.replicate (zJ g e.2).length 0
theorem PlS.snoc (h:PlS g nv E ofl ndc db pcs hY frs has als) {v:Nat} (hi:i<g.length) (x u a:Value) :
  PlS g nv (E++[(v,i)]) (ofl++[(v:Int)]) (ndc.set (i*3) x) (db.set i x) (pcs.set i ((pwE nv g E i).flatMap (phC hY has)++[.int .i64 (v:Int),.int .i64 (ofl.length:Nat),u,a])) (hY++[u]) (frs++[zi g i]) (has++[a]) (als++[List.replicate (zi g i).length 0]):=by
 have dc:=h.nl;have dg:=h.hl;have dh:=h.cl
 have da:∀ j,(pwE nv g E j).flatMap (phC (hY++[u]) (has++[a]))=(pwE nv g E j).flatMap (phC hY has):=fun j=>by
  refine zaZ fun p hp=>?_;obtain⟨v',a',ha,rfl⟩:=mem_pwE.1 hp;have:=(ztB.1 ha).1;exact znB (show a'<_ by rw[h.fl];exact this) (show a'<_ by rw[h.al];exact this) u a
 refine⟨by rw[h.of,zma],tD,tD,tD,fun j hj=>?_,fun j hj=>?_,fun j hj=>?_,fun j hj=>?_,by rw[ztv,ztv,h.fl];rfl,by rw[h.fr,zvv];rfl,by rw[ztv,ztv,h.al];rfl,by rw[h.as_,zvv];unfold zi;rw[ztH];rfl⟩
 .
  by_cases e:j=i
  .
   subst e;rw[zvk tO,zvk tO]
  rw[zvj tO,zvj (fun e'=>e e'.symm)];exact h.n0 j hj
 . rw[zvj tO];exact h.n1 j hj
 . rw[zvj tO];exact h.n2 j hj
 rw[zhg,zv3,da];by_cases e:j=i
 .
  subst e;rw[zty rfl,zvk tO];congr 2;show _=phC _ _ _++[];unfold phC;dsimp only;rw[zuF,ztO (by rw[h.fl];exact ztM _),ztO (by rw[h.al];exact ztM _),h.fl,h.al,zwA,h.of,zaG];rfl
 rw[ztx (fun e'=>e e'.symm),zvj (fun e'=>e e'.symm),List.flatMap_nil,zuF];exact h.pc j hj
abbrev zki (b gb bn cn nl:Nat) (ofv chv cuv:Value) (ofl:List Int) (ndc hps:List Value) (pcs:List (List Value)) (hfs:List Value) (frs:List (List Int)) (has:List Value) (als:List (List Int)):Hp :=
 [(900,.own b (rnm gb ofv (.slice (some ⟨bn,0,none⟩) nl cn) chv cuv) 123),(901,.row 3 1 ofv ofl.length (ofl.map zb)),(904,NodP bn ndc 59),(905,RowsCP 4 88 hps pcs),(906,RowsP zb 3 hfs frs),(909,RowsP zb 3 has als)]
theorem znC {v:Nat} (hY:yo g.length es 0=0) (h0:0<g.length):jy g.length es 0 (zaj f g g.length v)=0:=by
 unfold jy;rw[ztx tO,zty];rw[zuB];intro x hx;rw[decide_eq_true_iff]
 obtain⟨z,rfl⟩:∃ z:Nat,x=(z:Int):=by
  unfold zaj at hx;rcases ztD.1 hx with rfl | hx
  . exact⟨0,rfl⟩
  obtain⟨z,_,rfl⟩:=zvI.1 hx;exact⟨z,rfl⟩
 rcases dfsI_mem.1 hx with rfl | ⟨h1,_⟩
 . omega
 omega
theorem znD {L:List Int} {n:Nat} (h:L.Pairwise (·<·)) (hm:∀ y ∈ L,0<=y/\y<(n:Int)):L.length<=n:=by
 have h1:(L.map Int.toNat).Pairwise (·<·):=by
  rw[zvW];refine h.imp_of_mem fun {a b} ha hb hY=>?_;have:=hm a ha;have:=hm b hb;omega
 have h2:=Dfs.nodup_le n _ (h1.imp fun h=>Nat.ne_of_lt h) (fun x hx=>by
  grind)
 rwa [ztH]at h2
theorem zkj (nv:Nat) (g:List Nd) (E:List (Nat × Nat)) (i:Nat):(pwE nv g E i).length<=E.length:=by
 unfold pwE;refine ztt (List.length_filterMap_le _ _) ?_;rw[List.length_zipIdx];exact ztM _
def kE (v:Nat):Nat:=v*1000
theorem zkk (v:Nat):kE (v+1)=kE v+1000:=by unfold kE;omega
theorem zoQ {v:Nat} (h:v<=1000):kE v<=1000000:=by unfold kE;omega
theorem zmd (f:Fl) (g:List Nd) (i v:Nat):0<(zaj f g i v).length:=by unfold zaj;rw[ztQ];omega
theorem zme (n root:Int) (es:List (Int × Int)) (nodes:List Int) (ev nv:Value) (D D':Nat->Prop) (w:World) (hY:SlR 2 xu D w ev es) (hnv:SlR 1 zv D' w nv nodes) (da:n<=1000) (db:nodes.length<=1000) (dc:jy n es root nodes=0):Calls prog 100 #[.agg #[.int .i64 n,ev],.int .i64 root,nv] w (Ret fun v w'=>(∃ u,v=.tuple #[u,.int .i64 0]/\∃ Rw order pl T L,Known n.toNat root.toNat es Rw order pl T/\L.Pairwise (·<·)/\(∀ y:Int,y ∈ L ↔ ∃ b:Nat,y=(b:Int)/\ItS (xF Rw root.toNat) nodes b)/\SlR 1 zv (fun b=>w.heap.size<=b) w' u L)/\Ext w w'):=by
 refine(zge n root es nodes ev nv D D' w hY hnv da db).mono ?_;rintro e w' ⟨v,rfl,u,rfl,_,h,hk⟩;exact⟨_,rfl,⟨u,tD,h dc⟩,hk⟩
theorem zgk (ht:TreeG g Rw order pl T) (d5:Known g.length 0 es Rw order pl T) (dm:yo g.length es 0=0) (d6:∀ a b:Nat,((a:Int),(b:Int)) ∈ es->a<g.length) (hk:GOk f g) (_:DefOk f g) (dS:zJ g 0=[]) (d7:0<g.length) (eG:g.length<=999) (eH:f.vars.length<=1000) (ev:Value) (b gb bn cn:Nat) (ofv chv cuv:Value) (D:Nat->Prop) (W:World) (dT:SlR 2 xu D W ev es) (hG:GrO D W f g gb)
 {dh:List Value} (d8:PlS g f.vars.length [] ofl ndc dh pcs [] [] [] []) (hE:Held (zki b gb bn cn g.length ofv chv cuv ofl ndc dh pcs [] [] [] []) W) (hY:∀ q,HS (zki b gb bn cn g.length ofv chv cuv ofl ndc dh pcs [] [] [] []) q->¬ D q) :
  Calls prog 54 #[.pointer (some ⟨b,0,none⟩),.agg #[.int .i64 g.length,ev]] W (Ret fun r w'=>∃ y:List (Nat × Nat) × Value × List Int × List Value × List Value × List (List Value) × List Value × List (List Int) × List Value × List (List Int),(r=.int .i64 0/\PlcV f g (xF Rw 0) f.vars.length y.1/\PlS g f.vars.length y.1 y.2.2.1 y.2.2.2.1 y.2.2.2.2.1 y.2.2.2.2.2.1 y.2.2.2.2.2.2.1 y.2.2.2.2.2.2.2.1 y.2.2.2.2.2.2.2.2.1 y.2.2.2.2.2.2.2.2.2/\y.1.length<=kE f.vars.length)/\GBack (zki b gb bn cn g.length ofv chv cuv ofl ndc dh pcs [] [] [] []) (zki b gb bn cn g.length y.2.1 chv cuv y.2.2.1 y.2.2.2.1 y.2.2.2.2.1 y.2.2.2.2.2.1 y.2.2.2.2.2.2.1 y.2.2.2.2.2.2.2.1 y.2.2.2.2.2.2.2.2.1 y.2.2.2.2.2.2.2.2.2) W w'):=by
 obtain⟨v1,v2,v3,gv,sv,pv,dB,dC,hf,dU,_,dV⟩:=id hG;have dD:=hf.vars;obtain⟨avs,cvs,rfl⟩:=dD.form;have eI:=dD.max;obtain⟨ag,cg,rfl⟩:=dU.form;have eJ:=dU.max;obtain⟨apr,cpr,rfl⟩:=dV.form;have d9:(zf5 g).length=g.length:=by unfold zf5;rw[ztH,zvs]
 obtain⟨aev,cev,rfl⟩:=dT.form
 have dE:∀ i,(zi g i).length<=999:=fun i=>by
  unfold zi zJ
  grind
 refine zqR func54 O ntmps54 O (zse [(900,.own b [.pointer (some ⟨gb,0,none⟩),ofv,.slice (some ⟨bn,0,none⟩) g.length cn,chv,cuv] 123),(901,.row 3 1 ofv ofl.length (ofl.map zb)),(904,NodP bn ndc 59),(905,RowsCP 4 88 dh pcs),(906,RowsP zb 3 [] ([]:List (List Int))),(909,RowsP zb 3 [] ([]:List (List Int)))] hE.1 hE.2 (zre 0 900 0 O O (zrG 960 0 O O (fun h=>hY _ h dB) dC (Vs 2 O (V.box 3 O O (fun b3=>?_))))));refine Vs 10 O (zre 17 960 0 O O (Vs 9 O (zrM (σ:=Nat × List (Nat × Nat) × Value × List Int × List Value × List Value × List (List Value) × List Value × List (List Int) × List Value × List (List Int)) [0,3,21,22] [3,960] [0,3] O (fun e ⟨v,E,ov,ol,nd,hp,pc,db,fr,ha,al⟩=>(4,.int .i64 0)::(23,.int .i64 v)::e) (fun e ⟨v,E,ov,ol,nd,hp,pc,db,fr,ha,al⟩=>(900,.own b [.pointer (some ⟨gb,0,none⟩),ov,.slice (some ⟨bn,0,none⟩) g.length cn,chv,cuv] 123)::(901,.row 3 1 ov ol.length (ol.map zb))::(904,NodP bn nd 59)::(905,RowsCP 4 88 hp pc)::(906,RowsP zb 3 db fr)::(909,RowsP zb 3 ha al)::e) (fun⟨v,E,ov,ol,nd,hp,pc,db,fr,ha,al⟩=>v<=f.vars.length/\PlcV f g (xF Rw 0) v E/\PlS g f.vars.length E ol nd hp pc db fr ha al/\E.length<=kE v) (fun⟨v,E,ov,ol,nd,hp,pc,db,fr,ha,al⟩=>f.vars.length - v) (0,[],ofv,ofl,ndc,dh,pcs,[],[],[],[]) j2 j3 j1 j1 j1 ⟨ztC _,PlcV.start _ _ _,d8,ztC _⟩ ?_)));rintro⟨v,E,ov,ol,nd,hp,pc,db,fr,ha,al⟩ ⟨hv,dz,dg,eb⟩;have eK:=zoQ (v:=v) tO;have dW:E.length<=kE (v+1):=by rw[zkk];omega
 refine Vs 6 O (zp4 O (fun lv=>?_) (fun lv=>?_))
 .
  refine Vs 7 O (zrH 1000 0 v tO dD O O O (fun b_ d_ h_=>by have dF:=hY _ h_;first | omega | exact dF d_) (fun x eL eM eN dG ec dH ed dI=>?_));obtain rfl:=dI;refine zrg 1000 tR22 ts142 O dH tO _ rfl O (Vs 1 O (V.alloc 6 tz142 O O (fun b6=>?_)));refine Vs 12 O (zp4 O (fun kd=>?_) (fun kd=>?_))
  .
   have dJ:∀ i,¬ zol f g (xF Rw 0) v i:=by
    rintro i ⟨⟨x',eO,eP⟩,_⟩
    grind
   refine Va 8 O tO (V.back ⟨v+1,E,ov,ol,nd,hp,pc,db,fr,ha,al⟩ j2 j3 ⟨tO,dz.skip dJ,dg,dW⟩ tD 0 O O)
  have dK:zoP f v:=⟨x,dG,tO⟩;refine Vs 4 O (zrP 31 [(0,_)] tR27 ts3 tz3 tS O O tK (fun b31=>?_));refine Vs 10 O (zre 35 960 0 O O (Vs 8 O (ztl 31 1 1 O O O tS (zrL 31 O (e':=.row 3 1 (.slice (some ⟨b31,0,none⟩) 1 1) (zaj f g 0 v).length ((zaj f g 0 v).map zb)) rfl (zrM (σ:=Nat × Value) [0,3,4,5,21,22,23,39] [3,900,901,904,905,906,909,960] [0,3] O (fun e ⟨j,u⟩=>(40,.int .i64 j)::(7,u)::e) (fun e ⟨j,u⟩=>(31,.row 3 1 u (zaj f g j v).length ((zaj f g j v).map zb))::e) (fun⟨j,u⟩=>j<=g.length) (fun⟨j,u⟩=>g.length - j) (0,.slice (some ⟨b31,0,none⟩) 1 1) j2 j3 j1 j1 j1 (ztC _) ?_)))));rintro⟨j,u⟩ hj;have eQ:=zmb f g j v;refine Vs 6 O (zp4 O (fun lj=>?_) (fun lj=>?_))
  .
   refine Vs 16 O (zre 46 960 0 O O (Vs 1 O (zrs call79 O (fun w hI=>jq f g hk j tO gb D w (hG.keep hI.k0 fun q hd _ h=>hY q h hd)) (Vs 4 O (zp4 O (fun de=>?_) (fun de=>?_))))))
   .
    refine Vs 3 O (zrP 53 [(0,_)] tR27 ts3 tz3 tS O O tK (fun b53=>?_));refine zrl 31 53 tu27 Tryz.el3 O tS O O tO tO (fun u31=>(Va 8 O tO (zrL 31 O (e':=.row 3 1 u31 (zaj f g (j+1) v).length ((zaj f g (j+1) v).map zb)) (by rw[zfy,zty de,ztv,zvv];rfl) (V.back ⟨j+1,u31⟩ j2 j3 tO tD 0 O O))))
   refine zrL 31 O (e':=.row 3 1 u (zaj f g (j+1) v).length ((zaj f g (j+1) v).map zb)) (by rw[zfy,ztx de,zuF]) (Va 7 O tO (V.back ⟨j+1,u⟩ j2 j3 tO tD 0 O O))
  obtain rfl:j=g.length:=tO;refine zrn 31 O (zmd f g g.length v) ?_;rintro bd cd rfl dA;refine Vs 13 O (zp4 O (fun l1=>?_) (fun l1=>?_))
  .
   have dJ:∀ i,¬ zol f g (xF Rw 0) v i:=by
    rintro i ⟨_,⟨z,hz,e⟩,_⟩;exact zmc tO z hz e
   refine Va 8 O tO (V.back ⟨v+1,E,ov,ol,nd,hp,pc,db,fr,ha,al⟩ j2 j3 ⟨tO,dz.skip dJ,dg,dW⟩ tD 0 O O)
  have ee:=zkf (f:=f) (g:=g) (i:=g.length) (v:=v) tO;have ef:=znC (f:=f) (v:=v) dm d7;refine Vs 6 O (zru call100 O (fun w hI=>zme g.length 0 es (zaj f g g.length v) _ _ D (fun _=>True) w (dT.keep qK hI.k0 fun q hd _ h=>hY q h hd) (zqa zb j9 (hI.at 31 O) (fun _ _=>trivial)) tO tO ef) ?_);rintro r w1 w2 eR eh ⟨u2,rfl,Rw',o',pl',T',L,dr,dX,ei,hL⟩ dt;rw[ztJ]at dr;have dY:=zgj d5 dr d6
  have dl:∀ y:Int,y ∈ L ↔ ∃ z:Nat,y=(z:Int)/\ItS (xF Rw 0) (zaj f g g.length v) z:=fun y=>by
   rw[ei];exact⟨fun⟨z,e,h⟩=>⟨z,e,zfx (fun a c=>(dY a c).symm) h⟩,fun⟨z,e,h⟩=>⟨z,e,zfx dY h⟩⟩
  have eS:=znD (n:=g.length) dX fun y hy=>by
   obtain⟨z,rfl,hz⟩:=(dl y).1 hy;have:=(zhi ht dS hz).1;omega
  obtain⟨aL,cL,rfl⟩:=hL.form;have ej:=hL.max;refine Vs 14 O (zp4 O (fun c0=>?_) (fun c0=>?_))
  . omega
  refine Vs 10 O (zrM (σ:=Nat × Value × List Int × List Value × List Value × List (List Value) × List Value × List (List Int) × List Value × List (List Int)) [0,3,4,5,21,22,23,68,69] [3,960] [0,3] O (fun e ⟨k,ov,ol,nd,hp,pc,db,fr,ha,al⟩=>(70,.int .i64 k)::e) (fun e ⟨k,ov,ol,nd,hp,pc,db,fr,ha,al⟩=>(900,.own b [.pointer (some ⟨gb,0,none⟩),ov,.slice (some ⟨bn,0,none⟩) g.length cn,chv,cuv] 123)::(901,.row 3 1 ov ol.length (ol.map zb))::(904,NodP bn nd 59)::(905,RowsCP 4 88 hp pc)::(906,RowsP zb 3 db fr)::(909,RowsP zb 3 ha al)::e) (fun⟨k,ov,ol,nd,hp,pc,db,fr,ha,al⟩=>k<=L.length/\PlS g f.vars.length (zhh E v (L.take k)) ol nd hp pc db fr ha al) (fun⟨k,ov,ol,nd,hp,pc,db,fr,ha,al⟩=>L.length - k) (0,ov,ol,nd,hp,pc,db,fr,ha,al) j2 j3 j1 j1 j1 ⟨ztC _,by rw[zwf];show PlS g _ (E++[]) ol nd hp pc db fr ha al;rw[zuF];exact dg⟩ ?_);rintro⟨k,ov,ol,nd,hp,pc,db,fr,ha,al⟩ ⟨eT,dc⟩;refine Vs 6 O (zp4 O (fun lk=>?_) (fun lk=>?_))
  .
   refine Vs 6 O (zrH 2000 0 k tO hL O O O (fun b_ d_ h_=>by have dF:=dt _ h_;first | omega | exact dF d_) (fun y eU eV eW dL dM dN ek dO=>?_));obtain rfl:=dO;refine zrg 2000 tR27 ts3 O dN tO _ rfl O ?_;obtain⟨i,rfl,hJ⟩:=(dl y).1 dM;have hi:=(zhi ht dS hJ).1;have eX:=dE i
   have em:(zhh E v (L.take k)).length<=1001000:=by
    unfold zhh
    grind
   have er:ol.length<=1003000:=by
    rw[dc.of,zaG];omega
   have ew:=dc.nl;have ez:=dc.hl;have eA:=dc.cl;obtain⟨eY,eZ,fb,du,dw,dx,dQ⟩:=dV.atD (zdO hi);obtain⟨vr,rfl,da⟩:=dQ;obtain⟨ar,nr,rfl⟩:=da.form;refine Vs 5 O (zrN (σ:=Value × (Option Addr × Nat) × Nat × Nat) [0,3,4,5,12,21,22,23,68,69,70] [3,904,905,906,909,960] [0,3] O (fun e ⟨ov2,cu2,ba,bp⟩=>(13,.pointer (some ⟨bp,0,none⟩))::e) (fun e ⟨ov2,cu2,ba,bp⟩=>(900,.own b [.pointer (some ⟨gb,0,none⟩),ov2,.slice (some ⟨bn,0,none⟩) g.length cn,chv,cuv] 123)::(901,.row 3 1 ov2 (ol++[(v:Int)]).length ((ol++[(v:Int)]).map zb))::(13,.own bp [.int .i64 v,.int .i64 (ol.length:Nat),.slice cu2.1 (zi g i).length cu2.2,.slice (some ⟨ba,0,none⟩) (zi g i).length (zi g i).length] 88)::(961,.row 3 1 (.slice cu2.1 (zi g i).length cu2.2) (zi g i).length ((zi g i).map zb))::(100,.row 3 1 (.slice (some ⟨ba,0,none⟩) (zi g i).length (zi g i).length) (zi g i).length (List.replicate (zi g i).length (.int .i64 0)))::e) (fun⟨ov2,cu2,ba,bp⟩=>True) j1 j1 ?_ ?_)
   .
    refine ztj (fun w=>Keep (HS (zki b gb bn cn g.length ofv chv cuv ofl ndc dh pcs [] [] [] [])) W w/\w.cell? ⟨b,0,none⟩=some (.pointer (some ⟨gb,0,none⟩))) [29] O (Vx [0,1,2,4,5,6,11,15,16,17,22] tK O (ztk 7 O tK O (fun w hI=>⟨hI.k1,zte (j:=0) (show Blk w b _ _ from hI.at 900 O) O rfl⟩) (fun w hS=>R.load isAgg94 O (v:=.pointer (some ⟨gb,0,none⟩)) hS.2) (Vx [8,9] tK O (ztk 10 O tK O (fun w hI=>⟨hI.k1,zte (j:=0) (show Blk w b _ _ from hI.at 900 O) O rfl⟩) (fun w hS=>R.load tg89 O (v:=.slice apr (zf5 g).length cpr) (hS.1.cells dC (fun h=>hY _ h dB) 5 _ O)) ?_))));refine zs0 12 O tK O (fun w=>zpH tR89 ts27 O O du ⟨tO,tO⟩) (ztk 13 O tK O (fun w hI=>⟨hI.k1,zte (j:=0) (show Blk w b _ _ from hI.at 900 O) O rfl⟩) (fun w hS=>R.load tg27 O (v:=.slice ar (zi g i).length nr) J4) (ztk 18 O tK O (fun w hI=>⟨hI.k1,zte (j:=0) (show Blk w b _ _ from hI.at 900 O) O rfl⟩) (fun w hS=>R.load isAgg94 O (v:=.pointer (some ⟨gb,0,none⟩)) hS.2) ?_));refine Vx [19,20] tK O (ztk 21 O tK O (fun w hI=>⟨hI.k1,zte (j:=0) (show Blk w b _ _ from hI.at 900 O) O rfl⟩) (fun w hS=>R.load tg89 O (v:=.slice apr (zf5 g).length cpr) (hS.1.cells dC (fun h=>hY _ h dB) 5 _ O)) (zs0 23 O tK O (fun w=>zpH tR89 ts27 O O du ⟨tO,tO⟩) (ztk 24 O tK O (fun w hI=>⟨hI.k1,zte (j:=0) (show Blk w b _ _ from hI.at 900 O) O rfl⟩) (fun w hS=>R.load tg27 O (v:=.slice ar (zi g i).length nr) J4) ?_)));refine Vx [25] tK O (zsX 3 [26,28] tK ⟨zsh 3 [900,901] (Hn:=fun y:Value=>[(900,.own b [.pointer (some ⟨gb,0,none⟩),y,.slice (some ⟨bn,0,none⟩) g.length cn,chv,cuv] 123),(901,.row 3 1 y (ol++[(v:Int)]).length ((ol++[(v:Int)]).map zb))]) [(0,some (900,0)),(3,some (3,0)),(72,some (2000,0)),(75,some (900,0)),(78,some (900,0)),(79,some (900,0)),(80,some (900,0)),(89,some (900,0)),(90,some (900,0)),(91,some (900,0))] tc53 O O j9 j1 (fun y_ w hI=>⟨hI.k1,zte (j:=0) (show Blk w b _ _ from hI.at 900 O) O rfl⟩) ij ?_,zpZ 26 100 tu27 Tryz.el3 O O tO tO (zs:=List.replicate (zi g i).length (.int .i64 0)) JY tR (fun b_ w hI=>⟨hI.k1,zte (j:=0) (show Blk w b _ _ from hI.at 900 O) O rfl⟩) (fun b100=>?_),zrd 28 13 O O (fun _ _=>M.alloc tz88 O) (fun b_ w hI=>⟨hI.k1,zte (j:=0) (show Blk w b _ _ from hI.at 900 O) O rfl⟩) (fun b13=>?_),True.intro⟩)
    .
     rintro _ ov2 rfl;refine zsX 14 [26,28] tK ⟨zsh 14 [] (Hn:=fun y:Option Addr × Nat=>[(961,.row 3 1 (.slice y.1 (zi g i).length y.2) (zi g i).length ((zi g i).map zb))]) [(0,some (900,0)),(3,some (3,0)),(72,some (2000,0)),(75,some (900,0)),(78,some (900,0)),(79,some (900,0)),(80,some (900,0)),(89,some (900,0)),(90,some (900,0)),(91,some (900,0))] tc101 O O j9 j1 (fun y_ w hI=>⟨hI.k1,zte (j:=0) (show Blk w b _ _ from hI.at 900 O) O rfl⟩) iB ?_,zpZ 26 100 tu27 Tryz.el3 O O tO tO (zs:=List.replicate (zi g i).length (.int .i64 0)) JY tR (fun b_ w hI=>⟨hI.k1,zte (j:=0) (show Blk w b _ _ from hI.at 900 O) O rfl⟩) (fun b100=>?_),zrd 28 13 O O (fun _ _=>M.alloc tz88 O) (fun b_ w hI=>⟨hI.k1,zte (j:=0) (show Blk w b _ _ from hI.at 900 O) O rfl⟩) (fun b13=>?_),True.intro⟩
     .
      rintro _ ⟨au,cu⟩ rfl;refine zsX 26 [28] tK ⟨zpZ 26 100 tu27 Tryz.el3 O O tO tO (zs:=List.replicate (zi g i).length (.int .i64 0)) JY tR (fun b_ w hI=>⟨hI.k1,zte (j:=0) (show Blk w b _ _ from hI.at 900 O) O rfl⟩) (fun b100=>?_),zrd 28 13 O O (fun _ _=>M.alloc tz88 O) (fun b_ w hI=>⟨hI.k1,zte (j:=0) (show Blk w b _ _ from hI.at 900 O) O rfl⟩) (fun b13=>?_),True.intro⟩
      .
       refine zrY 27 [Value.int IntKind.i64 0,Value.int IntKind.i64 0,Value.slice none 0 0,Value.slice none 0 0] [(0,1),(1,1),(2,1),(3,1)] [(0,_),(1,_),(2,_),(3,_)] O tK O O (fun _=>tK) (zsX 28 [] tK ⟨zrd 28 13 O O (fun _ _=>M.alloc tz88 O) (fun b_ w hI=>⟨hI.k1,zte (j:=0) (show Blk w b _ _ from hI.at 900 O) O rfl⟩) (fun b13=>?_),True.intro⟩)
       . refine zrF 29 Tryz.szsOk O tK O U7
      refine zsX 26 [] tK ⟨zpZ 26 100 tu27 Tryz.el3 O O tO tO (zs:=List.replicate (zi g i).length (.int .i64 0)) JY tR (fun b_ w hI=>⟨hI.k1,zte (j:=0) (show Blk w b _ _ from hI.at 900 O) O rfl⟩) (fun b100=>?_),True.intro⟩
      . refine zrY 27 [Value.int IntKind.i64 0,Value.int IntKind.i64 0,Value.slice none 0 0,Value.slice none 0 0] [(0,1),(1,1),(2,1),(3,1)] [(0,_),(1,_),(2,_),(3,_)] O tK O O (fun _=>tK) Ua
     .
      refine zsX 14 [28] tK ⟨zsh 14 [] (Hn:=fun y:Option Addr × Nat=>[(961,.row 3 1 (.slice y.1 (zi g i).length y.2) (zi g i).length ((zi g i).map zb))]) [(0,some (900,0)),(3,some (3,0)),(72,some (2000,0)),(75,some (900,0)),(78,some (900,0)),(79,some (900,0)),(80,some (900,0)),(89,some (900,0)),(90,some (900,0)),(91,some (900,0))] tc101 O O j9 j1 (fun y_ w hI=>⟨hI.k1,zte (j:=0) (show Blk w b _ _ from hI.at 900 O) O rfl⟩) iB ?_,zrd 28 13 O O (fun _ _=>M.alloc tz88 O) (fun b_ w hI=>⟨hI.k1,zte (j:=0) (show Blk w b _ _ from hI.at 900 O) O rfl⟩) (fun b13=>?_),True.intro⟩
      .
       rintro _ ⟨au,cu⟩ rfl;refine zrY 27 [Value.int IntKind.i64 0,Value.int IntKind.i64 0,Value.slice none 0 0,Value.slice none 0 0] [(0,1),(1,1),(2,1),(3,1)] [(0,_),(1,_),(2,_),(3,_)] O tK O O (fun _=>tK) (zsX 28 [] tK ⟨zrd 28 13 O O (fun _ _=>M.alloc tz88 O) (fun b_ w hI=>⟨hI.k1,zte (j:=0) (show Blk w b _ _ from hI.at 900 O) O rfl⟩) (fun b13=>?_),True.intro⟩)
       . refine zrF 29 Tryz.szsOk O tK O U7
      refine zsX 14 [] tK ⟨zsh 14 [] (Hn:=fun y:Option Addr × Nat=>[(961,.row 3 1 (.slice y.1 (zi g i).length y.2) (zi g i).length ((zi g i).map zb))]) [(0,some (900,0)),(3,some (3,0)),(13,some (13,0)),(72,some (2000,0)),(75,some (900,0)),(78,some (900,0)),(79,some (900,0)),(80,some (900,0)),(89,some (900,0)),(90,some (900,0)),(91,some (900,0))] tc101 O O j9 j1 (fun y_ w hI=>⟨hI.k1,zte (j:=0) (show Blk w b _ _ from hI.at 900 O) O rfl⟩) iB ?_,True.intro⟩
      .
       rintro _ ⟨au,cu⟩ rfl;refine zrY 27 [Value.int IntKind.i64 0,Value.int IntKind.i64 0,Value.slice none 0 0,Value.slice none 0 0] [(0,1),(1,1),(2,1),(3,1)] [(0,_),(1,_),(2,_),(3,_)] O tK O O (fun _=>tK) Ua
     refine zsX 14 [26] tK ⟨zsh 14 [] (Hn:=fun y:Option Addr × Nat=>[(961,.row 3 1 (.slice y.1 (zi g i).length y.2) (zi g i).length ((zi g i).map zb))]) [(0,some (900,0)),(3,some (3,0)),(13,some (13,0)),(72,some (2000,0)),(75,some (900,0)),(78,some (900,0)),(79,some (900,0)),(80,some (900,0)),(89,some (900,0)),(90,some (900,0)),(91,some (900,0))] tc101 O O j9 j1 (fun y_ w hI=>⟨hI.k1,zte (j:=0) (show Blk w b _ _ from hI.at 900 O) O rfl⟩) iB ?_,zpZ 26 100 tu27 Tryz.el3 O O tO tO (zs:=List.replicate (zi g i).length (.int .i64 0)) JY tR (fun b_ w hI=>⟨hI.k1,zte (j:=0) (show Blk w b _ _ from hI.at 900 O) O rfl⟩) (fun b100=>?_),True.intro⟩
     .
      rintro _ ⟨au,cu⟩ rfl;refine zsX 26 [] tK ⟨zpZ 26 100 tu27 Tryz.el3 O O tO tO (zs:=List.replicate (zi g i).length (.int .i64 0)) JY tR (fun b_ w hI=>⟨hI.k1,zte (j:=0) (show Blk w b _ _ from hI.at 900 O) O rfl⟩) (fun b100=>?_),True.intro⟩
      . refine zrY 27 [Value.int IntKind.i64 0,Value.int IntKind.i64 0,Value.slice none 0 0,Value.slice none 0 0] [(0,1),(1,1),(2,1),(3,1)] [(0,_),(1,_),(2,_),(3,_)] O tK O O (fun _=>tK) Ua
     refine zsX 14 [] tK ⟨zsh 14 [] (Hn:=fun y:Option Addr × Nat=>[(961,.row 3 1 (.slice y.1 (zi g i).length y.2) (zi g i).length ((zi g i).map zb))]) [(0,some (900,0)),(3,some (3,0)),(13,some (13,0)),(72,some (2000,0)),(75,some (900,0)),(78,some (900,0)),(79,some (900,0)),(80,some (900,0)),(89,some (900,0)),(90,some (900,0)),(91,some (900,0))] tc101 O O j9 j1 (fun y_ w hI=>⟨hI.k1,zte (j:=0) (show Blk w b _ _ from hI.at 900 O) O rfl⟩) iB ?_,True.intro⟩
     .
      rintro _ ⟨au,cu⟩ rfl;refine zrY 27 [Value.int IntKind.i64 0,Value.int IntKind.i64 0,Value.slice none 0 0,Value.slice none 0 0] [(0,1),(1,1),(2,1),(3,1)] [(0,_),(1,_),(2,_),(3,_)] O tK O O (fun _=>tK) Ua
    .
     refine zsX 3 [28] tK ⟨zsh 3 [900,901] (Hn:=fun y:Value=>[(900,.own b [.pointer (some ⟨gb,0,none⟩),y,.slice (some ⟨bn,0,none⟩) g.length cn,chv,cuv] 123),(901,.row 3 1 y (ol++[(v:Int)]).length ((ol++[(v:Int)]).map zb))]) [(0,some (900,0)),(3,some (3,0)),(72,some (2000,0)),(75,some (900,0)),(78,some (900,0)),(79,some (900,0)),(80,some (900,0)),(89,some (900,0)),(90,some (900,0)),(91,some (900,0))] tc53 O O j9 j1 (fun y_ w hI=>⟨hI.k1,zte (j:=0) (show Blk w b _ _ from hI.at 900 O) O rfl⟩) ij ?_,zrd 28 13 O O (fun _ _=>M.alloc tz88 O) (fun b_ w hI=>⟨hI.k1,zte (j:=0) (show Blk w b _ _ from hI.at 900 O) O rfl⟩) (fun b13=>?_),True.intro⟩
     .
      rintro _ ov2 rfl;refine zsX 14 [28] tK ⟨zsh 14 [] (Hn:=fun y:Option Addr × Nat=>[(961,.row 3 1 (.slice y.1 (zi g i).length y.2) (zi g i).length ((zi g i).map zb))]) [(0,some (900,0)),(3,some (3,0)),(72,some (2000,0)),(75,some (900,0)),(78,some (900,0)),(79,some (900,0)),(80,some (900,0)),(89,some (900,0)),(90,some (900,0)),(91,some (900,0))] tc101 O O j9 j1 (fun y_ w hI=>⟨hI.k1,zte (j:=0) (show Blk w b _ _ from hI.at 900 O) O rfl⟩) iB ?_,zrd 28 13 O O (fun _ _=>M.alloc tz88 O) (fun b_ w hI=>⟨hI.k1,zte (j:=0) (show Blk w b _ _ from hI.at 900 O) O rfl⟩) (fun b13=>?_),True.intro⟩
      .
       rintro _ ⟨au,cu⟩ rfl;refine zrY 27 [Value.int IntKind.i64 0,Value.int IntKind.i64 0,Value.slice none 0 0,Value.slice none 0 0] [(0,1),(1,1),(2,1),(3,1)] [(0,_),(1,_),(2,_),(3,_)] O tK O O (fun _=>tK) (zsX 28 [] tK ⟨zrd 28 13 O O (fun _ _=>M.alloc tz88 O) (fun b_ w hI=>⟨hI.k1,zte (j:=0) (show Blk w b _ _ from hI.at 900 O) O rfl⟩) (fun b13=>?_),True.intro⟩)
       . refine zrF 29 Tryz.szsOk O tK O U7
      refine zsX 14 [] tK ⟨zsh 14 [] (Hn:=fun y:Option Addr × Nat=>[(961,.row 3 1 (.slice y.1 (zi g i).length y.2) (zi g i).length ((zi g i).map zb))]) [(0,some (900,0)),(3,some (3,0)),(13,some (13,0)),(72,some (2000,0)),(75,some (900,0)),(78,some (900,0)),(79,some (900,0)),(80,some (900,0)),(89,some (900,0)),(90,some (900,0)),(91,some (900,0))] tc101 O O j9 j1 (fun y_ w hI=>⟨hI.k1,zte (j:=0) (show Blk w b _ _ from hI.at 900 O) O rfl⟩) iB ?_,True.intro⟩
      .
       rintro _ ⟨au,cu⟩ rfl;refine zrY 27 [Value.int IntKind.i64 0,Value.int IntKind.i64 0,Value.slice none 0 0,Value.slice none 0 0] [(0,1),(1,1),(2,1),(3,1)] [(0,_),(1,_),(2,_),(3,_)] O tK O O (fun _=>tK) Ua
     refine zsX 3 [] tK ⟨zsh 3 [900,901] (Hn:=fun y:Value=>[(900,.own b [.pointer (some ⟨gb,0,none⟩),y,.slice (some ⟨bn,0,none⟩) g.length cn,chv,cuv] 123),(901,.row 3 1 y (ol++[(v:Int)]).length ((ol++[(v:Int)]).map zb))]) [(0,some (900,0)),(3,some (3,0)),(13,some (13,0)),(72,some (2000,0)),(75,some (900,0)),(78,some (900,0)),(79,some (900,0)),(80,some (900,0)),(89,some (900,0)),(90,some (900,0)),(91,some (900,0))] tc53 O O j9 j1 (fun y_ w hI=>⟨hI.k1,zte (j:=0) (show Blk w b _ _ from hI.at 900 O) O rfl⟩) ij ?_,True.intro⟩
     .
      rintro _ ov2 rfl;refine zsX 14 [] tK ⟨zsh 14 [] (Hn:=fun y:Option Addr × Nat=>[(961,.row 3 1 (.slice y.1 (zi g i).length y.2) (zi g i).length ((zi g i).map zb))]) [(0,some (900,0)),(3,some (3,0)),(13,some (13,0)),(72,some (2000,0)),(75,some (900,0)),(78,some (900,0)),(79,some (900,0)),(80,some (900,0)),(89,some (900,0)),(90,some (900,0)),(91,some (900,0))] tc101 O O j9 j1 (fun y_ w hI=>⟨hI.k1,zte (j:=0) (show Blk w b _ _ from hI.at 900 O) O rfl⟩) iB ?_,True.intro⟩
      .
       rintro _ ⟨au,cu⟩ rfl;refine zrY 27 [Value.int IntKind.i64 0,Value.int IntKind.i64 0,Value.slice none 0 0,Value.slice none 0 0] [(0,1),(1,1),(2,1),(3,1)] [(0,_),(1,_),(2,_),(3,_)] O tK O O (fun _=>tK) Ua
    refine zsX 3 [26] tK ⟨zsh 3 [900,901] (Hn:=fun y:Value=>[(900,.own b [.pointer (some ⟨gb,0,none⟩),y,.slice (some ⟨bn,0,none⟩) g.length cn,chv,cuv] 123),(901,.row 3 1 y (ol++[(v:Int)]).length ((ol++[(v:Int)]).map zb))]) [(0,some (900,0)),(3,some (3,0)),(13,some (13,0)),(72,some (2000,0)),(75,some (900,0)),(78,some (900,0)),(79,some (900,0)),(80,some (900,0)),(89,some (900,0)),(90,some (900,0)),(91,some (900,0))] tc53 O O j9 j1 (fun y_ w hI=>⟨hI.k1,zte (j:=0) (show Blk w b _ _ from hI.at 900 O) O rfl⟩) ij ?_,zpZ 26 100 tu27 Tryz.el3 O O tO tO (zs:=List.replicate (zi g i).length (.int .i64 0)) JY tR (fun b_ w hI=>⟨hI.k1,zte (j:=0) (show Blk w b _ _ from hI.at 900 O) O rfl⟩) (fun b100=>?_),True.intro⟩
    .
     rintro _ ov2 rfl;refine zsX 14 [26] tK ⟨zsh 14 [] (Hn:=fun y:Option Addr × Nat=>[(961,.row 3 1 (.slice y.1 (zi g i).length y.2) (zi g i).length ((zi g i).map zb))]) [(0,some (900,0)),(3,some (3,0)),(13,some (13,0)),(72,some (2000,0)),(75,some (900,0)),(78,some (900,0)),(79,some (900,0)),(80,some (900,0)),(89,some (900,0)),(90,some (900,0)),(91,some (900,0))] tc101 O O j9 j1 (fun y_ w hI=>⟨hI.k1,zte (j:=0) (show Blk w b _ _ from hI.at 900 O) O rfl⟩) iB ?_,zpZ 26 100 tu27 Tryz.el3 O O tO tO (zs:=List.replicate (zi g i).length (.int .i64 0)) JY tR (fun b_ w hI=>⟨hI.k1,zte (j:=0) (show Blk w b _ _ from hI.at 900 O) O rfl⟩) (fun b100=>?_),True.intro⟩
     .
      rintro _ ⟨au,cu⟩ rfl;refine zsX 26 [] tK ⟨zpZ 26 100 tu27 Tryz.el3 O O tO tO (zs:=List.replicate (zi g i).length (.int .i64 0)) JY tR (fun b_ w hI=>⟨hI.k1,zte (j:=0) (show Blk w b _ _ from hI.at 900 O) O rfl⟩) (fun b100=>?_),True.intro⟩
      . refine zrY 27 [Value.int IntKind.i64 0,Value.int IntKind.i64 0,Value.slice none 0 0,Value.slice none 0 0] [(0,1),(1,1),(2,1),(3,1)] [(0,_),(1,_),(2,_),(3,_)] O tK O O (fun _=>tK) Ua
     refine zsX 14 [] tK ⟨zsh 14 [] (Hn:=fun y:Option Addr × Nat=>[(961,.row 3 1 (.slice y.1 (zi g i).length y.2) (zi g i).length ((zi g i).map zb))]) [(0,some (900,0)),(3,some (3,0)),(13,some (13,0)),(72,some (2000,0)),(75,some (900,0)),(78,some (900,0)),(79,some (900,0)),(80,some (900,0)),(89,some (900,0)),(90,some (900,0)),(91,some (900,0))] tc101 O O j9 j1 (fun y_ w hI=>⟨hI.k1,zte (j:=0) (show Blk w b _ _ from hI.at 900 O) O rfl⟩) iB ?_,True.intro⟩
     .
      rintro _ ⟨au,cu⟩ rfl;refine zrY 27 [Value.int IntKind.i64 0,Value.int IntKind.i64 0,Value.slice none 0 0,Value.slice none 0 0] [(0,1),(1,1),(2,1),(3,1)] [(0,_),(1,_),(2,_),(3,_)] O tK O O (fun _=>tK) Ua
    refine zsX 3 [] tK ⟨zsh 3 [900,901] (Hn:=fun y:Value=>[(900,.own b [.pointer (some ⟨gb,0,none⟩),y,.slice (some ⟨bn,0,none⟩) g.length cn,chv,cuv] 123),(901,.row 3 1 y (ol++[(v:Int)]).length ((ol++[(v:Int)]).map zb))]) [(0,some (900,0)),(3,some (3,0)),(13,some (13,0)),(72,some (2000,0)),(75,some (900,0)),(78,some (900,0)),(79,some (900,0)),(80,some (900,0)),(89,some (900,0)),(90,some (900,0)),(91,some (900,0))] tc53 O O j9 j1 (fun y_ w hI=>⟨hI.k1,zte (j:=0) (show Blk w b _ _ from hI.at 900 O) O rfl⟩) ij ?_,True.intro⟩
    .
     rintro _ ov2 rfl;refine zsX 14 [] tK ⟨zsh 14 [] (Hn:=fun y:Option Addr × Nat=>[(961,.row 3 1 (.slice y.1 (zi g i).length y.2) (zi g i).length ((zi g i).map zb))]) [(0,some (900,0)),(3,some (3,0)),(13,some (13,0)),(72,some (2000,0)),(75,some (900,0)),(78,some (900,0)),(79,some (900,0)),(80,some (900,0)),(89,some (900,0)),(90,some (900,0)),(91,some (900,0))] tc101 O O j9 j1 (fun y_ w hI=>⟨hI.k1,zte (j:=0) (show Blk w b _ _ from hI.at 900 O) O rfl⟩) iB ?_,True.intro⟩
     .
      rintro _ ⟨au,cu⟩ rfl;refine zrY 27 [Value.int IntKind.i64 0,Value.int IntKind.i64 0,Value.slice none 0 0,Value.slice none 0 0] [(0,1),(1,1),(2,1),(3,1)] [(0,_),(1,_),(2,_),(3,_)] O tK O O (fun _=>tK) Ua
   rintro⟨ov2,cu2,ba,bp⟩ -;refine zre 13 13 0 O O ?_;obtain⟨dR,dZ⟩:∃ z,hp[i]?=some z:=iA;have eC:=(dc.n0 i hi).trans dZ;have eD:=dc.pc i hi;have fe:=zkj f.vars.length g (zhh E v (L.take k)) i;have eE:((pwE f.vars.length g (zhh E v (L.take k)) i).flatMap (phC db ha)).length=(pwE f.vars.length g (zhh E v (L.take k)) i).length*4:=zQ (c:=4) j1 _;refine zrL 100 O (e':=.row 3 1 (.slice (some ⟨ba,0,none⟩) (zi g i).length (zi g i).length) (zi g i).length ((List.replicate (zi g i).length (0:Int)).map zb)) (by rw[zvA]) (zsC 906 961 (e':=RowsP zb 3 (db++[Value.slice cu2.1 (zi g i).length cu2.2]) (fr++[zi g i])) [(0,some (900,0)),(3,some (3,0)),(13,some (13,0))] O O O (fun w hI=>qX hI 906 961 O O O tS) RowsP.loc (fun _ h=>h) UE (zsC 909 100 (e':=RowsP zb 3 (ha++[Value.slice (some ⟨ba,0,none⟩) (zi g i).length (zi g i).length]) (al++[List.replicate (zi g i).length 0])) [(0,some (900,0)),(3,some (3,0)),(13,some (13,0))] O O O (fun w hI=>qX hI 909 100 O O (by rw[zvt]) tS) RowsP.loc (fun _ h=>h) UE ?_));refine Vs 1 O (Vw [3,904,960,900,13] [20] O (Vd [0,1,2,3,4,5,6,7,8,9,10,11,15] 0 tK O O O (zrZ 12 O tK O (fun w=>zpH tR28 ts59 O O O tO) (Vd [13] 0 tK O O O (zs5 14 O tK O 0 O O (fun w hI=>R.load tg56 O (v:=dR) (zte (show Blk w bn _ _ from hI.at 904 O) eC tO)) (zrQ 16 118 0 [(0,_)] tR56 ts88 tz88 tS O tK O O tK (fun b118=>?_)))))));refine ztd 17 905 118 0 i underlying56 Tryz.el88 O tS O tK O O O tY dZ eD (fun m hm=>tO) (fun u905 dy=>(zrZ 18 O tK O (fun w=>zpH tR28 ts59 O O O tO) (Vd [19] 0 tK O O O (ztg 20 904 (e':=NodP bn (nd.set (i*3) u905) 59) O tK O (NodP.loc) (fun _ h=>h) (fun w hI=>ztf ts56 (show Blk w bn _ _ from hI.at 904 O) O O dy tO tO) (VDx.done tK (Va 6 O tO ?_))))));refine V.back ⟨k+1,ov2,ol++[(v:Int)],nd.set (i*3) u905,hp.set i u905,_,_,_,_,_⟩ j2 j3 ⟨tO,by rw[zkg dL,ztJ];exact dc.snoc hi u905 _ _⟩ tZ 0 O O
  obtain rfl:k=L.length:=tO;rw[zts]at dc;refine Va 10 O tO (V.back ⟨v+1,zhh E v L,ov,ol,nd,hp,pc,db,fr,ha,al⟩ j2 j3 ⟨tO,dz.step dX dK ee dl,dc,by rw[zkk];unfold zhh;rw[ztv,ztH];omega⟩ tZ 1 O O)
 obtain rfl:v=f.vars.length:=tO;refine Vs 11 O (zpl results54 O (fun w hI=>⟨_,rfl,(E,ov,ol,nd,hp,pc,db,fr,ha,al),⟨rfl,dz,dg,eb⟩,hI.back 0 O O O rfl⟩))
theorem zmf (hw:WkG f g Rw order pl T of1 pw) (da:Nat->Option Addr × Nat × Nat) (has:List Value) (fS:∀ j,j<g.length->∀ (q:Nat) p,(pw j)[q]?=some p->has[p.2]?=some (.slice (da p.2).1 (da p.2).2.1 (da p.2).2.2)) (dI:Nat->Value) (b gb bn cn:Nat) (chv cuv:Value) (D:Nat->Prop) :
  ∀ (m k i:Nat) (ofv:Value) (ofl:List Int) (rv:List Value) (rows:List (List Int)) (ndc db:List Value) (ucs:List (List Value)) (als:List (List Int)) (W:World),PreW g T k m i->Deep T pl g.length m i->i<g.length->StW f g T of1 pw dI k ofl ndc db ucs als->TopW f g T of1 pw i rows->rows.length=f.vars.length->rv.length=rows.length->(∀ r ∈ rows,r.length+m*1001<=100000000)->GrO D W f g gb->(∀ j,j<g.length->SlR 4 (RPw da) D W (dI j) (pw j))->SlR 1 (RSl 1 zv) D W chv (chL T g.length) ->
  Held (zk9 b gb bn cn g.length ofv chv cuv ofl rv rows ndc db ucs has als) W->(∀ q,D q->q<W.heap.size)->(∀ q,HS (zk9 b gb bn cn g.length ofv chv cuv ofl rv rows ndc db ucs has als) q->¬ D q) ->
  Calls prog 55 #[.pointer (some ⟨b,0,none⟩),.int .i64 i] W (Ret fun r w'=>∃ y:Value × List Int × List Value × List Value × List Value × List (List Value) × List (List Int),(r=.tuple #[]/\y.2.2.1.length=rows.length/\StW f g T of1 pw dI (k+(zfG T m i).length) y.2.1 y.2.2.2.1 y.2.2.2.2.1 y.2.2.2.2.2.1 y.2.2.2.2.2.2)/\GBack (zk9 b gb bn cn g.length ofv chv cuv ofl rv rows ndc db ucs has als) (zk9 b gb bn cn g.length y.1 chv cuv y.2.1 y.2.2.1 rows y.2.2.2.1 y.2.2.2.2.1 y.2.2.2.2.2.1 has y.2.2.2.2.2.2) W w'):=by
 intro m;induction m with
 | zero =>
  intro k i ofv ofl rv rows ndc db ucs als W _ dg hi;have:=dg.pos hi;omega
 | succ m ih =>
 intro k i ofv ofl rv rows ndc db ucs als W dJ dg hi dh em fw fT fU hG hP ee hE hD hY;have fV:0<g.length:=tO;have dK:=dJ.at;have dz:=jQ hw.ht hw.hor fV;have ef:(qe g T).Nodup:=dz.nodup_iff.2 zvR;have fW:=znx f g T of1 k;rw[<- dh.of,dz.length_eq,zvs]at fW;have gY:=hw.small;have fX:=hw.ofs;have gZ:=dh.nl;have eh:=hP i hi;obtain⟨ap,cp,fY⟩:=eh.form;have g9:=eh.max;have k8:=hw.len i hi;have dL:=hw.var i hi;have fy:=dh.n0 i hi;rw[fY]at eh fy;obtain⟨hu,er⟩:∃ z,db[i]?=some z:=⟨_,ztn (by rw[dh.hl];exact hi)⟩;have fZ:=(dh.n1 i hi).trans er;have f0:=dh.n2 i hi;have f5:=znu ef dK
 have fA:ucs[i]?=some []:=by
  rw[dh.us i hi];unfold usK
  grind
 have ma:=(ztB.1 er).1;have mb:=(ztB.1 fA).1;obtain⟨v1,v2,v3,gv,sv,pv,f7,f8,_,ew,_,_⟩:=id hG;obtain⟨ag,cg,rfl⟩:=ew.form;have mc:=ew.max;obtain⟨ach,cch,rfl⟩:=ee.form;have f9:=ee.max;have gc:(chL T g.length).length=g.length:=by unfold chL;rw[ztH,zvs]
 have ez:∀ r ∈ rows,r.length<=100000000:=fun r hr=>tD
 have eA:∀ (l:List (Nat × Int)),l.length<=1001->∀ r ∈ xa rows l,r.length<=1000000000:=fun l hl r hr=>by
  have:=zm7 l rows ez r hr;omega
 have dl:=em.phis hw.ht hw.hor hi (fun p hp=>tD) (hw.asc i hi);refine zt5 func55 O ntmps55 O (zse [(900,.own b [.pointer (some ⟨gb,0,none⟩),ofv,.slice (some ⟨bn,0,none⟩) g.length cn,.slice ach (chL T g.length).length cch,cuv] 123),(901,.row 3 1 ofv ofl.length (ofl.map zb)),(902,.row 27 1 cuv rv.length rv),(903,RowsP zb 3 rv rows),(904,NodP bn ndc 59),(907,RowsCP 2 85 db ucs),(909,RowsP zb 3 has als)] hE.1 hE.2 (zre 0 900 0 O O (Vs 8 O (zqH O (fun w hI=>zpH tR28 ts59 O O O tO) (Vs 9 O (zqH O (fun w hI=>R.load tg56 O (v:=.slice ap (pw i).length cp) (zte (show Blk w bn _ _ from hI.at 904 O) fy tO)) ?_))))));refine Vs 5 O (zrk 950 3 1 O (zs4 950 (e':=CloP b []) O (fun w hI=>fun c hc=>tD) CloP.loc (fun _ h=>h) (fun q hq=>by obtain⟨c,hc,_⟩:=hq;cases hc) (zrL 903 O (e':=RowsP zb 3 rv (xa rows (zai (pw i) 0))) rfl (zt0 (σ:=Nat × List Value × List Clo) (fun⟨t,rv',cls⟩=>⟨145,cls.map zok⟩) [0,1,4,26,27] [900,901,904,907,909] [0] O (fun e ⟨t,rv',cls⟩=>(28,.int .i64 t)::e) (fun e ⟨t,rv',cls⟩=>(902,.row 27 1 cuv rv'.length rv')::(903,RowsP zb 3 rv' (xa rows (zai (pw i) t)))::(950,CloP b cls)::e) (fun⟨t,rv',cls⟩=>t<=(pw i).length/\rv'.length=rows.length/\cls.map (·.2.2)=((zai (pw i) t).map (·.1)).reverse) (fun⟨t,rv',cls⟩=>(pw i).length - t) (0,rv,[]) O j2 j3 j1 j1 j1 ⟨ztC _,fT,rfl⟩ ?_))));rintro⟨t,rv',cls⟩ ⟨gf,dB,dm⟩;refine Vs 6 O (zp4 O (fun gh=>?_) (fun gh=>?_))
 .
  refine Vs 6 O (zrH 1000 0 t tO eh O O O ic (fun p gl gq gr dr dw dC eC dD=>?_));obtain⟨eD,rfl,dx⟩:=dD;obtain⟨dM,dN,rfl⟩:=dx.form;refine zrg 1000 tR56 ts88 O dC tO _ rfl O ?_;obtain⟨fB,fC⟩:=dL p dw;obtain⟨vn,dF⟩:∃ vn:Nat,p.1.var=(vn:Int):=⟨p.1.var.toNat,tO⟩
  have fD:(xa rows (zai (pw i) t))[vn]?=some ((xa rows (zai (pw i) t))[vn]?.getD []):=by
   have e:=ztn (show vn<(xa rows (zai (pw i) t)).length by rw[qW];omega);rw[e];rfl
  rw[dF];refine Vs 1 O (V.alloc 6 tz88 O O (fun b6=>?_));refine Vs 9 O (zsf [900,902,903] (Hn:=fun y:Nat × Nat × Value=>[(900,.own b [.pointer (some ⟨gb,0,none⟩),ofv,.slice (some ⟨bn,0,none⟩) g.length cn,.slice ach (chL T g.length).length cch,cuv] 123),(902,.row 27 1 cuv (rv'.set vn y.2.2).length (rv'.set vn y.2.2)),(903,RowsP zb 3 (rv'.set vn y.2.2) ((xa rows (zai (pw i) t)).set vn ((xa rows (zai (pw i) t))[vn]?.getD []++[p.1.ver]))),(905,.own y.1 [.pointer (some ⟨b,0,none⟩)] 121),(906,.own y.2.1 [.int .i64 vn] 3)]) [(0,some (900,0)),(6,some (6,0)),(30,some (1000,0)),(32,some (900,0)),(33,some (6,0)),(35,some (6,1))] call102 O j9 j1 (fun w hI=>xd O O (zdb vn p.1.ver (xa rows (zai (pw i) t)) rv' _ fD (eA (zai (pw i) t) (by rw[ze6 gf];omega) _ (zto fD)) (by rw[qW];exact dB) b gb ofv (.slice (some ⟨bn,0,none⟩) g.length cn) _ cuv w (hI.held O O O))) ?_);rintro _ ⟨bx,by',u⟩ rfl;refine V.defer O (zsC 950 905 (e':=CloQ b cls bx) [(0,some (900,0))] O O O (fun w hI=>⟨hI.at 950 rfl,hI.at 905 rfl⟩) CloQ.loc (fun _ h=>h) (fun q hq=>hq) ?_)
  refine zsC 950 906 (e':=CloP b ((bx,by',vn)::cls)) [(0,some (900,0))] O O O (fun w hI=>CloOk.cons (c:=(bx,by',vn)) (hI.at 950 O).1 (hI.at 950 O).2 (hI.at 906 O)) CloP.loc (fun _ h=>h) (fun q hq=>by
   obtain⟨c,hc,h⟩:=hq;rcases ztD.1 hc with rfl | hc
   . exact h.imp (fun h=>.inr h) (fun h=>h)
   .
    exact .inl (.inl ⟨c,hc,h⟩)) ?_
  refine zrL 903 O (e':=RowsP zb 3 (rv'.set vn u) (xa rows (zai (pw i) (t+1)))) (by rw[zft dr,kf,dF];rfl) (Va 7 O tO (zt1 ⟨t+1,rv'.set vn u,(bx,by',vn)::cls⟩ rfl j2 j3 ⟨tO,tD,by rw[zft dr,zvv,zw2,<- dm,dF];rfl⟩ tZ 0 O O))
 obtain rfl:t=(pw i).length:=tO;refine Vs 13 O (zru call81 O (fun w hI=>zf6 f g hw.hk i hi gb D w (hG.keep hI.k0 fun q hd _ h=>hY q h hd)) ?_);rintro r2 w1 w2 me gs eE dO;have gt:=zm9 hw.hk hi;have mf:=eE.max;dsimp only at *;generalize dG:xa rows (zai (pw i) (pw i).length)=rows1 at *;have gw:rows1.length=rows.length:=by rw[<- dG,qW]
 obtain⟨ard,crd,rfl⟩:=eE.form;refine Vs 4 O (zrL 904 O (e':=NodP bn (ndc.set (i*3+1) hu) 59) (by rw[set_same fZ]) (zrL 907 O (e':=RowsCP 2 85 (db.set i hu) (ucs.set i (((rdV f g i).take 0).flatMap fun v=>zm5 (v,ze3 f g T of1 (phW pw) i v)))) (by rw[set_same er,zwf,List.flatMap_nil,set_same fA]) (Vs 1 O (zrM (σ:=Nat × Value) [0,1,4,44,45] [900,901,902,903,909,950] [0] O (fun e ⟨t,u⟩=>(46,.int .i64 t)::e) (fun e ⟨t,u⟩=>(904,NodP bn (ndc.set (i*3+1) u) 59)::(907,RowsCP 2 85 (db.set i u) (ucs.set i (((rdV f g i).take t).flatMap fun v=>zm5 (v,ze3 f g T of1 (phW pw) i v))))::e) (fun⟨t,u⟩=>t<=(rdV f g i).length) (fun⟨t,u⟩=>(rdV f g i).length - t) (0,hu) j2 j3 j1 j1 j1 (ztC _) ?_))));rintro⟨t,u⟩ ht;refine Vs 6 O (zp4 O (fun lt=>?_) (fun lt=>?_))
 .
  refine Vs 6 O (zrH 2000 0 t tO eE O O O (fun b_ d_ h_=>by have dc:=dO _ h_;first | omega | exact dc d_) (fun v mg mh ml eF eG eH gx eI=>?_));obtain rfl:=eI;refine zrg 2000 tR27 ts3 O eH tO _ rfl O ?_;obtain⟨fB,fC⟩:=hw.df.rd i v eG;obtain⟨vn,rfl⟩:∃ vn:Nat,v=(vn:Int):=⟨v.toNat,tO⟩;obtain⟨rr,dy⟩:∃ r,rows1[vn]?=some r:=iA;obtain⟨_,eJ⟩:=dl vn rr dy
  have mm:(((rdV f g i).take t).flatMap fun v=>zm5 (v,ze3 f g T of1 (phW pw) i v)).length=t*2:=by
   refine(zQ (c:=2) j1 _).trans ?_;rw[ztR,Nat.min_eq_left tO]
  refine Vs 4 O (Vw [900,904,2000] [14] O (Vd [0,1,2,3,5,6,7] 0 tK O O O (zs5 4 O tK O 0 O O (fun w hI=>R.load isAgg57 O (v:=u) (zte (show Blk w bn _ _ from hI.at 904 O) (zvk tO) tO)) ?_)));refine zrt 8 0 call103 O tK O O (fun w hI=>zfm vn rows1 rr (ze3 f g T of1 (phW pw) i vn) dy eJ b gb _ _ _ _ (fun _=>True) w (Blk.cells (hI.at 900 O)) (zhf tO (hI.at 902 O) (hI.at 903 O))) (zrX 9 [Value.int IntKind.i64 0,Value.int IntKind.i64 0] [(0,1),(1,1)] [(0,_),(1,_)] O tK O O (fun _=>tK) (zrQ 10 60 0 [(0,_)] tR57 ts85 tz85 tS O tK O O tK (fun b60=>?_)));refine ztd 11 907 60 0 i underlying57 Tryz.el85 O tS O tK O O O tY (zvk tO) (zvk tO) (fun m hm=>tO) (fun u907 dQ=>?_);refine Vd [12,13] 0 tK O O O (ztg 14 904 (e':=NodP bn ((ndc.set (i*3+1) u).set (i*3+1) u907) 59) O tK O (NodP.loc) (fun _ h=>h) (fun w hI=>ztf sizeOf57 (show Blk w bn _ _ from hI.at 904 O) O O dQ tO (by rw[zvu];omega)) (VDx.done tK (Vs 2 O (zrL 904 O (e':=NodP bn (ndc.set (i*3+1) u907) 59) (by rw[zw5]) (zrL 907 O (e':=RowsCP 2 85 (db.set i u907) (ucs.set i (((rdV f g i).take (t+1)).flatMap fun v=>zm5 (v,ze3 f g T of1 (phW pw) i v)))) (by rw[zw5,zw5,ze eF,zv3];rfl) ?_)))));refine Va 4 O tO (V.back ⟨t+1,u907⟩ j2 j3 tO tZ 0 O O)
 obtain rfl:t=(rdV f g i).length:=tO;refine zrL 907 O (e':=RowsCP 2 85 (db.set i u) (ucs.set i (((rdV f g i).map fun v=>(v,ze3 f g T of1 (phW pw) i v)).flatMap zm5))) (by rw[zts,zv5]) (Vs 13 O (zrs call79 O (fun w hI=>jq f g hw.hk i hi gb D w (hG.keep hI.k1 fun q hd _ h=>hY q h hd)) (Vs 3 O (zt2 (σ:=Value × List Int × List Value × List Clo) (fun⟨ov,ol,rv2,cls2⟩=>⟨145,cls2.map zok⟩) [0,1] [907,909] [0] O (fun e ⟨ov,ol,rv2,cls2⟩=>e) (fun e ⟨ov,ol,rv2,cls2⟩=>(900,.own b [.pointer (some ⟨gb,0,none⟩),ov,.slice (some ⟨bn,0,none⟩) g.length cn,.slice ach (chL T g.length).length cch,cuv] 123)::(901,.row 3 1 ov ol.length (ol.map zb))::(902,.row 27 1 cuv rv2.length rv2)::(903,RowsP zb 3 rv2 (xa rows (ze7 f g T of1 (pw i) i)))::(904,NodP bn ((ndc.set (i*3+1) u).set (i*3+2) (.int .i64 (dfW f g T of1 i))) 59)::(950,CloP b cls2)::e) (fun⟨ov,ol,rv2,cls2⟩=>ol=(if 0<=yy f g i then ofl++[yy f g i] else ofl)/\rv2.length=rows.length/\cls2.map (·.2.2)=((ze7 f g T of1 (pw i) i).map (·.1)).reverse) j1 j1 ?_ ?_))))
 .
  refine Vs 6 O (zp4 O (fun hd=>?_) (fun hd=>?_))
  .
   obtain⟨dn,eK⟩:∃ dn:Nat,yy f g i=(dn:Int):=⟨(yy f g i).toNat,tO⟩;obtain⟨_,dR,_⟩:=hw.df.dfn i hi hd;have fE:=(ztB.1 dR).1;have fF:dfW f g T of1 i=((ofl.length:Nat):Int):=by rw[znv ef dK hd,dh.of]
   obtain⟨rr,dy⟩:∃ r,rows1[dn]?=some r:=iA;refine V.eq 9 (v:=.int .i64 (dn:Int)) O (by rw[eK]) (Vs 5 O (zsf [900,901] (Hn:=fun y:Value=>[(900,.own b [.pointer (some ⟨gb,0,none⟩),y,.slice (some ⟨bn,0,none⟩) g.length cn,.slice ach (chL T g.length).length cch,cuv] 123),(901,.row 3 1 y (ofl++[(dn:Int)]).length ((ofl++[(dn:Int)]).map zb))]) [(0,some (900,0)),(65,some (900,0)),(66,some (900,0)),(67,some (900,0)),(74,some (900,0))] tc53 O j9 j1 (fun w hI=>xd O O (ym dn ofl tO b gb ofv _ _ cuv w (hI.held O O O))) ?_));rintro _ ov2 rfl;refine Vs 2 O (zsx 904 (e':=NodP bn ((ndc.set (i*3+1) u).set (i*3+2) (.int .i64 (ofl.length:Nat))) 59) O (NodP.loc) (fun _ h=>h) (fun w hI=>ztf ts3 (show Blk w bn _ _ from hI.at 904 O) O O O tO (by rw[zvu];omega)) (Vs 8 O (zqH O (fun w hI=>R.load tg3 O (v:=.int .i64 (ofl.length:Nat)) (zte (show Blk w bn _ _ from hI.at 904 O) (zvk (by rw[zvu];omega)) tO)) ?_)));refine zsf [900,902,903] (Hn:=fun y:Nat × Nat × Value=>[(900,.own b [.pointer (some ⟨gb,0,none⟩),ov2,.slice (some ⟨bn,0,none⟩) g.length cn,.slice ach (chL T g.length).length cch,cuv] 123),(902,.row 27 1 cuv (rv'.set dn y.2.2).length (rv'.set dn y.2.2)),(903,RowsP zb 3 (rv'.set dn y.2.2) (rows1.set dn (rr++[((ofl.length:Nat):Int)]))),(905,.own y.1 [.pointer (some ⟨b,0,none⟩)] 121),(906,.own y.2.1 [.int .i64 dn] 3)]) [(0,some (900,0)),(65,some (900,0)),(66,some (900,0)),(67,some (900,0)),(74,some (900,0)),(79,some (900,0))] call102 O j9 j1 (fun w hI=>xd O O (zdb dn (ofl.length:Nat) rows1 rv' rr dy (eA _ (by rw[ze6 (ztM _)];omega) rr (dG ▸ zto dy)) tO b gb ov2 _ _ cuv w (hI.held O O O))) ?_;rintro _ ⟨bx,by',u3⟩ rfl;refine V.defer O (zsC 950 905 (e':=CloQ b cls bx) [(0,some (900,0))] O O O (fun w hI=>⟨hI.at 950 rfl,hI.at 905 rfl⟩) CloQ.loc (fun _ h=>h) (fun q hq=>hq) ?_)
   refine zsC 950 906 (e':=CloP b ((bx,by',dn)::cls)) [(0,some (900,0))] O O O (fun w hI=>CloOk.cons (c:=(bx,by',dn)) (hI.at 950 O).1 (hI.at 950 O).2 (hI.at 906 O)) CloP.loc (fun _ h=>h) (fun q hq=>by
    obtain⟨c,hc,h⟩:=hq;rcases ztD.1 hc with rfl | hc
    . exact h.imp (fun h=>.inr h) (fun h=>h)
    .
     exact .inl (.inl ⟨c,hc,h⟩)) ?_
   have dS:ze7 f g T of1 (pw i) i=zai (pw i) (pw i).length++[(dn,((ofl.length:Nat):Int))]:=by
    unfold ze7;rw[zty hd,fF,eK];rfl
   refine zrL 903 O (e':=RowsP zb 3 (rv'.set dn u3) (xa rows (ze7 f g T of1 (pw i) i))) (by rw[dS,kf,dG];unfold jA;rw[dy];rfl) (zrL 904 O (e':=NodP bn ((ndc.set (i*3+1) u).set (i*3+2) (.int .i64 (dfW f g T of1 i))) 59) (by rw[fF]) (Vs 1 O (zt3 ⟨ov2,ofl++[(dn:Int)],rv'.set dn u3,(bx,by',dn)::cls⟩ rfl j2 j3 ⟨by rw[zty hd,eK],by rw[zvu];exact dB,by rw[dS,zvv,zw2,<- dm];rfl⟩ 0 O O)))
  have dS:ze7 f g T of1 (pw i) i=zai (pw i) (pw i).length:=by
   unfold ze7;rw[ztx hd,zuF]
  have eL:(ndc.set (i*3+1) u)[i*3+2]?=some (.int .i64 (dfW f g T of1 i)):=by
   rw[zvj tO,f0,zoj hd];unfold dsK;rw[f5];rfl
  refine zrL 903 O (e':=RowsP zb 3 rv' (xa rows (ze7 f g T of1 (pw i) i))) (by rw[dS,dG]) (zrL 904 O (e':=NodP bn ((ndc.set (i*3+1) u).set (i*3+2) (.int .i64 (dfW f g T of1 i))) 59) (by rw[set_same eL]) (Vs 1 O (zt3 ⟨ofv,ofl,rv',cls⟩ rfl j2 j3 ⟨by rw[ztx hd],dB,by rw[dS,<- dm]⟩ 0 O O)))
 rintro⟨ov,ol,rv2,cls2⟩ ⟨eM,gy,dT⟩
 have dA:∀ (u:Nat) r,(xa rows (ze7 f g T of1 (pw i) i))[u]?=some r->r ≠ []/\zaF r=some (zcq f g T of1 (phW pw) i u):=by
  unfold ze7;by_cases hd:0<=yy f g i
  .
   obtain⟨_,dR,_⟩:=hw.df.dfn i hi hd;have fE:=(ztB.1 dR).1;rw[zty hd,kf,dG];exact TopW.out dl (by show yy f g i=((yy f g i).toNat:Int);omega) (by show (yy f g i).toNat<_;omega)
  rw[ztx hd,zuF,dG];exact TopW.same dl tO
 generalize ei:xa rows (ze7 f g T of1 (pw i) i)=rows2 at *;have gz:rows2.length=rows.length:=by rw[<- ei,qW]
 refine zrG 960 1 O O (fun h=>hY _ h f7) f8 (Vs 8 O (zre 89 960 0 O O (Vs 4 O (zrH 3000 1 i tO ew O O O ic (fun x mn mp mq eN eO eP gA eQ=>?_)))));obtain rfl:=eQ;refine zrg 3000 tR34 ts65 O eP tO _ rfl O ?_;have fG:=yl eN;refine Vs 1 O (zru call76 O (fun w hI=>zgX x w) ?_);rintro r3 w3 w4 mr gB eR dU;obtain⟨asu,csu,rfl⟩:=eR.form;have gC:=eR.max;refine Vs 5 O (zrM (σ:=Nat × List (List Int)) [0,1,96,97] [900,901,902,903,904,907,950,960] [0] O (fun e ⟨t,al⟩=>(98,.int .i64 t)::e) (fun e ⟨t,al⟩=>(909,RowsP zb 3 has al)::e) (fun⟨t,al⟩=>t<=(jM x).length/\AlP f g T of1 pw k (fun j _=>(j:Int) ∈ (jM x).take t) al) (fun⟨t,al⟩=>(jM x).length - t) (0,als) j2 j3 j1 j1 j1 ⟨ztC _,(AlP.start dh).imp (fun j q=>tR)⟩ ?_);rintro⟨t,al⟩ ⟨mt,fH⟩;refine Vs 6 O (zp4 O (fun lt=>?_) (fun lt=>?_))
 .
  refine Vs 6 O (zrH 4000 0 t tO eR O O O (fun b_ d_ h_=>by have dc:=dU _ h_;first | omega | exact dc d_) (fun y mu mv mw eS dV eT gD eU=>?_));obtain rfl:=eU;refine zrg 4000 tR27 ts3 O eT tO _ rfl O ?_;obtain⟨my,gE⟩:=mem_succ.1 dV;have mz:=hw.pr.to x eO y dV;obtain⟨yn,rfl⟩:∃ yn:Nat,y=(yn:Int):=⟨y.toNat,tO⟩;have dH:yn<g.length:=tO;have fI:i ∈ zJ g yn:=pred_mem.2 ⟨hi,by rw[fG];exact gE⟩;have ej:=hP yn dH;obtain⟨apy,cpy,gF⟩:=ej.form;have gG:=ej.max
  have fJ:((ndc.set (i*3+1) u).set (i*3+2) (.int .i64 (dfW f g T of1 i)))[yn*3]?=some (dI yn):=by
   rw[zvj tO,zvj tO];exact dh.n0 yn dH
  rw[gF]at ej fJ;refine Vs 12 O (zqH O (fun w hI=>zpH tR28 ts59 O O O tO) (Vs 1 O (zqH O (fun w hI=>R.load tg56 O (v:=.slice apy (pw yn).length cpy) (zte (show Blk w bn _ _ from hI.at 904 O) fJ tO)) (Vs 5 O (zrM (σ:=Nat × List (List Int)) [0,1,96,97,98,110,111] [900,901,902,903,904,907,950,960] [0] O (fun e ⟨q,al2⟩=>(112,.int .i64 q)::e) (fun e ⟨q,al2⟩=>(909,RowsP zb 3 has al2)::e) (fun⟨q,al2⟩=>q<=(pw yn).length/\AlP f g T of1 pw k (fun j q'=>(j:Int) ∈ (jM x).take t\/(j=yn/\q'<q)) al2) (fun⟨q,al2⟩=>(pw yn).length - q) (0,al) j2 j3 j1 j1 j1 ⟨ztC _,fH.imp (fun j q'=>tR)⟩ ?_)))));rintro⟨q,al2⟩ ⟨hq,dW⟩;refine Vs 6 O (zp4 O (fun lq=>?_) (fun lq=>?_))
  .
   refine Vs 6 O (zrH 5000 2 q tO ej O O O ic (fun p gl gq gr dr dw dC eC dD=>?_));obtain⟨eD,rfl,dx⟩:=dD;obtain⟨dM,dN,rfl⟩:=dx.form;refine zrg 5000 tR56 ts88 O dC tO _ rfl O ?_;obtain⟨row,dX,eV,eW,fK⟩:=dW.step hw.dis ef dK dH fI dr;have dE:=fS yn dH q p dr;obtain⟨fB,fC⟩:=hw.var yn dH p dw;obtain⟨vn,dF⟩:∃ vn:Nat,p.1.var=(vn:Int):=⟨p.1.var.toNat,tO⟩;obtain⟨rr,dy⟩:∃ r,rows2[vn]?=some r:=iA;obtain⟨_,eJ⟩:=dA vn rr dy;have dY:=hw.frm yn dH p dw;have eX:(i:Int) ∈ p.1.frm:=by rw[dY];exact zvI.2 ⟨i,fI,rfl⟩
   have eY:p.1.frm.idxOf (i:Int)=(zJ g yn).idxOf i:=by rw[dY];exact zm8
   refine zr8 (p:=∃ ao ch,Value.slice (da p.2).1 (da p.2).2.1 (da p.2).2.2=.slice ao row.length ch/\(0<row.length->∃ ga,ao=some ⟨ga,0,none⟩)) (fun w hI=>zac (show RowsOk _ _ _ _ _ from hI.at 909 O) dE dX) (fun dZ=>?_);obtain⟨ao,ch,fL,gH⟩:=dZ;obtain⟨ga,rfl⟩:=gH tO;rw[fL]at dE
   have mA:row.length<=10000:=by
    rw[eV];unfold zJ;exact ztt (zvr _ _) (by rw[zvs];omega)
   rw[dF]at fK;refine Vs 1 O (V.alloc 13 tz88 O O (fun b13=>?_));refine Vs 3 O (zrL 13 O (e':=.own b13 [.int .i64 (vn:Int),.int .i64 p.1.ver,.slice dM p.1.frm.length dN,.slice (some ⟨ga,0,none⟩) row.length ch] 88) (by rw[<- dF,<- fL]) (Vw [900,960,5000,13] [11] O (Vd [0,1,2,3,4,6,7,8] 0 tK O O O (zrt 5 0 call91 O tK O O (fun w hI=>(by have h_:=zd3 p.1.frm i _ _ w (dx.keep zc hI.k2 fun q hd _ h=>hY q h hd) eX;rw[eY]at h_;exact h_)) (zrt 9 0 call103 O tK O O (fun w hI=>zfm vn rows2 rr (zcq f g T of1 (phW pw) i vn) dy eJ b gb _ _ _ _ (fun _=>True) w (Blk.cells (hI.at 900 O)) (zhf tO (hI.at 902 O) (hI.at 903 O))) ?_)))));refine zrZ 10 O tK O (fun w=>zpH tR27 ts3 O O O tO) (zsy 11 909 0 (e':=RowsP zb 3 has (al2.set p.2 (row.set ((zJ g yn).idxOf i) (zcq f g T of1 (phW pw) i vn)))) O tK O O RowsP.loc (fun _ h=>h) (fun w hI=>zsG ts3 (hI.at 909 O) dE dX eW O O O) (VD.done tK (Vs 2 O ?_)))
   have gI:∀ j q':Nat,(((j:Int) ∈ (jM x).take t\/(j=yn/\q'<q))\/(j=yn/\q'=q)) ↔ ((j:Int) ∈ (jM x).take t\/(j=yn/\q'<q+1)):=fun j q'=>by
    constructor
    .
     rintro ((h | ⟨h1,h2⟩) | ⟨h1,h2⟩)
     . exact .inl h
     . exact .inr ⟨h1,tO⟩
     exact .inr ⟨h1,tO⟩
    rintro (h | ⟨h1,h2⟩)
    . exact .inl (.inl h)
    rcases zwt q' q with h3 | h3
    . exact .inl (.inr ⟨h1,h3⟩)
    exact .inr ⟨h1,tO⟩
   refine Va 4 O tO (V.back ⟨q+1,al2.set p.2 (row.set ((zJ g yn).idxOf i) (zcq f g T of1 (phW pw) i vn))⟩ j2 j3 ⟨tO,fK.imp gI⟩ tZ 0 O O)
  obtain rfl:q=(pw yn).length:=tO
  have gJ:∀ j q':Nat,q'<(pw j).length->(((j:Int) ∈ (jM x).take t\/(j=yn/\q'<(pw yn).length)) ↔ (j:Int) ∈ (jM x).take (t+1)):=fun j q' gK=>by
   rw[ze eS,ztG,ztF];constructor
   .
    rintro (h | ⟨rfl,_⟩)
    . exact .inl h
    exact .inr O
   rintro (h | h)
   . exact .inl h
   obtain rfl:j=yn:=tO;exact .inr ⟨rfl,gK⟩
  refine Va 10 O tO (V.back ⟨t+1,al2⟩ j2 j3 ⟨tO,dW.imp2 gJ⟩ tZ 0 O O)
 obtain rfl:t=(jM x).length:=tO
 have d5:=dh.next_of ef dK hi (u:=u) (fH.done dK (fun j q hj hm hq=>by
  rw[zts];obtain⟨h1,h2⟩:=pred_mem.1 hm;rw[fG]at h2
  exact mem_succ.2 ⟨tO,h2⟩))
 rw[<- eM]at d5;refine Vs 12 O (zrH 6000 2 i tO ee O O O ic (fun cs gL gM gN d6 fM d7 fN d8=>?_));obtain⟨fO,rfl,dt⟩:=d8;obtain⟨fP,fQ,rfl⟩:=dt.form;refine zrg 6000 tR89 ts27 O d7 tO _ rfl O ?_;have d9:cs=(chT T i).map fun c:Nat=>(c:Int):=Option.some.inj (d6.symm.trans (zny hi));have eZ:cs.length=(chT T i).length:=by rw[d9,ztH]
 have gO:=dt.max;refine Vs 6 O (zrM (σ:=Nat × Value × List Int × List Value × List Value × List Value × List (List Value) × List (List Int)) [0,135,136] [950,960] [0] O (fun e ⟨s,ov3,ol3,rv3,nd3,du,uc3,al3⟩=>(137,.int .i64 s)::e) (fun e ⟨s,ov3,ol3,rv3,nd3,du,uc3,al3⟩=>(900,.own b [.pointer (some ⟨gb,0,none⟩),ov3,.slice (some ⟨bn,0,none⟩) g.length cn,.slice ach (chL T g.length).length cch,cuv] 123)::(901,.row 3 1 ov3 ol3.length (ol3.map zb))::(902,.row 27 1 cuv rv3.length rv3)::(903,RowsP zb 3 rv3 rows2)::(904,NodP bn nd3 59)::(907,RowsCP 2 85 du uc3)::(909,RowsP zb 3 has al3)::e) (fun⟨s,ov3,ol3,rv3,nd3,du,uc3,al3⟩=>s<=cs.length/\rv3.length=rows2.length/\StW f g T of1 pw dI (k+1+(((chT T i).take s).flatMap (zfG T m)).length) ol3 nd3 du uc3 al3) (fun⟨s,ov3,ol3,rv3,nd3,du,uc3,al3⟩=>cs.length - s) (0,ov,ol,rv2,_,_,_,al) j2 j3 j1 j1 j1 ⟨ztC _,tO,d5⟩ ?_);rintro⟨s,ov3,ol3,rv3,nd3,du,uc3,al3⟩ ⟨hs,fb,eb⟩;refine Vs 6 O (zp4 O (fun ls=>?_) (fun ls=>?_))
 .
  refine Vs 6 O (zrH 7000 2 s tO dt O O O ic (fun c mB mC mD ec gP fe gQ fg=>?_));obtain rfl:=fg;refine zrg 7000 tR27 ts3 O fe tO _ rfl O ?_
  obtain⟨cn',fm,rfl⟩:∃ cn':Nat,(chT T i)[s]?=some cn'/\(cn':Int)=c:=by
   rw[d9,ztE]at ec;exact zwI.1 ec
  have fp:=zto fm
  have gR:cn'<g.length:=by
   have:=(chT_mem.1 fp).1;rw[hw.ht.sol.len]at this;exact this
  refine Vs 7 O (zsf [900,901,902,903,904,907,909] (Hn:=fun y:Value × List Int × List Value × List Value × List Value × List (List Value) × List (List Int)=>[(900,.own b [.pointer (some ⟨gb,0,none⟩),y.1,.slice (some ⟨bn,0,none⟩) g.length cn,.slice ach (chL T g.length).length cch,cuv] 123),(901,.row 3 1 y.1 y.2.1.length (y.2.1.map zb)),(902,.row 27 1 cuv y.2.2.1.length y.2.2.1),(903,RowsP zb 3 y.2.2.1 rows2),(904,NodP bn y.2.2.2.1 59),(907,RowsCP 2 85 y.2.2.2.2.1 y.2.2.2.2.2.1),(909,RowsP zb 3 has y.2.2.2.2.2.2)]) [(0,some (900,0)),(139,some (7000,0)),(141,some (900,0))] call55 O j9 j1 (fun w hI=>xd O O (ih _ cn' ov3 ol3 rv3 rows2 nd3 du uc3 al3 w (dJ.child fm) (dg.child hw.ht fp) gR eb (TopW.child hw.ht fp dA) tO fb (fun r hr=>zkd (ze7 f g T of1 (pw i) i) rows (fun r hr=>by have:=fU r hr;have:=zhe f g T of1 (pw i) i;omega) r (by rw[ei];exact hr)) (hG.keep hI.k2 fun q hd _ h=>hY q h hd) (fun j hj=>(hP j hj).keep (zk8 da) hI.k2 fun q hd _ h=>hY q h hd) (ee.keep (zP zc) hI.k2 fun q hd _ h=>hY q h hd) (hI.held O O O) (fun q hd=>by have:=hD q hd;have h3:W.heap.size<=w.heap.size:=(hI.k2).size;omega) (hI.offE 2 O O hD hY))) ?_);rintro _ ⟨ov4,ol4,rv4,nd4,gS,uc4,al4⟩ ⟨rfl,fq,ft⟩;refine Va 7 O tO (V.back ⟨s+1,ov4,ol4,rv4,nd4,gS,uc4,al4⟩ j2 j3 ⟨tO,fq,by rw[ze fm,zv3,ztv];simp only[zv4,List.flatMap_nil,zuF];rw[<- zwg];exact ft⟩ tZ 0 O O)
 obtain rfl:s=cs.length:=tO
 have dm:(((chT T i).take cs.length).flatMap (zfG T m)).length+1=(zfG T (m+1) i).length:=by
  rw[eZ,zts];show _=(i::(chT T i).flatMap (zfG T m)).length;rw[ztQ]
 refine Vs 4 O (zt4 fun w hI tmps=>?_);have gT:GBack (zk9 b gb bn cn g.length ofv (.slice ach (chL T g.length).length cch) cuv ofl rv rows ndc db ucs has als) ([(900,.own b (rnm gb ov3 (.slice (some ⟨bn,0,none⟩) g.length cn) (.slice ach (chL T g.length).length cch) cuv) 123),(902,.row 27 1 cuv rv3.length rv3),(903,RowsP zb 3 rv3 rows2)]++[(901,.row 3 1 ov3 ol3.length (ol3.map zb)),(904,NodP bn nd3 59),(907,RowsCP 2 85 du uc3),(909,RowsP zb 3 has al3)]) W w:=hI.back 2 rfl rfl rfl rfl;have ek:Held ((950,CloP b cls2)::zi8 b gb ov3 (.slice (some ⟨bn,0,none⟩) g.length cn) (.slice ach (chL T g.length).length cch) cuv rv3 rows2) w:=hI.held rfl rfl rfl;have ed:CloOk b w cls2:=(ek.1 _ (ztr ..)).1;refine zm4 (fn:=Tryz.f55) O b gb ov3 (.slice (some ⟨bn,0,none⟩) g.length cn) (.slice ach (chL T g.length).length cch) cuv rows (ze7 f g T of1 (pw i) i) (fun p hp=>?_) (fun q r hr=>eA _ (by have:=zhe f g T of1 (pw i) i;have:=List.length_take_le q (ze7 f g T of1 (pw i) i);rw[ztR];omega) r hr) w (fun q=>HS (zi8 b gb ov3 (.slice (some ⟨bn,0,none⟩) g.length cn) (.slice ach (chL T g.length).length cch) cuv rv3 rows2) q\/w.heap.size<=q) (fun q hq=>.inr hq) (fun rv5 w5 fu gU gV gW=>?_) (ze7 f g T of1 (pw i) i).length cls2 rv3 w (ztM _) (by rw[zts];exact dT) tO (by rw[zts,ei];exact⟨fun x hx=>ek.1 x Jq,(zvU.1 ek.2).2⟩) ed (fun c hc=>?_) ix (by rw[zts,ei];exact fun x hx=>.inl hx)
 .
  unfold ze7 at hp;rcases ztG.1 hp with hp | hp
  .
   unfold zai at hp;rw[zts]at hp;obtain⟨p',gX,rfl⟩:=zvI.1 hp;have:=dL p' gX;show p'.1.var.toNat<_;omega
  split at hp
  .
   rename_i hd;obtain⟨_,dR,_⟩:=hw.df.dfn i hi hd;have fE:=(ztB.1 dR).1;rw[ztF]at hp;subst hp;show (yy f g i).toNat<_;omega
  cases hp
 .
  refine⟨.tuple #[],rfl,(ov3,ol3,rv5,nd3,du,uc3,al3),⟨rfl,fu,?_⟩,(gT.join ⟨gV.mono fun q hq h=>h.resolve_right tO,gU,fun x hx q hq=>gW q ⟨x,hx,hq⟩⟩).perm zoO⟩;rw[<- dm,zwh _ 1,<- zwg];exact eb
 have hb:=ed c hc;have fR:=(zvU.1 ek.2).1;refine⟨?_,?_⟩
 .
  rintro (⟨x,hx,hq⟩ | hq)
  . exact fR x hx _ ⟨c,hc,.inl rfl⟩ hq
  have:=hb.1.lt;omega
 rintro (⟨x,hx,hq⟩ | hq)
 . exact fR x hx _ ⟨c,hc,.inr rfl⟩ hq
 have:=hb.2.lt;omega
open Go.GL
inductive Pth (G:List Nd):Nat->Nat->Prop
 | refl (i:Nat):Pth G i i
 | step {i j k:Nat} {x:Nd}:G[i]?=some x->((j:Int)=x.next\/(j:Int)=x.other)->Pth G j k->Pth G i k
theorem Pth.trans {G:List Nd} (h:Pth G i j) (h':Pth G j k):Pth G i k:=by
 induction h with
 | refl=>exact h'
 | step hx he _ ih=>exact .step hx he (ih h')
theorem Pth.one {G:List Nd} (hx:G[i]?=some x) (h:(j:Int)=x.next\/(j:Int)=x.other):Pth G i j:=.step hx h (.refl _)
structure LayP (G:List Nd) (n W e:Nat):Prop where
 fr:∀ j,j<W->Pth G n (n+j)
 to:∀ j,j<W->Pth G (n+j) e
 bk:∀ (j:Nat) x,j<W->G[n+j]?=some x->∀ t:Nat,(t:Int)=x.next\/(t:Int)=x.other->t<=n+j->t=e\/∃ y,G[t]?=some y/\y.kind=5
theorem LayP.append {G:List Nd} {n W1 W2 e e':Nat} (h1:LayP G n W1 e') (h2:LayP G (n+W1) W2 e) (hw:1<=W1) (he:e'=n+W1/\1<=W2\/e'=e/\W2=0):LayP G n (W1+W2) e:=by
 have da:∀ j,j<W1->Pth G (n+j) e:=fun j hj=>by
  rcases he with⟨he,h⟩ | ⟨he,_⟩
  . exact(h1.to j hj).trans (he ▸ h2.to 0 h)
  exact he ▸ h1.to j hj
 refine⟨fun j hj=>?_,fun j hj=>?_,fun j x hj hx t ht hY=>?_⟩
 .
  by_cases h:j<W1
  . exact h1.fr j h
  have h3:=h1.to 0 tO;rcases he with⟨he,_⟩ | ⟨_,h4⟩
  .
   have h5:=h2.fr (j - W1) tO;rw[show n+W1+(j - W1)=n+j by omega]at h5;exact h3.trans (he ▸ h5)
  omega
 .
  by_cases h:j<W1
  . grind
  have h5:=h2.to (j - W1) tO
  grind
 by_cases h:j<W1
 .
  rcases h1.bk j x h hx t ht hY with h3 | h3
  . omega
  grind
 have e1:n+j=n+W1+(j - W1):=tO;rw[e1]at hx hY;exact h2.bk (j - W1) x tO hx t ht hY
theorem znE (l:List St):plainL l=true->∀ (a n e:Nat) (G:List Nd),CtxG G n (layL l a n e)->LayP G n (widL l) e:=by
 induction l using zr3 with
 | h l ih =>
 intro hp
 have key:∀ r:List St,(∀ x ∈ r,x ∈ l)->∀ (a n e:Nat) (G:List Nd),CtxG G n (layL r a n e)->LayP G n (widL r) e:=by
  intro r;induction r with
  | nil=>intro _ a n e G _;exact⟨fun j hj=>by simp[widL]at hj,fun j hj=>by simp[widL]at hj,fun j x hj=>by simp[widL]at hj⟩
  | cons s r ihr =>
   intro hm a n e G hG;have hs:=yV hp s (hm s (ztr ..));have dh:=hs;rw[s.plainB_eq,zu8,zu8]at hs;have h1:=(ih s (hm s (ztr ..))).1 hs.1.2;have h2:=(ih s (hm s (ztr ..))).2 hs.2;have hw:=s.wid_eq;rw[layL]at hG;rw[widL]
   have da:(s.lay a n (if r.isEmpty then e else n+s.wid)).length=s.wid:=by
    have h1:=zB [s] (by rw[plainL,dh];rfl) a n (if r.isEmpty then e else n+s.wid);simpa[layL,widL] using h1
   have hR:=ihr (fun y hy=>hm y iq) _ (n+s.wid) e G (hG.right tO)
   have dc:(if r.isEmpty then e else n+s.wid)=n+s.wid/\1<=widL r\/(if r.isEmpty then e else n+s.wid)=e/\widL r=0:=by
    cases hre:r.isEmpty
    . exact .inl ⟨tR,qh hre⟩
    refine .inr ⟨tR,?_⟩;rw[zvp]at hre;rw[hre];rfl
   replace hG:=hG.left;generalize (if r.isEmpty then e else n+s.wid)=e' at hG dc da;refine LayP.append ?_ hR tO dc;clear dc hR;rw[s.lay_eq]at hG da;split at hG
   .
    rename_i a3;rw[ztx i3]at hw;have dl:=zB s.thn hs.1.2 (a+1) (n+1) e';have hx:=hG.head;have t1:=h1 _ _ _ G hG.tail.left;have t2:=h2 _ _ _ G (hG.tail.right tO)
    have c1:s.thn.isEmpty=true/\widL s.thn=0\/s.thn.isEmpty=false/\1<=widL s.thn:=by
     cases ht:s.thn.isEmpty
     . exact .inr ⟨rfl,qh ht⟩
     rw[zvp]at ht;rw[ht];exact .inl JL
    have c2:s.els.isEmpty=true/\widL s.els=0\/s.els.isEmpty=false/\1<=widL s.els:=by
     cases ht:s.els.isEmpty
     . exact .inr ⟨rfl,qh ht⟩
     rw[zvp]at ht;rw[ht];exact .inl JL
    have hn:(s.thn.isEmpty=true->Pth G n e')/\(s.thn.isEmpty=false->Pth G n (n+1)):=⟨fun h=>Pth.one hx (.inl tD),fun h=>Pth.one hx (.inl tD)⟩;have ho:(s.els.isEmpty=false->Pth G n (n+1+widL s.thn)):=fun h=>Pth.one hx (.inr tD);refine⟨fun j hj=>?_,fun j hj=>?_,fun j x hj hY t ht db=>?_⟩
    .
     by_cases j0:j=0
     . subst j0;exact .refl _
     by_cases dg:j<=widL s.thn
     .
      have h3:=t1.fr (j - 1) tO;rw[show n+1+(j - 1)=n+j by omega]at h3;exact(hn.2 (c1.resolve_left tO).1).trans h3
     have h3:=t2.fr (j - 1 - widL s.thn) tO;rw[show n+1+widL s.thn+(j - 1 - widL s.thn)=n+j by omega]at h3;exact(ho (c2.resolve_left tO).1).trans h3
    .
     by_cases j0:j=0
     .
      subst j0;rcases c1 with c1 | c1
      . grind
      exact(hn.2 c1.1).trans (t1.to 0 c1.2)
     by_cases dg:j<=widL s.thn
     .
      have h3:=t1.to (j - 1) tO
      grind
     have h3:=t2.to (j - 1 - widL s.thn) tO
     grind
    by_cases j0:j=0
    .
     subst j0;rw[zwl,hx]at hY;cases hY;dsimp only at ht;refine .inl ?_;rcases ht with ht | ht<;>split at ht<;>omega
    by_cases dg:j<=widL s.thn
    .
     have e1:n+j=n+1+(j - 1):=tO;rw[e1]at hY db;exact t1.bk (j - 1) x tO hY t ht db
    have e1:n+j=n+1+widL s.thn+(j - 1 - widL s.thn):=tO;rw[e1]at hY db;exact t2.bk (j - 1 - widL s.thn) x tO hY t ht db
   rename_i a3;split at hG
   .
    rename_i a4;rw[zty a4]at hw;rw[ztx a3,zty a4,ztQ,ztQ,zB _ hs.1.2]at da;have hx:=hG.head;have hy:=hG.tail.head;have t1:=h1 _ _ _ G hG.tail.tail
    have c1:s.thn.isEmpty=true/\widL s.thn=0\/s.thn.isEmpty=false/\1<=widL s.thn:=by
     cases ht:s.thn.isEmpty
     . exact .inr ⟨rfl,qh ht⟩
     grind
    have p1:Pth G n (n+1):=Pth.one hx (.inl rfl);have p2:Pth G (n+1) e':=Pth.one hy (.inr rfl);have p3:s.thn.isEmpty=false->Pth G (n+1) (n+2):=fun h=>Pth.one hy (.inl tD);refine⟨fun j hj=>?_,fun j hj=>?_,fun j x hj hY t ht db=>?_⟩
    .
     match j with
     | 0=>exact .refl _
     | 1=>exact p1
     | j+2 =>
      have h3:=t1.fr j tO;rw[show n+2+j=n+(j+2) by omega]at h3;exact p1.trans ((p3 (c1.resolve_left tO).1).trans h3)
    .
     match j with
     | 0=>exact p1.trans p2
     | 1=>exact p2
     | j+2 =>
      have h3:=t1.to j tO;rw[show n+2+j=n+(j+2) by omega]at h3;exact h3.trans p2
    match j with
    | 0 =>
     rw[zwl,hx]at hY;cases hY;dsimp only at ht;omega
    | 1 =>
     rw[hy]at hY;cases hY;dsimp only at ht;rcases ht with ht | ht
     . grind
     omega
    | j+2 =>
     have e1:n+(j+2)=n+2+j:=tO;rw[e1]at hY db;rcases t1.bk j x tO hY t ht db with h3 | h3
     . grind
     grind
   rename_i a4;rw[ztx a3,ztx a4,ztI]at da;have hx:=hG.head;refine⟨fun j hj=>?_,fun j hj=>?_,fun j x hj hY t ht db=>?_⟩
   .
    obtain rfl:j=0:=tO;exact .refl _
   .
    obtain rfl:j=0:=tO;exact Pth.one hx (.inl O)
   grind
 exact key l (fun x h=>h)
theorem Valid.ways (V:Valid f):(∀ i,i<(zd f).length->Pth (zd f) 0 i/\Pth (zd f) i ((zd f).length - 1))/\∀ (i:Nat) x,(zd f)[i]?=some x->∀ t:Nat,(t:Int)=x.next\/(t:Int)=x.other->t<=i->∃ y,(zd f)[t]?=some y/\y.kind=5:=by
 have da:=yD f V.plain;have db:=zB f.body V.plain 0 1 (1+widL f.body)
 have hG:CtxG (zd f) 1 (layL f.body 0 1 (1+widL f.body)):=by
  intro i x hx;have hi:=(ztB.1 hx).1;unfold zd;rw[show 1+i=i+1 by omega,zva,ztN hi];exact hx
 have hL:=znE f.body V.plain 0 1 (1+widL f.body) (zd f) hG;have h0:(zd f)[0]?=some (⟨0,-1,1,-1⟩:Nd):=rfl
 have hE:(zd f)[1+widL f.body]?=some (⟨1,-1,-1,-1⟩:Nd):=by
  unfold zd;rw[List.getElem?_cons,ztx tO,ztO tO,db,show 1+widL f.body - 1 - widL f.body=0 by omega];rfl
 have p0:Pth (zd f) 0 1:=Pth.one h0 (.inl rfl)
 have pe:Pth (zd f) 1 (1+widL f.body):=by
  by_cases hw:widL f.body=0
  . rw[hw];exact .refl _
  exact hL.to 0 tO
 refine⟨fun i hi=>?_,fun i x hx t ht hY=>?_⟩
 .
  rw[show (zd f).length - 1=1+widL f.body by omega];by_cases i0:i=0
  . subst i0;exact⟨.refl _,p0.trans pe⟩
  by_cases ie:i=1+widL f.body
  . subst ie;exact⟨p0.trans pe,.refl _⟩
  have a1:=hL.fr (i - 1) tO;have a2:=hL.to (i - 1) tO;rw[show 1+(i - 1)=i by omega]at a1 a2;exact⟨p0.trans a1,a2⟩
 have hi:=(ztB.1 hx).1;by_cases i0:i=0
 . grind
 by_cases ie:i=1+widL f.body
 . grind
 rw[show i=1+(i - 1) by omega]at hx hY;rcases hL.bk (i - 1) x tO hx t ht hY with h | h
 . omega
 exact h
structure NdOk (n i:Int) (x:Nd):Prop where
 k0:i=0->x.kind=0
 k1:i=n - 1->x.kind=1
 k2:0<i/\i<n - 1->2<=x.kind/\x.kind<=5
 n0:i=n - 1->x.next=-1
 n1:i<n - 1->1<=x.next/\x.next<=n - 1
 o1:x.kind=3\/x.kind=5->1<=x.other/\x.other<=n - 1
 o0:¬ (x.kind=3\/x.kind=5)->x.other=-1
 a0:i=0\/i=n - 1->x.at_=-1
 a1:0<i/\i<n - 1->0<=x.at_
structure Formed (g:List Nd):Prop where
 lo:2<=g.length
 hi:g.length<=2050
 ok:∀ (j:Nat) x,g[j]?=some x->NdOk g.length j x
theorem zic {n:Int} (hY:∀ (j:Nat) x,j<i->g[j]?=some x->NdOk n j x) (he:g[i]?=some x) (h:NdOk n i x):∀ (j:Nat) y,j<i+1->g[j]?=some y->NdOk n j y:=by
 grind
theorem zct (k n:Int) (c:Nat) (w:World) (hB:Blk w c [.int .i64 n] 3) :
  Calls prog 141 #[.int .i64 k,.pointer (some ⟨c,0,none⟩)] w (Ret fun r w'=>r=.bool (decide (1<=k/\k<n))/\Ext w w'):=by
 have hE:=Keep.refl (fun _=>False) w;refine zqR func141 O ntmps141 O (Gs 10 O (G.sp 6 O (fun h1=>?_) (fun h1=>?_)))
 . refine Gs 1 O (zqK O tg3 (hB.cells 0 _ O) (Gs 6 O (zpk results141 O ⟨_,rfl,tD,hE⟩)))
 refine Gs 8 O (zpk results141 O ⟨_,rfl,tD,hE⟩)
theorem zfz (g:List Nd) (gv:Value) (D:Nat->Prop) (W:World) (hg:SlR 4 RNd D W gv g) :
  Calls prog 97 #[.agg #[gv]] W (Ret fun r w'=>(∃ b:Bool,r=.bool b/\(b=true ↔ Formed g))/\Ext W w'):=by
 obtain⟨ag,cg,rfl⟩:=hg.form;have dm:=hg.max;refine zqQ func97 O ntmps97 O (V.inn (Vs 2 O (V.box 1 O O (fun b1=>?_))));refine Vs 8 O (V.alloc 3 tz3 O O (fun b3=>?_));refine Vs 9 O (V.sp 15 O (fun a1=>?_) (fun a1=>?_))
 . refine Vs 13 O (zpl tr97 O (fun w hI=>⟨_,rfl,⟨_,rfl,⟨fun h=>tD,fun h=>by have:=h.lo;omega⟩⟩,hI.k0⟩))
 refine Vs 5 O (zp4 O (fun a2=>?_) (fun a2=>?_))
 . refine Vs 7 O (zpl tr97 O (fun w hI=>⟨_,rfl,⟨_,rfl,⟨fun h=>tD,fun h=>by have:=h.hi;omega⟩⟩,hI.k0⟩))
 refine Vs 18 O (zrM (σ:=Nat) [3,4,21,22] [3] [3] O (fun e i=>(23,.int .i64 i)::e) (fun e i=>e) (fun i=>i<=g.length/\∀ (j:Nat) x,j<i->g[j]?=some x->NdOk g.length j x) (fun i=>g.length - i) 0 j2 j3 j1 j1 j1 ⟨ztC _,fun j x h=>absurd h (zwz _)⟩ ?_);rintro i ⟨hi,da⟩;refine Vs 6 O (zp4 O (fun dh=>?_) (fun dh=>?_))
 .
  refine Vs 7 O (zrI 1000 0 i tO hg O O O (fun x dr dt du db dl dc dg=>?_));obtain rfl:=dg;refine zrg 1000 tR34 ts65 O dc tO _ rfl O ?_;have hY:¬ NdOk g.length i x->(false=true ↔ Formed g):=fun h=>⟨fun h=>tD,fun hF=>absurd (hF.ok i x db) h⟩;refine Vs 1 O (V.alloc 6 tz65 O O (fun b6=>?_));refine Vs 5 O (zrN (σ:=Unit) [3,4,5,6,21,22,23] [3,6] [3,6] O (fun e u=>(7,.bool (decide (x.kind=0\/x.kind=1)))::e) (fun e u=>e) (fun u=>True) j1 j1 ?_ ?_)
  .
   refine Vs 5 O (V.sp 31 O (fun k1_=>?_) (fun k1_=>?_))
   . refine Vs 6 O (zpi () Um j3 trivial 0 O O)
   refine Vs 6 O (zpi () Um j3 trivial 0 O O)
  rintro u _;refine Vs 2 O (zrN (σ:=Unit) [3,4,5,6,7,21,22,23] [3,6] [3,6] O (fun e u=>(8,.bool (decide (x.kind=3\/x.kind=5)))::e) (fun e u=>e) (fun u=>True) j1 j1 ?_ ?_)
  .
   refine Vs 5 O (V.sp 39 O (fun k1_=>?_) (fun k1_=>?_))
   . refine Vs 6 O (zpi () Um j3 trivial 0 O O)
   refine Vs 6 O (zpi () Um j3 trivial 0 O O)
  rintro u _;refine Vs 2 O (zrN (σ:=Unit) [3,4,5,6,7,8,21,22,23] [3,6] [3,6] O (fun e u=>(9,.bool (decide (0<=x.kind/\x.kind<=5)))::e) (fun e u=>e) (fun u=>True) j1 j1 ?_ ?_)
  .
   refine Vs 3 O (V.sp 45 O (fun k1_=>?_) (fun k1_=>?_))
   . refine Vs 14 O (zpi () Um j3 trivial 0 O O)
   refine Vs 3 O (V.sp 48 O (fun k2_=>?_) (fun k2_=>?_))
   . refine Vs 11 O (zpi () Um j3 trivial 0 O O)
   refine Vs 5 O (V.sp 53 O (fun k3_=>?_) (fun k3_=>?_))
   . refine Vs 6 O (zpi () Um j3 trivial 0 O O)
   refine Vs 6 O (zpi () Um j3 trivial 0 O O)
  rintro u _;refine Vs 3 O (zrN (σ:=Unit) [3,4,6,7,8,21,22,23] [3,6] [3,6] O (fun e u=>(58,.bool (decide (¬ (0<=x.kind/\x.kind<=5)\/¬ ((i:Int)=0 ↔ x.kind=0)\/¬ ((i:Int)=(g.length:Int) - 1 ↔ x.kind=1))))::e) (fun e u=>e) (fun u=>True) j1 j1 ?_ ?_)
  .
   refine Vs 3 O (zqH O (fun w hI=>zqi O j6) (Vs 3 O (zp4 O (fun k1_=>?_) (fun k1_=>?_))))
   . refine Vs 1 O (zpi () Um j3 trivial 0 O O)
   refine Vs 11 O (zp4 O (fun k2_=>?_) (fun k2_=>?_))
   . refine Vs 1 O (zpi () Um j3 trivial 0 O O)
   refine Va 11 O tO (zpi () Um j3 trivial 0 O O)
  rintro u _;refine Vs 1 O (zp4 O (fun c1=>?_) (fun c1=>?_))
  . refine Vs 12 O iC
  refine Vs 1 O (zrN (σ:=Unit) [3,4,6,8,21,22,23] [3,6] [3,6] O (fun e u=>(75,.bool (decide (((x.kind=0\/x.kind=1)/\x.at_ ≠ -1)\/(¬ (x.kind=0\/x.kind=1)/\x.at_<0))))::e) (fun e u=>e) (fun u=>True) j1 j1 ?_ ?_)
  .
   refine Vs 4 O (V.sp 77 O (fun k1_=>?_) (fun k1_=>?_))
   .
    refine Vs 7 O (zp4 O (fun k2_=>?_) (fun k2_=>?_))
    . refine Vs 1 O (zpi () Ui j3 trivial 0 O O)
    refine Vs 2 O (zqH O (fun w hI=>zqi O j6) (Vs 1 O (V.sp 84 O (fun k3_=>?_) (fun k3_=>?_))))
    . refine Vs 6 O (zpi () Ui j3 trivial 0 O O)
    refine Vs 6 O (zpi () Ui j3 trivial 0 O O)
   refine Vs 10 O (zqH O (fun w hI=>zqi O j6) (Vs 1 O (V.sp 84 O (fun k2_=>?_) (fun k2_=>?_))))
   . refine Vs 6 O (zpi () Ui j3 trivial 0 O O)
   refine Vs 6 O (zpi () Ui j3 trivial 0 O O)
  rintro u _;refine Vs 1 O (zp4 O (fun c2=>?_) (fun c2=>?_))
  . refine Vs 12 O iC
  refine Vs 1 O (zrN (σ:=Unit) [3,4,6,8,21,22,23] [3,6] [3,6] O (fun e u=>(89,.bool (decide ((x.kind=1/\x.next ≠ -1)\/(x.kind ≠ 1/\¬ (1<=x.next/\x.next<(g.length:Int))))))::e) (fun e u=>e) (fun u=>True) j1 j1 ?_ ?_)
  .
   refine Vs 6 O (V.sp 93 O (fun k1_=>?_) (fun k1_=>?_))
   .
    refine Vs 7 O (zp4 O (fun k2_=>?_) (fun k2_=>?_))
    . refine Vs 1 O (zpi () Ui j3 trivial 0 O O)
    refine Vs 5 O (V.sp 101 O (fun k3_=>?_) (fun k3_=>?_))
    . refine Vs 3 O (zsb call141 O (fun w hI=>zct x.next g.length b3 w (hI.at 3 O)) YC)
    refine Vs 8 O (zpi () Ui j3 trivial 0 O O)
   refine Vs 13 O (V.sp 101 O (fun k2_=>?_) (fun k2_=>?_))
   . refine Vs 3 O (zsb call141 O (fun w hI=>zct x.next g.length b3 w (hI.at 3 O)) YC)
   refine Vs 8 O (zpi () Ui j3 trivial 0 O O)
  rintro u _;refine Vs 1 O (zp4 O (fun c3=>?_) (fun c3=>?_))
  . refine Vs 12 O iC
  refine Vs 1 O (zrN (σ:=Unit) [3,4,21,22,23] [3] [3] O (fun e u=>(108,.bool (decide (((x.kind=3\/x.kind=5)/\¬ (1<=x.other/\x.other<(g.length:Int)))\/(¬ (x.kind=3\/x.kind=5)/\x.other ≠ -1))))::e) (fun e u=>e) (fun u=>True) j1 j1 ?_ ?_)
  .
   refine Vs 4 O (V.sp 110 O (fun k1_=>?_) (fun k1_=>?_))
   .
    refine Vs 3 O (zsb call141 O (fun w hI=>zct x.other g.length b3 w (hI.at 3 O)) (zqH O (fun w hI=>zqi O j6) (Vs 4 O (zp4 O (fun k2_=>?_) (fun k2_=>?_)))))
    . refine Vs 1 O (zpi () Ui j3 trivial 0 O O)
    refine Vs 2 O (zqH O (fun w hI=>zqi O j6) (Vs 1 O (V.sp 119 O (fun k3_=>?_) (fun k3_=>?_))))
    . refine Vs 6 O (zpi () Ui j3 trivial 0 O O)
    refine Vs 6 O (zpi () Ui j3 trivial 0 O O)
   refine Vs 12 O (zqH O (fun w hI=>zqi O j6) (Vs 1 O (V.sp 119 O (fun k2_=>?_) (fun k2_=>?_))))
   . refine Vs 6 O (zpi () Ui j3 trivial 0 O O)
   refine Vs 6 O (zpi () Ui j3 trivial 0 O O)
  rintro u _;refine Vs 1 O (zp4 O (fun c4=>?_) (fun c4=>?_))
  . refine Vs 12 O iC
  refine Va 8 O tO (V.back (i+1) j2 j3 ⟨tO,zic da db ⟨tO,tO,tO,tO,tO,tO,tO,tO,tO⟩⟩ tO 0 O O)
 refine Vs 11 O (zpl tr97 O (fun w hI=>⟨_,rfl,⟨_,rfl,⟨fun _=>⟨tO,tO,fun j x hx=>da j x (by have:=(ztB.1 hx).1;omega) hx⟩,fun _=>rfl⟩⟩,hI.k0⟩))
theorem zid (n:Int) (es:List (Int × Int)) (ev:Value) (D:Nat->Prop) (w:World) (da:SlR 2 xu D w ev es) (hY:es.length<=1048576) (hb:∀ e ∈ es,bd e):Calls prog 143 #[.int .i64 n,ev] w (Ret fun u w'=>(∃ s a c,zaY es s/\u=.agg #[.int .i64 n,.slice a (List.length s) c]/\SlR 2 xu (fun b=>w.heap.size<=b) w' (.slice a s.length c) s)/\Ext w w'):=by
 refine(zfo n es ev D w da hY hb).mono fun e w'=>?_;rintro⟨_,rfl,s,v,h1,rfl,h2,h3⟩;obtain⟨a,c,rfl⟩:=h2.form;exact⟨_,rfl,⟨s,a,c,h1,rfl,h2⟩,h3⟩
theorem zfA (n:Int) (es:List (Int × Int)) (ev:Value) (D:Nat->Prop) (W:World) (hY:SlR 2 xu D W ev es) :
  Calls prog 98 #[.agg #[.int .i64 n,ev]] W (Ret fun r w'=>(∃ m a s c,r=.tuple #[.agg #[.int .i64 m,.slice a (List.length s) c],.int .i64 (Gr.check n es)]/\(Gr.check n es ≠ 0->m=0/\a=none/\c=0/\s=[])/\(Gr.check n es=0->m=n/\zaY es s)/\SlR 2 xu (fun b=>W.heap.size<=b) w' (.slice a s.length c) s)/\Ext W w'):=by
 obtain⟨ae,ce,rfl⟩:=hY.form;refine zqQ func98 O ntmps98 O (V.inn (Vs 2 O (V.box 1 O O (fun b1=>?_))));refine V.alloc 2 tz126 O O (fun b2=>(Vs 7 O (zrs call142 O (fun w hI=>zgz n es _ D w iy) (Vs 9 O (zp4 O (fun c0=>?_) (fun c0=>?_))))))
 . refine Vs 2 O (zrW [Value.int IntKind.i64 0,Value.slice none 0 0] [(0,1),(1,1)] [] O O (fun _=>tK) (Vs 7 O (zpx results98 tg126 ts126 O O O O (fun w hI=>⟨_,rfl,⟨0,none,[],0,rfl,fun _=>⟨rfl,rfl,rfl,rfl⟩,fun h=>absurd h c0,SlR.nil⟩,hI.k0⟩))))
 have h0:Gr.check n es=0:=tO
 have hb:es.length<=1048576/\∀ e ∈ es,bd e:=by
  unfold Gr.check at h0;split at h0
  . cases h0
  split at h0
  . cases h0
  split at h0
  .
   rename_i h1 h2 h3;refine⟨tO,fun e he=>?_⟩;have:=zuB.1 h3 e he;unfold Gr.okE at this;simp at this;unfold bd;omega
  cases h0
 refine Vs 8 O (zru call143 O (fun w hI=>zid n es _ D w iy hb.1 hb.2) ?_);rintro rr w1 w2 da db ⟨s,a,c,hs,rfl,dc⟩ dg;have dh:W.heap.size<=w1.heap.size:=da.k0.size;refine Vs 5 O (V.dat 900 0 O O O (dc) (fun b hb _ hs=>tD) (zpx results98 tg126 ts126 O O O O (fun w hI=>⟨_,rfl,⟨n,a,s,c,tD,fun h=>absurd h0 h,fun _=>⟨rfl,hs⟩,(hI.at 900 O).1.wide zW (fun b hb=>tO)⟩,hI.k1⟩)))
def zhj (i:Int) (to:Int):List (Int × Int):=if 0<=to then [(i,to)] else []
def xE (g:List Nd) (k:Nat):List (Int × Int):=(List.range k).flatMap fun i:Nat=>zhj i (xf g i).next++zhj i (xf g i).other
theorem zie (h:g[k]?=some x):xE g (k+1)=xE g k++(zhj k x.next++zhj k x.other):=by
 unfold xE;rw[zw0,zv3,zv6,jp h]
theorem ze9 (i to:Int):(zhj i to).length<=1:=by unfold zhj;split<;>simp
theorem zcu (g:List Nd):∀ k,(xE g k).length<=2*k
 | 0=>by simp[xE]
 | k+1=>by
  have:=zcu g k;have h1:=ze9 k (xf g k).next;have h2:=ze9 k (xf g k).other;unfold xE at this ⊢;rw[zw0,zv3,zv6,ztv,ztv];omega
def inL (g:List Nd) (i:Nat) (x:Nd) (q:Nat):List (Int × Int):=xE g i++(List.range q).flatMap fun j=>zhj i (edk x j)
theorem znF (g:List Nd) (i:Nat) (x:Nd) (q:Nat):(inL g i x q).length<=2*i+q:=by
 have:=zcu g i
 have key:∀ q,((List.range q).flatMap fun j=>zhj i (edk x j)).length<=q:=by
  intro q;induction q with
  | zero=>simp
  | succ q ih =>
   have h1:=ze9 i (edk x q);rw[zw0,zv3,zv6,ztv];omega
 have:=key q;unfold inL;rw[ztv];omega
theorem zmg (g:List Nd) (i:Nat) (x:Nd):inL g i x 0=xE g i:=by simp[inL]
theorem zmh (g:List Nd) (i:Nat) (x:Nd) (q:Nat):inL g i x (q+1)=inL g i x q++zhj i (edk x q):=by
 unfold inL;rw[zw0,zv3,zv6,zuE]
theorem znG (h:g[i]?=some x):inL g i x 2=xE g (i+1):=by
 rw[zie h];unfold inL;simp[zw0,edk]
theorem zgl (g:List Nd) (gv:Value) (D:Nat->Prop) (W:World) (hg:SlR 4 RNd D W gv g) :
  Calls prog 51 #[.agg #[gv]] W (Ret fun r w'=>(∃ m a s c e,r=.tuple #[.agg #[.int .i64 m,.slice a (List.length s) c],.int .i64 e]/\(¬ Formed g->e=1/\m=0/\s=[])/\(Formed g->e=Gr.check g.length (xE g g.length)/\(e ≠ 0->m=0/\s=[])/\(e=0->m=g.length/\zaY (xE g g.length) s))/\SlR 2 xu (fun b=>W.heap.size<=b) w' (.slice a s.length c) s)/\Ext W w'):=by
 obtain⟨ag,cg,rfl⟩:=hg.form;have dz:=hg.max;refine zqQ func51 O ntmps51 O (V.inn (Vs 2 O (V.box 1 O O (fun b1=>?_))));refine V.alloc 2 tz126 O O (fun b2=>(Vs 7 O (zru call97 O (fun w hI=>zfz g _ D w (Tr1 hI.k0 hg)) ?_)));rintro rr w1 w2 dA dl ⟨b,rfl,hb⟩ dm;refine zqH O (fun w hI=>zqi O j6) (Vs 2 O (V.bool O (fun q=>?_) (fun q=>?_)))
 .
  have dr:¬ Formed g:=fun h=>by rw[hb.2 h]at q;cases q
  refine Vs 2 O (zrW [Value.int IntKind.i64 0,Value.slice none 0 0] [(0,1),(1,1)] [] O O (fun _=>tK) (Vs 6 O (zpx results51 tg126 ts126 O O O O (fun w hI=>⟨_,rfl,⟨0,none,[],0,1,rfl,fun _=>⟨rfl,rfl,rfl⟩,fun h=>absurd h dr,SlR.nil⟩,hI.k1⟩))))
 have hF:Formed g:=hb.1 tD;have dB:=hF.lo;have dC:=hF.hi;refine Vs 7 O (zrW [Value.int IntKind.i64 0,Value.slice none 0 0] [(0,1),(1,1)] [(0,_)] O O (fun _=>tK) (V.alloc 4 tz126 O O (fun b4=>?_)));refine Vs 5 O (zrk 900 169 2 O (Vs 8 O (zrM (σ:=Nat × Value) [2,4,18,19] [2] [2,4] O (fun e ⟨i,rv⟩=>(20,.int .i64 i)::e) (fun e ⟨i,rv⟩=>(4,.own b4 [.int .i64 g.length,rv] 126)::(900,.row 169 2 rv (xE g i).length ((xE g i).flatMap qY))::e) (fun⟨i,rv⟩=>i<=g.length) (fun⟨i,rv⟩=>g.length - i) (0,_) j2 j3 j1 j1 j1 (ztC _) ?_)));rintro⟨i,rv⟩ hi;refine Vs 6 O (zp4 O (fun dt=>?_) (fun dt=>?_))
 .
  refine Vs 7 O (zrI 1000 1 i tO hg O O O (fun x dD dE dF db du dc dg=>?_));obtain rfl:=dg;refine zrg 1000 tR34 ts65 O dc tO _ rfl O ?_;have hr:=znG db;refine zrL 900 O (e':=.row 169 2 rv (inL g i x 0).length ((inL g i x 0).flatMap qY)) (by rw[zmg]) (Vs 1 O (V.alloc 6 tz65 O O (fun b6=>?_)));refine Vs 10 O (zrP 29 [(0,_),(1,_)] tR27 ts3 tz3 tS O O tK (fun b29=>?_));refine Vs 5 O (zrM (σ:=Nat × Value) [2,4,5,18,19,20,29,30] [2,29] [2,4] O (fun e ⟨q,rv⟩=>(31,.int .i64 q)::e) (fun e ⟨q,rv⟩=>(4,.own b4 [.int .i64 g.length,rv] 126)::(900,.row 169 2 rv (inL g i x q).length ((inL g i x q).flatMap qY))::e) (fun⟨q,rv⟩=>q<=2) (fun⟨q,rv⟩=>2 - q) (0,rv) j2 j3 j1 j1 j1 tO ?_);rintro⟨q,rv⟩ hq;have dG:=znF g i x q;have da:=zmh g i x q;refine Vs 6 O (zp4 O (fun dw=>?_) (fun dw=>?_))
  .
   refine Vs 6 O (zqH O (fun w hI=>zpH tR27 ts3 O O O tO) (zqH O (fun w hI=>R.load tg3 O (zn7 (hI.at 29 O) tO)) (Vs 9 O (zp4 O (fun hz=>?_) (fun hz=>?_)))))
   .
    rw[show zhj i (edk x q)=[((i:Int),edk x q)] from zty hz]at da;refine Vs 5 O (zrW [Value.int IntKind.i64 0,Value.int IntKind.i64 0] [(0,1),(1,1)] [(0,_),(1,_)] O O (fun _=>tK) (zrP 42 [(0,_)] tR124 ts169 tz169 tS O O tK (fun b42=>?_)));refine zrl 900 42 tu124 Tryz.el169 O tS O O tO tO (fun u900=>(Vs 1 O (zrn 900 O tO ?_)));rintro b9 c9 rfl hY;refine Va 8 O tO (zrL 900 O (e':=.row 169 2 (.slice (some ⟨b9,0,none⟩) ((inL g i x q).length+1) c9) (inL g i x (q+1)).length ((inL g i x (q+1)).flatMap qY)) (by rw[da,ztv,zv3];rfl) (V.back ⟨q+1,_⟩ j2 j3 tO tZ 0 O O))
   rw[show zhj i (edk x q)=[] from ztx hz,zuF]at da;refine zrL 900 O (e':=.row 169 2 rv (inL g i x (q+1)).length ((inL g i x (q+1)).flatMap qY)) (by rw[da]) (Va 7 O tO (V.back ⟨q+1,rv⟩ j2 j3 tO tZ 0 O O))
  obtain rfl:q=2:=tO;refine zrL 900 O (e':=.row 169 2 rv (xE g (i+1)).length ((xE g (i+1)).flatMap qY)) (by rw[hr]) (Va 10 O tO (V.back ⟨i+1,rv⟩ j2 j3 tO tZ 0 O O))
 obtain rfl:i=g.length:=tO;refine Vs 8 O (zru call98 O (fun w hI=>zfA g.length (xE g g.length) rv (fun _=>True) w (zqb tO qY yE J3 (hI.at 900 O) (fun _ _=>trivial))) ?_);rintro rr w3 w4 dx dy ⟨m,a,s,c,rfl,h1,h2,hs⟩ dh;have dH:W.heap.size<=w3.heap.size:=dx.k1.size;refine Vs 7 O (V.dat 901 0 O O O (hs) (fun b hb _ hs=>tD) (zpx results51 tg126 ts126 O O O O (fun w hI=>⟨_,rfl,⟨m,a,s,c,_,rfl,fun h=>absurd hF h,fun _=>⟨rfl,fun he=>⟨(h1 he).1,(h1 he).2.2.2⟩,h2⟩,(hI.at 901 O).1.wide zW (fun b hb=>tO)⟩,hI.k2⟩)))
theorem Formed.edge (h:Formed g) (hx:g[i]?=some x):∀ to,to=x.next\/to=x.other->0<=to->to<g.length:=by
 have h1:=h.ok i x hx;have hi:=(ztB.1 hx).1;have:=h.lo;intro to ht h0;rcases ht with rfl | rfl
 .
  by_cases e:(i:Int)=g.length - 1
  . have:=h1.n0 e;omega
  have:=h1.n1 tO;omega
 by_cases e:x.kind=3\/x.kind=5
 . have:=h1.o1 e;omega
 have:=h1.o0 e;omega
theorem zhk (hg:∀ (i:Nat) x,g[i]?=some x->∀ to,to=x.next\/to=x.other->0<=to->to<g.length) {e:Int × Int} (h:e ∈ xE g g.length):(0<=e.1/\e.1<g.length)/\0<=e.2/\e.2<g.length:=by
 unfold xE at h;obtain⟨j,hj,he⟩:=zvF.1 h;rw[zvN]at hj;have hx:g[j]?=some g[j]:=ztn hj;have h1:=hg j _ hx;rw[jp hx]at he;unfold zhj at he;rcases ztG.1 he with he | he<;>(split at he<;>simp at he;subst he;rename_i h0;dsimp only)
 . grind
 grind
theorem zfB (hl:g.length<=2050) (hg:∀ (i:Nat) x,g[i]?=some x->∀ to,to=x.next\/to=x.other->0<=to->to<g.length):Gr.check g.length (xE g g.length)=0:=by
 have:=zcu g g.length;unfold Gr.check;rw[ztx tO,ztx tO,zty];rw[zuB];intro e he;have:=zhk hg he;unfold Gr.okE
 grind
theorem znH (l:List St):∀ (a n e N:Nat),1<=n->1<=e->n+widL l<=N->e<N->∀ x ∈ layL l a n e,(2<=x.kind/\x.kind<=5)/\(1<=x.next/\x.next<N)/\(x.kind=3\/x.kind=5->1<=x.other/\x.other<N)/\(¬ (x.kind=3\/x.kind=5)->x.other=-1)/\0<=x.at_:=by
 induction l using zr3 with
 | h l ih =>
 have key:∀ r:List St,(∀ x ∈ r,x ∈ l)->∀ (a n e N:Nat),1<=n->1<=e->n+widL r<=N->e<N->∀ x ∈ layL r a n e,(2<=x.kind/\x.kind<=5)/\(1<=x.next/\x.next<N)/\(x.kind=3\/x.kind=5->1<=x.other/\x.other<N)/\(¬ (x.kind=3\/x.kind=5)->x.other=-1)/\0<=x.at_:=by
  intro r;induction r with
  | nil=>intro _ a n e N _ _ _ _ x hx;simp[layL]at hx
  | cons s r ihr =>
   intro hm a n e N db da hN he x hx;have h1:=(ih s (hm s (ztr ..))).1;have h2:=(ih s (hm s (ztr ..))).2;have hw:=s.wid_eq;simp only[widL]at hN;rw[layL,ztG]at hx;rcases hx with hx | hx
   .
    have hY:1<=(if r.isEmpty then e else n+s.wid)/\(if r.isEmpty then e else n+s.wid)<N:=by
     cases hr:r.isEmpty
     . have:=qh hr;simp;omega
     simp;omega
    generalize (if r.isEmpty then e else n+s.wid)=e' at hx hY;rw[s.lay_eq]at hx;split at hx
    .
     rename_i a3;rw[ztx i3]at hw;rw[ztD,ztG]at hx;rcases hx with rfl | hx | hx
     .
      dsimp only
      have c1:∀ z:Bool,(z=false->1<=widL s.thn)->1<=(if z then (e':Int) else (n+1:Nat))/\(if z then (e':Int) else (n+1:Nat))<N:=by
       intro z hz;cases z
       . have:=hz rfl;simp;omega
       simp;omega
      have c2:∀ z:Bool,(z=false->1<=widL s.els)->1<=(if z then (e':Int) else (n+1+widL s.thn:Nat))/\(if z then (e':Int) else (n+1+widL s.thn:Nat))<N:=by
       intro z hz;cases z
       . have:=hz rfl;simp;omega
       simp;omega
      exact⟨tO,c1 _ qh,fun _=>c2 _ qh,fun h=>absurd (.inl O) h,tO⟩
     . exact h1 _ _ _ N tO tO tO hY.2 x hx
     exact h2 _ _ _ N tO tO tO hY.2 x hx
    split at hx
    .
     rename_i a4;rw[zty a4]at hw;rw[ztD,ztD]at hx;rcases hx with rfl | rfl | hx
     .
      dsimp only;exact⟨tO,tO,fun h=>tO,fun _=>rfl,tO⟩
     .
      dsimp only;refine⟨tO,?_,fun _=>tO,fun h=>absurd (.inr O) h,tO⟩;cases hr:s.thn.isEmpty
      . have:=qh hr;simp;omega
      simp;omega
     exact h1 _ _ _ N tO tO tO tO x hx
    rw[ztF]at hx;subst hx;dsimp only;exact⟨tO,tO,fun h=>tO,fun _=>rfl,tO⟩
   exact ihr (fun y hy=>hm y iq) _ _ _ N tO da tO he x hx
 exact key l (fun x h=>h)
theorem zdf (V:Valid f):Formed (zd f):=by
 have hY:=yD f V.plain;have da:=zB f.body V.plain 0 1 (1+widL f.body);have db:=V.ssize;have dc:=xk f.body;refine⟨tO,tO,fun j x hx=>?_⟩;have hj:=(ztB.1 hx).1;unfold zd at hx;rw[List.getElem?_cons]at hx;split at hx
 .
  rename_i j0;cases hx;exact⟨fun _=>rfl,fun h=>tO,fun h=>tO,fun h=>tO,fun _=>tD,fun h=>tD,fun _=>rfl,fun _=>rfl,fun h=>tO⟩
 rename_i j0;by_cases hl:j - 1<widL f.body
 .
  rw[ztN tO]at hx;obtain⟨h1,h2,h3,h4,h5⟩:=znH f.body 0 1 (1+widL f.body) (zd f).length tO tO tO tO x (zto hx);exact⟨fun h=>tO,fun h=>tO,fun _=>h1,fun h=>tO,fun _=>tO,fun h=>tO,h4,fun h=>tO,fun _=>h5⟩
 rw[ztO tO,da,show j - 1 - widL f.body=0 by omega]at hx;cases hx;exact⟨fun h=>tO,fun _=>rfl,fun h=>tO,fun _=>rfl,fun h=>tO,fun h=>tD,fun _=>rfl,fun _=>rfl,fun h=>tO⟩
theorem zhl (hx:g[a]?=some x) (h:(b:Int)=x.next\/(b:Int)=x.other):((a:Int),(b:Int)) ∈ xE g g.length:=by
 unfold xE;refine zvF.2 ⟨a,zvN.2 (ztB.1 hx).1,?_⟩;rw[jp hx,ztG];unfold zhj;rcases h with h | h
 . grind
 grind
theorem zkl {e:Int × Int} (h:e ∈ xE g g.length):∃ (a b:Nat) (x:Nd),e=((a:Int),(b:Int))/\g[a]?=some x/\((b:Int)=x.next\/(b:Int)=x.other):=by
 unfold xE at h;obtain⟨j,hj,he⟩:=zvF.1 h;rw[zvN]at hj;have hx:g[j]?=some g[j]:=ztn hj;rw[jp hx]at he;unfold zhj at he;rcases ztG.1 he with he | he<;>(split at he<;>simp at he;rename_i h0)
 . exact⟨j,(g[j]).next.toNat,_,tD,hx,.inl (Int.toNat_of_nonneg h0)⟩
 exact⟨j,(g[j]).other.toNat,_,tD,hx,.inr (Int.toNat_of_nonneg h0)⟩
end Go.Proofs.YtckdhgbepmpgiaaGreat
namespace Go.GL
theorem ztm {n:Fm} {pos:Pos} (k:Nat) (hn:(hget H k,qA H k)=(some (.row t kk (.slice (some ⟨b,0,none⟩) m c) m xs),none)) (h:∀ sp:List Value,m<=c/\c<=9223372036854775807->V P n Q ks pos env A (hset H k (NodP b (xs++sp) t)) Bs):V P n Q ks pos env A H Bs:=by
 simp only[Prod.mk.injEq]at hn;intro hA w hI;obtain⟨sp,h1,h2,h3,h4⟩:=xw (show w.ownsRow 0 t kk (.slice (some ⟨b,0,none⟩) m c) m xs from hI.at k hn.1);exact h sp ⟨h2,h3⟩ (hA.res hn.1 hn.2) w (hI.set hn.1 ix h1 NodP.loc (fun _ h=>h) fun q hq=>⟨.inl JJ,hI.low _ (zm hn.1) q JJ⟩)
theorem VI.offP {E:Hp} (hI:VI Bs H w) (hE:E.map (fun x=>hget H x.1)=E.map (fun x=>some x.2)) (k:Nat) {F:Nat->Prop} {p:World->Prop} (hk:hget H k=some (.dat F p)):∀ q,HS E q->¬ F q:=by
 rintro q ⟨x,hx,hq⟩ hf;exact hI.froz _ (zm hk) _ (zm (Has.of hE x hx)) q hf hq
theorem VI.lowE {E:Hp} (hI:VI Bs H w) (hE:E.map (fun x=>hget H x.1)=E.map (fun x=>some x.2)):∀ q,HS E q->q<w.heap.size:=fun q hq=>by
 obtain⟨x,hx,hq⟩:=zg7 hE hq;exact hI.low x hx q hq
theorem VI.offS {E:Hp} (hI:VI Bs H w) (hE:(E++E').map (fun x=>hget H x.1)=(E++E').map (fun x=>some x.2)) (hu:qd ((E++E').map (·.1))=true):∀ q,HS E q->¬ HS E' q:=by
 rintro q ⟨x,hx,hq⟩ ⟨y,hy,hY⟩;exact(zvT.1 (hI.pick (Has.of hE) hu).apart).2.2 x hx y hy q hq hY
end Go.GL
namespace Go.Proofs.YtckdhgbepmpgiaaGreat
open Go.GL Go.GL.Dom
theorem GrO.wide {D':Nat->Prop} (h:GrO D w f g b) (hD:∀ q,D q->D' q):GrO D' w f g b:=by
 obtain⟨v1,v2,v3,gv,sv,pv,h0,h1,h2,h3,h4,h5⟩:=h;exact⟨v1,v2,v3,gv,sv,pv,hD b h0,h1,⟨h2.vars.wide yI hD,h2.hatches.wide yO hD,h2.body.wide zg hD⟩,h3.wide zC hD,h4.wide zg hD,h5.wide (zP zc) hD⟩
theorem Valid.local (V:Valid f) {s:St} (hs:s ∈ preL f.body) (ha:s.act=0\/s.act=5):∃ x,f.vars[s.var.toNat]?=some x/\x.kind=0:=by
 obtain⟨last,h⟩:=zeU f.body true (yc V.ok).2.2.2.1 s hs;obtain⟨h1,h2,h3,_,_⟩:=qu h
 have hl:xy f.vars s.var=true:=by
  unfold zK at h3;rcases ha with ha | ha<;>(simp[ha,qQ]at h3;simp[h3])
 unfold xy at hl;split at hl
 . grind
 cases hl
theorem zgm {vs:List Vr} (t:Tm):zA vs false t=true->∀ v ∈ xP t,0<=v/\v<(vs.length:Int):=by
 induction t using zr1 with
 | h t ih =>
  intro h v hv;rw[yW,zu8,zu8]at h;rw[za7,ztG]at hv;rcases hv with hv | hv
  .
   split at hv
   .
    rename_i e;rw[ztF]at hv;subst hv;have h1:=h.1.2;unfold zT at h1
    grind
   cases hv
  obtain⟨k,hk,hv⟩:=mentL_mem.1 hv;exact ih k hk (ya h.2 hk) v hv
theorem Valid.defLoc (V:Valid f) (j:Nat) (h:zdK f (xf (zd f) j)=true):∃ x,f.vars[(yp f (xf (zd f) j).at_).var.toNat]?=some x/\x.kind=0:=by
 have hk:(xf (zd f) j).kind=2:=by
  unfold zdK at h
  grind
 have ha:(yp f (xf (zd f) j).at_).act=0\/(yp f (xf (zd f) j).at_).act=5:=by
  unfold zdK at h
  grind
 cases hx:(zd f)[j]? with
 | none =>
  unfold xf at hk;rw[ztJ,hx]at hk;cases hk
 | some x =>
  rw[yl hx]at hk ha ⊢;have h0:=V.gOk.at hx (.inl hk);exact V.local (zto (jY h0.1 h0.2.1)) ha
theorem Valid.defOk (V:Valid f):DefOk f (zd f):=by
 refine⟨fun j hj hd=>?_,fun j=>?_,fun j v hv=>?_⟩
 .
  unfold yy at hd ⊢;by_cases e:zdK f (xf (zd f) j)=true
  . rw[zty e];exact V.defLoc j e
  grind
 .
  unfold yy;by_cases e:zdK f (xf (zd f) j)=true
  .
   rw[zty e]
   have hk:(xf (zd f) j).kind=2/\((yp f (xf (zd f) j).at_).act=0\/(yp f (xf (zd f) j).at_).act=5):=by
    unfold zdK at e
    grind
   cases hx:(zd f)[j]? with
   | none =>
    have hY:=hk.1;unfold xf at hY;rw[ztJ,hx]at hY;cases hY
   | some x =>
    rw[yl hx]at hk ⊢;have h0:=V.gOk.at hx (.inl hk.1);have:=(V.step _ (zto (jY h0.1 h0.2.1))).1.var hk.2;omega
  grind
 unfold rdV rdN at hv;split at hv
 .
  rename_i hb;have da:=of_decide_eq_true hb;rw[Gr.compactL_mem,za6]at hv;cases hx:(zd f)[j]? with
  | none =>
   have:(xf (zd f) j).kind=1:=by unfold xf;rw[ztJ,hx];rfl
   omega
  | some x =>
   rw[yl hx]at hv da;have h0:=V.gOk.at hx tO;exact zgm _ (V.step _ (zto (jY h0.1 h0.2.1))).1.formed v hv
 cases hv
theorem Valid.pred0 (V:Valid f):zJ (zd f) 0=[]:=by
 apply zuS.2;intro y hy;obtain⟨h1,h2⟩:=pred_mem.1 hy;have hx:=ztn h1;rw[yl hx]at h2;rcases h2 with h2 | h2
 . have:=(V.away hx).1 _ (.inl rfl);omega
 have:=(V.away hx).1 _ (.inr rfl);omega
theorem zkm (hs:zaY (xE g g.length) es) (_:b<g.length):((a:Int),(b:Int)) ∈ es ↔ a ∈ zJ g b:=by
 rw[hs.2.1,pred_mem];constructor
 .
  intro h;obtain⟨a',b',x,e,hx,h2⟩:=zkl h;have e1:(a:Int)=(a':Int):=congrArg Prod.fst e;have e2:(b:Int)=(b':Int):=congrArg Prod.snd e;obtain rfl:a=a':=tO;obtain rfl:b=b':=tO;rw[yl hx];exact⟨(ztB.1 hx).1,h2.imp Eq.symm Eq.symm⟩
 rintro⟨ha,h2⟩;have hx:=ztn ha;rw[yl hx]at h2;exact zhl hx (h2.imp Eq.symm Eq.symm)
theorem zea (hg:Formed g) (hs:zaY (xE g g.length) es) (h:((a:Int),(b:Int)) ∈ es):a<g.length/\b<g.length:=by
 have:=zhk (fun i x hx=>hg.edge hx) ((hs.2.1 _).1 h);omega
theorem Valid.treeG (V:Valid f) (hs:zaY (xE (zd f) (zd f).length) es) (h:Known (zd f).length 0 es Rw order pl T):TreeG (zd f) Rw order pl T:=by
 have hF:=zdf V;have da:∀ a b:Nat,((a:Int),(b:Int)) ∈ es->a<(zd f).length:=fun a b h=>(zea hF hs h).1;have hY:∀ a b:Nat,Dfs.Edge Rw a b ↔ ((a:Int),(b:Int)) ∈ es:=zcs h.succ da;refine⟨fun a b hb=>by rw[hY,zkm hs hb],fun i hi=>?_,fun i hr=>?_,h.sol,h.ord,h.place⟩
 .
  have hp:=(V.ways.1 i hi).1
  have main:∀ {a b:Nat},Pth (zd f) a b->Dfs.Reach Rw 0 a->Dfs.Reach Rw 0 b:=fun {a b} hp=>by
   induction hp with
   | refl=>exact id
   | @step i j k x hx he _ ih=>exact fun hr=>ih (.step hr ((hY i j).2 ((hs.2.1 _).2 (zhl hx he))))
  exact main hp .refl
 cases hr with
 | refl=>exact h.hroot
 | step _ he=>exact(zea hF hs ((hY _ _).1 he)).2
def chK (T:List Int) (n k:Nat):List (List Int):=(List.range n).map fun i:Nat=>((List.range k).filter fun c=>decide (T[c]?=some (i:Int))).map fun c:Nat=>(c:Int)
theorem zeb (T:List Int) (n k:Nat):(chK T n k).length=n:=by unfold chK;rw[ztH,zvs]
theorem zmi (T:List Int) (n:Nat):chK T n 0=List.replicate n []:=by
 unfold chK;exact(List.map_const' (l:=List.range n) (b:=([]:List Int))).trans tD
theorem znI (T:List Int) (n:Nat):chK T n T.length=chL T n:=rfl
theorem zec {n:Nat} (h:i<n):(chK T n k)[i]?=some (((List.range k).filter fun c=>decide (T[c]?=some (i:Int))).map fun c:Nat=>(c:Int)):=by unfold chK;rw[ztE,zvf h];rfl
theorem zhm {n:Nat} {u:Int} (hk:T[k]?=some u):chK T n (k+1)=if 0<=u/\u<n then (chK T n k).set u.toNat ((((List.range k).filter fun c=>decide (T[c]?=some ((u.toNat:Nat):Int))).map fun c:Nat=>(c:Int))++[(k:Int)]) else chK T n k:=by
 apply zuW;intro i;by_cases hi:i<n
 .
  have hR:(chK T n (k+1))[i]?=some ((((List.range k).filter fun c=>decide (T[c]?=some (i:Int))).map fun c:Nat=>(c:Int))++if u=(i:Int) then [(k:Int)] else []):=by
   rw[zec hi,zw0,zuX,zvv];congr 2;by_cases e:u=(i:Int)
   . rw[zty e,zuZ (by rw[hk,e];simp)];rfl
   rw[ztx e,zuY (by rw[hk];simpa using e)];rfl
  rw[hR];by_cases e:u=(i:Int)
  .
   subst e;rw[zty rfl,zty tO,ztJ,zvk (by rw[zeb];exact hi)]
  rw[ztx e,zuF];split
  . rw[zvj tO,zec hi]
  rw[zec hi]
 rw[ztL (by rw[zeb];omega)];split
 . rw[ztL (by rw[zvu,zeb];omega)]
 rw[ztL (by rw[zeb];omega)]
def ndk:Nat->List Value
 | 0=>[]
 | k+1=>ndk k++[.slice none 0 0,.slice none 0 0,.int .i64 (-1)]
theorem zgn:∀ k,(ndk k).length=k*3
 | 0=>rfl
 | k+1=>by rw[ndk,ztv,zgn k];simp;omega
theorem zgo (h:j<k) (sp:List Value):(ndk k++sp)[j*3]?=some (.slice none 0 0)/\(ndk k++sp)[j*3+1]?=some (.slice none 0 0)/\(ndk k++sp)[j*3+2]?=some (.int .i64 (-1)):=by
 induction k generalizing sp with
 | zero=>omega
 | succ k ih =>
  have hl:=zgn k;rw[ndk,zuE];by_cases e:j<k
  . grind
  obtain rfl:j=k:=tO;refine⟨?_,?_,?_⟩<;>(rw[ztO tO,hl])
  . grind
  . grind
  grind
def zhn (has:List Value) (a:Nat):Option Addr × Nat × Nat:=match has[a]? with
 | some (.slice ao m c)=>(ao,m,c)
 | _=>(none,0,0)
theorem zkn {rows:List (List α)} (h:RowsOk enc e w has rows) (ha:a<has.length):has[a]?=some (.slice (zhn has a).1 (zhn has a).2.1 (zhn has a).2.2):=by
 have hv:=ztn ha;have hr:=ztn (show a<rows.length by rw[<- h.len];exact ha);obtain⟨ao,c,e1,_⟩:=zac h hv hr;unfold zhn;rw[hv,e1]
theorem zko {al2:List (List Int)} {ep e1 e2:TypeId} (db:PlS g nv E ofl ndc da pcs hY frs has als) (h5:RowsC 4 ep w da pcs) (h6:RowsOk zb e1 w hY frs) (h9:RowsOk zb e2 w has al2) (dl:∀ (i:Nat) v q,da[i]?=some v->v.ownBlock=some q->D q) (dm:∀ (i:Nat) v q,hY[i]?=some v->v.ownBlock=some q->D q) (hj:j<g.length):SlR 4 (RPw (zhn has)) D w (da[j]?.getD undef) (pwE nv g E j):=by
 obtain⟨u,hu⟩:∃ u,da[j]?=some u:=⟨_,ztn (by rw[db.hl];exact hj)⟩;obtain⟨m,hm⟩:=h5.row j u _ hu (db.pc j hj);rw[hu]
 have dc:∀ x ∈ pwE nv g E j,(RPw (zhn has)) D w x (phC hY has x):=fun x hx=>by
  obtain⟨v,a,ha,rfl⟩:=mem_pwE.1 hx;have dh:=(ztB.1 ha).1;have e9:=zkn h9 (show a<has.length by rw[db.al];exact dh);obtain⟨fh,dg⟩:∃ u,hY[a]?=some u:=⟨_,ztn (by rw[db.fl];exact dh)⟩;have dr:frs[a]?=some (zi g j):=by rw[db.fr,ztE,ha];rfl
  refine⟨fh,?_,zqa zb j9 (h6.row a fh _ dg dr) (fun q hq=>dm a fh q dg hq)⟩;unfold phC;dsimp only;rw[dg,e9];rfl
 exact zqb tS (phC hY has) j1 dc hm (fun q hq=>dl j u q hu hq)
theorem zcv {n:Nat} (h:(List.replicate n (Value.slice none 0 0))[i]?=some v) (hq:v.ownBlock=some q):False:=by
 rw[zvg]at h;split at h
 . cases h;cases hq
 cases h
theorem zkp (n:Nat):RowsOk enc e w (List.replicate n (.slice none 0 0)) (List.replicate n ([]:List α)):=by
 refine⟨tD,fun i v r hv hr=>?_,fun i j vi vj q _ hi _ hq=>(zcv hi hq).elim⟩;rw[zvg]at hv hr;split at hv
 .
  rename_i h;rw[zty h]at hr;cases hv;cases hr;exact qq _ _ _
 cases hv
theorem zfC (n:Nat):RowsC kk e w (List.replicate n (.slice none 0 0)) (List.replicate n []):=by
 refine⟨tD,fun i v r hv hr=>?_,fun i j vi vj q _ hi _ hq=>(zcv hi hq).elim⟩;rw[zvg]at hv hr;split at hv
 .
  rename_i h;rw[zty h]at hr;cases hv;cases hr;exact⟨0,qq _ _ _⟩
 cases hv
theorem PlS.start {sp:List Value}:PlS g nv [] (ofE nv []) (ndk g.length++sp) (List.replicate g.length (.slice none 0 0)) (List.replicate g.length []) [] [] [] []:=by
 refine⟨rfl,zvt,zvt,by rw[ztv,zgn];omega,fun j hj=>?_,fun j hj=>(zgo hj sp).2.1,fun j hj=>(zgo hj sp).2.2,fun j hj=>?_,rfl,rfl,rfl,rfl⟩
 . rw[(zgo hj sp).1,zvg,zty hj]
 rw[zvg,zty hj];rfl
theorem PlS.stW (h:PlS g nv E ofl ndc hY pcs da frs has als):StW f g T (ofE nv E) (pwE nv g E) (fun j=>hY[j]?.getD undef) 0 ofl ndc (List.replicate g.length (.slice none 0 0)) (List.replicate g.length []) als:=by
 refine⟨by rw[zlV];exact h.of,zvt,zvt,h.nl,fun j hj=>?_,fun j hj=>?_,fun j hj=>?_,fun j hj=>?_,fun j hj q p hp=>?_⟩
 .
  rw[h.n0 j hj];have:=ztn (show j<hY.length by rw[h.hl];exact hj);rw[this];rfl
 . rw[h.n1 j hj,zvg,zty hj]
 . rw[h.n2 j hj,zlX]
 . rw[zvg,zty hj,zlZ];rfl
 obtain⟨v,a,ha,rfl⟩:=mem_pwE.1 (zto hp);rw[h.as_,ztE,ha,zm1];rfl
def rgI (v:Nat):List Int:=(List.range v).map fun v:Nat=>(v:Int)
theorem znJ (v:Nat):(rgI v).length=v:=by unfold rgI;rw[ztH,zvs]
theorem zbk (v:Nat):rgI (v+1)=rgI v++[(v:Int)]:=by unfold rgI;rw[zw0,zvv];rfl
theorem zom (nv:Nat):ofE nv []=rgI nv:=by unfold ofE rgI;exact zuF _
def cuI (v:Nat):List (List Int):=(List.range v).map fun v:Nat=>[(v:Int)]
theorem zkq (v:Nat):(cuI v).length=v:=by unfold cuI;rw[ztH,zvs]
theorem zbl (v:Nat):cuI (v+1)=cuI v++[[(v:Int)]]:=by unfold cuI;rw[zw0,zvv];rfl
theorem znK (nv:Nat):TopW f g T of1 pw 0 (cuI nv):=fun v r hr=>by
 unfold cuI at hr;rw[ztE]at hr;obtain⟨z,hz,rfl⟩:=zwI.1 hr;have hl:=(ztB.1 hz).1;rw[zvf tD]at hz;obtain rfl:=Option.some.inj hz;exact⟨tR,rfl⟩
theorem zkr (nv:Nat):∀ r ∈ cuI nv,r.length=1:=fun r hr=>by
 unfold cuI at hr
 grind
theorem zon (h:RightF f g s (rdV f g)):(LP s g.length).length+f.vars.length=s.of_.length:=by
 have h1:=znZ h.toFormF;have hp:(LP s g.length).Perm (qx f g s):=zvY.2 fun a=>zgT h.len h.nod a;have:=hp.length_eq;omega
theorem zmj (n root:Int) (es:List (Int × Int)) (ev:Value) (D:Nat->Prop) (w:World) (hY:SlR 2 xu D w ev es) (hc:yo n es root=0):Calls prog 52 #[.agg #[.int .i64 n,ev],.int .i64 root] w (Ret fun v w'=>(∃ u,v=.tuple #[u,.int .i64 0]/\∃ Rw order pl T,Known n.toNat root.toNat es Rw order pl T/\SlR 1 zv (fun b=>w.heap.size<=b) w' u T)/\Ext w w'):=by
 refine(znm n root es ev D w hY).mono ?_;rintro e w' ⟨v,rfl,u,rfl,_,h,hk⟩;exact⟨_,rfl,⟨u,tD,h hc⟩,hk⟩
theorem zks {n:Nat} (h:Known n 0 es Rw order pl T) (hY:∀ i,Dfs.Reach Rw 0 i->i<n):order.length<=n:=Dfs.nodup_le n _ h.ord.nodup fun x hx=>hY x ((h.ord.mem x).1 hx)
theorem zif (hg:Formed g) (hs:zaY (xE g g.length) es):yo g.length es 0=0:=by
 have h1:=zfB hg.hi (fun i x hx=>hg.edge hx);obtain⟨h2,h3,h4,h5⟩:=Gr.check_zero h1;have h0:=hg.lo;unfold yo
 have hc:Gr.check g.length es=0:=by
  unfold Gr.check;rw[ztx tO,ztx (by have:=hs.2.2;omega),zty];rw[zuB]at h5 ⊢;exact fun e he=>h5 e ((hs.2.1 e).1 he)
 omega
end Go.Proofs.YtckdhgbepmpgiaaGreat
