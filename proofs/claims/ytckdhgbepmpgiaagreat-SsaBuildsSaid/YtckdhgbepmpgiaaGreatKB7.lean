/-
  Contracts and the mathematics that the proof needs. Nothing here is a claim.
-/
import Derived.Test.YtckdhgbepmpgiaaGreatKB6
theorem j5 {p:Prop}(h:p:=by (try simp only[ne_eq]at *);first | exact zu tO | exact zv tO | exact zi tO | exact zi (by simp only[ne_eq,ztj];omega)):p:=h
theorem j7 {p:Prop}(h:p:=by (try simp only[ne_eq,ztj]at *);first | exact zu tO | exact zv tO | exact zi tO | exact zi (by simp only[ne_eq,ztj];omega)):p:=h
theorem iB {p:Prop}(h:p:=by exact fun w hI=>yS 961 tO (hY.keep zc hI.k1 fun q hd _ h=>hC q h hd)):p:=h
theorem iC {p:Prop}(h:p:=by exact zoV tr97 O (fun w hI=>⟨_,rfl,⟨_,rfl,hC fun h=>by have h1:=h.k0;have h2:=h.k1;have h3:=h.k2;have h4:=h.n0;have h5:=h.n1;have h6:=h.o1;have h7:=h.o0;have h8:=h.a0;have h9:=h.a1;omega⟩,hI.k0⟩)):p:=h
theorem ij {p:Prop}(h:p:=by exact fun b_ d_ h_=>by have db:=hC _ h_;first | omega | exact db d_):p:=h
theorem il {p:Prop}(h:p:=by exact fun w hI=>xc O O (yj v ol tO b gb _ _ _ _ w (hI.held O O O))):p:=h
theorem JR {p:Prop}(h:p:=by exact zoY tr100 O O (fun w hI=>⟨_,rfl,.slice none 0 0,tD,fun _=>rfl,fun h=>absurd (hb.symm.trans h) tS,hI.k1⟩)):p:=h
theorem J5 {p:Prop}(h:p:=by have h_:=hS.1.cells dw (fun h=>hC _ h du) 0 _ rfl;simpa using h_):p:=h
theorem UH {p:Prop}(h:p:=by exact fun q hq=>qk hq):p:=h
theorem Ue {p:Prop}(h:p:=by exact zrf 29 Tryz.szsOk O tK O (VDx.done tK (zoS ⟨ov2,(au,cu),b100,b13⟩ j2 j3 True.intro 0 O O))):p:=h
theorem Un {p:Prop}(h:p:=by exact Sub.cons j5 j2):p:=h
theorem Uu {p:Prop}(h:p:=by exact Sub.cons j7 j2):p:=h
theorem YK {p:Prop}(h:p:=by exact VDx.done tK (zoS ⟨ov2,(au,cu),b100,b13⟩ j2 j3 True.intro 0 O O)):p:=h
theorem YP {p:Prop}(h:p:=by exact zqh O (fun w hI=>zpS O j6) (Vs 3 O (zoS () Un j3 trivial 0 O O))):p:=h
open Go.Proofs.Tryz
variable {α β:Type} {m a b c j B root k i q nv d kk fuel by' o:Nat} {op' pl T of1 ofl:List Int} {w w':Go.World} {t e:Go.TypeId} {xs rv cs ndc hY da vs hC has:List Go.Value} {es:List (Int × Int)} {Rw R rows als rows1 frs:List (List Int)} {order L:List Nat} {v z u:Go.Value} {f:Go.GL.Fl} {g:List Go.GL.Nd} {s:Go.Proofs.YtckdhgbepmpgiaaGreat.Sf} {cl ucs pcs:List (List Go.Value)} {P:Go.Program} {Q:Go.Exit->Go.Act->Go.World->Prop} {ks:List Go.GL.Fr} {env:Go.GL.Env} {A:Go.GL.Tgs} {H Hs E' E0:Go.GL.Hp} {Bs B0:Go.GL.zn} {ops:Array Go.Oper} {listed:Array Bool} {aft:Array Go.Edge} {y:Go.Operand} {l:List (Go.Proofs.YtckdhgbepmpgiaaGreat.Phn × Nat)} {p:Go.Proofs.YtckdhgbepmpgiaaGreat.Phn × Nat} {pw:Nat->List (Go.Proofs.YtckdhgbepmpgiaaGreat.Phn × Nat)} {Dn':Nat->Nat->Prop} {D:Nat->Prop} {E:List (Nat × Nat)} {parts:Array (Nat × Go.Operand)} {ts:Array Go.TypeId} {Hn:α->Go.GL.Hp} {Φ:Go.Value->α->Prop} {enc:α->Go.Value} {r:List α} {x:Go.GL.Nd}
namespace Go.Proofs.YtckdhgbepmpgiaaGreat
open Go.GL Go.GL.Dom Go.GL.Dfs
inductive ItS (Fr:Nat->Nat->Prop) (nodes:List Int):Nat->Prop
 | node {a b:Nat}:(a:Int) ∈ nodes->Fr a b->ItS Fr nodes b
 | it {a b:Nat}:ItS Fr nodes a->Fr a b->ItS Fr nodes b
structure ItI (Fr:Nat->Nat->Prop) (nodes:List Int) (m:Nat) (ex:Nat->Prop) (ins:List Bool) (out op:List Int):Prop where
 len:ins.length=m
 sound:∀ b:Nat,ins[b]?=some true->ItS Fr nodes b
 mem:∀ y,y ∈ out ↔ ∃ b:Nat,y=(b:Int)/\ins[b]?=some true
 nodup:out.Nodup
 todo:∀ x ∈ op,∃ a:Nat,x=(a:Int)/\a<m/\(x ∈ nodes\/ins[a]?=some true)
 done:∀ a:Nat,((a:Int) ∈ nodes\/ins[a]?=some true)->(a:Int) ∈ op\/ex a\/∀ b,Fr a b->ins[b]?=some true
section
variable {Fr:Nat->Nat->Prop} {nodes:List Int} {ex:Nat->Prop} {ins:List Bool} {out op:List Int}
theorem ItI.start (hn:∀ x ∈ nodes,∃ a:Nat,x=(a:Int)/\a<m):ItI Fr nodes m (fun _=>False) (List.replicate m false) [] nodes:=by
 have hf:∀ b:Nat,¬ (List.replicate m false)[b]?=some true:=by
  grind
 refine⟨tR,fun b h=>absurd h (hf b),fun y=>⟨fun h=>tD,fun⟨b,_,h⟩=>absurd h (hf b)⟩,.nil,fun x hx=>?_,fun a h=>?_⟩
 . grind
 grind
theorem ItI.pop (h:ItI Fr nodes m (fun _=>False) ins out op) (ho:∀ y,y ∈ op ↔ y ∈ op'\/y=(a:Int)):ItI Fr nodes m (fun c=>c=a) ins out op':=by
 refine⟨h.len,h.sound,h.mem,h.nodup,fun x hx=>h.todo x ((ho x).2 (.inl hx)),fun c hc=>?_⟩;rcases h.done c hc with h1 | h1 | h1
 . grind
 . exact h1.elim
 grind
theorem ItI.push (h:ItI Fr nodes m ex ins out op) (hb:b<m) (hn:ins[b]?=some false) (ha:(a:Int) ∈ nodes\/ins[a]?=some true) (hF:Fr a b) (ho:∀ y,y ∈ op' ↔ y ∈ op\/y=(b:Int)):ItI Fr nodes m ex (ins.set b true) (out++[(b:Int)]) op':=by
 have hC:b<ins.length:=tD
 have hset:∀ c:Nat,(ins.set b true)[c]?=some true ↔ ins[c]?=some true\/c=b:=by
  intro c;by_cases e:c=b
  . grind
  rw[zuG (fun h=>e h.symm)];simp[e]
 refine⟨by simp[h.len],fun c hc=>?_,fun y=>?_,?_,fun x hx=>?_,fun c hc=>?_⟩
 .
  rcases (hset c).1 hc with h1 | rfl
  . exact h.sound c h1
  rcases ha with ha | ha
  . exact .node ha hF
  exact .it (h.sound a ha) hF
 .
  rw[zta,h.mem,zt9];constructor
  .
   rintro (⟨c,h1,h2⟩ | h1)
   . exact⟨c,h1,(hset c).2 (.inl h2)⟩
   exact⟨b,h1,(hset b).2 (.inr O)⟩
  rintro⟨c,h1,h2⟩;rcases (hset c).1 h2 with h3 | rfl
  . exact .inl ⟨c,h1,h3⟩
  exact .inr h1
 .
  refine zvc.2 ⟨h.nodup,tR,fun x hx y hy=>?_⟩;rw[zt9]at hy;subst hy;rintro rfl;obtain⟨c,h1,h2⟩:=(h.mem _).1 hx;have:c=b:=tO;subst this;rw[hn]at h2;cases h2
 .
  rcases (ho x).1 hx with h1 | rfl
  .
   obtain⟨c,h2,h3,h4⟩:=h.todo x h1
   grind
  grind
 have h0:((c:Int) ∈ nodes\/ins[c]?=some true)\/c=b:=by
  grind
 rcases h0 with h1 | rfl
 .
  rcases h.done c h1 with h2 | h2 | h2
  . grind
  . grind
  grind
 grind
theorem ItI.close (h:ItI Fr nodes m (fun c=>c=a) ins out op) (hC:∀ b,Fr a b->ins[b]?=some true):ItI Fr nodes m (fun _=>False) ins out op:=by
 refine⟨h.len,h.sound,h.mem,h.nodup,h.todo,fun c hc=>?_⟩;rcases h.done c hc with h1 | rfl | h1
 . grind
 . grind
 grind
theorem ItI.fin (h:ItI Fr nodes m (fun _=>False) ins out []) (b:Nat):ins[b]?=some true ↔ ItS Fr nodes b:=by
 refine⟨h.sound b,fun hb=>?_⟩
 have key:∀ a:Nat,((a:Int) ∈ nodes\/ins[a]?=some true)->∀ b,Fr a b->ins[b]?=some true:=by
  intro a ha;rcases h.done a ha with h1 | h1 | h1
  . grind
  . exact h1.elim
  exact h1
 induction hb with
 | node h1 h2=>exact key _ (.inl h1) _ h2
 | it _ h2 ih=>exact key _ (.inr ih) _ h2
theorem ItI.outlen (h:ItI Fr nodes m ex ins out op):out.length<=m:=by
 have h1:=nodup_le m (out.map Int.toNat) (by
  rw[List.Nodup,zvj];refine h.nodup.imp_of_mem ?_;intro p q hp hq hC;obtain⟨p,rfl,_⟩:=(h.mem _).1 hp;obtain⟨q,rfl,_⟩:=(h.mem _).1 hq;omega) (by
  intro y hy;obtain⟨z,hz,rfl⟩:=zv6.1 hy;obtain⟨c,rfl,h2⟩:=(h.mem _).1 hz;have:=(zt5.1 h2).1;rw[h.len]at this
  omega)
 rwa [ztb]at h1
theorem zmX {l:List Bool} (h:l[b]?=some false):(l.set b true).count false+1=l.count false:=by
 obtain⟨h1,h2⟩:=zt5.1 h;have h3:0<l.count false:=List.count_pos_iff.2 tD;rw[List.count_set h1,h2];simp;omega
end
def ju (n:Int) (es:List (Int × Int)) (root:Int) (nodes:List Int):Int:=if yk n es root ≠ 0 then yk n es root else if nodes.all (fun x=>decide (0<=x/\x<n)) then 0 else 3
theorem zmY (h:w.ownsRow 0 t 1 (.slice (some ⟨b,0,none⟩) m c) m xs) (hj:j<=m):w.ownsRow 0 t 1 (.slice (some ⟨b,0,none⟩) j c) j (xs.take j):=by
 obtain⟨sp,hB,hc,hY,hC⟩:=xr h;have hx:=h.1;have:=zN (k:=1) (n:=j) (cap:=c) hB tO hY hC
 grind
theorem Prep.keep {n bw bp bt:Nat} {Pw:List (List Int)} {nv bv ov:Value} {S:Nat->Prop} (h:Prep B w n root es bw Rw Pw order pl T nv bv ov bp bt) (hE:Keep S w w') (hS:∀ q,S q->q<B):Prep B w' n root es bw Rw Pw order pl T nv bv ov bp bt :=
 have g:=h.ge;have ne:∀ {q:Nat},B<=q->¬ S q:=fun h1 h2=>tD
 { h with hw:=hE.blk h.hw (ne g.1),hnv:=h.hnv.keep (zP zc) hE (fun b hb _ hs=>ne hb hs),hbv:=h.hbv.keep (zP zc) hE (fun b hb _ hs=>ne hb hs),hov:=zj h.hov hE (fun q h1 h2=>ne (h.hog q h1) h2),hP:=hE.blk h.hP (ne g.2.1),hT:=hE.blk h.hT (ne g.2.2) }
theorem zjF {n:Nat} (h:w.ownsRow 0 e k v n xs):∃ a c,v=.slice a n c/\(0<n->∃ b,a=some ⟨b,0,none⟩):=by
 rcases h.2 with⟨rfl,rfl⟩ | ⟨g,cap,cur,rfl,_⟩
 . grind
 grind
theorem zmZ (l:List Int) (u:Value) (h:w.ownsRow 0 3 1 u l.length (l.map (Value.int .i64))) (hl:l.length<=1048576):Calls prog 116 #[u] w (Ret fun r w'=>∃ _:Unit,r=.tuple #[]/\(HE.row 3 1 u (yR l).length ((yR l).map (Value.int .i64))).holds w'/\Keep (HE.row 3 1 u l.length (l.map (Value.int .i64))).S w w'/\∀ q,(HE.row 3 1 u (yR l).length ((yR l).map (Value.int .i64))).S q->((HE.row 3 1 u l.length (l.map (Value.int .i64))).S q\/w.heap.size<=q)/\q<w'.heap.size):=by
 refine(zdy l u l.length w h hl).mono ?_;rintro _ w' ⟨_,rfl,rfl,h1,h2⟩;have hC:(HE.row 3 1 u (yR l).length ((yR l).map (Value.int .i64))).holds w':=by rw[<- xf l]at h1;exact h1
 exact⟨_,rfl,(),rfl,hC,h2,fun q hq=>⟨.inl hq,xB h1 hq⟩⟩
theorem zfR (n root:Int) (es:List (Int × Int)) (nodes:List Int) (ev nv:Value) (D D':Nat->Prop) (w:World) (dH:SlR 2 xq D w ev es) (hnv:SlR 1 zG D' w nv nodes) (d9:n<=1000) (eb:nodes.length<=1000):Calls prog 100 #[.agg #[.int .i64 n,ev],.int .i64 root,nv] w (Ret fun v w'=>∃ u,v=.tuple #[u,.int .i64 (ju n es root nodes)]/\(ju n es root nodes ≠ 0->u=.slice none 0 0)/\(ju n es root nodes=0->∃ Rw order pl T L,Known n.toNat root.toNat es Rw order pl T/\L.Pairwise (·<·)/\(∀ y:Int,y ∈ L ↔ ∃ b:Nat,y=(b:Int)/\ItS (xA Rw root.toNat) nodes b)/\SlR 1 zG (fun b=>w.heap.size<=b) w' u L)/\Ext w w'):=by
 obtain⟨ao,cap,rfl⟩:=dH.form;obtain⟨an,cn,rfl⟩:=hnv.form;refine zqs func100 O ntmps100 O (V.inn (Vs 2 O (V.box 3 O O (fun b3=>?_))));refine Vs 8 O (zr4 call99 O (fun w hI=>(show Calls prog 99 #[.agg #[.int .i64 n,.slice ao es.length cap],.int .i64 root] w (Ret fun v w'=>(∃ u,v=.tuple #[u,.int .i64 (yk n es root)]/\(yk n es root ≠ 0->u=.pointer none)/\(yk n es root=0->∃ bw Rw Pw order pl T nv bv ov bp bt,u=.pointer (some ⟨bw,0,none⟩)/\Prep w.heap.size w' n.toNat root.toNat es bw Rw Pw order pl T nv bv ov bp bt))/\Ext w w') from (zd0 n root es _ D w (Tr1 hI.k0 dH)).mono tD)) ?_);rintro r w1 w2 ec dJ ⟨u,rfl,ed,dK⟩ du;refine Vs 14 O (zoE O (fun hc=>?_) (fun hc=>?_))
 .
  have hi:ju n es root nodes=yk n es root:=by rw[ju,zt2 hc]
  refine Vs 9 O (zoY tr100 O O (fun w hI=>⟨_,rfl,.slice none 0 0,tD,fun _=>rfl,fun h=>absurd (hi.symm.trans h) hc,hI.k1⟩))
 have dw:yk n es root=0:=by simpa using hc
 have hi:ju n es root nodes=if nodes.all (fun x=>decide (0<=x/\x<n)) then 0 else 3:=by rw[ju,zt1 hc]
 obtain⟨bw,Rw,Pw,order,pl,T,nv,bv,ov,bp,bt,rfl,hp⟩:=dK dw;obtain⟨m,rfl⟩:=ztN (show 0<=n from by have:=zf5 dw;omega);obtain⟨rt,rfl⟩:=ztN (show 0<=root from by have:=zf5 dw;omega);simp only[ztd]at hp ⊢;have hK:=hp.known;refine Vs 11 O (zrl (σ:=Nat) [2,3,8,28,29] [3] [3] O (fun e k=>(30,.int .i64 k)::e) (fun e k=>e) (fun k=>k<=nodes.length/\(nodes.take k).all (fun x=>decide (0<=x/\x<(m:Int)))=true) (fun k=>nodes.length - k) 0 j2 j3 j1 j1 j1 JF ?_);rintro k ⟨ee,hY⟩;refine Vs 6 O (zoE O (fun ef=>?_) (fun eh=>?_))
 .
  refine Vs 6 O (zrj 1000 1 k tO hnv O O (fun x ei ej dx dL dy=>?_));refine zqQ 1000 tR27 ts3 O dy tO _ rfl O ?_
  have dh:¬ (0<=x/\x<(m:Int))->ju m es rt nodes=3:=by
   grind
  refine Vs 9 O (V.sp 36 O (fun dM=>?_) (fun dM=>?_))
  .
   have hb:=dh tO;refine Vs 20 O JR
  refine Vs 7 O (zoE O (fun dN=>?_) (fun dN=>?_))
  .
   have hb:=dh tO;refine Vs 12 O JR
  refine Va 7 O tO (V.back (k+1) j2 j3 ⟨tO,Gr.all_take_succ dx hY tD⟩ tO 0 O O)
 obtain rfl:k=nodes.length:=tO;rw[zsW]at hY;have dI:ju m es rt nodes=0:=tD
 have dz:∀ x ∈ nodes,∃ a:Nat,x=(a:Int)/\a<m:=by
  intro x hx;have:=ztX.1 hY x hx;simp at this;exact⟨x.toNat,tO,tO⟩
 refine Vs 8 O (zr4 call148 O (fun w hI=>(show Calls prog 148 #[.pointer (some ⟨bw,0,none⟩)] w (Ret fun u w'=>(∃ F,FrontRows Rw rt m F/\SlR 1 (RSl 1 zG) (fun b=>w.heap.size<=b) w' u F)/\Ext w w') from (zf4 w (hp.keep hI.k0 du) tO).mono tD)) ?_);rintro u w3 w4 ek dO ⟨Fm,hF,hu⟩ hC;obtain⟨fa,fc,rfl⟩:=hu.form;have em:=hF.len;refine Vs 7 O (zpw 47 tu52 Tryz.el4 O tO tO (zs:=List.replicate m (.bool false)) (yL _ m O) tR (fun b47=>?_));refine Vs 6 O (zrM [] (Hn:=fun x:Value=>[(49,.row 3 1 x nodes.length (nodes.flatMap zdl))]) [(3,some (3,0)),(45,some (3,0))] tc101 O iA j1 (fun w hI=>zgA 49 (zf3 nodes _ D' w (Tr1 hI.k2 hnv) tO)) ?_);rintro vs _ rfl
 have dQ:∀ x r,Fm[x]?=some r->∀ y ∈ r,∃ c:Nat,y=(c:Int)/\c<m/\xA Rw rt x c:=by
  intro x r hr y hy;obtain⟨c,rfl,dr⟩:=(hF.mem x r hr y).1 hy;refine⟨c,rfl,?_,dr⟩;obtain⟨d,h1,h2,_⟩:=dr;have:=(Dfs.Reach.step h1 h2).lt hp.rows (by rw[hp.succ.len];exact hp.hroot);rw[hp.succ.len]at this;exact this
 refine Vs 4 O (zqU 15 3 1 O (Vs 5 O (zrk 47 O (e':=.row 4 1 (.slice (some ⟨b47,0,none⟩) m m) m ((List.replicate m false).map Value.bool)) (by rw[zuY]) (zrk 49 O (e':=.row 3 1 vs nodes.length (nodes.map (Value.int .i64))) (by rw[zob]) (Vs 1 O (zrl (σ:=List Bool × List Int × List Int × Value × Value) [12,13] [] [] O (fun e ⟨ins,out,op,vs,vo⟩=>(14,vs)::(15,vo)::e) (fun e ⟨ins,out,op,vs,vo⟩=>(47,.row 4 1 (.slice (some ⟨b47,0,none⟩) m m) m (ins.map Value.bool))::(49,.row 3 1 vs op.length (op.map (Value.int .i64)))::(15,.row 3 1 vo out.length (out.map (Value.int .i64)))::e) (fun⟨ins,out,op,vs,vo⟩=>ItI (xA Rw rt) nodes m (fun _=>False) ins out op/\op.length+ins.count false<=nodes.length+m) (fun⟨ins,out,op,vs,vo⟩=>op.length+ins.count false) (List.replicate m false,[],nodes,vs,.slice none 0 0) j2 j3 j1 j1 j1 ⟨ItI.start dz,tR⟩ ?_))))));rintro⟨ins,out,op,vs,vo⟩ ⟨hT,dR⟩;refine zqI (p:=∃ a c,vs=.slice a op.length c/\(0<op.length->∃ b,a=some ⟨b,0,none⟩)) (fun w hI=>zjF (hI.at 49 O)) (fun dS=>?_);obtain⟨aw,cw,rfl,dT⟩:=dS;refine Vs 8 O (zoE O (fun lw=>?_) (fun lw=>?_))
 .
  obtain⟨op',x,rfl⟩:∃ op' x,op=op'++[x]:=by
   rcases zuh op with rfl | ⟨s,x,rfl⟩
   . grind
   grind
  obtain⟨a,rfl,er,dU⟩:=hT.todo x tR;have ew:(op'++[(a:Int)]).length=op'.length+1:=tR;obtain⟨bz,rfl⟩:=dT tO;refine zqI (p:=(op'++[(a:Int)]).length<=cw) (fun w hI=>(xr (show w.ownsRow 0 3 1 (.slice (some ⟨bz,0,none⟩) (op'++[(a:Int)]).length cw) (op'++[(a:Int)]).length ((op'++[(a:Int)]).map (Value.int .i64)) from hI.at 49 O)).choose_spec.2.1) (fun ez=>(Va 10 O tO (zqZ 49 (op'.length) tg3 O tO (show _=some (Value.int .i64 (a:Int)) by simp) (Va 9 O tO (zqh O (fun w hI=>zpM tR27 ts3 O O tO) (V.eq 63 (v:=.slice (some ⟨bz,0,none⟩) op'.length cw) O tD (zrB 49 (e':=.row 3 1 (.slice (some ⟨bz,0,none⟩) op'.length cw) op'.length (op'.map (Value.int .i64))) O (fun w hI=>(by have h:=zmY (j:=op'.length) (show w.ownsRow 0 3 1 (.slice (some ⟨bz,0,none⟩) (op'++[(a:Int)]).length cw) (op'++[(a:Int)]).length ((op'++[(a:Int)]).map (Value.int .i64)) from hI.at 49 O) tO;rwa [zuT,List.take_left' tR]at h)) trivial (fun _ h=>h) (fun q h=>h) ?_)))))));refine Vs 7 O (zrh 2000 0 a tO hu O O O (fun b_ d_ h_=>by have dA:=hC _ h_;first | omega | exact dA d_) (fun z eA eC eD dl dV dB dW dC=>?_));obtain⟨dX,rfl,da⟩:=dC;obtain⟨dY,dZ,rfl⟩:=da.form;refine zqQ 2000 tR89 ts27 O dB tO _ rfl O ?_;have d5:=hT.pop (a:=a) (op':=op') (fun y=>tR);have eE:=da.max;obtain⟨K,eF⟩:∃ K,K=(op'++[(a:Int)]).length+ins.count false:=⟨_,rfl⟩;refine Vs 6 O (zrl (σ:=Nat × List Bool × List Int × List Int × Value × Value) [12,13,67,68] [] [] O (fun e ⟨j,ins2,out2,op2,vs2,vo2⟩=>(14,vs2)::(15,vo2)::(69,.int .i64 j)::e) (fun e ⟨j,ins2,out2,op2,vs2,vo2⟩=>(47,.row 4 1 (.slice (some ⟨b47,0,none⟩) m m) m (ins2.map Value.bool))::(49,.row 3 1 vs2 op2.length (op2.map (Value.int .i64)))::(15,.row 3 1 vo2 out2.length (out2.map (Value.int .i64)))::e) (fun⟨j,ins2,out2,op2,vs2,vo2⟩=>j<=z.length/\ItI (xA Rw rt) nodes m (fun c=>c=a) ins2 out2 op2/\((a:Int) ∈ nodes\/ins2[a]?=some true)/\(∀ b:Nat,(b:Int) ∈ z.take j->ins2[b]?=some true)/\op2.length+ins2.count false+1<=K) (fun⟨j,ins2,out2,op2,vs2,vo2⟩=>z.length - j) (0,ins,out,op',.slice (some ⟨bz,0,none⟩) op'.length cw,vo) j2 j3 j1 j1 j1 ⟨zt6 _,d5,dU,tR,tO⟩ ?_);rintro⟨j,ins2,out2,op2,vs2,vo2⟩ ⟨eG,db,dc,dt,d6⟩;refine Vs 6 O (zoE O (fun eH=>?_) (fun eI=>?_))
  .
   refine Vs 6 O (zrh 3000 0 j tO da O O O (fun b_ d_ h_=>by have dA:=hC _ h_;first | omega | exact dA d_) (fun y eJ eK eL dm dD dE d7 dF=>?_));obtain rfl:=dF;refine zqQ 3000 tR27 ts3 O dE tO _ rfl O ?_;obtain⟨c,rfl,dg,dr⟩:=dQ a z dl y dD;obtain⟨s,hs⟩:∃ s,ins2[c]?=some s:=⟨_,zsR (by rw[db.len];exact dg)⟩;have d8:=db.outlen;refine Va 9 O tO (zqZ 47 (c) tg4 O tO (show _=some (Value.bool s) by rw[zt8,hs];rfl) ?_);refine zqh O (fun w hI=>zpS O j6) (Vs 2 O (V.bool O (fun dG=>?_) (fun dG=>?_)))
   .
    obtain rfl:s=false:=by simpa using dG
    have eM:=zmX hs
    have g1:(a:Int) ∈ nodes\/(ins2.set c true)[a]?=some true:=dc.imp id fun h=>by
     by_cases e:a=c
     . subst e;rw[hs]at h;cases h
     rw[zuG (fun h=>e h.symm)];exact h
    have g2:∀ b:Nat,(b:Int) ∈ z.take (j+1)->(ins2.set c true)[b]?=some true:=by
     intro b hb;by_cases e:b=c
     . subst e;rw[zuH (by rw[db.len];exact dg)]
     rcases zta.1 (by rw[zvy,dm]at hb;exact hb) with h | h
     . rw[zuG (fun h=>e h.symm)];exact dt b h
     simp at h;omega
    refine Va 5 O tO (zr0 47 (c) ts4 O tO (by rw[ztb,db.len];omega) (zrk 47 O (e':=.row 4 1 (.slice (some ⟨b47,0,none⟩) m m) m ((ins2.set c true).map Value.bool)) (by rw[zuZ]) (Vs 6 O (zro 83 [(0,_)] tR27 ts3 tz3 tS O O tK (fun b83=>?_)))));refine zqV 15 83 tu27 Tryz.el3 O tS O O tO tO (fun u15=>(Vs 6 O (zro 87 [(0,_)] tR27 ts3 tz3 tS O O tK (fun b87=>?_))));refine zqV 49 87 tu27 Tryz.el3 O tS O O tO tO (fun u49=>(Va 8 O tO (zrk 15 O (e':=.row 3 1 u15 (out2++[(c:Int)]).length ((out2++[(c:Int)]).map (Value.int .i64))) tR (zrk 49 O (e':=.row 3 1 u49 (op2++[(c:Int)]).length ((op2++[(c:Int)]).map (Value.int .i64))) tR (V.back ⟨j+1,ins2.set c true,out2++[(c:Int)],op2++[(c:Int)],u49,u15⟩ j2 j3 ⟨tO,db.push dg hs dc dr (fun y=>tR),g1,g2,tY⟩ tZ 0 O O)))))
   obtain rfl:s=true:=by simpa using dG
   have g2:∀ b:Nat,(b:Int) ∈ z.take (j+1)->ins2[b]?=some true:=by
    intro b hb;rcases zta.1 (by rw[zvy,dm]at hb;exact hb) with h | h
    . exact dt b h
    simp at h;obtain rfl:b=c:=tO;exact hs
   refine Va 7 O tO (V.back ⟨j+1,ins2,out2,op2,vs2,vo2⟩ j2 j3 ⟨tO,db,dc,g2,d6⟩ tZ 0 O O)
  obtain rfl:j=z.length:=tO;rw[zsW]at dt;refine Vs 5 O (V.back ⟨ins2,out2,op2,vs2,vo2⟩ j2 j3 ⟨db.close (fun b hb=>dt b ((hF.mem a z dl _).2 ⟨b,rfl,hb⟩)),tO⟩ (by dsimp only;omega) 0 O O)
 obtain rfl:op=[]:=zug tO;have d8:=hT.outlen;refine Vs 8 O (zr7 15 (E:=fun _:Unit=>.row 3 1 vo (yR out).length ((yR out).map (Value.int .i64))) call116 O iF (fun w hI=>zmZ out vo (hI.at 15 O) tO) ?_);rintro _ _ rfl;have g1:(yR out).Pairwise (·<·):=((zaQ out).and ((List.mergeSort_perm out _).nodup_iff.2 hT.nodup)).imp (fun h=>Int.lt_iff_le_and_ne.2 h)
 have g2:∀ y:Int,y ∈ yR out ↔ ∃ b:Nat,y=(b:Int)/\ItS (xA Rw rt) nodes b:=by
  intro y;rw[zac,hT.mem];constructor
  . rintro⟨b,h1,h2⟩;exact⟨b,h1,(hT.fin b).1 h2⟩
  rintro⟨b,h1,h2⟩;exact⟨b,h1,(hT.fin b).2 h2⟩
 refine Vs 10 O (zoY tr100 O O (fun w hI=>⟨_,rfl,vo,by rw[dI],fun h=>absurd dI h,fun _=>⟨Rw,order,pl,T,yR out,hK,g1,g2,zpK (Value.int .i64) iA (hI.at 15 O) (fun q hq=>(hI.inS 2 15 O O hq).1.elim False.elim id)⟩,hI.k2⟩))
end Go.Proofs.YtckdhgbepmpgiaaGreat
namespace Go.GL.Dom
open Go.GL.Dfs
section
variable {n:Nat}
theorem zn0 (h:Solved R root n pl T) (hO:Dfs.Order R root order) (hP:Dfs.Place n order pl) (hn:∀ x,Dfs.Reach R root x->x<n) {Fl:Nat->Prop} {O:Nat->α}
  (hC:∀ z,Dfs.Reach R root z->z ≠ root->¬ Fl z->∀ q:Nat,lk T z=(q:Int)->O z=O q) (hi:Dfs.Reach R root i) (dl:∀ z,xA R root z i->¬ Fl z) (hq:lk T i=(q:Int)) {y:Nat} (hy:Dfs.Reach R root y) (dh:Dfs.Edge R y i):O y=O q:=by
 rcases h.tree_or hi (hn _ hi) with⟨_,e⟩ | ⟨q',dx,e,dm,hd,db,dr,_⟩
 . omega
 obtain rfl:q'=q:=Int.ofNat.inj (e.symm.trans hq)
 have main:∀ (k:Nat) z,lk pl z<=k->Dfs.Reach R root z->Dom R root z y->Dom R root q' z->O z=O q':=by
  intro k;induction k with
  | zero =>
   intro z hk hz dc da;by_cases e0:q'=z
   . rw[e0]
   have h1:=h.lt hO hP hz da e0;have h2:=h.tree_or hz (hn _ hz);rcases h2 with⟨h3,_⟩ | ⟨p,_,_,_,_,_,dg,dt⟩
   . exact absurd ((zsC (root:=root) (R:=R) tD).trans h3.symm) e0
   have:=xK hO hP dg;omega
  | succ k ih =>
   intro z hk hz dc da;by_cases e0:q'=z
   . rw[e0]
   have hF:xA R root z i:=⟨y,hy,dh,dc,fun h1=>by
    have h2:=db z h1.1 h1.2;have h3:=h.lt hO hP dr h2 (fun e=>e0 e.symm);have h4:=h.lt hO hP hz da e0
    omega⟩
   rcases h.tree_or hz (hn _ hz) with⟨h3,_⟩ | ⟨p,du,hp,_,dw,hY,dg,dt⟩
   . exact absurd ((zsC (root:=root) (R:=R) tD).trans h3.symm) e0
   rw[hC z hz du (dl z hF) p hp];exact ih p tO dg (dw.trans dc) (hY q' e0 da)
 exact main (lk pl y).toNat y tO hy (Dom.refl y) (hd.pred dm dh)
end
end Go.GL.Dom
namespace Go.Proofs.YtckdhgbepmpgiaaGreat
open Go.GL Go.GL.Dom
structure TreeG (g:List Nd) (R:List (List Int)) (order:List Nat) (pl T:List Int):Prop where
 edge:∀ a b:Nat,b<g.length->(Dfs.Edge R a b ↔ a ∈ zw g b)
 all:∀ i,i<g.length->Dfs.Reach R 0 i
 lt:∀ i,Dfs.Reach R 0 i->i<g.length
 sol:Solved R 0 g.length pl T
 ord:Dfs.Order R 0 order
 place:Dfs.Place g.length order pl
structure RenV (f:Fl) (g:List Nd) (s:Sf) (nv:Nat) (R:List (List Int)) (T:List Int) (B:Nat->Int->Int):Prop where
 zero:∀ v:Int,0<=v->v<nv->B 0 v=v
 phi:∀ i v k,i<g.length->i ≠ 0->zb9 s i v=some k->B i v=k
 up:∀ (i q:Nat) v,i<g.length->i ≠ 0->zb9 s i v=none->lk T i=(q:Int)->B i v=yw f g s B q v
 free:∀ (i:Nat) (v:Int),i<g.length->i ≠ 0->0<=v->v<nv->zb9 s i v=none->∀ z,xA R 0 z i->¬ (zO f g z=v\/∃ k,z ≠ 0/\zb9 s z v=some k)
section
variable {B:Nat->Int->Int}
theorem zjG (x:Int):xb x x=x:=zt2 (.inr rfl)
theorem zlv (x:Int):xb (-1) x=x:=by
 unfold xb;split
 . omega
 rfl
theorem zhR {l:List Int} {c:Int} (hl:l ≠ []) (h:∀ x ∈ l,x=c):jm l=c:=by
 obtain⟨x,l,rfl⟩:=List.exists_cons_of_ne_nil hl;obtain rfl:=h x (zsV ..)
 have main:∀ l:List Int,(∀ y ∈ l,y=x)->l.foldl xb x=x:=fun l=>by
  induction l with
  | nil=>exact fun _=>rfl
  | cons y l ih =>
   intro hl;rw[zuw,hl y (zsV ..),zjG];exact ih fun z hz=>hl z (zsU _ hz)
 show (x::l).foldl xb (-1)=x;rw[zuw,zlv];exact main l fun y hy=>h y iu
theorem RenV.pred (h:RenV f g s nv R T B) (ht:TreeG g R order pl T) {y:Nat} {v:Int} (hi:i<g.length) (h0:i ≠ 0) (hv:0<=v) (hn:v<nv) (hp:zb9 s i v=none) (hy:y ∈ zw g i) (hq:lk T i=(q:Int)):yw f g s B y v=yw f g s B q v:=by
 refine zn0 (Fl:=fun z=>zO f g z=v\/∃ k,z ≠ 0/\zb9 s z v=some k) (O:=fun z=>yw f g s B z v) ht.sol ht.ord ht.place ht.lt (fun z hz hY hF p da=>?_) (ht.all i hi) (fun z hF=>h.free i v hi h0 hv hn hp z hF) hq (ht.all y (yQ hy)) ((ht.edge y i hi).2 hy)
 have hC:zb9 s z v=none:=by
  cases e:zb9 s z v with
  | none=>rfl
  | some k=>exact absurd (.inr ⟨k,hY,e⟩) hF
 show yw f g s B z v=yw f g s B p v;rw[show yw f g s B z v=B z v from zt1 fun e=>hF (.inl e)];exact h.up z p v (ht.lt z hz) hY hC da
theorem TreeG.up (ht:TreeG g R order pl T) (hi:i<g.length) (h0:i ≠ 0):∃ q:Nat,lk T i=(q:Int)/\q<g.length/\lk pl q<lk pl i:=by
 rcases ht.sol.tree_or (ht.all i hi) hi with⟨e,_⟩ | ⟨q,_,h1,_,_,_,h2,h3⟩
 . omega
 exact⟨q,h1,ht.lt q h2,h3⟩
theorem TreeG.pre (ht:TreeG g R order pl T) (hi:i<g.length) (h0:i ≠ 0):∃ y,y ∈ zw g i:=by
 cases ht.all i hi with
 | refl=>exact absurd rfl h0
 | @step a _ _ he=>exact⟨a,(ht.edge a i hi).1 he⟩
theorem RenV.sol (h:RenV f g s nv R T B) (ht:TreeG g R order pl T) (hs:NnS f g s):SolV f g s nv B:=by
 refine⟨fun i hi v hv hn=>?_,fun i hi v hv hn=>?_⟩
 .
  have hr:RV f g s v i (B i v):=by
   have:=ht.all i hi;induction this with
   | refl=>rw[h.zero v hv hn];exact .ini
   | @step a i ha he ih =>
    by_cases h0:i=0
    . subst h0;rw[h.zero v hv hn];exact .ini
    cases hp:zb9 s i v with
    | some k=>rw[h.phi i v k hi h0 hp];exact .phi h0 hp
    | none =>
     have hy:=(ht.edge a i hi).1 he;obtain⟨q,hq,_⟩:=ht.up hi h0;have h1:=h.pred ht hi h0 hv hn hp hy hq;rw[h.up i q v hi h0 hp hq,<- h1];unfold yw;split
     . rename_i hd;exact .dfn h0 hp hy hd
     rename_i hd;exact .pass h0 hp hy hd (ih (ht.lt a ha))
  exact .inr (.inl ⟨hr.nn hs hv,hr⟩)
 unfold eqV;split
 . rename_i h0;subst h0;exact h.zero v hv hn
 rename_i h0;split
 . rename_i k hp;exact h.phi i v k hi h0 hp
 rename_i hp;obtain⟨q,hq,_⟩:=ht.up hi h0;obtain⟨y,hy⟩:=ht.pre hi h0;rw[h.up i q v hi h0 hp hq];refine(zhR (fun e=>?_) fun x hx=>?_).symm
 .
  rw[List.map_eq_nil_iff]at e
  grind
 obtain⟨z,hz,rfl⟩:=zv6.1 hx;exact h.pred ht hi h0 hv hn hp hz hq
end
end Go.Proofs.YtckdhgbepmpgiaaGreat
namespace Go.GL.Dom
def chT (T:List Int) (i:Nat):List Nat:=(List.range T.length).filter fun c=>decide (T[c]?=some (i:Int))
def zfh (T:List Int):Nat->Nat->List Nat
 | 0,_=>[]
 | m+1,i=>i::(chT T i).flatMap (zfh T m)
inductive AncT (T:List Int) (i:Nat):Nat->Prop
 | refl:AncT T i i
 | step {j q:Nat}:lk T j=(q:Int)->AncT T i q->AncT T i j
structure TrT (T:List Int) (n:Nat) (rk:Nat->Int):Prop where
 len:T.length=n
 up:∀ j q:Nat,j<n->lk T j=(q:Int)->q<n/\rk q<rk j
section
variable {n:Nat} {rk:Nat->Int}
theorem chT_mem:c ∈ chT T i ↔ c<T.length/\lk T c=(i:Int):=by
 unfold chT;rw[zv2,zva,decide_eq_true_iff];refine⟨fun⟨h1,h2⟩=>⟨h1,xJ h2⟩,fun⟨h1,h2⟩=>⟨h1,?_⟩⟩;have:=kr (l:=T) (i:=c) tO;rw[this,h2]
theorem zjH (i:Nat):(chT T i).Nodup:=List.Pairwise.filter _ zve
theorem TrT.rk_le (h:TrT T n rk) (ha:AncT T i j):j<n->i<n/\(i=j\/rk i<rk j):=by
 induction ha with
 | refl=>exact fun hj=>⟨hj,.inl rfl⟩
 | @step j q hq _ ih =>
  intro hj;obtain⟨h1,h2⟩:=h.up j q hj hq;obtain⟨h3,h4⟩:=ih h1;exact⟨h3,.inr tD⟩
theorem AncT.trans (h:AncT T a b) (h':AncT T b c):AncT T a c:=by
 induction h' with
 | refl=>exact h
 | step hq _ ih=>exact .step hq ih
theorem TrT.child (h:TrT T n rk) (ha:AncT T i j):j<n->j ≠ i->∃ c,c ∈ chT T i/\AncT T c j:=by
 induction ha with
 | refl=>exact fun _ hn=>absurd rfl hn
 | @step j q hq _ ih =>
  intro hj _;obtain⟨h1,h2⟩:=h.up j q hj hq;by_cases e:q=i
  .
   subst e;exact⟨j,chT_mem.2 ⟨by rw[h.len];exact hj,hq⟩,.refl⟩
  obtain⟨c,hc,hC⟩:=ih h1 e;exact⟨c,hc,.step hq hC⟩
theorem AncT.comp (ha:AncT T a j) (hb:AncT T b j):AncT T a b\/AncT T b a:=by
 induction ha with
 | refl=>exact .inr hb
 | @step j q hq ha ih =>
  cases hb with
  | refl=>exact .inl (.step hq ha)
  | @step _ q' hq' hb =>
   obtain rfl:q'=q:=Int.ofNat.inj (hq'.symm.trans hq);exact ih hb
theorem TrT.child_uniq (h:TrT T n rk) (_:j<n) (hc:c ∈ chT T i) (hd:d ∈ chT T i) (hC:AncT T c j) (hY:AncT T d j):c=d:=by
 have main:∀ {c d:Nat},c ∈ chT T i->d ∈ chT T i->AncT T c d->c=d:=fun {c d} hc hd da=>by
  obtain⟨h1,h2⟩:=chT_mem.1 hc;obtain⟨h3,h4⟩:=chT_mem.1 hd;rw[h.len]at h1 h3;cases da with
  | refl=>rfl
  | @step _ q hq hcq =>
   obtain rfl:q=i:=Int.ofNat.inj (hq.symm.trans h4);have h5:=h.up c q h1 h2;have h6:=h.rk_le hcq h5.1;rcases h6.2 with e | e
   . grind
   omega
 rcases hC.comp hY with e | e
 . grind
 grind
theorem zfS {l:List Nat} (hl:l.Nodup) {p:Nat->Prop} [DecidablePred p] (hc:c ∈ l) (hp:p c) (hu:∀ d ∈ l,p d->d=c):(l.map fun d=>if p d then 1 else 0).sum=1:=by
 induction l with
 | nil=>cases hc
 | cons x l ih =>
  rw[zvd]at hl;rw[zuV,zvx];rcases zt7.1 hc with rfl | hc
  .
   rw[zt2 hp]
   have:∀ m:List Nat,(∀ d ∈ m,¬ p d)->(m.map fun d=>if p d then 1 else 0).sum=0:=fun m=>by
    induction m with
    | nil=>exact fun _=>rfl
    | cons y m ih=>intro hm;rw[zuV,zvx,zt1 (hm y (zsV ..)),ih fun d hd=>hm d (zsU _ hd)]
   rw[this l fun d hd hC=>hl.1 (by rw[<- hu d (zsU _ hd) hC];exact hd)]
  grind
theorem zjI {l:List Nat} {p:Nat->Prop} [DecidablePred p] (hu:∀ d ∈ l,¬ p d):(l.map fun d=>if p d then 1 else 0).sum=0:=by
 induction l with
 | nil=>rfl
 | cons y m ih=>rw[zuV,zvx,zt1 (hu y (zsV ..)),ih fun d hd=>hu d (zsU _ hd)]
open Classical in
theorem TrT.count (h:TrT T n rk):∀ (m i:Nat),i<n->(∀ j,j<n->AncT T i j->rk j - rk i<m)->∀ j,j<n->(zfh T m i).count j=if AncT T i j then 1 else 0:=by
 intro m;induction m with
 | zero=>intro i hi hm j _;have:=hm i hi .refl;omega
 | succ m ih =>
  intro i hi hm j hj
  have hY:∀ c ∈ chT T i,c<n/\rk i<rk c/\AncT T i c:=fun c hc=>by
   obtain⟨h1,h2⟩:=chT_mem.1 hc;rw[h.len]at h1;exact⟨h1,(h.up c i h1 h2).2,.step h2 .refl⟩
  have hs:((chT T i).flatMap (zfh T m)).count j=((chT T i).map fun c=>if AncT T c j then 1 else 0).sum:=by
   rw[zu8];congr 1;refine zuU fun c hc=>?_;obtain⟨h1,h2,h3⟩:=hY c hc;exact ih c h1 (fun j' da ha=>by have:=hm j' da (h3.trans ha);omega) j hj
  show (i::(chT T i).flatMap (zfh T m)).count j=_;rw[List.count_cons,hs];by_cases e:j=i
  .
   subst e;rw[zjI fun c hc ha=>?_,zt2 tR,zt2 .refl];obtain⟨h1,h2,_⟩:=hY c hc;have:=(h.rk_le ha hj).2;rcases this with e | e
   . subst e;omega
   omega
  rw[zt1 (by simpa using fun e'=>e e'.symm),zvK];by_cases ha:AncT T i j
  .
   obtain⟨c,hc,hC⟩:=h.child ha hj e;rw[zt2 ha];exact zfS (zjH i) hc hC fun d hd db=>h.child_uniq hj hd hc db hC
  rw[zt1 ha];exact zjI fun c hc hC=>ha ((hY c hc).2.2.trans hC)
theorem zn1 (h:TrT T n rk):∀ (m i:Nat),i<n->∀ j ∈ zfh T m i,j<n:=by
 intro m;induction m with
 | zero=>intro i _ j hj;cases hj
 | succ m ih =>
  intro i hi j hj;rcases zt7.1 hj with rfl | hj
  . exact hi
  obtain⟨c,hc,hj⟩:=zv3.1 hj;exact ih c (by have:=(chT_mem.1 hc).1;rw[h.len]at this;exact this) j hj
end
end Go.GL.Dom
namespace Go.Proofs.YtckdhgbepmpgiaaGreat
open Go.GL Go.GL.Dom
theorem TreeG.trt (h:TreeG g R order pl T):TrT T g.length (fun i=>lk pl i):=⟨h.sol.len,fun j q hj hq=>by
 by_cases h0:j=0
 .
  subst h0;have:=h.sol.out 0 hj (.inr rfl);rw[xJ this]at hq;omega
 .
  obtain⟨q',h1,h2,h3⟩:=h.up hj h0
  grind⟩
theorem TreeG.rk0 (h:TreeG g R order pl T) (hi:i<g.length):0<=lk pl i:=xK h.ord h.place (h.all i hi)
theorem TreeG.rk1 (h:TreeG g R order pl T) (hor:order.length<=g.length) (hi:i<g.length):lk pl i<g.length:=by
 have h1:=zay h.place (h.rk0 hi);have:=(zt5.1 h1.1).1;omega
theorem TreeG.anc (h:TreeG g R order pl T):∀ (k:Nat) (i:Nat),lk pl i<=k->i<g.length->AncT T 0 i:=by
 intro k;induction k with
 | zero =>
  intro i hk hi;by_cases h0:i=0
  . subst h0;exact .refl
  obtain⟨q,h1,h2,h3⟩:=h.up hi h0;have:=h.rk0 h2;omega
 | succ k ih =>
  intro i hk hi;by_cases h0:i=0
  . subst h0;exact .refl
  obtain⟨q,h1,h2,h3⟩:=h.up hi h0;exact .step h1 (ih q tO h2)
theorem TreeG.walk (h:TreeG g R order pl T) (hor:order.length<=g.length) (h0:0<g.length):(zfh T (g.length+1) 0).Perm (List.range g.length):=by
 rw[zvl];intro j;by_cases hj:j<g.length
 . rw[h.trt.count _ 0 h0 (fun j' hC _=>by have:=h.rk1 hor hC;have:=h.rk0 h0;omega) j hj,zt2 (h.anc (lk pl j).toNat j tO hj),List.nodup_range.count,zt2 (zva.2 hj)]
 rw[zu5.2 fun hm=>hj (zn1 h.trt _ 0 h0 j hm),zu5.2 fun hm=>hj (zva.1 hm)]
section
variable (f:Fl) (g:List Nd) (T:List Int) (of1:List Int) (ph:Nat->List Phn)
def zgL (j:Nat):Bool:=decide (0<=zO f g j)
def xV:List Nat:=zfh T (g.length+1) 0
def zcu (k:Nat):List Nat:=((xV g T).take k).filter (zgL f g)
def dfW (j:Nat):Int:=if 0<=zO f g j then ((of1.length+(zcu f g T ((xV g T).idxOf j)).length:Nat):Int) else -1
def zlw:Nat->Nat->Int->Int
 | 0,_,v=>v
 | m+1,i,v=>match kL (ph i) v with
  | some k=>k
  | none=>if 0<=lk T i then (if zO f g (lk T i).toNat=v then dfW f g T of1 (lk T i).toNat else zlw m (lk T i).toNat v) else v
def zdQ (i:Nat) (v:Int):Int:=zlw f g T of1 ph (g.length+1) i v
def zcf (i:Nat) (v:Int):Int:=if zO f g i=v then dfW f g T of1 i else zdQ f g T of1 ph i v
def zo5 (i:Nat) (p:Phn):Phn:=⟨p.var,p.ver,p.frm,(zw g i).map fun y=>zcf f g T of1 ph y p.var⟩
def zn2 (i:Nat):Sn:=⟨(ph i).map (zo5 f g T of1 ph i),(rdV f g i).map fun v=>(v,zdQ f g T of1 ph i v),dfW f g T of1 i⟩
def zcv:Sf:=⟨of1++((xV g T).filter (zgL f g)).map (zO f g),(List.range g.length).map (zn2 f g T of1 ph)⟩
structure DefOk:Prop where
 dfn:∀ j,j<g.length->0<=zO f g j->∃ x,f.vars[(zO f g j).toNat]?=some x/\x.kind=0
 no:∀ j,-1<=zO f g j
 rd:∀ j v,v ∈ rdV f g j->0<=v/\v<f.vars.length
structure PlcF (R:List (List Int)):Prop where
 len:f.vars.length<=of1.length
 ini:∀ (k:Nat) v,of1[k]?=some v->k<f.vars.length->v=(k:Int)
 new:∀ (k:Nat) v,of1[k]?=some v->f.vars.length<=k->0<=v/\∃ x,f.vars[v.toNat]?=some x/\x.kind=0
 zero:ph 0=[]
 asc:∀ i,(ph i).Pairwise fun p q=>p.var<q.var
 ver:∀ i,∀ p ∈ ph i,(f.vars.length:Int)<=p.ver/\of1[p.ver.toNat]?=some p.var
 frm:∀ i,∀ p ∈ ph i,p.frm=zg g i
 one:∀ k:Nat,f.vars.length<=k->k<of1.length->((List.range g.length).flatMap fun i=>(ph i).map (·.ver)).count (k:Int)=1
 free:∀ (i:Nat) (v:Int),i<g.length->i ≠ 0->0<=v->v<f.vars.length->kL (ph i) v=none->∀ z,xA R 0 z i->¬ (zO f g z=v\/∃ k,z ≠ 0/\kL (ph z) v=some k)
end
section
variable {ph:Nat->List Phn}
theorem zlx (F:Phn->Phn) (hF:∀ p,(F p).var=p.var/\(F p).ver=p.ver) (l:List Phn) (v:Int):kL (l.map F) v=kL l v:=by
 unfold kL;induction l with
 | nil=>rfl
 | cons p l ih =>
  rw[zuV];by_cases e:p.var=v
  .
   rw[zuo tD,zuo tD];simp[hF]
  rw[zun tD,zun tD];exact ih
theorem zjJ (ht:TreeG g R order pl T) {v:Int}:∀ (m m' i:Nat),i<g.length->lk pl i<m->lk pl i<m'->zlw f g T of1 ph m i v=zlw f g T of1 ph m' i v:=by
 intro m;induction m with
 | zero=>intro m' i hi h _;have:=ht.rk0 hi;omega
 | succ m ih =>
  intro m' i hi h h';cases m' with
  | zero=>have:=ht.rk0 hi;omega
  | succ m' =>
   unfold zlw;split
   . rfl
   split
   .
    rename_i hT;obtain⟨h1,h2⟩:=ht.trt.up i (lk T i).toNat hi tO;split
    . rfl
    exact ih m' _ h1 tO tO
   rfl
theorem zdR (ht:TreeG g R order pl T) (hor:order.length<=g.length) (hi:i<g.length) (v:Int):zdQ f g T of1 ph i v=match kL (ph i) v with
  | some k=>k
  | none=>if 0<=lk T i then zcf f g T of1 ph (lk T i).toNat v else v:=by
 show zlw f g T of1 ph (g.length+1) i v=_;rw[zlw];split
 . rfl
 split
 .
  rename_i hT;obtain⟨h1,h2⟩:=ht.trt.up i (lk T i).toNat hi tO;have:=ht.rk1 hor hi;unfold zcf zdQ;rw[zjJ ht g.length (g.length+1) _ h1 tO tO]
 rfl
theorem zjK {p:α->Bool} {l:List α} {x:α} (hx:l[k]?=some x) (hp:p x=true):(l.filter p)[((l.take k).filter p).length]?=some x:=by
 have h1:l=l.take k++x::l.drop (k+1):=by
  obtain⟨hk,hC⟩:=zt5.1 hx;have e:=zuc hk;rw[hC]at e;rw[<- e,zvz]
 have h2:l.filter p=(l.take k).filter p++x::(l.drop (k+1)).filter p:=by
  grind
 rw[h2,zti (ztg _),zvW];rfl
theorem jK (ht:TreeG g R order pl T) (hor:order.length<=g.length) (h0:0<g.length):(xV g T).Perm (List.range g.length):=ht.walk hor h0
theorem zme (ht:TreeG g R order pl T) (hor:order.length<=g.length) (h0:0<g.length) (hj:j<g.length) (hd:0<=zO f g j):((xV g T).filter (zgL f g))[(zcu f g T ((xV g T).idxOf j)).length]?=some j:=by
 have hm:j ∈ xV g T:=(jK ht hor h0).mem_iff.2 (zva.2 hj);refine zjK ?_ (by unfold zgL;exact zt3 hd);rw[zsR (zuL hm),zuJ]
theorem zgM (ht:TreeG g R order pl T) (hor:order.length<=g.length) (h0:0<g.length) (hj:j<g.length) (hd:0<=zO f g j):(of1.length:Int)<=dfW f g T of1 j/\(zcv f g T of1 ph).of_[(dfW f g T of1 j).toNat]?=some (zO f g j):=by
 have h1:=zme ht hor h0 hj hd;unfold dfW;rw[zt2 hd];refine⟨tO,?_⟩;rw[ztd];show (of1++_)[_]?=_;rw[zti tO,zvJ,zt8,h1];rfl
theorem zjL (hp:PlcF f g of1 ph R) (ht:TreeG g R order pl T) (hor:order.length<=g.length) (h0:0<g.length) {v:Int} (hv:0<=v) (hn:v<f.vars.length):∀ (m i:Nat),i<g.length->jZ f (zcv f g T of1 ph) (zlw f g T of1 ph m i v) v false:=by
 have hC:jZ f (zcv f g T of1 ph) v v false:=by
  refine⟨hv,?_,fun h=>tD⟩;have hl:=hp.len;have e:=zsR (show v.toNat<of1.length by omega);show (of1++_)[_]?=_;rw[zth tO,e,hp.ini _ _ e tO];congr 1;omega
 intro m;induction m with
 | zero=>exact fun i _=>hC
 | succ m ih =>
  intro i hi;unfold zlw;split
  .
   rename_i k hk;obtain⟨p,hY,rfl,rfl⟩:=zba hk;obtain⟨h1,h2⟩:=hp.ver i p hY;refine⟨tO,?_,fun h=>tO⟩;show (of1++_)[_]?=_;rw[zth (zt5.1 h2).1,h2]
  split
  .
   rename_i hT;obtain⟨h1,_⟩:=ht.trt.up i (lk T i).toNat hi tO;split
   .
    rename_i hd;obtain⟨h3,h4⟩:=zgM (f:=f) (of1:=of1) (ph:=ph) ht hor h0 h1 tO;rw[hd]at h4;exact⟨tO,h4,fun h=>tD⟩
   grind
  exact hC
theorem zn3 (hp:PlcF f g of1 ph R) (ht:TreeG g R order pl T) (hor:order.length<=g.length) (h0:0<g.length) {v:Int} (hv:0<=v) (hn:v<f.vars.length) (hi:i<g.length):jZ f (zcv f g T of1 ph) (zcf f g T of1 ph i v) v false:=by
 unfold zcf;split
 .
  rename_i hd;obtain⟨h3,h4⟩:=zgM (f:=f) (of1:=of1) (ph:=ph) ht hor h0 hi tO;rw[hd]at h4;exact⟨tO,h4,fun h=>tD⟩
 exact zjL hp ht hor h0 hv hn _ i hi
theorem qT (hi:i<g.length):zh (zcv f g T of1 ph) i=zn2 f g T of1 ph i:=yC (by show ((List.range g.length).map _)[i]?=_;rw[zt8,zuC hi];rfl)
theorem zbf (hi:i<g.length) (v:Int):zb9 (zcv f g T of1 ph) i v=kL (ph i) v:=by
 unfold zb9;rw[qT hi];show kL ((ph i).map (zo5 f g T of1 ph i)) v=kL (ph i) v;exact zlx (zo5 f g T of1 ph i) (fun _=>x1) _ _
theorem zgN {z:Nat} (ha:Dfs.Reach R root a) (hz:¬ Dfs.Reach R root z):∃ k,AvN R root z k a:=by
 induction ha with
 | refl=>exact⟨0,.start fun e=>hz (e ▸ .refl)⟩
 | @step a b ha he ih =>
  obtain⟨k,hk⟩:=ih;exact⟨k+1,.step hk he fun e=>hz (e ▸ .step ha he)⟩
theorem zjM (hd:DefOk f g) (hp:PlcF f g of1 ph R) (ht:TreeG g R order pl T) (hor:order.length<=g.length) (h0:0<g.length):FormF f g (zcv f g T of1 ph) (rdV f g):=by
 have dw:=hp.len;have hW:=jK ht hor h0;have dr:∀ j ∈ xV g T,j<g.length:=fun j hj=>zva.1 (hW.mem_iff.1 hj);have dx:(xV g T).Nodup:=hW.nodup_iff.2 zve
 have db:∀ (i:Nat) p,p ∈ ph i->0<=p.var/\p.var<f.vars.length:=fun i p hC=>by
  obtain⟨h1,h2⟩:=hp.ver i p hC;obtain⟨h3,x,h4,_⟩:=hp.new _ _ h2 tO;have:=(zt5.1 h4).1;omega
 refine⟨⟨?_,fun k v hk dy=>?_,fun k v hk dz=>?_⟩,?_,fun n x hx=>?_,fun k dA dB=>?_⟩
 .
  show f.vars.length<=(of1++_).length
  grind
 .
  have hk:(of1++_)[k]?=some v:=hk;rw[zth tO]at hk;exact hp.ini k v hk dy
 .
  have hk:(of1++((xV g T).filter (zgL f g)).map (zO f g))[k]?=some v:=hk;by_cases hl:k<of1.length
  . rw[zth hl]at hk;exact hp.new k v hk dz
  rw[zti tO,zt8]at hk;obtain⟨j,hj,rfl⟩:=zw3.1 hk;obtain⟨dc,dg⟩:=zv2.1 (zsS hj);have hY:=of_decide_eq_true dg;exact⟨hY,hd.dfn j (dr j dc) hY⟩
 .
  show ((List.range g.length).map _).length=_
  grind
 .
  have hn:n<g.length:=by
   have h1:((List.range g.length).map (zn2 f g T of1 ph))[n]?=some x:=hx;have:=(zt5.1 h1).1;simpa using this
  obtain rfl:zn2 f g T of1 ph n=x:=by rw[<- qT hn,yC hx]
  refine⟨⟨fun e=>?_,?_,fun p hC=>?_,fun p hC=>?_,fun p hC=>?_,fun p hC a ha=>?_⟩,fun e=>?_,fun e=>?_,?_,fun u hu=>?_⟩
  . subst e;show (ph 0).map _=[];rw[hp.zero];rfl
  . exact List.Pairwise.map _ (fun _ _ h=>h) (hp.asc n)
  .
   obtain⟨q,hq,rfl⟩:=zv6.1 hC;obtain⟨h1,h2⟩:=hp.ver n q hq;refine⟨show 0<=q.ver by omega,?_,fun _=>h1⟩;show (of1++_)[q.ver.toNat]?=some q.var;rw[zth (zt5.1 h2).1,h2]
  .
   obtain⟨q,hq,rfl⟩:=zv6.1 hC;exact hp.frm n q hq
  .
   obtain⟨q,hq,rfl⟩:=zv6.1 hC;show ((zw g n).map _).length=q.frm.length;rw[hp.frm n q hq];unfold zg
   grind
  .
   obtain⟨q,hq,rfl⟩:=zv6.1 hC;obtain⟨y,hy,rfl⟩:=zv6.1 ha;obtain⟨h1,h2⟩:=db n q hq;exact zn3 hp ht hor h0 h1 h2 (yQ hy)
  .
   show dfW f g T of1 n=-1;unfold dfW;omega
  .
   obtain⟨h1,h2⟩:=zgM (f:=f) (of1:=of1) (ph:=ph) ht hor h0 hn e;exact⟨show 0<=dfW f g T of1 n by omega,h2,fun _=>show (f.vars.length:Int)<=dfW f g T of1 n by omega⟩
  .
   show ((rdV f g n).map _).map _=_;rw[zuW];exact List.map_id'' j1 _
  obtain⟨v,hv,rfl⟩:=zv6.1 hu;obtain⟨h1,h2⟩:=hd.rd n v hv;exact zjL hp ht hor h0 h1 h2 _ n hn
 have dh:k<(of1++((xV g T).filter (zgL f g)).map (zO f g)).length:=dB;rw[zsZ,ztb]at dh
 have dC:∀ i,i<g.length->dfL f g (zcv f g T of1 ph) i=(ph i).map (·.ver)++if 0<=zO f g i then [dfW f g T of1 i] else []:=fun i hi=>by
  unfold dfL;rw[qT hi];show ((ph i).map _).map _++_=_;rw[zuW];rfl
 have dl:(xU f g (zcv f g T of1 ph)).count (k:Int)=((List.range g.length).map fun i=>((ph i).map (·.ver)).count (k:Int)+if 0<=zO f g i/\dfW f g T of1 i=(k:Int) then 1 else 0).sum:=by
  unfold xU;rw[zu8];congr 1;refine zuU fun i hi=>?_;show (dfL f g (zcv f g T of1 ph) i).count (k:Int)=_;rw[dC i (zva.1 hi),zu4];congr 1;by_cases e1:0<=zO f g i
  . grind
  grind
 have dm:∀ (F G:Nat->Nat) (l:List Nat),(l.map fun i=>F i+G i).sum=(l.map F).sum+(l.map G).sum:=fun F G l=>by
  induction l with
  | nil=>rfl
  | cons x l ih=>simp only[zuV,zvx,ih];omega
 rw[dl,dm];by_cases hl:k<of1.length
 .
  have h1:=hp.one k dA hl;rw[zu8]at h1;rw[zjI fun i hi h=>?_]
  . exact h1
  have:=(zgM (f:=f) (of1:=of1) (ph:=ph) ht hor h0 (zva.1 hi) h.1).1;omega
 have h1:((List.range g.length).map fun i=>((ph i).map (·.ver)).count (k:Int)).sum=0:=by
  have:∀ l:List Nat,(l.map fun i=>((ph i).map (·.ver)).count (k:Int)).sum=0:=fun l=>by
   induction l with
   | nil=>rfl
   | cons i l ih =>
    rw[zuV,zvx,ih,zu5.2 fun hm=>?_];obtain⟨p,hC,e⟩:=zv6.1 hm;obtain⟨_,h2⟩:=hp.ver i p hC;have:=(zt5.1 h2).1;omega
  exact this _
 rw[h1,zvY];obtain⟨j,hj⟩:∃ j,((xV g T).filter (zgL f g))[k - of1.length]?=some j:=j9;obtain⟨dc,dg⟩:=zv2.1 (zsS hj);have hY:0<=zO f g j:=of_decide_eq_true dg;have dt:=dr j dc;have dD:((xV g T).filter (zgL f g)).Nodup:=List.Pairwise.filter _ dx
 have da:∀ i,i<g.length->0<=zO f g i->(dfW f g T of1 i=(k:Int) ↔ i=j):=fun i hi du=>by
  have h2:=zme (f:=f) ht hor h0 hi du;unfold dfW;rw[zt2 du];constructor
  .
   intro e;have e2:(zcu f g T ((xV g T).idxOf i)).length=k - of1.length:=tO;rw[e2,hj]at h2;exact(Option.some.inj h2).symm
  rintro rfl;have h3:=(zuA (zt5.1 hj).1 dD).1 (hj.trans h2.symm);omega
 exact zfS zve (zva.2 dt) ⟨hY,(da j dt hY).2 rfl⟩ fun i hi h=>(da i (zva.1 hi) h.1).1 h.2
theorem zly (hp:PlcF f g of1 ph R) (ht:TreeG g R order pl T) (hor:order.length<=g.length) (h0:0<g.length):RenV f g (zcv f g T of1 ph) f.vars.length R T (zdQ f g T of1 ph):=by
 refine⟨fun v hv hn=>?_,fun i v k hi _ hk=>?_,fun i q v hi _ hk hq=>?_,fun i v hi da hv hn hk z hz h=>?_⟩
 .
  rw[zdR ht hor h0,hp.zero];show (if 0<=lk T 0 then _ else v)=v;rw[zt1];rw[xJ (ht.sol.out 0 h0 (.inr rfl))];decide
 .
  rw[zbf hi]at hk;rw[zdR ht hor hi,hk]
 .
  rw[zbf hi]at hk;rw[zdR ht hor hi,hk];have db:=(ht.trt.up i q hi hq).1;show (if 0<=lk T i then _ else v)=_;rw[zt2 tO,hq,ztd];unfold yw zcf;rw[qT db];rfl
 rw[zbf hi]at hk
 have dc:z<g.length:=by
  obtain⟨a,ha,_,hC,_⟩:=hz;by_cases hY:z<g.length
  . exact hY
  exfalso
  have hr:Dfs.Reach R 0 z:=by
   have:=hC
   exact Classical.byContradiction fun dg=>by
    have dh:∃ k,AvN R 0 z k a:=zgN ha dg;obtain⟨k,hk⟩:=dh;exact hC k hk
  exact hY (ht.lt z hr)
 refine hp.free i v hi da hv hn hk z hz ?_;rcases h with h | ⟨k,h1,h2⟩
 . omega
 rw[zbf dc]at h2
 grind
theorem zjN (hd:DefOk f g) (hp:PlcF f g of1 ph R) (ht:TreeG g R order pl T) (hor:order.length<=g.length) (h0:0<g.length):RightF f g (zcv f g T of1 ph) (rdV f g):=by
 have hF:=zjM hd hp ht hor h0;have hS:=(zly hp ht hor h0).sol ht hF.nn;have da:∀ (i:Nat) (v:Int),i<g.length->0<=v->v<f.vars.length->inV f g (zcv f g T of1 ph) i v=zdQ f g T of1 ph i v:=fun i v hi hv hn=>(hS.is hF.nn hv hn hi).symm
 have hC:∀ (n:Nat) x,(zcv f g T of1 ph).nodes[n]?=some x->n<g.length/\x=zn2 f g T of1 ph n:=fun n x hx=>by
  have hn:n<g.length:=by
   have h1:((List.range g.length).map (zn2 f g T of1 ph))[n]?=some x:=hx;have:=(zt5.1 h1).1;simpa using this
  exact⟨hn,by rw[<- qT hn,yC hx]⟩
 refine⟨hF,fun n x hx u hu=>?_,fun n x hx p db i y a hy ha=>?_⟩
 .
  obtain⟨hn,rfl⟩:=hC n x hx;obtain⟨v,hv,rfl⟩:=zv6.1 hu;obtain⟨h1,h2⟩:=hd.rd n v hv
  grind
 obtain⟨hn,rfl⟩:=hC n x hx;obtain⟨q,hq,rfl⟩:=zv6.1 db;have hy:q.frm[i]?=some y:=hy;rw[hp.frm n q hq]at hy;unfold zg at hy;have ha:((zw g n).map fun y=>zcf f g T of1 ph y q.var)[i]?=some a:=ha;rw[zt8]at hy ha;obtain⟨z,hz,rfl⟩:=zw3.1 hy;rw[hz]at ha;obtain rfl:=Option.some.inj ha;have hY:=yQ (zsS hz);obtain⟨h1,h2⟩:=hp.ver n q hq;obtain⟨h3,x,h4,_⟩:=hp.new _ _ h2 tO;have h5:=(zt5.1 h4).1;show zab f g (zcv f g T of1 ph) (z:Int).toNat q.var=_;rw[ztd];unfold zab yw zcf;rw[qT hY,da z q.var hY h3 tO];rfl
end
open Go.GL Go.GL.Dom
section
variable (f:Fl) (g:List Nd) (T:List Int) (of1:List Int) (ph:Nat->List Phn)
def inK (k i:Nat):Bool:=decide (i ∈ (xV g T).take k)
def ofK (k:Nat):List Int:=of1++(zcu f g T k).map (zO f g)
def dsK (k i:Nat):Int:=if inK g T k i=true then dfW f g T of1 i else -1
def usK (k i:Nat):List (Int × Int):=if inK g T k i=true then (rdV f g i).map fun v=>(v,zdQ f g T of1 ph i v) else []
def alK (k i:Nat) (v:Int):List Int:=(zw g i).map fun y=>if inK g T k y=true then zcf f g T of1 ph y v else 0
end
section
variable {ph:Nat->List Phn}
theorem zdS (i:Nat):inK g T 0 i=false:=by unfold inK;rw[zvE];simp
theorem zam (h:(xV g T)[k]?=some i) (j:Nat):inK g T (k+1) j=(inK g T k j || decide (j=i)):=by
 unfold inK;rw[zvy,h]
 grind
theorem zn4 (hn:(xV g T).Nodup) (h:(xV g T)[k]?=some i):inK g T k i=false:=by
 unfold inK;rw[decide_eq_false_iff_not];intro hm;obtain⟨j,hj⟩:=zv5.1 hm;rw[ztn]at hj;split at hj
 .
  rename_i hC;have:=(zuA (zt5.1 hj).1 hn).1 (hj.trans h.symm);omega
 cases hj
theorem idxW (hn:(xV g T).Nodup) (h:(xV g T)[k]?=some i):(xV g T).idxOf i=k:=by
 have hm:=zsS h;have h1:(xV g T)[(xV g T).idxOf i]?=some i:=by rw[zsR (zuL hm),zuJ]
 exact(zuA (zuL hm) hn).1 (h1.trans h.symm)
theorem zlz:ofK f g T of1 0=of1:=by unfold ofK zcu;rw[zvE];simp
theorem zlA (h:(xV g T)[k]?=some i):ofK f g T of1 (k+1)=if 0<=zO f g i then ofK f g T of1 k++[zO f g i] else ofK f g T of1 k:=by
 have e:zcu f g T (k+1)=zcu f g T k++if 0<=zO f g i then [i] else []:=by
  unfold zcu;rw[zvy,h,zuk];congr 1;by_cases hd:0<=zO f g i
  . rw[zt2 hd];show [i].filter (zgL f g)=[i];rw[zum (by unfold zgL;exact zt3 hd)];rfl
  rw[zt1 hd];show [i].filter (zgL f g)=[];rw[zul (by unfold zgL;simpa using hd)];rfl
 unfold ofK;rw[e];split
 . rw[zuT,<- zu0];rfl
 rw[zu1]
theorem zn5 (hn:(xV g T).Nodup) (h:(xV g T)[k]?=some i) (hd:0<=zO f g i):dfW f g T of1 i=((ofK f g T of1 k).length:Int):=by
 unfold dfW ofK
 grind
theorem znV (hd:¬ 0<=zO f g i):dfW f g T of1 i=-1:=by unfold dfW;rw[zt1 hd]
theorem zlB (i:Nat):dsK f g T of1 0 i=-1:=by unfold dsK;rw[zdS];rfl
theorem zlC (h:(xV g T)[k]?=some i) (j:Nat):dsK f g T of1 (k+1) j=if j=i then dfW f g T of1 i else dsK f g T of1 k j:=by
 unfold dsK;rw[zam h];by_cases e:j=i
 . subst e;simp
 rw[zt1 e];simp[e]
theorem zlD (i:Nat):usK f g T of1 ph 0 i=[]:=by unfold usK;rw[zdS];rfl
theorem zlE (h:(xV g T)[k]?=some i) (j:Nat):usK f g T of1 ph (k+1) j=if j=i then (rdV f g i).map (fun v=>(v,zdQ f g T of1 ph i v)) else usK f g T of1 ph k j:=by
 unfold usK;rw[zam h];by_cases e:j=i
 . subst e;simp
 rw[zt1 e];simp[e]
theorem zlF (i:Nat) (v:Int):alK f g T of1 ph 0 i v=List.replicate (zw g i).length 0:=by
 unfold alK;rw[zuU (g:=fun _=>(0:Int)) fun y _=>by rw[zdS];rfl];exact List.map_const'
theorem zlG (h:(xV g T)[k]?=some i) (hj:i ∉ zw g j) (v:Int):alK f g T of1 ph (k+1) j v=alK f g T of1 ph k j v:=by
 unfold alK;refine zuU fun y hy=>?_;have hC:y ≠ i:=fun e=>hj tD;rw[zam h,zt4 hC,ztI]
theorem zlH (_:(xV g T).Nodup) (h:(xV g T)[k]?=some i) {p:Nat} (hp:(zw g j)[p]?=some i) (v:Int):alK f g T of1 ph (k+1) j v=(alK f g T of1 ph k j v).set p (zcf f g T of1 ph i v):=by
 have hY:(zw g j).Nodup:=List.Pairwise.filter _ zve;have hC:=(zt5.1 hp).1;unfold alK;apply zuj;intro q;rw[zuF,zt8];by_cases e:p=q
 .
  subst e;rw[zt2 rfl,ztb,zt2 hC,hp,zw4,zam h];simp
 rw[zt1 e,zt8];cases hq:(zw g j)[q]? with
 | none=>rfl
 | some y =>
  have hy:y ≠ i:=fun hy=>e ((zuA hC hY).1 (hp.trans (hy ▸ hq.symm)));simp only[zw4];rw[zam h,zt4 hy,ztI]
theorem zfT (ht:TreeG g R order pl T) (hor:order.length<=g.length) (h0:0<g.length) (hi:i<g.length):inK g T (xV g T).length i=true:=by
 unfold inK;rw[zsW,decide_eq_true_iff];exact(jK ht hor h0).mem_iff.2 (zva.2 hi)
theorem zn6 (ht:TreeG g R order pl T) (hor:order.length<=g.length) (h0:0<g.length) :
  zcv f g T of1 ph=⟨ofK f g T of1 (xV g T).length,(List.range g.length).map fun i=>⟨(ph i).map (fun p=>⟨p.var,p.ver,p.frm,alK f g T of1 ph (xV g T).length i p.var⟩),usK f g T of1 ph (xV g T).length i,dsK f g T of1 (xV g T).length i⟩⟩:=by
 unfold zcv ofK zcu;rw[zsW];congr 1;refine zuU fun i hi=>?_;have hi:=zva.1 hi;unfold zn2 usK dsK;rw[zt2 (zfT ht hor h0 hi),zt2 (zfT ht hor h0 hi)];congr 1;refine zuU fun p _=>?_;unfold zo5 alK;congr 1;refine zuU fun y hy=>?_;rw[zt2 (zfT ht hor h0 (yQ hy))]
end
end Go.Proofs.YtckdhgbepmpgiaaGreat
namespace Go.GL
structure RowsC (kk:Nat) (e:TypeId) (w:World) (rv:List Value) (cl:List (List Value)):Prop where
 len:rv.length=cl.length
 row:∀ (i:Nat) (v:Value) (c:List Value),rv[i]?=some v->cl[i]?=some c->∃ m,w.ownsRow 0 e kk v m c
 apart:∀ (i j:Nat) (vi vj:Value) (g:Nat),i ≠ j->rv[i]?=some vi->rv[j]?=some vj->vi.ownBlock=some g->vj.ownBlock ≠ some g
section
variable {w1:World}
theorem RowsC.blk (h:RowsC kk e w rv cl) {g:Nat} (hv:rv[i]?=some v) (hg:v.ownBlock=some g):g<w.heap.size:=by
 have hi:i<cl.length:=by rw[<- h.len];exact(zt5.1 hv).1
 obtain⟨m,hm⟩:=h.row i v _ hv (zsR hi);exact xB hm hg
theorem RowsC.keep {S:Nat->Prop} (h:RowsC kk e w rv cl) (hk:Keep S w w1) (hS:∀ (i:Nat) v g,rv[i]?=some v->v.ownBlock=some g->¬ S g):RowsC kk e w1 rv cl :=
 ⟨h.len,fun i v r hv hr=>by obtain⟨m,hm⟩:=h.row i v r hv hr;exact⟨m,zj hm hk (fun g hg=>hS i v g hv hg)⟩,h.apart⟩
theorem RowsC.put (h:RowsC kk e w rv cl) {v':Value} {c':List Value} (hv:rv[i]?=some v) (hY:w1.ownsRow 0 e kk v' m c') (dr:v'.ownBlock=v.ownBlock\/∃ g,v'.ownBlock=some g/\w.heap.size<=g) (hk:Keep (fun q=>v.ownBlock=some q) w w1):RowsC kk e w1 (rv.set i v') (cl.set i c'):=by
 have da:=(zt5.1 hv).1
 have dg:∀ (j:Nat) u g,i ≠ j->rv[j]?=some u->v'.ownBlock=some g->u.ownBlock ≠ some g:=by
  intro j u g hC hu hg dh;rcases dr with hf | ⟨g',hf,dl⟩
  . exact h.apart i j v u g hC hv hu (hf ▸ hg) dh
  rw[hf]at hg;cases hg;have:=h.blk hu dh;omega
 refine⟨by simp[h.len],fun j u r hu hr=>?_,fun a b va vb g db ha hb hg=>?_⟩
 .
  by_cases hC:i=j
  .
   subst hC;rw[zuH da]at hu;rw[zuH tD]at hr;cases hu;cases hr;exact⟨m,hY⟩
  rw[zuG hC]at hu hr;obtain⟨m',dt⟩:=h.row j u r hu hr;exact⟨m',zj dt hk fun g hg hq=>h.apart i j v u g hC hv hu hq hg⟩
 by_cases dc:i=a
 .
  subst dc;rw[zuH da]at ha;rw[zuG db]at hb;cases ha;exact dg b vb g db hb hg
 rw[zuG dc]at ha;by_cases dm:i=b
 .
  subst dm;rw[zuH da]at hb;cases hb;exact fun dl=>dg a va g dc ha dl hg
 rw[zuG dm]at hb;exact h.apart a b va vb g db ha hb hg
end
abbrev RowsCP (kk:Nat) (e:TypeId) (rv:List Value) (cl:List (List Value)):HE:=.res (fun q=>∃ (i:Nat) (v:Value),rv[i]?=some v/\v.ownBlock=some q) (fun w=>RowsC kk e w rv cl)
theorem RowsCP.loc:(RowsCP kk e rv cl).loc:=fun _ _ _ h hk hT=>h.keep hk fun i v g hv hg=>hT g (h.blk hv hg) ⟨i,v,hv,hg⟩
section
variable {n:Fm}
variable {ty:TypeId} {ps:String} {g:Option (Nat × Bool)}
theorem zsH (ia k kb j i:Nat) {x:Operand} {tb:TypeId}
  (hu:P.underlying t=some (.slice e)) (he:(P.info? e).map (fun i=>(i.zero,i.size,i.bytes))=some (some z,kk,by')) (dh:z.cells.size=kk) (dl:0<kk)
  (hi:ops[ia]?=some ⟨some d,.call ⟨.builtin .append,#[x,y],#[t,t]⟩,ty,ps,aft,g⟩) (hr:Region.ready .any ops listed=[ia]) (hB:Bs.drop j=B0)
  (hn:(Nat.blt d n,gd ops env g,hget H k,qK H k,hget H kb,ev env x,ev env y,xX (Hs.map (·.1)),qm k (Hs.map (·.1)))=(true,some true,some (RowsCP kk e rv cl),none,some (.own b xs tb),some v,some (.slice (some ⟨b,0,none⟩) 1 c),true,true))
  (hl:xs.length=kk) (dm:∀ u ∈ xs,u.oneCell'=true) (hv:rv[i]?=some v) (hC:cl[i]?=some cs) (hb:∀ m,cs.length=m*kk->m+1<=9223372036854775807/\(m+1)*by'<=140737488355328)
  (h:∀ u,Go.GL.one u=true->VD P n Q ks ops Hs B0 L fuel (listed.setIfInBounds ia true) ((d,u)::env) ((d,none)::A) (hset H k (RowsCP kk e (rv.set i u) (cl.set i (cs++xs)))) Bs):VD P n Q ks ops Hs B0 L (fuel+1) listed env A H Bs:=by
 simp only[Prod.mk.injEq]at hn;subst hB;obtain⟨h1,h2,h3,h4,h5,h6,h7,h9,dr⟩:=hn;intro hH hA w hI;have hM:RowsC kk e w rv cl:=hI.at k h3;have dt:=(zt5.1 hv).1;obtain⟨m,hm⟩:=hM.row i v cs hv hC;obtain⟨du,dw⟩:=hb m hm.1;refine zra ia hi hr h1 h2 (.inl (M.append (j:=1) (news:=xs) hu he dh dl h6 h7 hm tO (Cells.add (Blk.cells (hI.at kb h5))) dm du dw)) ?_;rintro u w1 ⟨ho,hf,hY,_⟩;have da:=hM.put hv ho hf hY
 have db:VI Bs (hset H k (RowsCP kk e (rv.set i u) (cl.set i (cs++xs)))) w1:=hI.set h3 (hY.mono fun q _ hq=>⟨i,v,hv,hq⟩) da RowsCP.loc (fun _ h=>h) fun q hq=>by
  refine⟨?_,?_⟩
  .
   obtain⟨j,vj,hj,hq⟩:=hq;by_cases dc:i=j
   .
    subst dc;rw[zuH dt]at hj;cases hj;rcases hf with hf | ⟨g',hf,dx⟩
    . exact .inl ⟨i,v,hv,hf ▸ hq⟩
    grind
   rw[zuG dc]at hj;exact .inl ⟨j,vj,hj,hq⟩
  obtain⟨j,vj,hj,hq⟩:=hq;exact da.blk hj hq
 have dg:Has Hs (hset H k (RowsCP kk e (rv.set i u) (cl.set i (cs++xs)))):=hH.set h3 dr;obtain⟨au,cu,rfl,_,_⟩:=xP ho;exact UR
end
end Go.GL
namespace Go.Proofs.YtckdhgbepmpgiaaGreat
open Go.GL Go.GL.Dom
def RPw (hasf:Nat->Option Addr × Nat × Nat):Rel (Phn × Nat):=fun D w x cs=>∃ fh,cs=[.int .i64 x.1.var,.int .i64 x.1.ver,fh,.slice (hasf x.2).1 (hasf x.2).2.1 (hasf x.2).2.2]/\SlR 1 zG D w fh x.1.frm
theorem zjO (hC:Nat->Option Addr × Nat × Nat):yq (RPw hC):=fun _ _ _ _ hD hk _ _ ⟨u,h0,h1⟩=>⟨u,h0,h1.stable zc hD hk⟩
abbrev Clo:=Nat × Nat × Nat
def znW (c:Clo):Deferred:=⟨.fn (.func 149) #[.pointer (some ⟨c.1,0,none⟩),.pointer (some ⟨c.2.1,0,none⟩)],#[]⟩
def CloOk (b:Nat) (w:World) (cl:List Clo):Prop:=∀ c ∈ cl,Blk w c.1 [.pointer (some ⟨b,0,none⟩)] 121/\Blk w c.2.1 [.int .i64 c.2.2] 3
abbrev CloP (b:Nat) (cl:List Clo):HE:=.res (fun q=>∃ c ∈ cl,q=c.1\/q=c.2.1) (fun w=>CloOk b w cl)
theorem CloP.loc {cl:List Clo}:(CloP b cl).loc:=fun _ _ _ h hk hT c hc=>⟨hk.blk (h c hc).1 (fun hC=>hT _ (h c hc).1.lt ⟨c,hc,.inl rfl⟩ hC),hk.blk (h c hc).2 (fun hC=>hT _ (h c hc).2.lt ⟨c,hc,.inr rfl⟩ hC)⟩
abbrev CloQ (b:Nat) (cl:List Clo) (bx:Nat):HE:=.res (fun q=>(∃ c ∈ cl,q=c.1\/q=c.2.1)\/q=bx) (fun w=>CloOk b w cl/\Blk w bx [.pointer (some ⟨b,0,none⟩)] 121)
theorem CloQ.loc {bx:Nat} {cl:List Clo}:(CloQ b cl bx).loc:=fun w w' T h hk hT=>⟨CloP.loc w w' T h.1 hk (fun q hq hs=>hT q hq (.inl hs)),hk.blk h.2 (fun h'=>hT _ h.2.lt (.inr rfl) h')⟩
theorem CloOk.cons {cl:List Clo} {c:Clo} (h:CloOk b w cl) (h1:Blk w c.1 [.pointer (some ⟨b,0,none⟩)] 121) (h2:Blk w c.2.1 [.int .i64 c.2.2] 3):CloOk b w (c::cl):=fun d hd=>by
 rcases zt7.1 hd with rfl | hd
 . grind
 exact h d hd
def jx (rows:List (List Int)) (v:Nat) (k:Int):List (List Int):=rows.set v ((rows[v]?.getD [])++[k])
def yZ (rows:List (List Int)) (l:List (Nat × Int)):List (List Int):=l.foldl (fun r p=>jx r p.1 p.2) rows
theorem zcg (rows:List (List Int)) (v:Nat) (k:Int):(jx rows v k).length=rows.length:=by unfold jx;rw[zuS]
theorem jX (rows:List (List Int)) (l:List (Nat × Int)) (p:Nat × Int):yZ rows (l++[p])=jx (yZ rows l) p.1 p.2:=by unfold yZ;rw[zuv];rfl
theorem qU (l:List (Nat × Int)):∀ rows,(yZ rows l).length=rows.length:=by
 induction l with
 | nil=>exact fun _=>rfl
 | cons p l ih=>intro rows;show (yZ (jx rows p.1 p.2) l).length=_;rw[ih,zcg]
theorem popR {v:Nat} {k:Int} (hv:v<rows.length):(jx rows v k)[v]?=some ((rows[v]?.getD [])++[k])/\(jx rows v k).set v (rows[v]?.getD [])=rows:=by
 unfold jx;refine⟨by rw[zuH hv],?_⟩;rw[zvu];have e:=zsR hv;rw[e];exact set_same e
def zan (l:List (Phn × Nat)) (t:Nat):List (Nat × Int):=(l.take t).map fun p=>(p.1.var.toNat,p.1.ver)
theorem zf6 {t:Nat} (h:l[t]?=some p):zan l (t+1)=zan l t++[(p.1.var.toNat,p.1.ver)]:=by unfold zan;rw[ze h,zuT];rfl
theorem zdT {t:Nat} (h:t<=l.length):(zan l t).length=t:=by unfold zan;rw[ztb,ztl];omega
theorem zlI {fn:Func} (dr:fn.results=#[]) {tmps:Array Value} {R:Ending->World->Prop} (b gb:Nat) (ofv ndv chv cuv:Value) (rows:List (List Int)) (l:List (Nat × Int)) (hl:∀ p ∈ l,p.1<rows.length) (dt:∀ q,∀ r ∈ yZ rows (l.take q),r.length<=1000000000) (w0:World) (S0:Nat->Prop) (du:∀ q,w0.heap.size<=q->S0 q)
  (hR:∀ rv w,rv.length=rows.length->Held (zhO b gb ofv ndv chv cuv rv rows) w->Keep S0 w0 w->(∀ q,HS (zhO b gb ofv ndv chv cuv rv rows) q->S0 q)->R (.returned (.tuple #[])) w) :
  ∀ (q:Nat) (cls:List Clo) (rv:List Value) (w:World),q<=l.length->cls.map (·.2.2)=((l.take q).map (·.1)).reverse->rv.length=rows.length->Held (zhO b gb ofv ndv chv cuv rv (yZ rows (l.take q))) w->CloOk b w cls->(∀ c ∈ cls,¬ S0 c.1/\¬ S0 c.2.1)->Keep S0 w0 w->(∀ x,HS (zhO b gb ofv ndv chv cuv rv (yZ rows (l.take q))) x->S0 x)->Leaves prog fn tmps R (cls.map znW) .returning w:=by
 intro q;induction q with
 | zero =>
  intro cls rv w _ hc db hE _ _ hk hS;rw[zvE]at hc hE hS
  have:cls=[]:=by
   cases cls with
   | nil=>rfl
   | cons c cls=>simp at hc
  subst this;exact⟨.tuple #[],results_none dr _ _ _,hR rv w db hE hk hS⟩
 | succ q ih =>
  intro cls rv w hq hc db hE dg dc hk hS;obtain⟨p,hp⟩:∃ p,l[q]?=some p:=j9;have dh:l.take (q+1)=l.take q++[p]:=ze hp;rw[dh,zuT,zvr]at hc;cases cls with
  | nil=>simp at hc
  | cons c cls =>
   obtain⟨dw,dx⟩:c.2.2=p.1/\cls.map (·.2.2)=((l.take q).map (·.1)).reverse:=tD;have dl:p.1<(yZ rows (l.take q)).length:=by rw[qU];exact hl p (zsS hp)
   have hY:yZ rows (l.take (q+1))=jx (yZ rows (l.take q)) p.1 p.2:=by rw[dh,jX]
   obtain⟨dy,dz⟩:=popR (k:=p.2) dl;rw[hY]at hE hS
   have da:((yZ rows (l.take q))[p.1]?.getD []).length<=1000000000:=by
    have e:=zsR dl;rw[e];exact dt q _ (zsS e)
   have hb:=dg c (zsV ..);have dm:=dc c (zsV ..);refine leaves_cons (f:=149) (args:=#[.pointer (some ⟨c.1,0,none⟩),.pointer (some ⟨c.2.1,0,none⟩)]) (fun h=>tD) (by simp[invoke,call149]) ?_;refine(zjz p.1 p.2 _ rv _ dy da (by rw[zcg,qU];exact db) b gb ofv ndv chv cuv w hE c.1 c.2.1 (Blk.cells hb.1) (dw ▸ Blk.cells hb.2) (fun x hx=>⟨fun e=>dm.1 (e ▸ hS x hx),fun e=>dm.2 (e ▸ hS x hx)⟩)).mono ?_;rintro e u w' ⟨rfl,v,rfl,y,rfl,hC⟩;rw[dz]at hC;have dA:Keep S0 w0 w':=hk.trans hC.keep fun x _ hx=>hS x hx;refine ih cls (rv.set p.1 y) w' tO dx tD hC.held (fun d hd=>?_) (fun d hd=>dc d (zsU _ hd)) dA (fun x hx=>?_)
   .
    obtain⟨h1,h2⟩:=dg d (zsU _ hd);obtain⟨h3,h4⟩:=dc d (zsU _ hd);exact⟨hC.keep.blk h1 (fun hx=>h3 (hS _ hx)),hC.keep.blk h2 (fun hx=>h4 (hS _ hx))⟩
   obtain⟨z,hz,dB⟩:=hx;rcases hC.new z hz x dB with h1 | h1
   . grind
   exact du x (by have:=hk.size;omega)
end Go.Proofs.YtckdhgbepmpgiaaGreat
namespace Go.GL
abbrev NodP (g:Nat) (cs:List Value) (e:TypeId):HE:=.res (fun q=>q=g) (fun w=>Blk w g cs e)
theorem NodP.loc {g:Nat}:(NodP g cs e).loc:=fun _ _ _ h hk hT=>hk.blk h (hT g (show Blk _ g cs e from h).lt rfl)
end Go.GL
namespace Go.Proofs.YtckdhgbepmpgiaaGreat
open Go.GL Go.GL.Dom
def zlJ (u:Int × Int):List Value:=[.int .i64 u.1,.int .i64 u.2]
def phW (pw:Nat->List (Phn × Nat)) (j:Nat):List Phn:=(pw j).map (·.1)
structure StW (f:Fl) (g:List Nd) (T of1:List Int) (pw:Nat->List (Phn × Nat)) (hpf:Nat->Value) (k:Nat) (ofl:List Int) (ndc hus:List Value) (ucs:List (List Value)) (als:List (List Int)):Prop where
 of:ofl=ofK f g T of1 k
 hl:hus.length=g.length
 ul:ucs.length=g.length
 nl:g.length*3<=ndc.length
 n0:∀ j,j<g.length->ndc[j*3]?=some (hpf j)
 n1:∀ j,j<g.length->ndc[j*3+1]?=hus[j]?
 n2:∀ j,j<g.length->ndc[j*3+2]?=some (.int .i64 (dsK f g T of1 k j))
 us:∀ j,j<g.length->ucs[j]?=some ((usK f g T of1 (phW pw) k j).flatMap zlJ)
 al:∀ j,j<g.length->∀ (q:Nat) p,(pw j)[q]?=some p->als[p.2]?=some (alK f g T of1 (phW pw) k j p.1.var)
def zon (g:List Nd) (pw:Nat->List (Phn × Nat)):Prop:=∀ j j',j<g.length->j'<g.length->∀ (q q':Nat) p p',(pw j)[q]?=some p->(pw j')[q']?=some p'->p.2=p'.2->j=j'/\q=q'
abbrev zjP (b gb bn cn nl:Nat) (ofv chv cuv:Value) (ofl:List Int) (rv:List Value) (rows:List (List Int)) (ndc hus:List Value) (ucs:List (List Value)) (has:List Value) (als:List (List Int)):Hp :=
 [(900,.own b (rnm gb ofv (.slice (some ⟨bn,0,none⟩) nl cn) chv cuv) 123),(901,.row 3 1 ofv ofl.length (ofl.map zb)),(902,.row 27 1 cuv rv.length rv),(903,RowsP zb 3 rv rows),(904,NodP bn ndc 59),(907,RowsCP 2 85 hus ucs),(909,RowsP zb 3 has als)]
def TopW (f:Fl) (g:List Nd) (T of1:List Int) (pw:Nat->List (Phn × Nat)) (i:Nat) (rows:List (List Int)):Prop:=∀ (v:Nat) r,rows[v]?=some r->r ≠ []/\r[r.length - 1]?=some (if i=0 then (v:Int) else zcf f g T of1 (phW pw) (lk T i).toNat v)
theorem StW.next_of {hC:Nat->Value} (h:StW f g T of1 pw hC k ofl ndc hY ucs als) (_:(xV g T).Nodup) (hk:(xV g T)[k]?=some i) (hi:i<g.length) {als':List (List Int)} (da:∀ j,j<g.length->∀ (q:Nat) p,(pw j)[q]?=some p->als'[p.2]?=some (alK f g T of1 (phW pw) (k+1) j p.1.var)) :
  StW f g T of1 pw hC (k+1) (if 0<=zO f g i then ofl++[zO f g i] else ofl) ((ndc.set (i*3+1) u).set (i*3+2) (.int .i64 (dfW f g T of1 i))) (hY.set i u) (ucs.set i (((rdV f g i).map fun v=>(v,zdQ f g T of1 (phW pw) i v)).flatMap zlJ)) als':=by
 have h3:=h.nl;refine⟨?_,by rw[zuS];exact h.hl,by rw[zuS];exact h.ul,tD,fun j hj=>?_,fun j hj=>?_,fun j hj=>?_,fun j hj=>?_,da⟩
 . rw[zlA hk,h.of]
 . rw[zuG tO,zuG tO];exact h.n0 j hj
 .
  rw[zuG tO];by_cases e:j=i
  .
   subst e;rw[zuH tO,zuH (by rw[h.hl];exact hj)]
  rw[zuG tO,zuG (fun e'=>e e'.symm)];exact h.n1 j hj
 .
  rw[zlC hk];by_cases e:j=i
  .
   subst e;rw[zt2 rfl,zuH tD]
  rw[zt1 e,zuG tO,zuG tO];exact h.n2 j hj
 rw[zlE hk];by_cases e:j=i
 .
  subst e;rw[zt2 rfl,zuH (by rw[h.ul];exact hj)]
 rw[zt1 e,zuG (fun e'=>e e'.symm)];exact h.us j hj
section
variable (f:Fl) (g:List Nd) (T of1:List Int) (pw:Nat->List (Phn × Nat)) (k:Nat)
def AlP (Dn:Nat->Nat->Prop) (als:List (List Int)):Prop:=∀ j,j<g.length->∀ (q:Nat) p,(pw j)[q]?=some p->(Dn j q->als[p.2]?=some (alK f g T of1 (phW pw) (k+1) j p.1.var))/\(¬ Dn j q->als[p.2]?=some (alK f g T of1 (phW pw) k j p.1.var))
end
section
theorem AlP.start {hC:Nat->Value} (h:StW f g T of1 pw hC k ofl ndc hY ucs als):AlP f g T of1 pw k (fun _ _=>False) als:=fun j hj q p hp=>⟨fun h=>h.elim,fun _=>h.al j hj q p hp⟩
theorem AlP.imp {Dn:Nat->Nat->Prop} (h:AlP f g T of1 pw k Dn als) (hi:∀ j q,Dn j q ↔ Dn' j q):AlP f g T of1 pw k Dn' als:=fun j hj q p hp=>⟨fun hd=>(h j hj q p hp).1 ((hi j q).2 hd),fun hd=>(h j hj q p hp).2 fun h'=>hd ((hi j q).1 h')⟩
theorem zjQ (k j:Nat) (v:Int):(alK f g T of1 (phW pw) k j v).length=(zw g j).length:=by unfold alK;rw[ztb]
theorem AlP.step {Dn:Nat->Nat->Prop} (h:AlP f g T of1 pw k Dn als) (hd:zon g pw) (hn:(xV g T).Nodup) (hk:(xV g T)[k]?=some i) {to t:Nat} (ht:to<g.length) (hi:i ∈ zw g to) (hp:(pw to)[t]?=some p) :
  ∃ row,als[p.2]?=some row/\row.length=(zw g to).length/\(zw g to).idxOf i<row.length/\AlP f g T of1 pw k (fun j q=>Dn j q\/(j=to/\q=t)) (als.set p.2 (row.set ((zw g to).idxOf i) (zcf f g T of1 (phW pw) i p.1.var))):=by
 have dc:(zw g to)[(zw g to).idxOf i]?=some i:=by rw[zsR (zuL hi),zuJ]
 have dm:=zuL hi;have db:=zlH (f:=f) (of1:=of1) (ph:=phW pw) hn hk dc p.1.var
 obtain⟨row,hC,hset⟩:∃ row,als[p.2]?=some row/\(row.length=(zw g to).length/\row.set ((zw g to).idxOf i) (zcf f g T of1 (phW pw) i p.1.var)=alK f g T of1 (phW pw) (k+1) to p.1.var):=by
  by_cases hD:Dn to t
  .
   refine⟨_,(h to ht t p hp).1 hD,zjQ _ _ _,?_⟩;rw[db,zvu]
  exact⟨_,(h to ht t p hp).2 hD,zjQ _ _ _,db.symm⟩
 have dg:=(zt5.1 hC).1;refine⟨row,hC,hset.1,tO,fun j hj q p' hY=>?_⟩;rw[hset.2];by_cases e:p'.2=p.2
 .
  obtain⟨rfl,rfl⟩:=hd j to hj ht q t p' p hY hp e;obtain rfl:p'=p:=Option.some.inj (hY.symm.trans hp);rw[zuH dg];exact⟨fun _=>rfl,fun dh=>absurd (.inr x1) dh⟩
 rw[zuG (fun e'=>e e'.symm)]
 have dl:¬ (j=to/\q=t):=fun⟨e1,e2⟩=>by
  grind
 exact⟨fun da=>(h j hj q p' hY).1 (da.resolve_right dl),fun da=>(h j hj q p' hY).2 fun h'=>da (.inl h')⟩
theorem AlP.done {Dn:Nat->Nat->Prop} (h:AlP f g T of1 pw k Dn als) (hk:(xV g T)[k]?=some i) (hC:∀ j q,j<g.length->i ∈ zw g j->q<(pw j).length->Dn j q):∀ j,j<g.length->∀ (q:Nat) p,(pw j)[q]?=some p->als[p.2]?=some (alK f g T of1 (phW pw) (k+1) j p.1.var):=fun j hj q p hp=>by
 by_cases hD:Dn j q
 . exact(h j hj q p hp).1 hD
 rw[(h j hj q p hp).2 hD,zlG hk (fun hm=>hD (hC j q hj hm (zt5.1 hp).1))]
end
open Go.GL Go.GL.Dom
def zaz (r:List Int):Option Int:=r[r.length - 1]?
theorem zd1 (r:List Int) (k:Int):zaz (r++[k])=some k:=by
 unfold zaz;rw[zsZ,ztc,zvI,zti (ztg _),zvW];rfl
theorem zf7 {v:Nat} {k:Int} (hv:v<rows.length) (u:Nat):(jx rows v k)[u]?=if u=v then some ((rows[v]?.getD [])++[k]) else rows[u]?:=by
 unfold jx;by_cases e:u=v
 . subst e;rw[zt2 rfl,zuH hv]
 rw[zt1 e,zuG (fun e'=>e e'.symm)]
theorem zjR:∀ (l:List (Nat × Int)) (rows:List (List Int)),(∀ p ∈ l,p.1<rows.length)->(l.map (·.1)).Nodup->∀ (u:Nat) r,(yZ rows l)[u]?=some r->∃ r0,rows[u]?=some r0/\(r0 ≠ []->r ≠ [])/\zaz r=match l.find? (fun p=>decide (p.1=u)) with
  | some p=>some p.2
  | none=>zaz r0:=by
 intro l;induction l with
 | nil=>exact fun rows _ _ u r hr=>⟨r,hr,fun h=>h,rfl⟩
 | cons p l ih =>
  intro rows hl hn u r hr;have hC:=hl p (zsV ..);rw[zuV,zvd]at hn;obtain⟨r1,h1,h2,h3⟩:=ih (jx rows p.1 p.2) (fun q hq=>by rw[zcg];exact hl q (zsU _ hq)) hn.2 u r hr;rw[zf7 hC]at h1;by_cases e:u=p.1
  .
   rw[zt2 e]at h1;obtain rfl:=Option.some.inj h1
   have hY:l.find? (fun q=>decide (q.1=u))=none:=by
    rw[zup];intro q hq;have:q.1 ≠ u:=fun e'=>hn.1 (zv6.2 ⟨q,hq,tO⟩);simpa using this
   rw[hY]at h3;rw[zuo tD];have e0:=zsR hC;exact⟨_,by rw[e];exact e0,fun _=>h2 tR,by rw[h3];exact zd1 _ _⟩
  rw[zt1 e]at h1;rw[zun tD];exact⟨r1,h1,h2,h3⟩
section
theorem zlK (h0:∀ p ∈ l,0<=p.1.var) (u:Nat):((zan l l.length).find? (fun p=>decide (p.1=u))).map (·.2)=kL (l.map (·.1)) (u:Int):=by
 unfold zan kL;rw[zsW];induction l with
 | nil=>rfl
 | cons p l ih =>
  have hp:=h0 p (zsV ..);rw[zuV,zuV];by_cases e:p.1.var=(u:Int)
  . rw[zuo tD,zuo tD];rfl
  rw[zun tD,zun tD];exact ih fun q hq=>h0 q (zsU _ hq)
theorem zjS (h0:∀ p ∈ l,0<=p.1.var) (ha:(l.map (·.1)).Pairwise fun p q=>p.var<q.var):((zan l l.length).map (·.1)).Nodup:=by
 unfold zan;rw[zsW,zuW];rw[zvj]at ha;refine zvj.2 (ha.imp_of_mem ?_);intro a b hC hY h e;have h1:=h0 a hC;have h2:=h0 b hY;have e:a.1.var.toNat=b.1.var.toNat:=e;omega
theorem TopW.phis (ht:TreeG g R order pl T) (hor:order.length<=g.length) (hi:i<g.length) (h:TopW f g T of1 pw i rows) (h0:∀ p ∈ pw i,0<=p.1.var/\p.1.var<rows.length) (ha:(phW pw i).Pairwise fun p q=>p.var<q.var) (u:Nat) (r:List Int) (hr:(yZ rows (zan (pw i) (pw i).length))[u]?=some r):r ≠ []/\zaz r=some (zdQ f g T of1 (phW pw) i u):=by
 obtain⟨r0,h1,h2,h3⟩:=zjR _ rows (fun p hp=>by
  unfold zan at hp
  grind) (zjS (fun p hp=>(h0 p hp).1) ha) u r hr
 obtain⟨h4,h5⟩:=h u r0 h1;refine⟨h2 h4,?_⟩;rw[h3,zdR ht hor hi];have hf:=zlK (l:=pw i) (fun p hp=>(h0 p hp).1) u
 show _=some (match kL ((pw i).map (·.1)) (u:Int) with
  | some k=>k
  | none=>_)
 rw[<- hf];cases hfd:(zan (pw i) (pw i).length).find? (fun p=>decide (p.1=u)) with
 | some p=>rfl
 | none =>
  show zaz r0=some (if 0<=lk T i then zcf f g T of1 (phW pw) (lk T i).toNat u else (u:Int));unfold zaz;rw[h5];by_cases e:i=0
  .
   subst e;rw[zt2 rfl,xJ (ht.sol.out 0 hi (.inr rfl)),zt1 tS]
  obtain⟨q,hq,_⟩:=ht.up hi e
  grind
theorem TopW.out (h:∀ (u:Nat) r,rows1[u]?=some r->r ≠ []/\zaz r=some (zdQ f g T of1 (phW pw) i u)) {v:Nat} (hd:zO f g i=v) (hv:v<rows1.length) (u:Nat) (r:List Int) (hr:(jx rows1 v (dfW f g T of1 i))[u]?=some r):r ≠ []/\zaz r=some (zcf f g T of1 (phW pw) i u):=by
 rw[zf7 hv]at hr;unfold zcf;by_cases e:u=v
 .
  rw[zt2 e]at hr;obtain rfl:=Option.some.inj hr;rw[zt2 tO];exact⟨tR,zd1 _ _⟩
 grind
end
open Go.GL Go.GL.Dom
section
def PreW (g:List Nd) (T:List Int) (k m i:Nat):Prop:=∃ rest,(xV g T).drop k=zfh T m i++rest
def Deep (T:List Int) (pl:List Int) (n m i:Nat):Prop:=∀ j,j<n->AncT T i j->lk pl j - lk pl i<m
theorem PreW.at (h:PreW g T k (m+1) i):(xV g T)[k]?=some i:=by
 obtain⟨rest,h⟩:=h;have:((xV g T).drop k)[0]?=some i:=by rw[h];rfl
 grind
theorem PreW.child (h:PreW g T k (m+1) i) {s:Nat} (hs:(chT T i)[s]?=some c):PreW g T (k+1+(((chT T i).take s).flatMap (zfh T m)).length) m c:=by
 obtain⟨rest,h⟩:=h
 have h1:chT T i=(chT T i).take s++c::(chT T i).drop (s+1):=by
  obtain⟨hk,hx⟩:=zt5.1 hs;have e:=zuc hk;rw[hx]at e;rw[<- e,zvz]
 refine⟨((chT T i).drop (s+1)).flatMap (zfh T m)++rest,?_⟩;rw[zvF,<- zub,h];show ((i::(chT T i).flatMap (zfh T m))++rest).drop (1+_)=_;rw[zvG 1,zu3,List.drop_succ_cons]
 conv=>lhs;rhs;rw[h1]
 rw[zuq,zur,zu0,zu0,List.drop_left]
theorem Deep.child (ht:TreeG g R order pl T) (h:Deep T pl g.length (m+1) i) (hc:c ∈ chT T i):Deep T pl g.length m c:=fun j hj ha=>by
 obtain⟨h1,h2⟩:=chT_mem.1 hc;rw[ht.sol.len]at h1;have h3:=(ht.trt.up c i h1 h2).2;have h4:=h j hj (AncT.trans (.step h2 .refl) ha);omega
theorem Deep.pos (h:Deep T pl g.length m i) (hi:i<g.length):0<m:=by
 have:=h i hi .refl;omega
theorem PreW.start (T:List Int):PreW g T 0 (g.length+1) 0:=⟨[],by rw[zu1];rfl⟩
theorem TreeG.deep (ht:TreeG g R order pl T) (hor:order.length<=g.length) (h0:0<g.length):Deep T pl g.length (g.length+1) 0:=fun j hj _=>by
 have:=ht.rk1 hor hj;have:=ht.rk0 h0;omega
theorem TopW.child (ht:TreeG g R order pl T) (hc:c ∈ chT T i) (h:∀ (u:Nat) r,rows[u]?=some r->r ≠ []/\zaz r=some (zcf f g T of1 (phW pw) i u)):TopW f g T of1 pw c rows:=fun v r hr=>by
 obtain⟨h1,h2⟩:=chT_mem.1 hc;rw[ht.sol.len]at h1
 have hC:c ≠ 0:=fun e=>by
  subst e;have:=xJ (ht.sol.out 0 h1 (.inr rfl));omega
 rw[zt1 hC,h2,ztd];exact h v r hr
theorem TopW.same (h:∀ (u:Nat) r,rows1[u]?=some r->r ≠ []/\zaz r=some (zdQ f g T of1 (phW pw) i u)) (hd:zO f g i<0) (u:Nat) (r:List Int) (hr:rows1[u]?=some r):r ≠ []/\zaz r=some (zcf f g T of1 (phW pw) i u):=by
 unfold zcf
 grind
end
end Go.Proofs.YtckdhgbepmpgiaaGreat
namespace Go.GL
theorem zsI (h:Blk w b cs e) (hv:cs[j]?=some v) (ho:o=j):w.cell? ⟨b,o,none⟩=some v:=by
 subst ho;have:=Blk.cells h o v hv
 grind
section
variable {dst:Option Tmp} {ty:TypeId} {pos:String} {g:Option (Nat × Bool)}
theorem zsJ {x:Operand} (hs:∀ w,(sizeOf t).run P w=.ok 1 w) (hb:Blk w b cs e) (hx:ev env x=some (.pointer (some ⟨b,o,none⟩))) (hy:ev env y=some v) (h1:Go.GL.one v=true) (ho:o=j) (hl:j<cs.length) :
  xO P ⟨dst,.store t x y,ty,pos,aft,g⟩ env w (fun w'=>(NodP b (cs.set j v) e).holds w'/\Keep (NodP b cs e).S w w'/\∀ q,(NodP b (cs.set j v) e).S q->((NodP b cs e).S q\/w.heap.size<=q)/\q<w'.heap.size):=by
 subst ho;obtain⟨c1,c2⟩:=xL h1;obtain⟨w',hr,h2,h3,h4⟩:=M.store (dst:=dst) (ty:=ty) (pos:=pos) (aft:=aft) (g:=g) hs hx hy c1 c2 hb hl;exact⟨w',hr,h3,h4,fun q hq=>⟨.inl hq,by have hq:q=b:=hq;subst hq;exact h3.lt⟩⟩
end
section
variable {n:Fm}
variable {ty:TypeId} {ps:String} {g:Option (Nat × Bool)} {op:Op}
theorem zsK (is k:Nat) {e e':HE} (hi:ops[is]?=some ⟨none,op,ty,ps,aft,g⟩) (hr:Region.ready .any ops listed=[is]) (hn:(gd ops env g,hget H k,qK H k,L.contains is)=(some true,some e,none,true)) (hl:e'.loc) (hz:∀ b,¬ e'.fz b)
  (hm:∀ w,VI Bs H w->xO P ⟨none,op,ty,ps,aft,g⟩ env w (fun w'=>e'.holds w'/\Keep e.S w w'/\∀ q,e'.S q->(e.S q\/w.heap.size<=q)/\q<w'.heap.size))
  (h:VDx P n Q ks ops (VI B0 Hs) L fuel (listed.setIfInBounds is true) env A (hset H k e') Bs):VD P n Q ks ops Hs B0 L (fuel+1) listed env A H Bs:=by
 simp only[Prod.mk.injEq]at hn;obtain⟨h2,h3,h4,h6⟩:=hn;intro hH hA w hI;refine zrD is hi hr h2 h6 (hm w hI) ?_;rintro w2 ⟨hh,hk,hS⟩;exact h (hA.res h3 h4) w2 (hI.set h3 hk hh hl hz hS)
end
theorem Held.perm {E:Hp} (h:Held E w) (hp:E.Perm E'):Held E' w :=
 ⟨fun x hx=>h.1 x (hp.mem_iff.2 hx),(hp.pairwise_iff fun hC q hq h'=>hC q h' hq).1 h.2⟩
theorem GBack.perm {E:Hp} (h:GBack E0 E w w') (hp:E.Perm E'):GBack E0 E' w w':=⟨h.keep,h.held.perm hp,fun x hx q hq=>h.new x (hp.mem_iff.2 hx) q hq⟩
theorem GBack.join {A A' B:Hp} {w0:World} (h:GBack E0 (A++B) w w0) (h':GBack A A' w0 w'):GBack E0 (A'++B) w w':=by
 have hA:∀ q,HS A q->HS E0 q\/w.heap.size<=q:=fun q ⟨x,hx,hq⟩=>h.new x (zv0 _ hx) q hq
 have hB:∀ y ∈ B,∀ q,y.2.S q->q<w0.heap.size/\¬ HS A q:=fun y hy q hq=>by
  refine⟨(h.held.1 y (zv1 _ hy)).2.2.2 q hq,?_⟩;rintro⟨x,hx,hC⟩;exact(zvg.1 h.held.2).2.2 x hx y hy q hC hq
 refine⟨h.keep.trans h'.keep fun q hY hq=>(hA q hq).resolve_right tO,⟨fun x hx=>?_,zvg.2 ⟨h'.held.2,(zvg.1 h.held.2).2.1,fun x hx y hy q hq hC=>?_⟩⟩,fun x hx q hq=>?_⟩
 .
  rcases zta.1 hx with hx | hx
  . exact h'.held.1 x hx
  obtain⟨h1,h2,h3,h4⟩:=h.held.1 x (zv1 _ hx);exact⟨HE.keep h1 h2 h'.keep (fun q hq=>(hB x hx q hq).2) (fun b hb=>absurd hb (h3 b)),h2,h3,fun q hq=>by have:=h4 q hq;have:=h'.keep.size;omega⟩
 .
  obtain⟨h1,h2⟩:=hB y hy q hC;rcases h'.new x hx q hq with h3 | h3
  . grind
  omega
 have hs:=h.keep.size;rcases zta.1 hx with hx | hx
 .
  rcases h'.new x hx q hq with h3 | h3
  . grind
  omega
 exact h.new x (zv1 _ hx) q hq
end Go.GL
namespace Go.Proofs.YtckdhgbepmpgiaaGreat
open Go.GL Go.GL.Dom
theorem zlL:∀ (l:List (Nat × Int)) (rows:List (List Int)),(∀ r ∈ rows,r.length<=B)->∀ r ∈ yZ rows l,r.length<=B+l.length:=by
 intro l;induction l generalizing B with
 | nil=>exact fun rows h r hr=>h r hr
 | cons p l ih =>
  intro rows h r hr
  have:=ih (B:=B+1) (jx rows p.1 p.2) (fun r hr=>by
   unfold jx at hr;rcases zv9 hr with hr | rfl
   . grind
   .
    rw[zsZ,ztc];by_cases e:p.1<rows.length
    .
     rw[zsR e];have:=h _ (zuK e);show (rows[p.1]).length+1<=_;omega
    .
     rw[ztf tO];show 0+1<=B+1
     omega) r hr
  rw[ztk];omega
theorem zjT {N:Nat}:∀ (l:List (Nat × Int)) (rows:List (List Int)),(∀ r ∈ rows,r.length+(c+l.length)<=N)->∀ r ∈ yZ rows l,r.length+c<=N:=by
 intro l;induction l with
 | nil=>exact fun rows h r hr=>h r hr
 | cons p l ih =>
  intro rows h r hr;refine ih (jx rows p.1 p.2) (fun r hr=>?_) r hr;rw[ztk]at h;unfold jx at hr;by_cases e:p.1<rows.length
  .
   rcases zv9 hr with hr | rfl
   . grind
   rw[zsZ,ztc,zsR e];have:=h _ (zuK e);show (rows[p.1]).length+1+_<=_;omega
  rw[List.set_eq_of_length_le tO]at hr
  grind
theorem zlM {l:List Nat}:(l.map fun y:Nat=>(y:Int)).idxOf (i:Int)=l.idxOf i:=by
 induction l with
 | nil=>rfl
 | cons y l ih =>
  rw[zuV,List.idxOf_cons,List.idxOf_cons,ih];by_cases e:y=i
  . grind
  grind
def zdU (f:Fl) (g:List Nd) (T of1:List Int) (l:List (Phn × Nat)) (i:Nat):List (Nat × Int):=zan l l.length++(if 0<=zO f g i then [((zO f g i).toNat,dfW f g T of1 i)] else [])
theorem zgO (f:Fl) (g:List Nd) (T of1:List Int) (l:List (Phn × Nat)) (i:Nat):(zdU f g T of1 l i).length<=l.length+1:=by
 unfold zdU;rw[zsZ,zdT (ztg _)]
 grind
theorem zn7 (f:Fl) (g:List Nd) (T of1:List Int) (k:Nat):(ofK f g T of1 k).length<=of1.length+(xV g T).length:=by
 unfold ofK zcu
 grind
theorem zlN (hk:GOk f g) (hi:i<g.length):(rdV f g i).length<=100000:=by
 obtain⟨x,hx⟩:∃ x,g[i]?=some x:=⟨_,zsR hi⟩;unfold rdV rdN;rw[zM hx];split
 .
  rename_i hb;have hC:=of_decide_eq_true hb;have h2:=hk.at hx tO;refine zsX (Gr.compactL_len _) ?_;rw[xf];exact h2.2.2
 grind
theorem AlP.imp2 {Dn:Nat->Nat->Prop} (h:AlP f g T of1 pw k Dn als) (hi:∀ j q,q<(pw j).length->(Dn j q ↔ Dn' j q)):AlP f g T of1 pw k Dn' als:=fun j hj q p hp=>by
 have hq:=(zt5.1 hp).1;exact⟨fun hd=>(h j hj q p hp).1 ((hi j q hq).2 hd),fun hd=>(h j hj q p hp).2 fun h'=>hd ((hi j q hq).1 h')⟩
theorem zoo {a b c d e f g:Nat × HE}:([a,c,d]++[b,e,f,g]).Perm [a,b,c,d,e,f,g]:=(List.perm_middle (l₁:=[c,d]) (l₂:=[e,f,g])).cons a
theorem zgP (hl:rv.length=rows.length) (h1:w.ownsRow 0 27 1 v rv.length rv) (h2:RowsOk zb 3 w rv rows):SlR 1 (RSl 1 zG) (fun _=>True) w v rows:=kH (hl ▸ h1) h2 (fun _ _=>trivial) (fun _ _ _ _ _=>trivial)
def chL (T:List Int) (n:Nat):List (List Int):=(List.range n).map fun i=>(chT T i).map fun c:Nat=>(c:Int)
theorem zn8 {n:Nat} (h:i<n):(chL T n)[i]?=some ((chT T i).map fun c:Nat=>(c:Int)):=by unfold chL;rw[zt8,zuC h];rfl
structure WkG (f:Fl) (g:List Nd) (R:List (List Int)) (order:List Nat) (pl T of1:List Int) (pw:Nat->List (Phn × Nat)):Prop where
 ht:TreeG g R order pl T
 hor:order.length<=g.length
 hk:GOk f g
 pr:PrOk f g
 df:DefOk f g
 small:g.length<=10000
 few:f.vars.length<=1000
 ofs:of1.length<=100000000
 asc:∀ i,i<g.length->(phW pw i).Pairwise fun p q=>p.var<q.var
 var:∀ i,i<g.length->∀ p ∈ pw i,0<=p.1.var/\p.1.var<f.vars.length
 frm:∀ i,i<g.length->∀ p ∈ pw i,p.1.frm=zg g i
 len:∀ i,i<g.length->(pw i).length<=1000
 dis:zon g pw
theorem zsL {R:Rel α} {R':Rel β} {l:List α} (F:α->β) (h:SlR k R D w v l) (hR:∀ (i:Nat) x cs,l[i]?=some x->R D w x cs->R' D w (F x) cs):SlR k R' D w v (l.map F):=by
 obtain⟨ao,cap,h1,h2,h3,h4⟩:=h;refine⟨ao,cap,tD,tD,h3,fun i x hx=>?_⟩;rw[zt8]at hx;obtain⟨y,hy,rfl⟩:=zw3.1 hx;obtain⟨b,o,cs,h5,h6,h7,h8,h9⟩:=h4 i y hy;exact⟨b,o,cs,h5,h6,h7,h8,hR i y cs hy h9⟩
theorem zjU {hY:Nat->Value}
  (ht:TreeG g R order pl T) (hor:order.length<=g.length) (h0:0<g.length) (hC:StW f g T of1 pw hY (xV g T).length ofl ndc da ucs als) {has:Nat->Option Addr × Nat × Nat} {hasv:List Value} {eo en eu ea:TypeId} {ofv:Value} {bn cn:Nat}
  (dc:w.ownsRow 0 eo 1 ofv ofl.length (ofl.map zb)) (hB:Blk w bn ndc en) (dg:g.length<=cn/\cn<=9223372036854775807) (hU:RowsC 2 eu w da ucs) (hA:RowsOk zb ea w hasv als) (hP:∀ j,j<g.length->SlR 4 (RPw has) D w (hY j) (pw j))
  (db:∀ j,j<g.length->∀ (q:Nat) p,(pw j)[q]?=some p->hasv[p.2]?=some (.slice (has p.2).1 (has p.2).2.1 (has p.2).2.2))
  (d1:∀ q,ofv.ownBlock=some q->D q) (d2:D bn) (d3:∀ (i:Nat) v q,da[i]?=some v->v.ownBlock=some q->D q) (d4:∀ (i:Nat) v q,hasv[i]?=some v->v.ownBlock=some q->D q) :
  RSf D w (zcv f g T of1 (phW pw)) ofv (.slice (some ⟨bn,0,none⟩) g.length cn):=by
 rw[zn6 ht hor h0];refine⟨?_,?_⟩
 .
  show SlR 1 zG D w ofv (ofK f g T of1 (xV g T).length);rw[<- hC.of];exact zpK zb iA dc d1
 refine⟨some ⟨bn,0,none⟩,cn,tD,tD,dg.2,fun i x hx=>?_⟩;rw[zt8]at hx;obtain⟨j,hj,rfl⟩:=zw3.1 hx;have hi:i<g.length:=by have:=(zt5.1 hj).1;simpa using this
 rw[zuC hi]at hj;obtain rfl:=Option.some.inj hj;obtain⟨u,hu⟩:∃ u,da[i]?=some u:=⟨_,zsR (by rw[hC.hl];exact hi)⟩;obtain⟨m,hm⟩:=hU.row i u _ hu (hC.us i hi);refine⟨bn,0,[hY i,u,.int .i64 (dsK f g T of1 (xV g T).length i)],rfl,d2,rfl,fun q v hq=>?_,hY i,u,rfl,?_,zpL tS zlJ j1 iA hm (fun q hq=>d3 i u q hu hq)⟩
 .
  have hc:=Blk.cells hB
  match q,hq with
  | 0,hq =>
   obtain rfl:=Option.some.inj hq;have:=hc (i*3) _ (hC.n0 i hi);simpa using this
  | 1,hq =>
   obtain rfl:=Option.some.inj hq;have:=hc (i*3+1) _ ((hC.n1 i hi).trans hu);simpa[zvF] using this
  | 2,hq =>
   obtain rfl:=Option.some.inj hq;have:=hc (i*3+2) _ (hC.n2 i hi);simpa[zvF] using this
 show SlR 4 zm9 D w (hY i) ((phW pw i).map _);unfold phW;rw[zuW];refine zsL _ (hP i hi) fun q p cs hp dh=>?_;obtain⟨fh,rfl,dl⟩:=dh;exact⟨fh,_,rfl,dl,zpK zb iA (hA.row p.2 _ _ (db i hi q p hp) (hC.al i hi q p hp)) (fun b hb=>d4 p.2 _ b (db i hi q p hp) hb)⟩
end Go.Proofs.YtckdhgbepmpgiaaGreat
namespace Go.GL.Dom
section
variable {R':List (List Int)}
theorem zfU (h:∀ a b,Dfs.Edge R a b ↔ Dfs.Edge R' a b) (hr:Dfs.Reach R root b):Dfs.Reach R' root b:=by
 induction hr with
 | refl=>exact .refl
 | step _ he ih=>exact .step ih ((h _ _).1 he)
theorem zf8 (h:∀ a b,Dfs.Edge R a b ↔ Dfs.Edge R' a b) {x:Nat} (ha:AvN R root x k b):AvN R' root x k b:=by
 induction ha with
 | start hne=>exact .start hne
 | step _ he hne ih=>exact .step ih ((h _ _).1 he) hne
theorem zf9 (h:∀ a b,Dfs.Edge R a b ↔ Dfs.Edge R' a b) {x:Nat}:Dom R root x b ↔ Dom R' root x b :=
 ⟨fun hd k hk=>hd k (zf8 (fun a b=>(h a b).symm) hk),fun hd k hk=>hd k (zf8 h hk)⟩
theorem zfV (h:∀ a b,Dfs.Edge R a b ↔ Dfs.Edge R' a b) {x:Nat}:xA R root x b ↔ xA R' root x b:=by
 have main:∀ {R R':List (List Int)},(∀ a b,Dfs.Edge R a b ↔ Dfs.Edge R' a b)->xA R root x b->xA R' root x b:=fun {R R'} h=>by
  rintro⟨a,h1,h2,h3,h4⟩;exact⟨a,zfU h h1,(h a b).1 h2,(zf9 h).1 h3,fun h5=>h4 ⟨h5.1,(zf9 h).2 h5.2⟩⟩
 exact⟨main h,main fun a b=>(h a b).symm⟩
end
end Go.GL.Dom
namespace Go.Proofs.YtckdhgbepmpgiaaGreat
open Go.GL Go.GL.Dom
theorem zfa {Fr Fr':Nat->Nat->Prop} (h:∀ a b,Fr a b ↔ Fr' a b) {nodes:List Int} (hi:ItS Fr nodes b):ItS Fr' nodes b:=by
 induction hi with
 | node hn hf=>exact .node hn ((h _ _).1 hf)
 | it _ hf ih=>exact .it ih ((h _ _).1 hf)
def pwE (nv:Nat) (g:List Nd) (E:List (Nat × Nat)) (i:Nat):List (Phn × Nat):=E.zipIdx.filterMap fun e=>if e.1.2=i then some (⟨(e.1.1:Int),((nv+e.2:Nat):Int),zg g i,[]⟩,e.2) else none
def ofE (nv:Nat) (E:List (Nat × Nat)):List Int:=(List.range nv).map (fun v:Nat=>(v:Int))++E.map fun e=>(e.1:Int)
def zo6 (a b:Nat × Nat):Prop:=a.1<b.1\/(a.1=b.1/\a.2<b.2)
section
theorem zaA:(ofE nv E).length=nv+E.length:=by unfold ofE;rw[zsZ,ztb,ztb,zuQ]
theorem zlO (v i:Nat):ofE nv (E++[(v,i)])=ofE nv E++[(v:Int)]:=by unfold ofE;rw[zuT,<- zu0];rfl
theorem zgQ (v j i:Nat):pwE nv g (E++[(v,j)]) i=pwE nv g E i++if j=i then [(⟨(v:Int),((nv+E.length:Nat):Int),zg g i,[]⟩,E.length)] else []:=by
 unfold pwE;rw[List.zipIdx_append,List.filterMap_append];congr 1;show List.filterMap _ [((v,j),0+E.length)]=_;rw[zvY];by_cases e:j=i
 .
  rw[zt2 e,List.filterMap_cons_some (b:=(⟨(v:Int),((nv+E.length:Nat):Int),zg g i,[]⟩,E.length)) (by simp[e])];rfl
 rw[zt1 e,List.filterMap_cons_none (by simp[e])];rfl
theorem mem_pwE {x:Phn × Nat}:x ∈ pwE nv g E i ↔ ∃ v a:Nat,E[a]?=some (v,i)/\x=(⟨(v:Int),((nv+a:Nat):Int),zg g i,[]⟩,a):=by
 unfold pwE;rw[List.mem_filterMap];constructor
 . grind
 rintro⟨v,a,ha,rfl⟩;exact⟨((v,i),a),List.mem_zipIdx_iff_getElem?.2 ha,tR⟩
theorem zdV (hE:E.Pairwise zo6) (i:Nat):(pwE nv g E i).Pairwise fun x y=>x.2<y.2/\x.1.var<y.1.var:=by
 have main:∀ k,k<=E.length->(pwE nv g (E.take k) i).Pairwise fun x y=>x.2<y.2/\x.1.var<y.1.var:=by
  intro k;induction k with
  | zero=>intro _;exact .nil
  | succ k ih =>
   intro hk;obtain⟨⟨v,j⟩,he⟩:∃ e,E[k]?=some e:=j9;rw[ze he,zgQ];by_cases e:j=i
   .
    rw[zt2 e,zvg];refine⟨ih tO,zvk _ _,fun x hx y hy=>?_⟩;rw[zt9]at hy;subst hy;obtain⟨v',a,ha,rfl⟩:=mem_pwE.1 hx;rw[ztn]at ha;split at ha
    .
     rename_i hC;have hl:(E.take k).length=k:=tD;rw[hl];refine⟨hC,?_⟩;have h1:=zvi.1 hE a k tO tO hC;rw[(zt5.1 ha).2,(zt5.1 he).2]at h1;subst e;rcases h1 with h1 | ⟨_,h1⟩
     . grind
     omega
    cases ha
   grind
 have:=main E.length (ztg _);rwa [zsW]at this
theorem zn9 (hE:E.Pairwise zo6):zon g (pwE nv g E):=by
 intro j j' _ _ q q' p p' hp hC e;obtain⟨v,a,ha,rfl⟩:=mem_pwE.1 (zsS hp);obtain⟨v',a',hY,rfl⟩:=mem_pwE.1 (zsS hC);obtain rfl:a=a':=e;rw[ha]at hY;obtain⟨rfl,rfl⟩:v=v'/\j=j':=tD;refine⟨rfl,?_⟩;have h1:=zvi.1 (zdV (nv:=nv) (g:=g) hE j);obtain⟨hq,eq⟩:=zt5.1 hp;obtain⟨da,eq'⟩:=zt5.1 hC;rcases zvR q q' with h | h | h
 . grind
 . exact h
 grind
theorem zna (hE:E.Pairwise zo6) (hv:∀ e ∈ E,e.1<nv) (i:Nat):(pwE nv g E i).length<=nv:=by
 have h1:=zdV (nv:=nv) (g:=g) hE i
 have h2:(((pwE nv g E i).map fun x=>x.1.var.toNat)).Pairwise (·<·):=by
  rw[zvj];refine h1.imp_of_mem fun {x y} hx hy h=>?_;obtain⟨v,a,_,rfl⟩:=mem_pwE.1 hx;obtain⟨v',a',_,rfl⟩:=mem_pwE.1 hy;have:=h.2;dsimp only at this ⊢;omega
 have h3:∀ x ∈ (pwE nv g E i).map (fun x=>x.1.var.toNat),x<nv:=fun x hx=>by
  obtain⟨y,hy,rfl⟩:=zv6.1 hx;obtain⟨v,a,ha,rfl⟩:=mem_pwE.1 hy
  grind
 have h4:=Dfs.nodup_le nv _ (h2.imp (fun h=>Nat.ne_of_lt h)) h3;rwa [ztb]at h4
end
open Go.GL Go.GL.Dom
theorem zch {n:Nat} (h:Succs n es R) (hC:∀ a b:Nat,((a:Int),(b:Int)) ∈ es->a<n) (a b:Nat):Dfs.Edge R a b ↔ ((a:Int),(b:Int)) ∈ es:=by
 constructor
 .
  rintro⟨r,hr,hb⟩;exact(h.mem a r hr b).1 hb
 intro hm;have e:=zsR (show a<R.length by rw[h.len];exact hC a b hm);exact⟨_,e,(h.mem a _ e b).2 hm⟩
theorem zfW {n:Nat} {Rw':List (List Int)} {o o':List Nat} {pl' T':List Int} (h:Known n root es Rw o pl T) (h':Known n root es Rw' o' pl' T') (hC:∀ a b:Nat,((a:Int),(b:Int)) ∈ es->a<n) (a b:Nat):xA Rw root a b ↔ xA Rw' root a b:=zfV fun x y=>by rw[zch h.succ hC,zch h'.succ hC]
def zop (f:Fl) (v:Nat):Prop:=∃ x,f.vars[v]?=some x/\x.kind=0
def zao (f:Fl) (g:List Nd) (i v:Nat):List Int:=0::(((List.range i).filter fun z=>decide (zO f g z=(v:Int))).map fun z:Nat=>(z:Int))
theorem zfb (f:Fl) (g:List Nd) (i v:Nat):zao f g (i+1) v=zao f g i v++if zO f g i=(v:Int) then [(i:Int)] else []:=by
 unfold zao;rw[zvn,zuk,zuT];by_cases e:zO f g i=(v:Int)
 . rw[zt2 e,zum (by simpa using e)];rfl
 rw[zt1 e,zul (by simpa using e)];rfl
theorem zlP (f:Fl) (g:List Nd) (i v:Nat):(zao f g i v).length<=i+1:=by
 unfold zao
 grind
theorem dfsI_mem {v:Nat} {z:Nat}:(z:Int) ∈ zao f g i v ↔ z=0\/(z<i/\zO f g z=(v:Int)):=by
 unfold zao;rw[zt7,zv6];constructor
 .
  rintro (h | ⟨y,hy,e⟩)
  . exact .inl tO
  obtain⟨h1,h2⟩:=zv2.1 hy;obtain rfl:y=z:=tO;exact .inr ⟨zva.1 h1,of_decide_eq_true h2⟩
 rintro (rfl | ⟨h1,h2⟩)
 . exact .inl O
 exact .inr ⟨z,zv2.2 ⟨zva.2 h1,zt3 h2⟩,rfl⟩
theorem zlQ {v:Nat} (h:(zao f g i v).length=1):∀ z,z<i->zO f g z ≠ (v:Int):=fun z hz e=>by
 have hm:z ∈ (List.range i).filter fun z=>decide (zO f g z=(v:Int)):=zv2.2 ⟨zva.2 hz,zt3 e⟩;unfold zao at h
 grind
theorem zjV {v:Nat} (h:(zao f g i v).length ≠ 1):∃ z,z<i/\zO f g z=(v:Int):=by
 unfold zao at h;rw[ztk,ztb]at h;obtain⟨z,hz⟩:=List.exists_mem_of_length_pos (show 0<((List.range i).filter fun z=>decide (zO f g z=(v:Int))).length by omega);obtain⟨h1,h2⟩:=zv2.1 hz;exact⟨z,zva.1 h1,of_decide_eq_true h2⟩
def znX (f:Fl) (g:List Nd) (Fr:Nat->Nat->Prop) (v i:Nat):Prop:=zop f v/\(∃ z,z<g.length/\zO f g z=(v:Int))/\ItS Fr (zao f g g.length v) i
structure PlcV (f:Fl) (g:List Nd) (Fr:Nat->Nat->Prop) (v:Nat) (E:List (Nat × Nat)):Prop where
 asc:E.Pairwise zo6
 mem:∀ u i,(u,i) ∈ E ↔ u<v/\znX f g Fr u i
section
variable {Fr:Nat->Nat->Prop} {v:Nat}
theorem PlcV.start (f:Fl) (g:List Nd) (Fr:Nat->Nat->Prop):PlcV f g Fr 0 []:=⟨.nil,fun u i=>tR⟩
theorem PlcV.skip (h:PlcV f g Fr v E) (hn:∀ i,¬ znX f g Fr v i):PlcV f g Fr (v+1) E:=⟨h.asc,fun u i=>by
 rw[h.mem];constructor
 . grind
 .
  rintro⟨h1,h2⟩;refine⟨?_,h2⟩;by_cases e:u=v
  . grind
  .
   omega⟩
def zgR (E:List (Nat × Nat)) (v:Nat) (L:List Int):List (Nat × Nat):=E++L.map fun y=>(v,y.toNat)
theorem zjW {L:List Int} {y:Int} (h:L[k]?=some y):zgR E v (L.take (k+1))=zgR E v (L.take k)++[(v,y.toNat)]:=by
 unfold zgR;rw[ze h,zuT,<- zu0];rfl
theorem PlcV.step (h:PlcV f g Fr v E) {L:List Int} (hL:L.Pairwise (·<·)) (hl:zop f v) (hd:∃ z,z<g.length/\zO f g z=(v:Int)) (hm:∀ y:Int,y ∈ L ↔ ∃ b:Nat,y=(b:Int)/\ItS Fr (zao f g g.length v) b):PlcV f g Fr (v+1) (zgR E v L):=by
 refine⟨?_,fun u i=>?_⟩
 .
  unfold zgR;rw[zvg];refine⟨h.asc,?_,fun x hx y hy=>?_⟩
  .
   rw[zvj];refine hL.imp_of_mem fun {a b} ha hb hC=>?_;obtain⟨a',rfl,_⟩:=(hm a).1 ha;obtain⟨b',rfl,_⟩:=(hm b).1 hb;exact .inr ⟨rfl,tO⟩
  obtain⟨z,_,rfl⟩:=zv6.1 hy;exact .inl ((h.mem x.1 x.2).1 hx).1
 unfold zgR;rw[zta,h.mem,zv6];constructor
 .
  rintro (⟨h1,h2⟩ | ⟨y,hy,e⟩)
  . grind
  obtain⟨b,rfl,hb⟩:=(hm y).1 hy;cases e;exact⟨tO,hl,hd,tD⟩
 rintro⟨h1,h2⟩;by_cases e:u=v
 .
  subst e;exact .inr ⟨(i:Int),(hm i).2 ⟨i,rfl,h2.2.2⟩,tD⟩
 grind
end
theorem zjX {Fr:Nat->Nat->Prop} {nodes:List Int} (h:ItS Fr nodes b):∃ a,Fr a b:=by
 cases h with
 | node _ hf=>exact⟨_,hf⟩
 | it _ hf=>exact⟨_,hf⟩
theorem zgS (ht:TreeG g R order pl T) (h0:zw g 0=[]) {nodes:List Int} (h:ItS (xA R 0) nodes b):b<g.length/\b ≠ 0:=by
 obtain⟨a,c,h1,h2,_⟩:=zjX h;have hb:=ht.lt b (.step h1 h2);refine⟨hb,fun e=>?_⟩;subst e;have:=(ht.edge c 0 hb).1 h2;rw[h0]at this;cases this
theorem zsM (ht:TreeG g R order pl T) (h0:zw g 0=[]) (dh:DefOk f g) (h:PlcV f g (xA R 0) f.vars.length E):PlcF f g (ofE f.vars.length E) (phW (pwE f.vars.length g E)) R:=by
 have dl:∀ (k:Nat) v,(ofE f.vars.length E)[k]?=some v->f.vars.length<=k->∃ e,E[k - f.vars.length]?=some e/\v=(e.1:Int):=fun k v hk dc=>by
  unfold ofE at hk;rw[zti tD,ztb,zuQ,zt8]at hk;obtain⟨e,he,rfl⟩:=zw3.1 hk;exact⟨e,he,rfl⟩
 have hC:∀ (i:Nat) p,p ∈ phW (pwE f.vars.length g E) i->∃ v a:Nat,E[a]?=some (v,i)/\p=⟨(v:Int),((f.vars.length+a:Nat):Int),zg g i,[]⟩:=fun i p hp=>by
  obtain⟨x,hx,rfl⟩:=zv6.1 hp;obtain⟨v,a,ha,rfl⟩:=mem_pwE.1 hx
  grind
 have hY:∀ (i v:Nat),(v,i) ∈ E->kL (phW (pwE f.vars.length g E) i) (v:Int) ≠ none:=fun i v hm e=>by
  obtain⟨a,ha⟩:=zv5.1 hm;exact zgo e _ (zv6.2 ⟨_,mem_pwE.2 ⟨v,a,ha,rfl⟩,rfl⟩) O
 refine⟨by rw[zaA];omega,fun k v hk dm=>?_,fun k v hk dc=>?_,?_,fun i=>?_,fun i p hp=>?_,fun i p hp=>?_,fun k dw dr=>?_,fun i v hi dx hv hn da z hz hF=>?_⟩
 .
  unfold ofE at hk;rw[zth tD,zt8,zuC dm]at hk;exact(Option.some.inj hk).symm
 .
  obtain⟨e,he,rfl⟩:=dl k v hk dc;obtain⟨_,⟨x,hx,h3⟩,_⟩:=(h.mem e.1 e.2).1 (zsS he)
  grind
 .
  apply zuf.2;intro p hp;obtain⟨v,a,ha,_⟩:=hC 0 p hp;exact(zgS ht h0 ((h.mem v 0).1 (zsS ha)).2.2.2).2 O
 .
  show ((pwE f.vars.length g E i).map (·.1)).Pairwise _;rw[zvj];exact(zdV h.asc i).imp fun h=>h.2
 .
  obtain⟨v,a,ha,rfl⟩:=hC i p hp;refine⟨show (f.vars.length:Int)<=((f.vars.length+a:Nat):Int) by omega,?_⟩;show (ofE f.vars.length E)[((f.vars.length+a:Nat):Int).toNat]?=some (v:Int);rw[ztd];unfold ofE;rw[zti tD,ztb,zuQ,zvJ,zt8,ha];rfl
 . grind
 .
  rw[zaA]at dr;obtain⟨⟨v,i⟩,he⟩:∃ e,E[k - f.vars.length]?=some e:=j9;have hi:=(zgS ht h0 ((h.mem v i).1 (zsS he)).2.2.2).1
  have dy:∀ j,(k:Int) ∈ (phW (pwE f.vars.length g E) j).map (·.ver) ↔ j=i:=fun j=>by
   constructor
   . grind
   rintro rfl;refine zv6.2 ⟨_,zv6.2 ⟨_,mem_pwE.2 ⟨v,_,he,rfl⟩,rfl⟩,?_⟩;show ((f.vars.length+(k - f.vars.length):Nat):Int)=(k:Int);omega
  have dz:∀ j,((phW (pwE f.vars.length g E) j).map (·.ver)).Nodup:=fun j=>by
   show (((pwE f.vars.length g E j).map (·.1)).map (·.ver)).Nodup;rw[zuW];refine zvj.2 ((zdV h.asc j).imp_of_mem fun {x y} hx hy dA=>?_);obtain⟨_,a,_,rfl⟩:=mem_pwE.1 hx;obtain⟨_,b,_,rfl⟩:=mem_pwE.1 hy;intro e;have e:((f.vars.length+a:Nat):Int)=((f.vars.length+b:Nat):Int):=e;omega
  rw[zu8]
  have hc:((List.range g.length).map (List.count (k:Int) ∘ fun i=>(phW (pwE f.vars.length g E) i).map (·.ver)))=(List.range g.length).map fun j=>if j=i then 1 else 0:=by
   refine zuU fun j _=>?_;show List.count (k:Int) ((phW (pwE f.vars.length g E) j).map (·.ver))=_;by_cases e:j=i
   . grind
   grind
  rw[hc];exact zfS zve (zva.2 hi) O fun d _ e=>e
 obtain⟨vn,rfl⟩:∃ vn:Nat,v=(vn:Int):=⟨v.toNat,tO⟩
 have db:z<g.length:=by
  obtain⟨a,ha,dB,dt,_⟩:=hz;by_cases dg:z<g.length
  . exact dg
  exfalso
  have hr:Dfs.Reach R 0 z:=Classical.byContradiction fun da=>by
   obtain⟨k,hk⟩:=zgN ha da;exact dt k hk
  exact dg (ht.lt z hr)
 have hJ:znX f g (xA R 0) vn i:=by
  rcases hF with hd | ⟨k,dC,hk⟩
  .
   refine⟨?_,⟨z,db,hd⟩,.node (dfsI_mem.2 (.inr ⟨db,hd⟩)) hz⟩;obtain⟨x,hx,du⟩:=dh.dfn z db tO;rw[hd,ztd]at hx;exact⟨x,hx,du⟩
  obtain⟨p,hp,e1,_⟩:=zba hk;obtain⟨v',a,ha,rfl⟩:=hC z p hp;have e1:(v':Int)=(vn:Int):=e1;obtain rfl:v'=vn:=tO;obtain⟨_,h3,h4,h5⟩:=(h.mem v' z).1 (zsS ha);exact⟨h3,h4,.it h5 hz⟩
 exact hY i vn ((h.mem vn i).2 ⟨tO,hJ⟩) da
end Go.Proofs.YtckdhgbepmpgiaaGreat
namespace Go.GL
section
variable {n:Fm} {S:World->Prop} {Z:Szs}
theorem zsN {id:Nat} {l:List Oper} (S:World->Prop) (L:List Nat) (hm:P.follows .mixedOrders=true) (h:VDx P n Q ks l.toArray S L l.length (Array.replicate l.length false) env A H Bs):V P n Q ks (.c (.region id l.toArray true)) env A H Bs :=
 fun hA _ hI=>zpE S L hm (fun w' hC _=>h hA w' (hI.ext hC))
variable {op:Op} {ty:TypeId} {ps:String} {g:Option (Nat × Bool)}
theorem zsO (i:Nat) (hi:ops[i]?=some ⟨some d,op,ty,ps,aft,g⟩) (hc:(Region.noSelect ops&&Region.free .any ops listed i&&(Region.ready .any ops listed).contains i&&L.all (qX .any ops i)&&!L.contains i)=true) (hn:(Nat.blt d n,gd ops env g)=(true,some true)) (hS:∀ w,VI Bs H w->S w) (hr:∀ w,S w->yu P ⟨some d,op,ty,ps,aft,g⟩ env w v w)
  (h:VDx P n Q ks ops S L fuel (listed.setIfInBounds i true) ((d,v)::env) ((d,none)::A) H Bs):VDx P n Q ks ops S L (fuel+1) listed env A H Bs:=by
 simp only[Prod.mk.injEq]at hn;exact fun hA w hI=>zq3 i hi hc O hn.1 (hS w hI) (.inl ⟨xW hn.2,hr⟩) (h hA.none w hI)
theorem zry (i:Nat) (hi:ops[i]?=some ⟨some d,op,ty,ps,aft,g⟩) (hc:ze6 ops [i] listed=true) (hn:(Nat.blt d n,gd ops env g)=(true,some true)) (hr:∀ w,yu P ⟨some d,op,ty,ps,aft,g⟩ env w v w)
  (h:VDx P n Q ks ops S L fuel (listed.setIfInBounds i true) ((d,v)::env) ((d,none)::A) H Bs):VDx P n Q ks ops S L (fuel+1) listed env A H Bs:=by
 simp only[Prod.mk.injEq]at hn;unfold ze6 at hc;rw[ztA]at hc;exact fun hA w hI=>zqu i hi hc.1 O hn.1 (.inl ⟨xW hn.2,fun w' nn a hC=>hr w' nn a hC⟩) (h hA.none w hI)
theorem zrw (i:Nat) {l:List Value} (zs:List Value) (places:List (Nat × Nat)) (vs:List (Nat × Value)) (hi:ops[i]?=some ⟨some d,.build t parts,ty,ps,aft,g⟩) (hc:ze6 ops [i] listed=true) (hn:(Nat.blt d n,gd ops env g,parts.toList.map (fun p=>(p.1,ev env p.2)))=(true,some true,vs.map (fun p=>(p.1,some p.2)))) (_hl:zkg places zs vs=some l) (hb:∀ w,(Instr.build t vs.toArray).run P w=.ok (.agg l.toArray) w)
  (h:VDx P n Q ks ops S L fuel (listed.setIfInBounds i true) ((d,.agg l.toArray)::env) ((d,none)::A) H Bs):VDx P n Q ks ops S L (fuel+1) listed env A H Bs:=by
 simp only[Prod.mk.injEq]at hn;exact zry i hi hc tD (fun _=>R.build vs hn.2.2 hb) h
theorem zrf (i:Nat) (hZ:zq5 P Z) {x:Operand} {H':Hp} (hi:ops[i]?=some ⟨none,.store t x y,ty,ps,aft,g⟩) (hr:Region.ready .any ops listed=[i]) (hn:(gd ops env g,zaC Z env A H t x y,L.contains i)=(some true,some H',true))
  (h:VDx P n Q ks ops S L fuel (listed.setIfInBounds i true) env A H' Bs):VDx P n Q ks ops S L (fuel+1) listed env A H Bs:=by
 simp only[Prod.mk.injEq]at hn;intro hA w hI a ha;obtain⟨h1,h2⟩:=kS (w:=w) (Bs:=Bs) hZ hn.2.1 hA;obtain⟨w',hY,hR⟩:=h2 hI ty ps aft;refine⟨fun h0=>tD,fun k hk=>?_⟩;rw[hr]at hk;have:k=i:=tD;subst this;unfold wpOp;simp only[hi];rw[zt2 (xW hn.1 a ha)];refine .inl ?_;unfold Oper.wp;have hC:(execOp a.eval ⟨none,.store t x y,ty,ps,aft,g⟩).run P w=.ok .skip w':=hY n a ha;rw[hC,Oper.upon_skip];exact⟨fun hc _=>absurd tD hc,h h1 w' hR _ ha.put0⟩
def VTx (P:Program) (n:Fm) (Q:Exit->Act->World->Prop) (ks:List Fr) (ops:Array Oper) (S:World->Prop) (L:List Nat) (fuel:Nat) (listed:Array Bool) (env:Env) (A:Tgs) (H:Hp) (Bs:zn) (i:Nat):Prop :=
 TgOk A env H->∀ w,VI Bs H w->∀ a,Ok n env a->wpOp P ops (NQ (QK P Q ks)) i (fun a' w'=>(i ∉ L->S w->S w')/\ki P .any ops (NQ (QK P Q ks)) S L fuel (listed.setIfInBounds i true) a' w') a w
def VTxs (P:Program) (n:Fm) (Q:Exit->Act->World->Prop) (ks:List Fr) (ops:Array Oper) (S:World->Prop) (L:List Nat) (fuel:Nat) (listed:Array Bool) (env:Env) (A:Tgs) (H:Hp) (Bs:zn):List Nat->Prop
 | []=>True
 | i::r=>VTx P n Q ks ops S L fuel listed env A H Bs i/\VTxs P n Q ks ops S L fuel listed env A H Bs r
theorem VTxs.all:∀ {l:List Nat},VTxs P n Q ks ops S L fuel listed env A H Bs l->∀ i ∈ l,VTx P n Q ks ops S L fuel listed env A H Bs i
 | x::r,h,i,hi=>by
  rcases zt7.1 hi with rfl | hi
  . exact h.1
  exact VTxs.all h.2 i hi
theorem zsr (i:Nat) (r:List Nat) (hr:Region.ready .any ops listed=i::r) (h:VTxs P n Q ks ops S L fuel listed env A H Bs (i::r)):VDx P n Q ks ops S L (fuel+1) listed env A H Bs:=by
 intro hA w hI a ha;exact⟨fun h0=>tD,fun k hk=>h.all k (hr ▸ hk) hA w hI a ha⟩
theorem zrc (hi:ops[i]?=some ⟨some d,op,ty,ps,aft,g⟩) (hn:Nat.blt d n=true) (hg:gd ops env g=some true) {R:World->Value->World->Prop}
  (hm:∀ w,VI Bs H w->Does P ⟨some d,op,ty,ps,aft,g⟩ env w (R w)) (h:TgOk A env H->∀ w,VI Bs H w->∀ v w',R w v w'->S w'/\WD P n ops (QK P Q ks) S L fuel (listed.setIfInBounds i true) ((d,v)::env) w'):VTx P n Q ks ops S L fuel listed env A H Bs i:=by
 intro hA w hI a ha;have hd:=hm w hI;have h:=h hA w hI;unfold wpOp;simp only[hi];rw[zt2 (xW hg a ha)];refine .inl ?_;unfold Oper.wp;rcases hd with⟨v,w',hC,hR⟩ | ⟨f,args,hm,hc⟩
 .
  rw[hC n a ha,Oper.upon_value];exact iX
 rw[hm n a ha,Oper.upon_enter];refine hc.mono ?_;rintro e w' ⟨v,rfl,hR⟩;exact iX
theorem zpz (i k:Nat) {x:Operand} {kl kc:IntKind} {zs:List Value} (hu:P.underlying t=some (.slice e)) (he:(P.info? e).map (fun i=>(i.zero,i.size,i.bytes))=some (some z,kk,by'))
  (hi:ops[i]?=some ⟨some d,.makeSlice t x y,ty,ps,aft,g⟩) (hn:(Nat.blt d n,gd ops env g,(hget H k).isNone,ev env x,ev env y)=(true,some true,true,some (.int kl (m:Int)),some (.int kc (m:Int))))
  (hb:by'*m<=281474976710656) (hm:m<=9223372036854775807) (hz:madeCells z.cells (m*kk)=zs.toArray) (hl:zs.length=m*kk)
  (hS:∀ b w,VI Bs ((k,.row e kk (.slice (some ⟨b,0,none⟩) m m) m zs)::H) w->S w)
  (h:∀ b,VDx P n Q ks ops S L fuel (listed.setIfInBounds i true) ((d,.slice (some ⟨b,0,none⟩) m m)::env) ((d,none)::A) ((k,.row e kk (.slice (some ⟨b,0,none⟩) m m) m zs)::H) Bs):VTx P n Q ks ops S L fuel listed env A H Bs i:=by
 simp only[Prod.mk.injEq,zw1]at hn;obtain⟨h1,h2,h3,h4,h5⟩:=hn;refine zrc hi h1 h2 (fun w hI=>.inl (zpv hu he h4 h5 hb hm hz)) fun hA w hI=>?_;rintro _ w1 ⟨b,rfl,hN⟩;have hC:=hI.row k hm hl hN;exact⟨hS b w1 hC,h b (TgOk.none (hA.new h3)) w1 hC⟩
theorem zqN (i k:Nat) (hi:ops[i]?=some ⟨some d,op,ty,ps,aft,g⟩) (hn:(Nat.blt d n,gd ops env g,(hget H k).isNone)=(true,some true,true))
  (hm:∀ w,VI Bs H w->xd P ⟨some d,op,ty,ps,aft,g⟩ env w (fun r w'=>∃ b,r=.pointer (some ⟨b,0,none⟩)/\New w cs e b w'))
  (hS:∀ b w,VI Bs ((k,.own b cs e)::H) w->S w)
  (h:∀ b,VDx P n Q ks ops S L fuel (listed.setIfInBounds i true) ((d,.pointer (some ⟨b,0,none⟩))::env) ((d,some (k,0))::A) ((k,.own b cs e)::H) Bs):VTx P n Q ks ops S L fuel listed env A H Bs i:=by
 simp only[Prod.mk.injEq,zw1]at hn;refine zrc hi hn.1 hn.2.1 (fun w hI=>.inl (hm w hI)) fun hA w hI=>?_;rintro _ w' ⟨b,rfl,hb,hs,hB,hk⟩;have hC:VI Bs ((k,.own b cs e)::H) w':=hI.new hk k hB trivial (fun _ h=>h) JE;refine⟨hS b w' hC,h b ((hA.new hn.2.2).push (fun k' off hg=>?_)) w' hC⟩;cases hg;exact Jh
theorem zrO (i:Nat) (kk:List Nat) {f:FuncId} {xs:Array Operand} (A1:Tgs) (hf:∀ args w,(callFunc f args).run P w=.ok (.enter f args) w) (hi:ops[i]?=some ⟨some d,.call ⟨.value (.func f),xs,ts⟩,ty,ps,aft,g⟩) (hn:(Nat.blt d n,gd ops env g,qG env xs.toList)=(true,some true,some vs))
  (hY:∀ r x,A1.map (fun p=>zd7 ((d,r)::env) p.1)=A1.map (fun p=>jw (Hn x++yM kk H) p.2)) (da:∀ x,A1.all (fun p=>(jw (Hn x++yM kk H) p.2).isSome)=true)
  (hS:∀ x w,VI Bs (Hn x++yM kk H) w->S w)
  (hc:∀ w,VI Bs H w->Calls P f vs.toArray w (Ret fun r w'=>∃ x,Φ r x/\Hands H kk (Hn x) w w'))
  (h:∀ r x,Φ r x->VDx P n Q ks ops S L fuel (listed.setIfInBounds i true) ((d,r)::env) A1 (Hn x++yM kk H) Bs):VTx P n Q ks ops S L fuel listed env A H Bs i:=by
 simp only[Prod.mk.injEq]at hn;refine zrc hi hn.1 hn.2.1 (fun w hI=>.inr ⟨f,_,F.call hf (yo hn.2.2),hc w hI⟩) fun hA w hI=>?_;rintro r w' ⟨x,hP,hh⟩;have hC:=hI.hands hh;exact⟨hS x w' hC,h r x hP (TgOk.of (hY r x) (da x)) w' hC⟩
end
section
variable {n:Fm}
variable {op:Op} {ty:TypeId} {ps:String} {g:Option (Nat × Bool)}
theorem zrP (i j:Nat) (kk:List Nat) {f:FuncId} {xs:Array Operand} (A1:Tgs) (hf:∀ args w,(callFunc f args).run P w=.ok (.enter f args) w) (hi:ops[i]?=some ⟨some d,.call ⟨.value (.func f),xs,ts⟩,ty,ps,aft,g⟩) (hn:(Nat.blt d n,gd ops env g,qG env xs.toList,xX (Hs.map (·.1)))=(true,some true,some vs,true)) (hB:Bs.drop j=B0)
  (hC:∀ x,Hs.map (fun y=>hget (Hn x++yM kk H) y.1)=Hs.map (fun y=>some y.2))
  (da:∀ r x,A1.map (fun p=>zd7 ((d,r)::env) p.1)=A1.map (fun p=>jw (Hn x++yM kk H) p.2)) (db:∀ x,A1.all (fun p=>(jw (Hn x++yM kk H) p.2).isSome)=true)
  (hc:∀ w,VI Bs H w->Calls P f vs.toArray w (Ret fun r w'=>∃ x,Φ r x/\Hands H kk (Hn x) w w'))
  (h:∀ r x,Φ r x->VD P n Q ks ops Hs B0 L fuel (listed.setIfInBounds i true) ((d,r)::env) A1 (Hn x++yM kk H) Bs):VT P n Q ks ops Hs B0 L fuel listed env A H Bs i:=by
 simp only[Prod.mk.injEq]at hn;subst hB;refine zrb hi hn.1 hn.2.1 (fun w hI=>.inr ⟨f,_,F.call hf (yo hn.2.2.1),hc w hI⟩) fun hH hA w hI=>?_;rintro r w' ⟨x,hP,hh⟩;have hY:=hI.hands hh;exact⟨(hY.drop j).pick (Has.of (hC x)) hn.2.2.2,h r x hP (Has.of (hC x)) (TgOk.of (da r x) (db x)) w' hY⟩
theorem VT.rd (i j:Nat) (hi:ops[i]?=some ⟨some d,op,ty,ps,aft,g⟩) (hn:(Nat.blt d n,gd ops env g,xX (Hs.map (·.1)))=(true,some true,true)) (hB:Bs.drop j=B0) (hr:∀ w,VI Bs H w->yu P ⟨some d,op,ty,ps,aft,g⟩ env w v w)
  (h:VD P n Q ks ops Hs B0 L fuel (listed.setIfInBounds i true) ((d,v)::env) ((d,none)::A) H Bs):VT P n Q ks ops Hs B0 L fuel listed env A H Bs i:=by
 simp only[Prod.mk.injEq]at hn;subst hB;refine zrb hi hn.1 hn.2.1 (R:=fun w u w'=>u=v/\w'=w) (fun w hI=>.inl ⟨v,w,hr w hI,rfl,rfl⟩) fun hH hA w hI=>?_;rintro u w' ⟨rfl,rfl⟩;exact⟨(hI.drop j).pick hH hn.2.2,h hH hA.none _ hI⟩
theorem zrq (i k j:Nat) {len:Nat} (vs:List (Nat × Value)) (hu:∀ w,(underlying t).run P w=.ok (.slice e) w) (hs:∀ w,(sizeOf e).run P w=.ok kk w) (hz:∀ w,(zeroValue e).run P w=.ok z w)
  (hC:len*kk ≠ 0/\len*kk<=16777216) (hi:ops[i]?=some ⟨some d,.buildSlice t len parts,ty,ps,aft,g⟩) (hn:(Nat.blt d n,gd ops env g,(hget H k).isNone,xX (Hs.map (·.1)),parts.toList.map (fun p=>(p.1,ev env p.2)),Bs.drop j)=(true,some true,true,true,vs.map (fun p=>(p.1,some p.2)),B0)) (_hcs:zb2 (vs.map (·.2))=some cs) (hf:Instr.fill (fun i=>some (i*kk,kk)) ((Array.range (len*kk)).map (z.cells[· % z.cells.size]!)) vs=some cs.toArray)
  (h:∀ b,VD P n Q ks ops Hs B0 L fuel (listed.setIfInBounds i true) ((d,.slice (some ⟨b,0,none⟩) len len)::env) ((d,none)::A) ((k,.own b cs e)::H) Bs):VT P n Q ks ops Hs B0 L fuel listed env A H Bs i:=by
 simp only[Prod.mk.injEq,zw1]at hn;obtain⟨h1,h2,h3,h4,h5,h6⟩:=hn;subst h6;refine zrb hi h1 h2 (fun w hI=>.inl (M.buildSlice vs hu hs hz hC h5 hf)) fun hH hA w hI=>?_;rintro _ w' ⟨b,rfl,hb,hs,hB,hk⟩;have hY:VI Bs ((k,.own b cs e)::H) w':=hI.new hk k hB trivial (fun _ h=>h) JE;have da:Has Hs ((k,.own b cs e)::H):=hH.new h3;exact⟨(hY.drop j).pick da h4,h b da (TgOk.none (hA.new h3)) w' hY⟩
end
section
variable {n:Fm} {pos:Pos}
theorem zsP (k m kk:Nat) (hn:hget H k=some (.own b cs t)) (hA:A.all (fun p=>match p.2 with | some (j,_)=>!Nat.beq k j | none=>true)=true) (hl:cs.length=m*kk) (hm:m<=9223372036854775807) (h:V P n Q ks pos env A (hset H k (.row t kk (.slice (some ⟨b,0,none⟩) m m) m cs)) Bs):V P n Q ks pos env A H Bs :=
 V.as (e':=.row t kk (.slice (some ⟨b,0,none⟩) m m) m cs) k hn hA (fun w hB=>by have:=zN (k:=kk) hB (ztg m) hm hl;rwa [<- hl,zsW]at this) trivial (fun _ h=>h) (fun q hq=>(Option.some.inj hq).symm) h
end
theorem RowsOk.snoc {rows:List (List α)} (h:RowsOk enc e w rv rows) (hu:w.ownsRow 0 e 1 u r.length (r.map enc)) (db:∀ g,u.ownBlock=some g->∀ (i:Nat) v,rv[i]?=some v->v.ownBlock ≠ some g):RowsOk enc e w (rv++[u]) (rows++[r]):=by
 have hC:=h.len
 have hY:∀ (i:Nat) (v:Value),(rv++[u])[i]?=some v->(i<rv.length/\rv[i]?=some v)\/(i=rv.length/\v=u):=fun i v hv=>by
  by_cases hi:i<rv.length
  . rw[zth hi]at hv;exact .inl ⟨hi,hv⟩
  have hl:=(zt5.1 hv).1;rw[zsZ,ztc]at hl;obtain rfl:i=rv.length:=tO;rw[zti tO,zvW]at hv;exact .inr ⟨rfl,tD⟩
 refine⟨tD,fun i v r' hv hr=>?_,fun i j vi vj g da hi hj hg=>?_⟩
 .
  rcases hY i v hv with⟨h1,h2⟩ | ⟨rfl,rfl⟩
  .
   rw[zth tO]at hr;exact h.row i v r' h2 hr
  rw[hC,zti tO,zvW]at hr;obtain rfl:r=r':=tD;exact hu
 rcases hY i vi hi with⟨h1,h2⟩ | ⟨rfl,rfl⟩
 .
  rcases hY j vj hj with⟨h3,h4⟩ | ⟨rfl,rfl⟩
  . exact h.apart i j vi vj g da h2 h4 hg
  grind
 grind
theorem RowsOk.none:RowsOk enc e w [] ([]:List (List α)):=⟨rfl,fun i v r h=>tD,fun i j vi vj g _ h=>tD⟩
theorem qk (hq:∃ (i:Nat) (v:Value),(rv++[u])[i]?=some v/\v.ownBlock=some q):(∃ (i:Nat) (v:Value),rv[i]?=some v/\v.ownBlock=some q)\/u.ownBlock=some q:=by
 obtain⟨i,v,h1,h2⟩:=hq;by_cases hi:i<rv.length
 . exact .inl ⟨i,v,by rwa [zth hi]at h1,h2⟩
 have hl:=(zt5.1 h1).1;rw[zsZ,ztc]at hl;obtain rfl:i=rv.length:=tO;rw[zti tO,zvW]at h1;obtain rfl:u=v:=tD;exact .inr h2
theorem qV (hI:VI Bs H w) (k k2:Nat) {rows:List (List α)} (h1:hget H k=some (RowsP enc e rv rows)) (h2:hget H k2=some (.row e 1 u m (r.map enc))) (hm:m=r.length) (hk:k ≠ k2):RowsOk enc e w (rv++[u]) (rows++[r]):=by
 subst hm;exact RowsOk.snoc (hI.at k h1) (hI.at k2 h2) fun g hg i v hv hC=>hI.sep h1 h2 hk (q:=g) ⟨i,v,hv,hC⟩ hg
theorem zaT {α β:Type} {f g:α->List β}:∀ {l:List α},(∀ x ∈ l,f x=g x)->l.flatMap f=l.flatMap g
 | [],_=>rfl
 | x::l,h=>by rw[zur,zur,h x (zsV ..),zaT fun y hy=>h y iu]
end Go.GL
namespace Go.Proofs.YtckdhgbepmpgiaaGreat
open Go.GL Go.GL.Dom
theorem yS {l:List Int} (k:Nat) (hC:l.length<=1048576) (hl:SlR 1 zG D w v l):Calls prog 101 #[v] w (Ret fun r w'=>∃ y:Option Addr × Nat,r=.slice y.1 l.length y.2/\Hands H [] [(k,.row 3 1 (.slice y.1 l.length y.2) l.length (l.map zb))] w w'):=by
 refine(zf3 l v D w hl hC).mono ?_;rintro _ w' ⟨r,rfl,h1,h2,hk⟩;have e:l.flatMap zdl=l.map zb:=by rw[List.map_eq_flatMap];rfl
 rw[e]at h1;obtain⟨ao,co,rfl⟩:=yb h1;refine⟨_,rfl,(ao,co),rfl,hk.mono fun q _ h=>h.elim,fun x hx=>?_,zvk _ _⟩;rw[zt9]at hx;subst hx;exact UZ
def phC (hfs has:List Value) (p:Phn × Nat):List Value:=[.int .i64 p.1.var,.int .i64 p.1.ver,hfs[p.2]?.getD undef,has[p.2]?.getD undef]
theorem znb (h1:p.2<hC.length) (h2:p.2<has.length) (u a:Value):phC (hC++[u]) (has++[a]) p=phC hC has p:=by
 unfold phC;rw[zth h1,zth h2]
structure PlS (g:List Nd) (nv:Nat) (E:List (Nat × Nat)) (ofl:List Int) (ndc hps:List Value) (pcs:List (List Value)) (hfs:List Value) (frs:List (List Int)) (has:List Value) (als:List (List Int)):Prop where
 of:ofl=ofE nv E
 hl:hps.length=g.length
 cl:pcs.length=g.length
 nl:g.length*3<=ndc.length
 n0:∀ j,j<g.length->ndc[j*3]?=hps[j]?
 n1:∀ j,j<g.length->ndc[j*3+1]?=some (.slice none 0 0)
 n2:∀ j,j<g.length->ndc[j*3+2]?=some (.int .i64 (-1))
 pc:∀ j,j<g.length->pcs[j]?=some ((pwE nv g E j).flatMap (phC hfs has))
 fl:hfs.length=E.length
 fr:frs=E.map fun e=>zg g e.2
 al:has.length=E.length
 as_:als=E.map fun e=>List.replicate (zw g e.2).length 0
theorem PlS.snoc (h:PlS g nv E ofl ndc da pcs hC frs has als) {v:Nat} (hi:i<g.length) (x u a:Value) :
  PlS g nv (E++[(v,i)]) (ofl++[(v:Int)]) (ndc.set (i*3) x) (da.set i x) (pcs.set i ((pwE nv g E i).flatMap (phC hC has)++[.int .i64 (v:Int),.int .i64 (ofl.length:Nat),u,a])) (hC++[u]) (frs++[zg g i]) (has++[a]) (als++[List.replicate (zg g i).length 0]):=by
 have db:=h.nl;have dc:=h.hl;have dg:=h.cl
 have hY:∀ j,(pwE nv g E j).flatMap (phC (hC++[u]) (has++[a]))=(pwE nv g E j).flatMap (phC hC has):=fun j=>by
  refine zaT fun p hp=>?_;obtain⟨v',a',ha,rfl⟩:=mem_pwE.1 hp;have:=(zt5.1 ha).1;exact znb (show a'<_ by rw[h.fl];exact this) (show a'<_ by rw[h.al];exact this) u a
 refine⟨by rw[h.of,zlO],tD,tD,tD,fun j hj=>?_,fun j hj=>?_,fun j hj=>?_,fun j hj=>?_,by rw[zsZ,zsZ,h.fl];rfl,by rw[h.fr,zuT];rfl,by rw[zsZ,zsZ,h.al];rfl,by rw[h.as_,zuT];unfold zg;rw[ztb];rfl⟩
 .
  by_cases e:j=i
  .
   subst e;rw[zuH tO,zuH tO]
  rw[zuG tO,zuG (fun e'=>e e'.symm)];exact h.n0 j hj
 . rw[zuG tO];exact h.n1 j hj
 . rw[zuG tO];exact h.n2 j hj
 rw[zgQ,zuq,hY];by_cases e:j=i
 .
  subst e;rw[zt2 rfl,zuH tO];congr 2;show _=phC _ _ _++[];unfold phC;dsimp only;rw[zu1,zti (by rw[h.fl];exact ztg _),zti (by rw[h.al];exact ztg _),h.fl,h.al,zvW,h.of,zaA];rfl
 rw[zt1 (fun e'=>e e'.symm),zuG (fun e'=>e e'.symm),List.flatMap_nil,zu1];exact h.pc j hj
abbrev zjY (b gb bn cn nl:Nat) (ofv chv cuv:Value) (ofl:List Int) (ndc hps:List Value) (pcs:List (List Value)) (hfs:List Value) (frs:List (List Int)) (has:List Value) (als:List (List Int)):Hp :=
 [(900,.own b (rnm gb ofv (.slice (some ⟨bn,0,none⟩) nl cn) chv cuv) 123),(901,.row 3 1 ofv ofl.length (ofl.map zb)),(904,NodP bn ndc 59),(905,RowsCP 4 88 hps pcs),(906,RowsP zb 3 hfs frs),(909,RowsP zb 3 has als)]
theorem znc {v:Nat} (hC:yk g.length es 0=0) (h0:0<g.length):ju g.length es 0 (zao f g g.length v)=0:=by
 unfold ju;rw[zt1 tO,zt2];rw[ztX];intro x hx;rw[decide_eq_true_iff]
 obtain⟨z,rfl⟩:∃ z:Nat,x=(z:Int):=by
  unfold zao at hx;rcases zt7.1 hx with rfl | hx
  . exact⟨0,rfl⟩
  obtain⟨z,_,rfl⟩:=zv6.1 hx;exact⟨z,rfl⟩
 rcases dfsI_mem.1 hx with rfl | ⟨h1,_⟩
 . omega
 omega
theorem znd {L:List Int} {n:Nat} (h:L.Pairwise (·<·)) (hm:∀ y ∈ L,0<=y/\y<(n:Int)):L.length<=n:=by
 have h1:(L.map Int.toNat).Pairwise (·<·):=by
  rw[zvj];refine h.imp_of_mem fun {a b} ha hb hC=>?_;have:=hm a ha;have:=hm b hb;omega
 have h2:=Dfs.nodup_le n _ (h1.imp fun h=>Nat.ne_of_lt h) (fun x hx=>by
  grind)
 rwa [ztb]at h2
theorem zjZ (nv:Nat) (g:List Nd) (E:List (Nat × Nat)) (i:Nat):(pwE nv g E i).length<=E.length:=by
 unfold pwE;refine zsX (List.length_filterMap_le _ _) ?_;rw[List.length_zipIdx];exact ztg _
def kE (v:Nat):Nat:=v*1000
theorem zk0 (v:Nat):kE (v+1)=kE v+1000:=by unfold kE;omega
theorem zoq {v:Nat} (h:v<=1000):kE v<=1000000:=by unfold kE;omega
theorem zlR (f:Fl) (g:List Nd) (i v:Nat):0<(zao f g i v).length:=by unfold zao;rw[ztk];omega
theorem zlS (n root:Int) (es:List (Int × Int)) (nodes:List Int) (ev nv:Value) (D D':Nat->Prop) (w:World) (hC:SlR 2 xq D w ev es) (hnv:SlR 1 zG D' w nv nodes) (hY:n<=1000) (da:nodes.length<=1000) (db:ju n es root nodes=0):Calls prog 100 #[.agg #[.int .i64 n,ev],.int .i64 root,nv] w (Ret fun v w'=>(∃ u,v=.tuple #[u,.int .i64 0]/\∃ Rw order pl T L,Known n.toNat root.toNat es Rw order pl T/\L.Pairwise (·<·)/\(∀ y:Int,y ∈ L ↔ ∃ b:Nat,y=(b:Int)/\ItS (xA Rw root.toNat) nodes b)/\SlR 1 zG (fun b=>w.heap.size<=b) w' u L)/\Ext w w'):=by
 refine(zfR n root es nodes ev nv D D' w hC hnv hY da).mono ?_;rintro e w' ⟨v,rfl,u,rfl,_,h,hk⟩;exact⟨_,rfl,⟨u,tD,h db⟩,hk⟩
theorem zfX (ht:TreeG g Rw order pl T) (dZ:Known g.length 0 es Rw order pl T) (dl:yk g.length es 0=0) (d5:∀ a b:Nat,((a:Int),(b:Int)) ∈ es->a<g.length) (hk:GOk f g) (_:DefOk f g) (dR:zw g 0=[]) (d6:0<g.length) (eF:g.length<=999) (eG:f.vars.length<=1000) (ev:Value) (b gb bn cn:Nat) (ofv chv cuv:Value) (D:Nat->Prop) (W:World) (dS:SlR 2 xq D W ev es) (hG:GrO D W f g gb)
 {dg:List Value} (d7:PlS g f.vars.length [] ofl ndc dg pcs [] [] [] []) (hE:Held (zjY b gb bn cn g.length ofv chv cuv ofl ndc dg pcs [] [] [] []) W) (hC:∀ q,HS (zjY b gb bn cn g.length ofv chv cuv ofl ndc dg pcs [] [] [] []) q->¬ D q) :
  Calls prog 54 #[.pointer (some ⟨b,0,none⟩),.agg #[.int .i64 g.length,ev]] W (Ret fun r w'=>∃ y:List (Nat × Nat) × Value × List Int × List Value × List Value × List (List Value) × List Value × List (List Int) × List Value × List (List Int),(r=.int .i64 0/\PlcV f g (xA Rw 0) f.vars.length y.1/\PlS g f.vars.length y.1 y.2.2.1 y.2.2.2.1 y.2.2.2.2.1 y.2.2.2.2.2.1 y.2.2.2.2.2.2.1 y.2.2.2.2.2.2.2.1 y.2.2.2.2.2.2.2.2.1 y.2.2.2.2.2.2.2.2.2/\y.1.length<=kE f.vars.length)/\GBack (zjY b gb bn cn g.length ofv chv cuv ofl ndc dg pcs [] [] [] []) (zjY b gb bn cn g.length y.2.1 chv cuv y.2.2.1 y.2.2.2.1 y.2.2.2.2.1 y.2.2.2.2.2.1 y.2.2.2.2.2.2.1 y.2.2.2.2.2.2.2.1 y.2.2.2.2.2.2.2.2.1 y.2.2.2.2.2.2.2.2.2) W w'):=by
 obtain⟨v1,v2,v3,gv,sv,pv,dA,dB,hf,dT,_,dU⟩:=id hG;have dC:=hf.vars;obtain⟨avs,cvs,rfl⟩:=dC.form;have eH:=dC.max;obtain⟨ag,cg,rfl⟩:=dT.form;have eI:=dT.max;obtain⟨apr,cpr,rfl⟩:=dU.form;have d8:(zeG g).length=g.length:=by unfold zeG;rw[ztb,zuQ]
 obtain⟨aev,cev,rfl⟩:=dS.form
 have dD:∀ i,(zg g i).length<=999:=fun i=>by
  unfold zg zw
  grind
 refine zqr func54 O ntmps54 O (zrL [(900,.own b [.pointer (some ⟨gb,0,none⟩),ofv,.slice (some ⟨bn,0,none⟩) g.length cn,chv,cuv] 123),(901,.row 3 1 ofv ofl.length (ofl.map zb)),(904,NodP bn ndc 59),(905,RowsCP 4 88 dg pcs),(906,RowsP zb 3 [] ([]:List (List Int))),(909,RowsP zb 3 [] ([]:List (List Int)))] hE.1 hE.2 (zqO 0 900 0 O O (zrg 960 0 O O (fun h=>hC _ h dA) dB (Vs 2 O (V.box 3 O O (fun b3=>?_))))));refine Vs 10 O (zqO 17 960 0 O O (Vs 9 O (zrl (σ:=Nat × List (Nat × Nat) × Value × List Int × List Value × List Value × List (List Value) × List Value × List (List Int) × List Value × List (List Int)) [0,3,21,22] [3,960] [0,3] O (fun e ⟨v,E,ov,ol,nd,hp,pc,da,fr,ha,al⟩=>(4,.int .i64 0)::(23,.int .i64 v)::e) (fun e ⟨v,E,ov,ol,nd,hp,pc,da,fr,ha,al⟩=>(900,.own b [.pointer (some ⟨gb,0,none⟩),ov,.slice (some ⟨bn,0,none⟩) g.length cn,chv,cuv] 123)::(901,.row 3 1 ov ol.length (ol.map zb))::(904,NodP bn nd 59)::(905,RowsCP 4 88 hp pc)::(906,RowsP zb 3 da fr)::(909,RowsP zb 3 ha al)::e) (fun⟨v,E,ov,ol,nd,hp,pc,da,fr,ha,al⟩=>v<=f.vars.length/\PlcV f g (xA Rw 0) v E/\PlS g f.vars.length E ol nd hp pc da fr ha al/\E.length<=kE v) (fun⟨v,E,ov,ol,nd,hp,pc,da,fr,ha,al⟩=>f.vars.length - v) (0,[],ofv,ofl,ndc,dg,pcs,[],[],[],[]) j2 j3 j1 j1 j1 ⟨zt6 _,PlcV.start _ _ _,d7,zt6 _⟩ ?_)));rintro⟨v,E,ov,ol,nd,hp,pc,da,fr,ha,al⟩ ⟨hv,dy,dc,d9⟩;have eJ:=zoq (v:=v) tO;have dV:E.length<=kE (v+1):=by rw[zk0];omega
 refine Vs 6 O (zoE O (fun lv=>?_) (fun lv=>?_))
 .
  refine Vs 7 O (zrh 1000 0 v tO dC O O O (fun b_ d_ h_=>by have dE:=hC _ h_;first | omega | exact dE d_) (fun x eK eL eM dF eb dG ec dH=>?_));obtain rfl:=dH;refine zqQ 1000 tR22 ts142 O dG tO _ rfl O (Vs 1 O (V.alloc 6 tz142 O O (fun b6=>?_)));refine Vs 12 O (zoE O (fun kd=>?_) (fun kd=>?_))
  .
   have dI:∀ i,¬ znX f g (xA Rw 0) v i:=by
    rintro i ⟨⟨x',eN,eO⟩,_⟩
    grind
   refine Va 8 O tO (V.back ⟨v+1,E,ov,ol,nd,hp,pc,da,fr,ha,al⟩ j2 j3 ⟨tO,dy.skip dI,dc,dV⟩ tD 0 O O)
  have dJ:zop f v:=⟨x,dF,tO⟩;refine Vs 4 O (zro 31 [(0,_)] tR27 ts3 tz3 tS O O tK (fun b31=>?_));refine Vs 10 O (zqO 35 960 0 O O (Vs 8 O (zsP 31 1 1 O O O tS (zrk 31 O (e':=.row 3 1 (.slice (some ⟨b31,0,none⟩) 1 1) (zao f g 0 v).length ((zao f g 0 v).map zb)) rfl (zrl (σ:=Nat × Value) [0,3,4,5,21,22,23,39] [3,900,901,904,905,906,909,960] [0,3] O (fun e ⟨j,u⟩=>(40,.int .i64 j)::(7,u)::e) (fun e ⟨j,u⟩=>(31,.row 3 1 u (zao f g j v).length ((zao f g j v).map zb))::e) (fun⟨j,u⟩=>j<=g.length) (fun⟨j,u⟩=>g.length - j) (0,.slice (some ⟨b31,0,none⟩) 1 1) j2 j3 j1 j1 j1 (zt6 _) ?_)))));rintro⟨j,u⟩ hj;have eP:=zlP f g j v;refine Vs 6 O (zoE O (fun lj=>?_) (fun lj=>?_))
  .
   refine Vs 16 O (zqO 46 960 0 O O (Vs 1 O (zr2 call79 O (fun w hI=>jo f g hk j tO gb D w (hG.keep hI.k0 fun q hd _ h=>hC q h hd)) (Vs 4 O (zoE O (fun de=>?_) (fun de=>?_))))))
   .
    refine Vs 3 O (zro 53 [(0,_)] tR27 ts3 tz3 tS O O tK (fun b53=>?_));refine zqV 31 53 tu27 Tryz.el3 O tS O O tO tO (fun u31=>(Va 8 O tO (zrk 31 O (e':=.row 3 1 u31 (zao f g (j+1) v).length ((zao f g (j+1) v).map zb)) (by rw[zfb,zt2 de,zsZ,zuT];rfl) (V.back ⟨j+1,u31⟩ j2 j3 tO tD 0 O O))))
   refine zrk 31 O (e':=.row 3 1 u (zao f g (j+1) v).length ((zao f g (j+1) v).map zb)) (by rw[zfb,zt1 de,zu1]) (Va 7 O tO (V.back ⟨j+1,u⟩ j2 j3 tO tD 0 O O))
  obtain rfl:j=g.length:=tO;refine zqX 31 O (zlR f g g.length v) ?_;rintro bd cd rfl dz;refine Vs 13 O (zoE O (fun l1=>?_) (fun l1=>?_))
  .
   have dI:∀ i,¬ znX f g (xA Rw 0) v i:=by
    rintro i ⟨_,⟨z,hz,e⟩,_⟩;exact zlQ tO z hz e
   refine Va 8 O tO (V.back ⟨v+1,E,ov,ol,nd,hp,pc,da,fr,ha,al⟩ j2 j3 ⟨tO,dy.skip dI,dc,dV⟩ tD 0 O O)
  have ed:=zjV (f:=f) (g:=g) (i:=g.length) (v:=v) tO;have ee:=znc (f:=f) (v:=v) dl d6;refine Vs 6 O (zr4 call100 O (fun w hI=>zlS g.length 0 es (zao f g g.length v) _ _ D (fun _=>True) w (dS.keep qC hI.k0 fun q hd _ h=>hC q h hd) (zpK zb iA (hI.at 31 O) (fun _ _=>trivial)) tO tO ee) ?_);rintro r w1 w2 eQ ef ⟨u2,rfl,Rw',o',pl',T',L,dm,dW,eh,hL⟩ dr;rw[ztd]at dm;have dX:=zfW dZ dm d5
  have dh:∀ y:Int,y ∈ L ↔ ∃ z:Nat,y=(z:Int)/\ItS (xA Rw 0) (zao f g g.length v) z:=fun y=>by
   rw[eh];exact⟨fun⟨z,e,h⟩=>⟨z,e,zfa (fun a c=>(dX a c).symm) h⟩,fun⟨z,e,h⟩=>⟨z,e,zfa dX h⟩⟩
  have eR:=znd (n:=g.length) dW fun y hy=>by
   obtain⟨z,rfl,hz⟩:=(dh y).1 hy;have:=(zgS ht dR hz).1;omega
  obtain⟨aL,cL,rfl⟩:=hL.form;have ei:=hL.max;refine Vs 14 O (zoE O (fun c0=>?_) (fun c0=>?_))
  . omega
  refine Vs 10 O (zrl (σ:=Nat × Value × List Int × List Value × List Value × List (List Value) × List Value × List (List Int) × List Value × List (List Int)) [0,3,4,5,21,22,23,68,69] [3,960] [0,3] O (fun e ⟨k,ov,ol,nd,hp,pc,da,fr,ha,al⟩=>(70,.int .i64 k)::e) (fun e ⟨k,ov,ol,nd,hp,pc,da,fr,ha,al⟩=>(900,.own b [.pointer (some ⟨gb,0,none⟩),ov,.slice (some ⟨bn,0,none⟩) g.length cn,chv,cuv] 123)::(901,.row 3 1 ov ol.length (ol.map zb))::(904,NodP bn nd 59)::(905,RowsCP 4 88 hp pc)::(906,RowsP zb 3 da fr)::(909,RowsP zb 3 ha al)::e) (fun⟨k,ov,ol,nd,hp,pc,da,fr,ha,al⟩=>k<=L.length/\PlS g f.vars.length (zgR E v (L.take k)) ol nd hp pc da fr ha al) (fun⟨k,ov,ol,nd,hp,pc,da,fr,ha,al⟩=>L.length - k) (0,ov,ol,nd,hp,pc,da,fr,ha,al) j2 j3 j1 j1 j1 ⟨zt6 _,by rw[zvE];show PlS g _ (E++[]) ol nd hp pc da fr ha al;rw[zu1];exact dc⟩ ?_);rintro⟨k,ov,ol,nd,hp,pc,da,fr,ha,al⟩ ⟨eS,db⟩;refine Vs 6 O (zoE O (fun lk=>?_) (fun lk=>?_))
  .
   refine Vs 6 O (zrh 2000 0 k tO hL O O O (fun b_ d_ h_=>by have dE:=dr _ h_;first | omega | exact dE d_) (fun y eT eU eV dK dL dM ej dN=>?_));obtain rfl:=dN;refine zqQ 2000 tR27 ts3 O dM tO _ rfl O ?_;obtain⟨i,rfl,hJ⟩:=(dh y).1 dL;have hi:=(zgS ht dR hJ).1;have eW:=dD i
   have ek:(zgR E v (L.take k)).length<=1001000:=by
    unfold zgR
    grind
   have em:ol.length<=1003000:=by
    rw[db.of,zaA];omega
   have er:=db.nl;have ew:=db.hl;have ez:=db.cl;obtain⟨eX,eY,eZ,dt,du,dw,dO⟩:=dU.atD (zdA hi);obtain⟨vr,rfl,hY⟩:=dO;obtain⟨ar,nr,rfl⟩:=hY.form;refine Vs 5 O (zrm (σ:=Value × (Option Addr × Nat) × Nat × Nat) [0,3,4,5,12,21,22,23,68,69,70] [3,904,905,906,909,960] [0,3] O (fun e ⟨ov2,cu2,ba,bp⟩=>(13,.pointer (some ⟨bp,0,none⟩))::e) (fun e ⟨ov2,cu2,ba,bp⟩=>(900,.own b [.pointer (some ⟨gb,0,none⟩),ov2,.slice (some ⟨bn,0,none⟩) g.length cn,chv,cuv] 123)::(901,.row 3 1 ov2 (ol++[(v:Int)]).length ((ol++[(v:Int)]).map zb))::(13,.own bp [.int .i64 v,.int .i64 (ol.length:Nat),.slice cu2.1 (zg g i).length cu2.2,.slice (some ⟨ba,0,none⟩) (zg g i).length (zg g i).length] 88)::(961,.row 3 1 (.slice cu2.1 (zg g i).length cu2.2) (zg g i).length ((zg g i).map zb))::(100,.row 3 1 (.slice (some ⟨ba,0,none⟩) (zg g i).length (zg g i).length) (zg g i).length (List.replicate (zg g i).length (.int .i64 0)))::e) (fun⟨ov2,cu2,ba,bp⟩=>True) j1 j1 ?_ ?_)
   .
    refine zsN (fun w=>Keep (HS (zjY b gb bn cn g.length ofv chv cuv ofl ndc dg pcs [] [] [] [])) W w/\w.cell? ⟨b,0,none⟩=some (.pointer (some ⟨gb,0,none⟩))) [29] O (Vx [0,1,2,4,5,6,11,15,16,17,22] tK O (zsO 7 O tK O (fun w hI=>⟨hI.k1,zsI (j:=0) (show Blk w b _ _ from hI.at 900 O) O rfl⟩) (fun w hS=>R.load isAgg94 O (v:=.pointer (some ⟨gb,0,none⟩)) hS.2) (Vx [8,9] tK O (zsO 10 O tK O (fun w hI=>⟨hI.k1,zsI (j:=0) (show Blk w b _ _ from hI.at 900 O) O rfl⟩) (fun w hS=>R.load tg89 O (v:=.slice apr (zeG g).length cpr) (hS.1.cells dB (fun h=>hC _ h dA) 5 _ O)) ?_))));refine zry 12 O tK O (fun w=>zph tR89 ts27 O O dt ⟨tO,tO⟩) (zsO 13 O tK O (fun w hI=>⟨hI.k1,zsI (j:=0) (show Blk w b _ _ from hI.at 900 O) O rfl⟩) (fun w hS=>R.load tg27 O (v:=.slice ar (zg g i).length nr) J5) (zsO 18 O tK O (fun w hI=>⟨hI.k1,zsI (j:=0) (show Blk w b _ _ from hI.at 900 O) O rfl⟩) (fun w hS=>R.load isAgg94 O (v:=.pointer (some ⟨gb,0,none⟩)) hS.2) ?_));refine Vx [19,20] tK O (zsO 21 O tK O (fun w hI=>⟨hI.k1,zsI (j:=0) (show Blk w b _ _ from hI.at 900 O) O rfl⟩) (fun w hS=>R.load tg89 O (v:=.slice apr (zeG g).length cpr) (hS.1.cells dB (fun h=>hC _ h dA) 5 _ O)) (zry 23 O tK O (fun w=>zph tR89 ts27 O O dt ⟨tO,tO⟩) (zsO 24 O tK O (fun w hI=>⟨hI.k1,zsI (j:=0) (show Blk w b _ _ from hI.at 900 O) O rfl⟩) (fun w hS=>R.load tg27 O (v:=.slice ar (zg g i).length nr) J5) ?_)));refine Vx [25] tK O (zsr 3 [26,28] tK ⟨zrO 3 [900,901] (Hn:=fun y:Value=>[(900,.own b [.pointer (some ⟨gb,0,none⟩),y,.slice (some ⟨bn,0,none⟩) g.length cn,chv,cuv] 123),(901,.row 3 1 y (ol++[(v:Int)]).length ((ol++[(v:Int)]).map zb))]) [(0,some (900,0)),(3,some (3,0)),(72,some (2000,0)),(75,some (900,0)),(78,some (900,0)),(79,some (900,0)),(80,some (900,0)),(89,some (900,0)),(90,some (900,0)),(91,some (900,0))] tc53 O O iA j1 (fun y_ w hI=>⟨hI.k1,zsI (j:=0) (show Blk w b _ _ from hI.at 900 O) O rfl⟩) il ?_,zpz 26 100 tu27 Tryz.el3 O O tO tO (zs:=List.replicate (zg g i).length (.int .i64 0)) JU tR (fun b_ w hI=>⟨hI.k1,zsI (j:=0) (show Blk w b _ _ from hI.at 900 O) O rfl⟩) (fun b100=>?_),zqN 28 13 O O (fun _ _=>M.alloc tz88 O) (fun b_ w hI=>⟨hI.k1,zsI (j:=0) (show Blk w b _ _ from hI.at 900 O) O rfl⟩) (fun b13=>?_),True.intro⟩)
    .
     rintro _ ov2 rfl;refine zsr 14 [26,28] tK ⟨zrO 14 [] (Hn:=fun y:Option Addr × Nat=>[(961,.row 3 1 (.slice y.1 (zg g i).length y.2) (zg g i).length ((zg g i).map zb))]) [(0,some (900,0)),(3,some (3,0)),(72,some (2000,0)),(75,some (900,0)),(78,some (900,0)),(79,some (900,0)),(80,some (900,0)),(89,some (900,0)),(90,some (900,0)),(91,some (900,0))] tc101 O O iA j1 (fun y_ w hI=>⟨hI.k1,zsI (j:=0) (show Blk w b _ _ from hI.at 900 O) O rfl⟩) iB ?_,zpz 26 100 tu27 Tryz.el3 O O tO tO (zs:=List.replicate (zg g i).length (.int .i64 0)) JU tR (fun b_ w hI=>⟨hI.k1,zsI (j:=0) (show Blk w b _ _ from hI.at 900 O) O rfl⟩) (fun b100=>?_),zqN 28 13 O O (fun _ _=>M.alloc tz88 O) (fun b_ w hI=>⟨hI.k1,zsI (j:=0) (show Blk w b _ _ from hI.at 900 O) O rfl⟩) (fun b13=>?_),True.intro⟩
     .
      rintro _ ⟨au,cu⟩ rfl;refine zsr 26 [28] tK ⟨zpz 26 100 tu27 Tryz.el3 O O tO tO (zs:=List.replicate (zg g i).length (.int .i64 0)) JU tR (fun b_ w hI=>⟨hI.k1,zsI (j:=0) (show Blk w b _ _ from hI.at 900 O) O rfl⟩) (fun b100=>?_),zqN 28 13 O O (fun _ _=>M.alloc tz88 O) (fun b_ w hI=>⟨hI.k1,zsI (j:=0) (show Blk w b _ _ from hI.at 900 O) O rfl⟩) (fun b13=>?_),True.intro⟩
      .
       refine zrw 27 [Value.int IntKind.i64 0,Value.int IntKind.i64 0,Value.slice none 0 0,Value.slice none 0 0] [(0,1),(1,1),(2,1),(3,1)] [(0,_),(1,_),(2,_),(3,_)] O tK O O (fun _=>tK) (zsr 28 [] tK ⟨zqN 28 13 O O (fun _ _=>M.alloc tz88 O) (fun b_ w hI=>⟨hI.k1,zsI (j:=0) (show Blk w b _ _ from hI.at 900 O) O rfl⟩) (fun b13=>?_),True.intro⟩)
       . refine zrf 29 Tryz.szsOk O tK O YK
      refine zsr 26 [] tK ⟨zpz 26 100 tu27 Tryz.el3 O O tO tO (zs:=List.replicate (zg g i).length (.int .i64 0)) JU tR (fun b_ w hI=>⟨hI.k1,zsI (j:=0) (show Blk w b _ _ from hI.at 900 O) O rfl⟩) (fun b100=>?_),True.intro⟩
      . refine zrw 27 [Value.int IntKind.i64 0,Value.int IntKind.i64 0,Value.slice none 0 0,Value.slice none 0 0] [(0,1),(1,1),(2,1),(3,1)] [(0,_),(1,_),(2,_),(3,_)] O tK O O (fun _=>tK) Ue
     .
      refine zsr 14 [28] tK ⟨zrO 14 [] (Hn:=fun y:Option Addr × Nat=>[(961,.row 3 1 (.slice y.1 (zg g i).length y.2) (zg g i).length ((zg g i).map zb))]) [(0,some (900,0)),(3,some (3,0)),(72,some (2000,0)),(75,some (900,0)),(78,some (900,0)),(79,some (900,0)),(80,some (900,0)),(89,some (900,0)),(90,some (900,0)),(91,some (900,0))] tc101 O O iA j1 (fun y_ w hI=>⟨hI.k1,zsI (j:=0) (show Blk w b _ _ from hI.at 900 O) O rfl⟩) iB ?_,zqN 28 13 O O (fun _ _=>M.alloc tz88 O) (fun b_ w hI=>⟨hI.k1,zsI (j:=0) (show Blk w b _ _ from hI.at 900 O) O rfl⟩) (fun b13=>?_),True.intro⟩
      .
       rintro _ ⟨au,cu⟩ rfl;refine zrw 27 [Value.int IntKind.i64 0,Value.int IntKind.i64 0,Value.slice none 0 0,Value.slice none 0 0] [(0,1),(1,1),(2,1),(3,1)] [(0,_),(1,_),(2,_),(3,_)] O tK O O (fun _=>tK) (zsr 28 [] tK ⟨zqN 28 13 O O (fun _ _=>M.alloc tz88 O) (fun b_ w hI=>⟨hI.k1,zsI (j:=0) (show Blk w b _ _ from hI.at 900 O) O rfl⟩) (fun b13=>?_),True.intro⟩)
       . refine zrf 29 Tryz.szsOk O tK O YK
      refine zsr 14 [] tK ⟨zrO 14 [] (Hn:=fun y:Option Addr × Nat=>[(961,.row 3 1 (.slice y.1 (zg g i).length y.2) (zg g i).length ((zg g i).map zb))]) [(0,some (900,0)),(3,some (3,0)),(13,some (13,0)),(72,some (2000,0)),(75,some (900,0)),(78,some (900,0)),(79,some (900,0)),(80,some (900,0)),(89,some (900,0)),(90,some (900,0)),(91,some (900,0))] tc101 O O iA j1 (fun y_ w hI=>⟨hI.k1,zsI (j:=0) (show Blk w b _ _ from hI.at 900 O) O rfl⟩) iB ?_,True.intro⟩
      .
       rintro _ ⟨au,cu⟩ rfl;refine zrw 27 [Value.int IntKind.i64 0,Value.int IntKind.i64 0,Value.slice none 0 0,Value.slice none 0 0] [(0,1),(1,1),(2,1),(3,1)] [(0,_),(1,_),(2,_),(3,_)] O tK O O (fun _=>tK) Ue
     refine zsr 14 [26] tK ⟨zrO 14 [] (Hn:=fun y:Option Addr × Nat=>[(961,.row 3 1 (.slice y.1 (zg g i).length y.2) (zg g i).length ((zg g i).map zb))]) [(0,some (900,0)),(3,some (3,0)),(13,some (13,0)),(72,some (2000,0)),(75,some (900,0)),(78,some (900,0)),(79,some (900,0)),(80,some (900,0)),(89,some (900,0)),(90,some (900,0)),(91,some (900,0))] tc101 O O iA j1 (fun y_ w hI=>⟨hI.k1,zsI (j:=0) (show Blk w b _ _ from hI.at 900 O) O rfl⟩) iB ?_,zpz 26 100 tu27 Tryz.el3 O O tO tO (zs:=List.replicate (zg g i).length (.int .i64 0)) JU tR (fun b_ w hI=>⟨hI.k1,zsI (j:=0) (show Blk w b _ _ from hI.at 900 O) O rfl⟩) (fun b100=>?_),True.intro⟩
     .
      rintro _ ⟨au,cu⟩ rfl;refine zsr 26 [] tK ⟨zpz 26 100 tu27 Tryz.el3 O O tO tO (zs:=List.replicate (zg g i).length (.int .i64 0)) JU tR (fun b_ w hI=>⟨hI.k1,zsI (j:=0) (show Blk w b _ _ from hI.at 900 O) O rfl⟩) (fun b100=>?_),True.intro⟩
      . refine zrw 27 [Value.int IntKind.i64 0,Value.int IntKind.i64 0,Value.slice none 0 0,Value.slice none 0 0] [(0,1),(1,1),(2,1),(3,1)] [(0,_),(1,_),(2,_),(3,_)] O tK O O (fun _=>tK) Ue
     refine zsr 14 [] tK ⟨zrO 14 [] (Hn:=fun y:Option Addr × Nat=>[(961,.row 3 1 (.slice y.1 (zg g i).length y.2) (zg g i).length ((zg g i).map zb))]) [(0,some (900,0)),(3,some (3,0)),(13,some (13,0)),(72,some (2000,0)),(75,some (900,0)),(78,some (900,0)),(79,some (900,0)),(80,some (900,0)),(89,some (900,0)),(90,some (900,0)),(91,some (900,0))] tc101 O O iA j1 (fun y_ w hI=>⟨hI.k1,zsI (j:=0) (show Blk w b _ _ from hI.at 900 O) O rfl⟩) iB ?_,True.intro⟩
     .
      rintro _ ⟨au,cu⟩ rfl;refine zrw 27 [Value.int IntKind.i64 0,Value.int IntKind.i64 0,Value.slice none 0 0,Value.slice none 0 0] [(0,1),(1,1),(2,1),(3,1)] [(0,_),(1,_),(2,_),(3,_)] O tK O O (fun _=>tK) Ue
    .
     refine zsr 3 [28] tK ⟨zrO 3 [900,901] (Hn:=fun y:Value=>[(900,.own b [.pointer (some ⟨gb,0,none⟩),y,.slice (some ⟨bn,0,none⟩) g.length cn,chv,cuv] 123),(901,.row 3 1 y (ol++[(v:Int)]).length ((ol++[(v:Int)]).map zb))]) [(0,some (900,0)),(3,some (3,0)),(72,some (2000,0)),(75,some (900,0)),(78,some (900,0)),(79,some (900,0)),(80,some (900,0)),(89,some (900,0)),(90,some (900,0)),(91,some (900,0))] tc53 O O iA j1 (fun y_ w hI=>⟨hI.k1,zsI (j:=0) (show Blk w b _ _ from hI.at 900 O) O rfl⟩) il ?_,zqN 28 13 O O (fun _ _=>M.alloc tz88 O) (fun b_ w hI=>⟨hI.k1,zsI (j:=0) (show Blk w b _ _ from hI.at 900 O) O rfl⟩) (fun b13=>?_),True.intro⟩
     .
      rintro _ ov2 rfl;refine zsr 14 [28] tK ⟨zrO 14 [] (Hn:=fun y:Option Addr × Nat=>[(961,.row 3 1 (.slice y.1 (zg g i).length y.2) (zg g i).length ((zg g i).map zb))]) [(0,some (900,0)),(3,some (3,0)),(72,some (2000,0)),(75,some (900,0)),(78,some (900,0)),(79,some (900,0)),(80,some (900,0)),(89,some (900,0)),(90,some (900,0)),(91,some (900,0))] tc101 O O iA j1 (fun y_ w hI=>⟨hI.k1,zsI (j:=0) (show Blk w b _ _ from hI.at 900 O) O rfl⟩) iB ?_,zqN 28 13 O O (fun _ _=>M.alloc tz88 O) (fun b_ w hI=>⟨hI.k1,zsI (j:=0) (show Blk w b _ _ from hI.at 900 O) O rfl⟩) (fun b13=>?_),True.intro⟩
      .
       rintro _ ⟨au,cu⟩ rfl;refine zrw 27 [Value.int IntKind.i64 0,Value.int IntKind.i64 0,Value.slice none 0 0,Value.slice none 0 0] [(0,1),(1,1),(2,1),(3,1)] [(0,_),(1,_),(2,_),(3,_)] O tK O O (fun _=>tK) (zsr 28 [] tK ⟨zqN 28 13 O O (fun _ _=>M.alloc tz88 O) (fun b_ w hI=>⟨hI.k1,zsI (j:=0) (show Blk w b _ _ from hI.at 900 O) O rfl⟩) (fun b13=>?_),True.intro⟩)
       . refine zrf 29 Tryz.szsOk O tK O YK
      refine zsr 14 [] tK ⟨zrO 14 [] (Hn:=fun y:Option Addr × Nat=>[(961,.row 3 1 (.slice y.1 (zg g i).length y.2) (zg g i).length ((zg g i).map zb))]) [(0,some (900,0)),(3,some (3,0)),(13,some (13,0)),(72,some (2000,0)),(75,some (900,0)),(78,some (900,0)),(79,some (900,0)),(80,some (900,0)),(89,some (900,0)),(90,some (900,0)),(91,some (900,0))] tc101 O O iA j1 (fun y_ w hI=>⟨hI.k1,zsI (j:=0) (show Blk w b _ _ from hI.at 900 O) O rfl⟩) iB ?_,True.intro⟩
      .
       rintro _ ⟨au,cu⟩ rfl;refine zrw 27 [Value.int IntKind.i64 0,Value.int IntKind.i64 0,Value.slice none 0 0,Value.slice none 0 0] [(0,1),(1,1),(2,1),(3,1)] [(0,_),(1,_),(2,_),(3,_)] O tK O O (fun _=>tK) Ue
     refine zsr 3 [] tK ⟨zrO 3 [900,901] (Hn:=fun y:Value=>[(900,.own b [.pointer (some ⟨gb,0,none⟩),y,.slice (some ⟨bn,0,none⟩) g.length cn,chv,cuv] 123),(901,.row 3 1 y (ol++[(v:Int)]).length ((ol++[(v:Int)]).map zb))]) [(0,some (900,0)),(3,some (3,0)),(13,some (13,0)),(72,some (2000,0)),(75,some (900,0)),(78,some (900,0)),(79,some (900,0)),(80,some (900,0)),(89,some (900,0)),(90,some (900,0)),(91,some (900,0))] tc53 O O iA j1 (fun y_ w hI=>⟨hI.k1,zsI (j:=0) (show Blk w b _ _ from hI.at 900 O) O rfl⟩) il ?_,True.intro⟩
     .
      rintro _ ov2 rfl;refine zsr 14 [] tK ⟨zrO 14 [] (Hn:=fun y:Option Addr × Nat=>[(961,.row 3 1 (.slice y.1 (zg g i).length y.2) (zg g i).length ((zg g i).map zb))]) [(0,some (900,0)),(3,some (3,0)),(13,some (13,0)),(72,some (2000,0)),(75,some (900,0)),(78,some (900,0)),(79,some (900,0)),(80,some (900,0)),(89,some (900,0)),(90,some (900,0)),(91,some (900,0))] tc101 O O iA j1 (fun y_ w hI=>⟨hI.k1,zsI (j:=0) (show Blk w b _ _ from hI.at 900 O) O rfl⟩) iB ?_,True.intro⟩
      .
       rintro _ ⟨au,cu⟩ rfl;refine zrw 27 [Value.int IntKind.i64 0,Value.int IntKind.i64 0,Value.slice none 0 0,Value.slice none 0 0] [(0,1),(1,1),(2,1),(3,1)] [(0,_),(1,_),(2,_),(3,_)] O tK O O (fun _=>tK) Ue
    refine zsr 3 [26] tK ⟨zrO 3 [900,901] (Hn:=fun y:Value=>[(900,.own b [.pointer (some ⟨gb,0,none⟩),y,.slice (some ⟨bn,0,none⟩) g.length cn,chv,cuv] 123),(901,.row 3 1 y (ol++[(v:Int)]).length ((ol++[(v:Int)]).map zb))]) [(0,some (900,0)),(3,some (3,0)),(13,some (13,0)),(72,some (2000,0)),(75,some (900,0)),(78,some (900,0)),(79,some (900,0)),(80,some (900,0)),(89,some (900,0)),(90,some (900,0)),(91,some (900,0))] tc53 O O iA j1 (fun y_ w hI=>⟨hI.k1,zsI (j:=0) (show Blk w b _ _ from hI.at 900 O) O rfl⟩) il ?_,zpz 26 100 tu27 Tryz.el3 O O tO tO (zs:=List.replicate (zg g i).length (.int .i64 0)) JU tR (fun b_ w hI=>⟨hI.k1,zsI (j:=0) (show Blk w b _ _ from hI.at 900 O) O rfl⟩) (fun b100=>?_),True.intro⟩
    .
     rintro _ ov2 rfl;refine zsr 14 [26] tK ⟨zrO 14 [] (Hn:=fun y:Option Addr × Nat=>[(961,.row 3 1 (.slice y.1 (zg g i).length y.2) (zg g i).length ((zg g i).map zb))]) [(0,some (900,0)),(3,some (3,0)),(13,some (13,0)),(72,some (2000,0)),(75,some (900,0)),(78,some (900,0)),(79,some (900,0)),(80,some (900,0)),(89,some (900,0)),(90,some (900,0)),(91,some (900,0))] tc101 O O iA j1 (fun y_ w hI=>⟨hI.k1,zsI (j:=0) (show Blk w b _ _ from hI.at 900 O) O rfl⟩) iB ?_,zpz 26 100 tu27 Tryz.el3 O O tO tO (zs:=List.replicate (zg g i).length (.int .i64 0)) JU tR (fun b_ w hI=>⟨hI.k1,zsI (j:=0) (show Blk w b _ _ from hI.at 900 O) O rfl⟩) (fun b100=>?_),True.intro⟩
     .
      rintro _ ⟨au,cu⟩ rfl;refine zsr 26 [] tK ⟨zpz 26 100 tu27 Tryz.el3 O O tO tO (zs:=List.replicate (zg g i).length (.int .i64 0)) JU tR (fun b_ w hI=>⟨hI.k1,zsI (j:=0) (show Blk w b _ _ from hI.at 900 O) O rfl⟩) (fun b100=>?_),True.intro⟩
      . refine zrw 27 [Value.int IntKind.i64 0,Value.int IntKind.i64 0,Value.slice none 0 0,Value.slice none 0 0] [(0,1),(1,1),(2,1),(3,1)] [(0,_),(1,_),(2,_),(3,_)] O tK O O (fun _=>tK) Ue
     refine zsr 14 [] tK ⟨zrO 14 [] (Hn:=fun y:Option Addr × Nat=>[(961,.row 3 1 (.slice y.1 (zg g i).length y.2) (zg g i).length ((zg g i).map zb))]) [(0,some (900,0)),(3,some (3,0)),(13,some (13,0)),(72,some (2000,0)),(75,some (900,0)),(78,some (900,0)),(79,some (900,0)),(80,some (900,0)),(89,some (900,0)),(90,some (900,0)),(91,some (900,0))] tc101 O O iA j1 (fun y_ w hI=>⟨hI.k1,zsI (j:=0) (show Blk w b _ _ from hI.at 900 O) O rfl⟩) iB ?_,True.intro⟩
     .
      rintro _ ⟨au,cu⟩ rfl;refine zrw 27 [Value.int IntKind.i64 0,Value.int IntKind.i64 0,Value.slice none 0 0,Value.slice none 0 0] [(0,1),(1,1),(2,1),(3,1)] [(0,_),(1,_),(2,_),(3,_)] O tK O O (fun _=>tK) Ue
    refine zsr 3 [] tK ⟨zrO 3 [900,901] (Hn:=fun y:Value=>[(900,.own b [.pointer (some ⟨gb,0,none⟩),y,.slice (some ⟨bn,0,none⟩) g.length cn,chv,cuv] 123),(901,.row 3 1 y (ol++[(v:Int)]).length ((ol++[(v:Int)]).map zb))]) [(0,some (900,0)),(3,some (3,0)),(13,some (13,0)),(72,some (2000,0)),(75,some (900,0)),(78,some (900,0)),(79,some (900,0)),(80,some (900,0)),(89,some (900,0)),(90,some (900,0)),(91,some (900,0))] tc53 O O iA j1 (fun y_ w hI=>⟨hI.k1,zsI (j:=0) (show Blk w b _ _ from hI.at 900 O) O rfl⟩) il ?_,True.intro⟩
    .
     rintro _ ov2 rfl;refine zsr 14 [] tK ⟨zrO 14 [] (Hn:=fun y:Option Addr × Nat=>[(961,.row 3 1 (.slice y.1 (zg g i).length y.2) (zg g i).length ((zg g i).map zb))]) [(0,some (900,0)),(3,some (3,0)),(13,some (13,0)),(72,some (2000,0)),(75,some (900,0)),(78,some (900,0)),(79,some (900,0)),(80,some (900,0)),(89,some (900,0)),(90,some (900,0)),(91,some (900,0))] tc101 O O iA j1 (fun y_ w hI=>⟨hI.k1,zsI (j:=0) (show Blk w b _ _ from hI.at 900 O) O rfl⟩) iB ?_,True.intro⟩
     .
      rintro _ ⟨au,cu⟩ rfl;refine zrw 27 [Value.int IntKind.i64 0,Value.int IntKind.i64 0,Value.slice none 0 0,Value.slice none 0 0] [(0,1),(1,1),(2,1),(3,1)] [(0,_),(1,_),(2,_),(3,_)] O tK O O (fun _=>tK) Ue
   rintro⟨ov2,cu2,ba,bp⟩ -;refine zqO 13 13 0 O O ?_;obtain⟨dQ,dY⟩:∃ z,hp[i]?=some z:=j9;have eA:=(db.n0 i hi).trans dY;have eC:=db.pc i hi;have fb:=zjZ f.vars.length g (zgR E v (L.take k)) i;have eD:((pwE f.vars.length g (zgR E v (L.take k)) i).flatMap (phC da ha)).length=(pwE f.vars.length g (zgR E v (L.take k)) i).length*4:=zQ (c:=4) j1 _;refine zrk 100 O (e':=.row 3 1 (.slice (some ⟨ba,0,none⟩) (zg g i).length (zg g i).length) (zg g i).length ((List.replicate (zg g i).length (0:Int)).map zb)) (by rw[zuY]) (zs6 906 961 (e':=RowsP zb 3 (da++[Value.slice cu2.1 (zg g i).length cu2.2]) (fr++[zg g i])) [(0,some (900,0)),(3,some (3,0)),(13,some (13,0))] O O O (fun w hI=>qV hI 906 961 O O O tS) RowsP.loc (fun _ h=>h) UH (zs6 909 100 (e':=RowsP zb 3 (ha++[Value.slice (some ⟨ba,0,none⟩) (zg g i).length (zg g i).length]) (al++[List.replicate (zg g i).length 0])) [(0,some (900,0)),(3,some (3,0)),(13,some (13,0))] O O O (fun w hI=>qV hI 909 100 O O (by rw[zuR]) tS) RowsP.loc (fun _ h=>h) UH ?_));refine Vs 1 O (Vw [3,904,960,900,13] [20] O (Vd [0,1,2,3,4,5,6,7,8,9,10,11,15] 0 tK O O O (zrx 12 O tK O (fun w=>zph tR28 ts59 O O O tO) (Vd [13] 0 tK O O O (zrC 14 O tK O 0 O O (fun w hI=>R.load tg56 O (v:=dQ) (zsI (show Blk w bn _ _ from hI.at 904 O) eA tO)) (zrp 16 118 0 [(0,_)] tR56 ts88 tz88 tS O tK O O tK (fun b118=>?_)))))));refine zsH 17 905 118 0 i underlying56 Tryz.el88 O tS O tK O O O tX dY eC (fun m hm=>tO) (fun u905 dx=>(zrx 18 O tK O (fun w=>zph tR28 ts59 O O O tO) (Vd [19] 0 tK O O O (zsK 20 904 (e':=NodP bn (nd.set (i*3) u905) 59) O tK O (NodP.loc) (fun _ h=>h) (fun w hI=>zsJ ts56 (show Blk w bn _ _ from hI.at 904 O) O O dx tO tO) (VDx.done tK (Va 6 O tO ?_))))));refine V.back ⟨k+1,ov2,ol++[(v:Int)],nd.set (i*3) u905,hp.set i u905,_,_,_,_,_⟩ j2 j3 ⟨tO,by rw[zjW dK,ztd];exact db.snoc hi u905 _ _⟩ tZ 0 O O
  obtain rfl:k=L.length:=tO;rw[zsW]at db;refine Va 10 O tO (V.back ⟨v+1,zgR E v L,ov,ol,nd,hp,pc,da,fr,ha,al⟩ j2 j3 ⟨tO,dy.step dW dJ ed dh,db,by rw[zk0];unfold zgR;rw[zsZ,ztb];omega⟩ tZ 1 O O)
 obtain rfl:v=f.vars.length:=tO;refine Vs 11 O (zoV results54 O (fun w hI=>⟨_,rfl,(E,ov,ol,nd,hp,pc,da,fr,ha,al),⟨rfl,dy,dc,d9⟩,hI.back 0 O O O rfl⟩))
theorem zlT (hw:WkG f g Rw order pl T of1 pw) (hY:Nat->Option Addr × Nat × Nat) (has:List Value) (fQ:∀ j,j<g.length->∀ (q:Nat) p,(pw j)[q]?=some p->has[p.2]?=some (.slice (hY p.2).1 (hY p.2).2.1 (hY p.2).2.2)) (dH:Nat->Value) (b gb bn cn:Nat) (chv cuv:Value) (D:Nat->Prop) :
  ∀ (m k i:Nat) (ofv:Value) (ofl:List Int) (rv:List Value) (rows:List (List Int)) (ndc da:List Value) (ucs:List (List Value)) (als:List (List Int)) (W:World),PreW g T k m i->Deep T pl g.length m i->i<g.length->StW f g T of1 pw dH k ofl ndc da ucs als->TopW f g T of1 pw i rows->rows.length=f.vars.length->rv.length=rows.length->(∀ r ∈ rows,r.length+m*1001<=100000000)->GrO D W f g gb->(∀ j,j<g.length->SlR 4 (RPw hY) D W (dH j) (pw j))->SlR 1 (RSl 1 zG) D W chv (chL T g.length) ->
  Held (zjP b gb bn cn g.length ofv chv cuv ofl rv rows ndc da ucs has als) W->(∀ q,D q->q<W.heap.size)->(∀ q,HS (zjP b gb bn cn g.length ofv chv cuv ofl rv rows ndc da ucs has als) q->¬ D q) ->
  Calls prog 55 #[.pointer (some ⟨b,0,none⟩),.int .i64 i] W (Ret fun r w'=>∃ y:Value × List Int × List Value × List Value × List Value × List (List Value) × List (List Int),(r=.tuple #[]/\y.2.2.1.length=rows.length/\StW f g T of1 pw dH (k+(zfh T m i).length) y.2.1 y.2.2.2.1 y.2.2.2.2.1 y.2.2.2.2.2.1 y.2.2.2.2.2.2)/\GBack (zjP b gb bn cn g.length ofv chv cuv ofl rv rows ndc da ucs has als) (zjP b gb bn cn g.length y.1 chv cuv y.2.1 y.2.2.1 rows y.2.2.2.1 y.2.2.2.2.1 y.2.2.2.2.2.1 has y.2.2.2.2.2.2) W w'):=by
 intro m;induction m with
 | zero =>
  intro k i ofv ofl rv rows ndc da ucs als W _ dc hi;have:=dc.pos hi;omega
 | succ m ih =>
 intro k i ofv ofl rv rows ndc da ucs als W dI dc hi dg ek fu fR fS hG hP ed hE hD hC;have fT:0<g.length:=tO;have dJ:=dI.at;have dy:=jK hw.ht hw.hor fT;have ee:(xV g T).Nodup:=dy.nodup_iff.2 zve;have fU:=zn7 f g T of1 k;rw[<- dg.of,dy.length_eq,zuQ]at fU;have gV:=hw.small;have fV:=hw.ofs;have gW:=dg.nl;have ef:=hP i hi;obtain⟨ap,cp,fW⟩:=ef.form;have gX:=ef.max;have gY:=hw.len i hi;have dK:=hw.var i hi;have fw:=dg.n0 i hi;rw[fW]at ef fw;obtain⟨hu,em⟩:∃ z,da[i]?=some z:=⟨_,zsR (by rw[dg.hl];exact hi)⟩;have fX:=(dg.n1 i hi).trans em;have fY:=dg.n2 i hi;have fZ:=zn4 ee dJ
 have fx:ucs[i]?=some []:=by
  rw[dg.us i hi];unfold usK
  grind
 have gZ:=(zt5.1 em).1;have g9:=(zt5.1 fx).1;obtain⟨v1,v2,v3,gv,sv,pv,f0,f4,_,er,_,_⟩:=id hG;obtain⟨ag,cg,rfl⟩:=er.form;have k8:=er.max;obtain⟨ach,cch,rfl⟩:=ed.form;have f5:=ed.max;have f7:(chL T g.length).length=g.length:=by unfold chL;rw[ztb,zuQ]
 have ew:∀ r ∈ rows,r.length<=100000000:=fun r hr=>tD
 have ez:∀ (l:List (Nat × Int)),l.length<=1001->∀ r ∈ yZ rows l,r.length<=1000000000:=fun l hl r hr=>by
  have:=zlL l rows ew r hr;omega
 have dh:=ek.phis hw.ht hw.hor hi (fun p hp=>tD) (hw.asc i hi);refine zsz func55 O ntmps55 O (zrL [(900,.own b [.pointer (some ⟨gb,0,none⟩),ofv,.slice (some ⟨bn,0,none⟩) g.length cn,.slice ach (chL T g.length).length cch,cuv] 123),(901,.row 3 1 ofv ofl.length (ofl.map zb)),(902,.row 27 1 cuv rv.length rv),(903,RowsP zb 3 rv rows),(904,NodP bn ndc 59),(907,RowsCP 2 85 da ucs),(909,RowsP zb 3 has als)] hE.1 hE.2 (zqO 0 900 0 O O (Vs 8 O (zqh O (fun w hI=>zph tR28 ts59 O O O tO) (Vs 9 O (zqh O (fun w hI=>R.load tg56 O (v:=.slice ap (pw i).length cp) (zsI (show Blk w bn _ _ from hI.at 904 O) fw tO)) ?_))))));refine Vs 5 O (zqU 950 3 1 O (zrB 950 (e':=CloP b []) O (fun w hI=>fun c hc=>tD) CloP.loc (fun _ h=>h) (fun q hq=>by obtain⟨c,hc,_⟩:=hq;cases hc) (zrk 903 O (e':=RowsP zb 3 rv (yZ rows (zan (pw i) 0))) rfl (zsu (σ:=Nat × List Value × List Clo) (fun⟨t,rv',cls⟩=>⟨145,cls.map znW⟩) [0,1,4,26,27] [900,901,904,907,909] [0] O (fun e ⟨t,rv',cls⟩=>(28,.int .i64 t)::e) (fun e ⟨t,rv',cls⟩=>(902,.row 27 1 cuv rv'.length rv')::(903,RowsP zb 3 rv' (yZ rows (zan (pw i) t)))::(950,CloP b cls)::e) (fun⟨t,rv',cls⟩=>t<=(pw i).length/\rv'.length=rows.length/\cls.map (·.2.2)=((zan (pw i) t).map (·.1)).reverse) (fun⟨t,rv',cls⟩=>(pw i).length - t) (0,rv,[]) O j2 j3 j1 j1 j1 ⟨zt6 _,fR,rfl⟩ ?_))));rintro⟨t,rv',cls⟩ ⟨f8,dA,dl⟩;refine Vs 6 O (zoE O (fun f9=>?_) (fun f9=>?_))
 .
  refine Vs 6 O (zrh 1000 0 t tO ef O O O ij (fun p gc gf gh dm du dB eA dC=>?_));obtain⟨eC,rfl,dw⟩:=dC;obtain⟨dL,dM,rfl⟩:=dw.form;refine zqQ 1000 tR56 ts88 O dB tO _ rfl O ?_;obtain⟨fy,fA⟩:=dK p du;obtain⟨vn,dE⟩:∃ vn:Nat,p.1.var=(vn:Int):=⟨p.1.var.toNat,tO⟩
  have fB:(yZ rows (zan (pw i) t))[vn]?=some ((yZ rows (zan (pw i) t))[vn]?.getD []):=by
   have e:=zsR (show vn<(yZ rows (zan (pw i) t)).length by rw[qU];omega);rw[e];rfl
  rw[dE];refine Vs 1 O (V.alloc 6 tz88 O O (fun b6=>?_));refine Vs 9 O (zrM [900,902,903] (Hn:=fun y:Nat × Nat × Value=>[(900,.own b [.pointer (some ⟨gb,0,none⟩),ofv,.slice (some ⟨bn,0,none⟩) g.length cn,.slice ach (chL T g.length).length cch,cuv] 123),(902,.row 27 1 cuv (rv'.set vn y.2.2).length (rv'.set vn y.2.2)),(903,RowsP zb 3 (rv'.set vn y.2.2) ((yZ rows (zan (pw i) t)).set vn ((yZ rows (zan (pw i) t))[vn]?.getD []++[p.1.ver]))),(905,.own y.1 [.pointer (some ⟨b,0,none⟩)] 121),(906,.own y.2.1 [.int .i64 vn] 3)]) [(0,some (900,0)),(6,some (6,0)),(30,some (1000,0)),(32,some (900,0)),(33,some (6,0)),(35,some (6,1))] call102 O iA j1 (fun w hI=>xc O O (zcY vn p.1.ver (yZ rows (zan (pw i) t)) rv' _ fB (ez (zan (pw i) t) (by rw[zdT f8];omega) _ (zsS fB)) (by rw[qU];exact dA) b gb ofv (.slice (some ⟨bn,0,none⟩) g.length cn) _ cuv w (hI.held O O O))) ?_);rintro _ ⟨bx,by',u⟩ rfl;refine V.defer O (zs6 950 905 (e':=CloQ b cls bx) [(0,some (900,0))] O O O (fun w hI=>⟨hI.at 950 rfl,hI.at 905 rfl⟩) CloQ.loc (fun _ h=>h) (fun q hq=>hq) ?_)
  refine zs6 950 906 (e':=CloP b ((bx,by',vn)::cls)) [(0,some (900,0))] O O O (fun w hI=>CloOk.cons (c:=(bx,by',vn)) (hI.at 950 O).1 (hI.at 950 O).2 (hI.at 906 O)) CloP.loc (fun _ h=>h) (fun q hq=>by
   obtain⟨c,hc,h⟩:=hq;rcases zt7.1 hc with rfl | hc
   . exact h.imp (fun h=>.inr h) (fun h=>h)
   .
    exact .inl (.inl ⟨c,hc,h⟩)) ?_
  refine zrk 903 O (e':=RowsP zb 3 (rv'.set vn u) (yZ rows (zan (pw i) (t+1)))) (by rw[zf6 dm,jX,dE];rfl) (Va 7 O tO (zsv ⟨t+1,rv'.set vn u,(bx,by',vn)::cls⟩ rfl j2 j3 ⟨tO,tD,by rw[zf6 dm,zuT,zvr,<- dl,dE];rfl⟩ tZ 0 O O))
 obtain rfl:t=(pw i).length:=tO;refine Vs 13 O (zr4 call81 O (fun w hI=>zeH f g hw.hk i hi gb D w (hG.keep hI.k0 fun q hd _ h=>hC q h hd)) ?_);rintro r2 w1 w2 ma gl eD dN;have gq:=zlN hw.hk hi;have mb:=eD.max;dsimp only at *;generalize dF:yZ rows (zan (pw i) (pw i).length)=rows1 at *;have gr:rows1.length=rows.length:=by rw[<- dF,qU]
 obtain⟨ard,crd,rfl⟩:=eD.form;refine Vs 4 O (zrk 904 O (e':=NodP bn (ndc.set (i*3+1) hu) 59) (by rw[set_same fX]) (zrk 907 O (e':=RowsCP 2 85 (da.set i hu) (ucs.set i (((rdV f g i).take 0).flatMap fun v=>zlJ (v,zdQ f g T of1 (phW pw) i v)))) (by rw[set_same em,zvE,List.flatMap_nil,set_same fx]) (Vs 1 O (zrl (σ:=Nat × Value) [0,1,4,44,45] [900,901,902,903,909,950] [0] O (fun e ⟨t,u⟩=>(46,.int .i64 t)::e) (fun e ⟨t,u⟩=>(904,NodP bn (ndc.set (i*3+1) u) 59)::(907,RowsCP 2 85 (da.set i u) (ucs.set i (((rdV f g i).take t).flatMap fun v=>zlJ (v,zdQ f g T of1 (phW pw) i v))))::e) (fun⟨t,u⟩=>t<=(rdV f g i).length) (fun⟨t,u⟩=>(rdV f g i).length - t) (0,hu) j2 j3 j1 j1 j1 (zt6 _) ?_))));rintro⟨t,u⟩ ht;refine Vs 6 O (zoE O (fun lt=>?_) (fun lt=>?_))
 .
  refine Vs 6 O (zrh 2000 0 t tO eD O O O (fun b_ d_ h_=>by have db:=dN _ h_;first | omega | exact db d_) (fun v mc me mf eE eF eG gs eH=>?_));obtain rfl:=eH;refine zqQ 2000 tR27 ts3 O eG tO _ rfl O ?_;obtain⟨fy,fA⟩:=hw.df.rd i v eF;obtain⟨vn,rfl⟩:∃ vn:Nat,v=(vn:Int):=⟨v.toNat,tO⟩;obtain⟨rr,dx⟩:∃ r,rows1[vn]?=some r:=j9;obtain⟨_,eI⟩:=dh vn rr dx
  have mg:(((rdV f g i).take t).flatMap fun v=>zlJ (v,zdQ f g T of1 (phW pw) i v)).length=t*2:=by
   refine(zQ (c:=2) j1 _).trans ?_;rw[ztl,Nat.min_eq_left tO]
  refine Vs 4 O (Vw [900,904,2000] [14] O (Vd [0,1,2,3,5,6,7] 0 tK O O O (zrC 4 O tK O 0 O O (fun w hI=>R.load isAgg57 O (v:=u) (zsI (show Blk w bn _ _ from hI.at 904 O) (zuH tO) tO)) ?_)));refine zr3 8 0 call103 O tK O O (fun w hI=>zeZ vn rows1 rr (zdQ f g T of1 (phW pw) i vn) dx eI b gb _ _ _ _ (fun _=>True) w (Blk.cells (hI.at 900 O)) (zgP tO (hI.at 902 O) (hI.at 903 O))) (zrv 9 [Value.int IntKind.i64 0,Value.int IntKind.i64 0] [(0,1),(1,1)] [(0,_),(1,_)] O tK O O (fun _=>tK) (zrp 10 60 0 [(0,_)] tR57 ts85 tz85 tS O tK O O tK (fun b60=>?_)));refine zsH 11 907 60 0 i underlying57 Tryz.el85 O tS O tK O O O tX (zuH tO) (zuH tO) (fun m hm=>tO) (fun u907 dO=>?_);refine Vd [12,13] 0 tK O O O (zsK 14 904 (e':=NodP bn ((ndc.set (i*3+1) u).set (i*3+1) u907) 59) O tK O (NodP.loc) (fun _ h=>h) (fun w hI=>zsJ sizeOf57 (show Blk w bn _ _ from hI.at 904 O) O O dO tO (by rw[zuS];omega)) (VDx.done tK (Vs 2 O (zrk 904 O (e':=NodP bn (ndc.set (i*3+1) u907) 59) (by rw[zvu]) (zrk 907 O (e':=RowsCP 2 85 (da.set i u907) (ucs.set i (((rdV f g i).take (t+1)).flatMap fun v=>zlJ (v,zdQ f g T of1 (phW pw) i v)))) (by rw[zvu,zvu,ze eE,zuq];rfl) ?_)))));refine Va 4 O tO (V.back ⟨t+1,u907⟩ j2 j3 tO tZ 0 O O)
 obtain rfl:t=(rdV f g i).length:=tO;refine zrk 907 O (e':=RowsCP 2 85 (da.set i u) (ucs.set i (((rdV f g i).map fun v=>(v,zdQ f g T of1 (phW pw) i v)).flatMap zlJ))) (by rw[zsW,zus]) (Vs 13 O (zr2 call79 O (fun w hI=>jo f g hw.hk i hi gb D w (hG.keep hI.k1 fun q hd _ h=>hC q h hd)) (Vs 3 O (zsw (σ:=Value × List Int × List Value × List Clo) (fun⟨ov,ol,rv2,cls2⟩=>⟨145,cls2.map znW⟩) [0,1] [907,909] [0] O (fun e ⟨ov,ol,rv2,cls2⟩=>e) (fun e ⟨ov,ol,rv2,cls2⟩=>(900,.own b [.pointer (some ⟨gb,0,none⟩),ov,.slice (some ⟨bn,0,none⟩) g.length cn,.slice ach (chL T g.length).length cch,cuv] 123)::(901,.row 3 1 ov ol.length (ol.map zb))::(902,.row 27 1 cuv rv2.length rv2)::(903,RowsP zb 3 rv2 (yZ rows (zdU f g T of1 (pw i) i)))::(904,NodP bn ((ndc.set (i*3+1) u).set (i*3+2) (.int .i64 (dfW f g T of1 i))) 59)::(950,CloP b cls2)::e) (fun⟨ov,ol,rv2,cls2⟩=>ol=(if 0<=zO f g i then ofl++[zO f g i] else ofl)/\rv2.length=rows.length/\cls2.map (·.2.2)=((zdU f g T of1 (pw i) i).map (·.1)).reverse) j1 j1 ?_ ?_))))
 .
  refine Vs 6 O (zoE O (fun hd=>?_) (fun hd=>?_))
  .
   obtain⟨dn,eJ⟩:∃ dn:Nat,zO f g i=(dn:Int):=⟨(zO f g i).toNat,tO⟩;obtain⟨_,dQ,_⟩:=hw.df.dfn i hi hd;have fC:=(zt5.1 dQ).1;have fD:dfW f g T of1 i=((ofl.length:Nat):Int):=by rw[zn5 ee dJ hd,dg.of]
   obtain⟨rr,dx⟩:∃ r,rows1[dn]?=some r:=j9;refine V.eq 9 (v:=.int .i64 (dn:Int)) O (by rw[eJ]) (Vs 5 O (zrM [900,901] (Hn:=fun y:Value=>[(900,.own b [.pointer (some ⟨gb,0,none⟩),y,.slice (some ⟨bn,0,none⟩) g.length cn,.slice ach (chL T g.length).length cch,cuv] 123),(901,.row 3 1 y (ofl++[(dn:Int)]).length ((ofl++[(dn:Int)]).map zb))]) [(0,some (900,0)),(65,some (900,0)),(66,some (900,0)),(67,some (900,0)),(74,some (900,0))] tc53 O iA j1 (fun w hI=>xc O O (yj dn ofl tO b gb ofv _ _ cuv w (hI.held O O O))) ?_));rintro _ ov2 rfl;refine Vs 2 O (zs3 904 (e':=NodP bn ((ndc.set (i*3+1) u).set (i*3+2) (.int .i64 (ofl.length:Nat))) 59) O (NodP.loc) (fun _ h=>h) (fun w hI=>zsJ ts3 (show Blk w bn _ _ from hI.at 904 O) O O O tO (by rw[zuS];omega)) (Vs 8 O (zqh O (fun w hI=>R.load tg3 O (v:=.int .i64 (ofl.length:Nat)) (zsI (show Blk w bn _ _ from hI.at 904 O) (zuH (by rw[zuS];omega)) tO)) ?_)));refine zrM [900,902,903] (Hn:=fun y:Nat × Nat × Value=>[(900,.own b [.pointer (some ⟨gb,0,none⟩),ov2,.slice (some ⟨bn,0,none⟩) g.length cn,.slice ach (chL T g.length).length cch,cuv] 123),(902,.row 27 1 cuv (rv'.set dn y.2.2).length (rv'.set dn y.2.2)),(903,RowsP zb 3 (rv'.set dn y.2.2) (rows1.set dn (rr++[((ofl.length:Nat):Int)]))),(905,.own y.1 [.pointer (some ⟨b,0,none⟩)] 121),(906,.own y.2.1 [.int .i64 dn] 3)]) [(0,some (900,0)),(65,some (900,0)),(66,some (900,0)),(67,some (900,0)),(74,some (900,0)),(79,some (900,0))] call102 O iA j1 (fun w hI=>xc O O (zcY dn (ofl.length:Nat) rows1 rv' rr dx (ez _ (by rw[zdT (ztg _)];omega) rr (dF ▸ zsS dx)) tO b gb ov2 _ _ cuv w (hI.held O O O))) ?_;rintro _ ⟨bx,by',u3⟩ rfl;refine V.defer O (zs6 950 905 (e':=CloQ b cls bx) [(0,some (900,0))] O O O (fun w hI=>⟨hI.at 950 rfl,hI.at 905 rfl⟩) CloQ.loc (fun _ h=>h) (fun q hq=>hq) ?_)
   refine zs6 950 906 (e':=CloP b ((bx,by',dn)::cls)) [(0,some (900,0))] O O O (fun w hI=>CloOk.cons (c:=(bx,by',dn)) (hI.at 950 O).1 (hI.at 950 O).2 (hI.at 906 O)) CloP.loc (fun _ h=>h) (fun q hq=>by
    obtain⟨c,hc,h⟩:=hq;rcases zt7.1 hc with rfl | hc
    . exact h.imp (fun h=>.inr h) (fun h=>h)
    .
     exact .inl (.inl ⟨c,hc,h⟩)) ?_
   have dR:zdU f g T of1 (pw i) i=zan (pw i) (pw i).length++[(dn,((ofl.length:Nat):Int))]:=by
    unfold zdU;rw[zt2 hd,fD,eJ];rfl
   refine zrk 903 O (e':=RowsP zb 3 (rv'.set dn u3) (yZ rows (zdU f g T of1 (pw i) i))) (by rw[dR,jX,dF];unfold jx;rw[dx];rfl) (zrk 904 O (e':=NodP bn ((ndc.set (i*3+1) u).set (i*3+2) (.int .i64 (dfW f g T of1 i))) 59) (by rw[fD]) (Vs 1 O (zsx ⟨ov2,ofl++[(dn:Int)],rv'.set dn u3,(bx,by',dn)::cls⟩ rfl j2 j3 ⟨by rw[zt2 hd,eJ],by rw[zuS];exact dA,by rw[dR,zuT,zvr,<- dl];rfl⟩ 0 O O)))
  have dR:zdU f g T of1 (pw i) i=zan (pw i) (pw i).length:=by
   unfold zdU;rw[zt1 hd,zu1]
  have eK:(ndc.set (i*3+1) u)[i*3+2]?=some (.int .i64 (dfW f g T of1 i)):=by
   rw[zuG tO,fY,znV hd];unfold dsK;rw[fZ];rfl
  refine zrk 903 O (e':=RowsP zb 3 rv' (yZ rows (zdU f g T of1 (pw i) i))) (by rw[dR,dF]) (zrk 904 O (e':=NodP bn ((ndc.set (i*3+1) u).set (i*3+2) (.int .i64 (dfW f g T of1 i))) 59) (by rw[set_same eK]) (Vs 1 O (zsx ⟨ofv,ofl,rv',cls⟩ rfl j2 j3 ⟨by rw[zt1 hd],dA,by rw[dR,<- dl]⟩ 0 O O)))
 rintro⟨ov,ol,rv2,cls2⟩ ⟨eL,gt,dS⟩
 have dz:∀ (u:Nat) r,(yZ rows (zdU f g T of1 (pw i) i))[u]?=some r->r ≠ []/\zaz r=some (zcf f g T of1 (phW pw) i u):=by
  unfold zdU;by_cases hd:0<=zO f g i
  .
   obtain⟨_,dQ,_⟩:=hw.df.dfn i hi hd;have fC:=(zt5.1 dQ).1;rw[zt2 hd,jX,dF];exact TopW.out dh (by show zO f g i=((zO f g i).toNat:Int);omega) (by show (zO f g i).toNat<_;omega)
  rw[zt1 hd,zu1,dF];exact TopW.same dh tO
 generalize eh:yZ rows (zdU f g T of1 (pw i) i)=rows2 at *;have gw:rows2.length=rows.length:=by rw[<- eh,qU]
 refine zrg 960 1 O O (fun h=>hC _ h f0) f4 (Vs 8 O (zqO 89 960 0 O O (Vs 4 O (zrh 3000 1 i tO er O O O ij (fun x mh ml mm eM eN eO gx eP=>?_)))));obtain rfl:=eP;refine zqQ 3000 tR34 ts65 O eO tO _ rfl O ?_;have fE:=zM eM;refine Vs 1 O (zr4 call76 O (fun w hI=>zgy x w) ?_);rintro r3 w3 w4 mn gy eQ dT;obtain⟨asu,csu,rfl⟩:=eQ.form;have gz:=eQ.max;refine Vs 5 O (zrl (σ:=Nat × List (List Int)) [0,1,96,97] [900,901,902,903,904,907,950,960] [0] O (fun e ⟨t,al⟩=>(98,.int .i64 t)::e) (fun e ⟨t,al⟩=>(909,RowsP zb 3 has al)::e) (fun⟨t,al⟩=>t<=(jI x).length/\AlP f g T of1 pw k (fun j _=>(j:Int) ∈ (jI x).take t) al) (fun⟨t,al⟩=>(jI x).length - t) (0,als) j2 j3 j1 j1 j1 ⟨zt6 _,(AlP.start dg).imp (fun j q=>tR)⟩ ?_);rintro⟨t,al⟩ ⟨mp,fF⟩;refine Vs 6 O (zoE O (fun lt=>?_) (fun lt=>?_))
 .
  refine Vs 6 O (zrh 4000 0 t tO eQ O O O (fun b_ d_ h_=>by have db:=dT _ h_;first | omega | exact db d_) (fun y mq mr mt eR dU eS gA eT=>?_));obtain rfl:=eT;refine zqQ 4000 tR27 ts3 O eS tO _ rfl O ?_;obtain⟨mu,gB⟩:=mem_succ.1 dU;have mv:=hw.pr.to x eN y dU;obtain⟨yn,rfl⟩:∃ yn:Nat,y=(yn:Int):=⟨y.toNat,tO⟩;have dG:yn<g.length:=tO;have fG:i ∈ zw g yn:=pred_mem.2 ⟨hi,by rw[fE];exact gB⟩;have ei:=hP yn dG;obtain⟨apy,cpy,gC⟩:=ei.form;have gD:=ei.max
  have fH:((ndc.set (i*3+1) u).set (i*3+2) (.int .i64 (dfW f g T of1 i)))[yn*3]?=some (dH yn):=by
   rw[zuG tO,zuG tO];exact dg.n0 yn dG
  rw[gC]at ei fH;refine Vs 12 O (zqh O (fun w hI=>zph tR28 ts59 O O O tO) (Vs 1 O (zqh O (fun w hI=>R.load tg56 O (v:=.slice apy (pw yn).length cpy) (zsI (show Blk w bn _ _ from hI.at 904 O) fH tO)) (Vs 5 O (zrl (σ:=Nat × List (List Int)) [0,1,96,97,98,110,111] [900,901,902,903,904,907,950,960] [0] O (fun e ⟨q,al2⟩=>(112,.int .i64 q)::e) (fun e ⟨q,al2⟩=>(909,RowsP zb 3 has al2)::e) (fun⟨q,al2⟩=>q<=(pw yn).length/\AlP f g T of1 pw k (fun j q'=>(j:Int) ∈ (jI x).take t\/(j=yn/\q'<q)) al2) (fun⟨q,al2⟩=>(pw yn).length - q) (0,al) j2 j3 j1 j1 j1 ⟨zt6 _,fF.imp (fun j q'=>tR)⟩ ?_)))));rintro⟨q,al2⟩ ⟨hq,dV⟩;refine Vs 6 O (zoE O (fun lq=>?_) (fun lq=>?_))
  .
   refine Vs 6 O (zrh 5000 2 q tO ei O O O ij (fun p gc gf gh dm du dB eA dC=>?_));obtain⟨eC,rfl,dw⟩:=dC;obtain⟨dL,dM,rfl⟩:=dw.form;refine zqQ 5000 tR56 ts88 O dB tO _ rfl O ?_;obtain⟨row,dW,eU,eV,fI⟩:=dV.step hw.dis ee dJ dG fG dm;have dD:=fQ yn dG q p dm;obtain⟨fy,fA⟩:=hw.var yn dG p du;obtain⟨vn,dE⟩:∃ vn:Nat,p.1.var=(vn:Int):=⟨p.1.var.toNat,tO⟩;obtain⟨rr,dx⟩:∃ r,rows2[vn]?=some r:=j9;obtain⟨_,eI⟩:=dz vn rr dx;have dX:=hw.frm yn dG p du;have eW:(i:Int) ∈ p.1.frm:=by rw[dX];exact zv6.2 ⟨i,fG,rfl⟩
   have eX:p.1.frm.idxOf (i:Int)=(zw g yn).idxOf i:=by rw[dX];exact zlM
   refine zqI (p:=∃ ao ch,Value.slice (hY p.2).1 (hY p.2).2.1 (hY p.2).2.2=.slice ao row.length ch/\(0<row.length->∃ ga,ao=some ⟨ga,0,none⟩)) (fun w hI=>qq (show RowsOk _ _ _ _ _ from hI.at 909 O) dD dW) (fun dY=>?_);obtain⟨ao,ch,fJ,gE⟩:=dY;obtain⟨ga,rfl⟩:=gE tO;rw[fJ]at dD
   have mw:row.length<=10000:=by
    rw[eU];unfold zw;exact zsX (zuP _ _) (by rw[zuQ];omega)
   rw[dE]at fI;refine Vs 1 O (V.alloc 13 tz88 O O (fun b13=>?_));refine Vs 3 O (zrk 13 O (e':=.own b13 [.int .i64 (vn:Int),.int .i64 p.1.ver,.slice dL p.1.frm.length dM,.slice (some ⟨ga,0,none⟩) row.length ch] 88) (by rw[<- dE,<- fJ]) (Vw [900,960,5000,13] [11] O (Vd [0,1,2,3,4,6,7,8] 0 tK O O O (zr3 5 0 call91 O tK O O (fun w hI=>(by have h_:=zcR p.1.frm i _ _ w (dw.keep zc hI.k2 fun q hd _ h=>hC q h hd) eW;rw[eX]at h_;exact h_)) (zr3 9 0 call103 O tK O O (fun w hI=>zeZ vn rows2 rr (zcf f g T of1 (phW pw) i vn) dx eI b gb _ _ _ _ (fun _=>True) w (Blk.cells (hI.at 900 O)) (zgP tO (hI.at 902 O) (hI.at 903 O))) ?_)))));refine zrx 10 O tK O (fun w=>zph tR27 ts3 O O O tO) (zs4 11 909 0 (e':=RowsP zb 3 has (al2.set p.2 (row.set ((zw g yn).idxOf i) (zcf f g T of1 (phW pw) i vn)))) O tK O O RowsP.loc (fun _ h=>h) (fun w hI=>zsa ts3 (hI.at 909 O) dD dW eV O O O) (VD.done tK (Vs 2 O ?_)))
   have gF:∀ j q':Nat,(((j:Int) ∈ (jI x).take t\/(j=yn/\q'<q))\/(j=yn/\q'=q)) ↔ ((j:Int) ∈ (jI x).take t\/(j=yn/\q'<q+1)):=fun j q'=>by
    constructor
    .
     rintro ((h | ⟨h1,h2⟩) | ⟨h1,h2⟩)
     . exact .inl h
     . exact .inr ⟨h1,tO⟩
     exact .inr ⟨h1,tO⟩
    rintro (h | ⟨h1,h2⟩)
    . exact .inl (.inl h)
    rcases zvQ q' q with h3 | h3
    . exact .inl (.inr ⟨h1,h3⟩)
    exact .inr ⟨h1,tO⟩
   refine Va 4 O tO (V.back ⟨q+1,al2.set p.2 (row.set ((zw g yn).idxOf i) (zcf f g T of1 (phW pw) i vn))⟩ j2 j3 ⟨tO,fI.imp gF⟩ tZ 0 O O)
  obtain rfl:q=(pw yn).length:=tO
  have gG:∀ j q':Nat,q'<(pw j).length->(((j:Int) ∈ (jI x).take t\/(j=yn/\q'<(pw yn).length)) ↔ (j:Int) ∈ (jI x).take (t+1)):=fun j q' gH=>by
   rw[ze eR,zta,zt9];constructor
   .
    rintro (h | ⟨rfl,_⟩)
    . exact .inl h
    exact .inr O
   rintro (h | h)
   . exact .inl h
   obtain rfl:j=yn:=tO;exact .inr ⟨rfl,gH⟩
  refine Va 10 O tO (V.back ⟨t+1,al2⟩ j2 j3 ⟨tO,dV.imp2 gG⟩ tZ 0 O O)
 obtain rfl:t=(jI x).length:=tO
 have dZ:=dg.next_of ee dJ hi (u:=u) (fF.done dJ (fun j q hj hm hq=>by
  rw[zsW];obtain⟨h1,h2⟩:=pred_mem.1 hm;rw[fE]at h2
  exact mem_succ.2 ⟨tO,h2⟩))
 rw[<- eL]at dZ;refine Vs 12 O (zrh 6000 2 i tO ed O O O ij (fun cs gI gJ gK d5 fK d6 fL d7=>?_));obtain⟨fM,rfl,dr⟩:=d7;obtain⟨fN,fO,rfl⟩:=dr.form;refine zqQ 6000 tR89 ts27 O d6 tO _ rfl O ?_;have d8:cs=(chT T i).map fun c:Nat=>(c:Int):=Option.some.inj (d5.symm.trans (zn8 hi));have eY:cs.length=(chT T i).length:=by rw[d8,ztb]
 have gL:=dr.max;refine Vs 6 O (zrl (σ:=Nat × Value × List Int × List Value × List Value × List Value × List (List Value) × List (List Int)) [0,135,136] [950,960] [0] O (fun e ⟨s,ov3,ol3,rv3,nd3,dt,uc3,al3⟩=>(137,.int .i64 s)::e) (fun e ⟨s,ov3,ol3,rv3,nd3,dt,uc3,al3⟩=>(900,.own b [.pointer (some ⟨gb,0,none⟩),ov3,.slice (some ⟨bn,0,none⟩) g.length cn,.slice ach (chL T g.length).length cch,cuv] 123)::(901,.row 3 1 ov3 ol3.length (ol3.map zb))::(902,.row 27 1 cuv rv3.length rv3)::(903,RowsP zb 3 rv3 rows2)::(904,NodP bn nd3 59)::(907,RowsCP 2 85 dt uc3)::(909,RowsP zb 3 has al3)::e) (fun⟨s,ov3,ol3,rv3,nd3,dt,uc3,al3⟩=>s<=cs.length/\rv3.length=rows2.length/\StW f g T of1 pw dH (k+1+(((chT T i).take s).flatMap (zfh T m)).length) ol3 nd3 dt uc3 al3) (fun⟨s,ov3,ol3,rv3,nd3,dt,uc3,al3⟩=>cs.length - s) (0,ov,ol,rv2,_,_,_,al) j2 j3 j1 j1 j1 ⟨zt6 _,tO,dZ⟩ ?_);rintro⟨s,ov3,ol3,rv3,nd3,dt,uc3,al3⟩ ⟨hs,eZ,d9⟩;refine Vs 6 O (zoE O (fun ls=>?_) (fun ls=>?_))
 .
  refine Vs 6 O (zrh 7000 2 s tO dr O O O ij (fun c mx my mz eb gM fb gN fe=>?_));obtain rfl:=fe;refine zqQ 7000 tR27 ts3 O fb tO _ rfl O ?_
  obtain⟨cn',fg,rfl⟩:∃ cn':Nat,(chT T i)[s]?=some cn'/\(cn':Int)=c:=by
   rw[d8,zt8]at eb;exact zw3.1 eb
  have fm:=zsS fg
  have gO:cn'<g.length:=by
   have:=(chT_mem.1 fm).1;rw[hw.ht.sol.len]at this;exact this
  refine Vs 7 O (zrM [900,901,902,903,904,907,909] (Hn:=fun y:Value × List Int × List Value × List Value × List Value × List (List Value) × List (List Int)=>[(900,.own b [.pointer (some ⟨gb,0,none⟩),y.1,.slice (some ⟨bn,0,none⟩) g.length cn,.slice ach (chL T g.length).length cch,cuv] 123),(901,.row 3 1 y.1 y.2.1.length (y.2.1.map zb)),(902,.row 27 1 cuv y.2.2.1.length y.2.2.1),(903,RowsP zb 3 y.2.2.1 rows2),(904,NodP bn y.2.2.2.1 59),(907,RowsCP 2 85 y.2.2.2.2.1 y.2.2.2.2.2.1),(909,RowsP zb 3 has y.2.2.2.2.2.2)]) [(0,some (900,0)),(139,some (7000,0)),(141,some (900,0))] call55 O iA j1 (fun w hI=>xc O O (ih _ cn' ov3 ol3 rv3 rows2 nd3 dt uc3 al3 w (dI.child fg) (dc.child hw.ht fm) gO d9 (TopW.child hw.ht fm dz) tO eZ (fun r hr=>zjT (zdU f g T of1 (pw i) i) rows (fun r hr=>by have:=fS r hr;have:=zgO f g T of1 (pw i) i;omega) r (by rw[eh];exact hr)) (hG.keep hI.k2 fun q hd _ h=>hC q h hd) (fun j hj=>(hP j hj).keep (zjO hY) hI.k2 fun q hd _ h=>hC q h hd) (ed.keep (zP zc) hI.k2 fun q hd _ h=>hC q h hd) (hI.held O O O) (fun q hd=>by have:=hD q hd;have h3:W.heap.size<=w.heap.size:=(hI.k2).size;omega) (hI.offE 2 O O hD hC))) ?_);rintro _ ⟨ov4,ol4,rv4,nd4,gP,uc4,al4⟩ ⟨rfl,fp,fq⟩;refine Va 7 O tO (V.back ⟨s+1,ov4,ol4,rv4,nd4,gP,uc4,al4⟩ j2 j3 ⟨tO,fp,by rw[ze fg,zuq,zsZ];simp only[zur,List.flatMap_nil,zu1];rw[<- zvF];exact fq⟩ tZ 0 O O)
 obtain rfl:s=cs.length:=tO
 have dl:(((chT T i).take cs.length).flatMap (zfh T m)).length+1=(zfh T (m+1) i).length:=by
  rw[eY,zsW];show _=(i::(chT T i).flatMap (zfh T m)).length;rw[ztk]
 refine Vs 4 O (zsy fun w hI tmps=>?_);have gQ:GBack (zjP b gb bn cn g.length ofv (.slice ach (chL T g.length).length cch) cuv ofl rv rows ndc da ucs has als) ([(900,.own b (rnm gb ov3 (.slice (some ⟨bn,0,none⟩) g.length cn) (.slice ach (chL T g.length).length cch) cuv) 123),(902,.row 27 1 cuv rv3.length rv3),(903,RowsP zb 3 rv3 rows2)]++[(901,.row 3 1 ov3 ol3.length (ol3.map zb)),(904,NodP bn nd3 59),(907,RowsCP 2 85 dt uc3),(909,RowsP zb 3 has al3)]) W w:=hI.back 2 rfl rfl rfl rfl;have ej:Held ((950,CloP b cls2)::zhO b gb ov3 (.slice (some ⟨bn,0,none⟩) g.length cn) (.slice ach (chL T g.length).length cch) cuv rv3 rows2) w:=hI.held rfl rfl rfl;have ec:CloOk b w cls2:=(ej.1 _ (zsV ..)).1;refine zlI (fn:=Tryz.f55) O b gb ov3 (.slice (some ⟨bn,0,none⟩) g.length cn) (.slice ach (chL T g.length).length cch) cuv rows (zdU f g T of1 (pw i) i) (fun p hp=>?_) (fun q r hr=>ez _ (by have:=zgO f g T of1 (pw i) i;have:=List.length_take_le q (zdU f g T of1 (pw i) i);rw[ztl];omega) r hr) w (fun q=>HS (zhO b gb ov3 (.slice (some ⟨bn,0,none⟩) g.length cn) (.slice ach (chL T g.length).length cch) cuv rv3 rows2) q\/w.heap.size<=q) (fun q hq=>.inr hq) (fun rv5 w5 ft gR gS gT=>?_) (zdU f g T of1 (pw i) i).length cls2 rv3 w (ztg _) (by rw[zsW];exact dS) tO (by rw[zsW,eh];exact⟨fun x hx=>ej.1 x (zsU _ hx),(zvh.1 ej.2).2⟩) ec (fun c hc=>?_) i3 (by rw[zsW,eh];exact fun x hx=>.inl hx)
 .
  unfold zdU at hp;rcases zta.1 hp with hp | hp
  .
   unfold zan at hp;rw[zsW]at hp;obtain⟨p',gU,rfl⟩:=zv6.1 hp;have:=dK p' gU;show p'.1.var.toNat<_;omega
  split at hp
  .
   rename_i hd;obtain⟨_,dQ,_⟩:=hw.df.dfn i hi hd;have fC:=(zt5.1 dQ).1;rw[zt9]at hp;subst hp;show (zO f g i).toNat<_;omega
  cases hp
 .
  refine⟨.tuple #[],rfl,(ov3,ol3,rv5,nd3,dt,uc3,al3),⟨rfl,ft,?_⟩,(gQ.join ⟨gS.mono fun q hq h=>h.resolve_right tO,gR,fun x hx q hq=>gT q ⟨x,hx,hq⟩⟩).perm zoo⟩;rw[<- dl,zvG _ 1,<- zvF];exact d9
 have hb:=ec c hc;have fP:=(zvh.1 ej.2).1;refine⟨?_,?_⟩
 .
  rintro (⟨x,hx,hq⟩ | hq)
  . exact fP x hx _ ⟨c,hc,.inl rfl⟩ hq
  have:=hb.1.lt;omega
 rintro (⟨x,hx,hq⟩ | hq)
 . exact fP x hx _ ⟨c,hc,.inr rfl⟩ hq
 have:=hb.2.lt;omega
open Go.GL
inductive Pth (G:List Nd):Nat->Nat->Prop
 | refl (i:Nat):Pth G i i
 | step {i j k:Nat} {x:Nd}:G[i]?=some x->((j:Int)=x.next\/(j:Int)=x.other)->Pth G j k->Pth G i k
theorem Pth.trans {G:List Nd} (h:Pth G i j) (h':Pth G j k):Pth G i k:=by
 induction h with
 | refl=>exact h'
 | step hx he _ ih=>exact .step hx he (ih h')
theorem Pth.one {G:List Nd} (hx:G[i]?=some x) (h:(j:Int)=x.next\/(j:Int)=x.other):Pth G i j:=.step hx h (.refl _)
structure LayP (G:List Nd) (n W e:Nat):Prop where
 fr:∀ j,j<W->Pth G n (n+j)
 to:∀ j,j<W->Pth G (n+j) e
 bk:∀ (j:Nat) x,j<W->G[n+j]?=some x->∀ t:Nat,(t:Int)=x.next\/(t:Int)=x.other->t<=n+j->t=e\/∃ y,G[t]?=some y/\y.kind=5
theorem LayP.append {G:List Nd} {n W1 W2 e e':Nat} (h1:LayP G n W1 e') (h2:LayP G (n+W1) W2 e) (hw:1<=W1) (he:e'=n+W1/\1<=W2\/e'=e/\W2=0):LayP G n (W1+W2) e:=by
 have hY:∀ j,j<W1->Pth G (n+j) e:=fun j hj=>by
  rcases he with⟨he,h⟩ | ⟨he,_⟩
  . exact(h1.to j hj).trans (he ▸ h2.to 0 h)
  exact he ▸ h1.to j hj
 refine⟨fun j hj=>?_,fun j hj=>?_,fun j x hj hx t ht hC=>?_⟩
 .
  by_cases h:j<W1
  . exact h1.fr j h
  have h3:=h1.to 0 tO;rcases he with⟨he,_⟩ | ⟨_,h4⟩
  .
   have h5:=h2.fr (j - W1) tO;rw[show n+W1+(j - W1)=n+j by omega]at h5;exact h3.trans (he ▸ h5)
  omega
 .
  by_cases h:j<W1
  . grind
  have h5:=h2.to (j - W1) tO
  grind
 by_cases h:j<W1
 .
  rcases h1.bk j x h hx t ht hC with h3 | h3
  . omega
  grind
 have e1:n+j=n+W1+(j - W1):=tO;rw[e1]at hx hC;exact h2.bk (j - W1) x tO hx t ht hC
theorem zne (l:List St):plainL l=true->∀ (a n e:Nat) (G:List Nd),CtxG G n (layL l a n e)->LayP G n (widL l) e:=by
 induction l using zqD with
 | h l ih =>
 intro hp
 have key:∀ r:List St,(∀ x ∈ r,x ∈ l)->∀ (a n e:Nat) (G:List Nd),CtxG G n (layL r a n e)->LayP G n (widL r) e:=by
  intro r;induction r with
  | nil=>intro _ a n e G _;exact⟨fun j hj=>by simp[widL]at hj,fun j hj=>by simp[widL]at hj,fun j x hj=>by simp[widL]at hj⟩
  | cons s r ihr =>
   intro hm a n e G hG;have hs:=yU hp s (hm s (zsV ..));have dg:=hs;rw[s.plainB_eq,ztA,ztA]at hs;have h1:=(ih s (hm s (zsV ..))).1 hs.1.2;have h2:=(ih s (hm s (zsV ..))).2 hs.2;have hw:=s.wid_eq;rw[layL]at hG;rw[widL]
   have hY:(s.lay a n (if r.isEmpty then e else n+s.wid)).length=s.wid:=by
    have h1:=zB [s] (by rw[plainL,dg];rfl) a n (if r.isEmpty then e else n+s.wid);simpa[layL,widL] using h1
   have hR:=ihr (fun y hy=>hm y iu) _ (n+s.wid) e G (hG.right tO)
   have db:(if r.isEmpty then e else n+s.wid)=n+s.wid/\1<=widL r\/(if r.isEmpty then e else n+s.wid)=e/\widL r=0:=by
    cases hre:r.isEmpty
    . exact .inl ⟨tR,qa hre⟩
    refine .inr ⟨tR,?_⟩;rw[zuM]at hre;rw[hre];rfl
   replace hG:=hG.left;generalize (if r.isEmpty then e else n+s.wid)=e' at hG db hY;refine LayP.append ?_ hR tO db;clear db hR;rw[s.lay_eq]at hG hY;split at hG
   .
    rename_i a3;rw[zt1 i5]at hw;have dh:=zB s.thn hs.1.2 (a+1) (n+1) e';have hx:=hG.head;have t1:=h1 _ _ _ G hG.tail.left;have t2:=h2 _ _ _ G (hG.tail.right tO)
    have c1:s.thn.isEmpty=true/\widL s.thn=0\/s.thn.isEmpty=false/\1<=widL s.thn:=by
     cases ht:s.thn.isEmpty
     . exact .inr ⟨rfl,qa ht⟩
     rw[zuM]at ht;rw[ht];exact .inl x1
    have c2:s.els.isEmpty=true/\widL s.els=0\/s.els.isEmpty=false/\1<=widL s.els:=by
     cases ht:s.els.isEmpty
     . exact .inr ⟨rfl,qa ht⟩
     rw[zuM]at ht;rw[ht];exact .inl x1
    have hn:(s.thn.isEmpty=true->Pth G n e')/\(s.thn.isEmpty=false->Pth G n (n+1)):=⟨fun h=>Pth.one hx (.inl tD),fun h=>Pth.one hx (.inl tD)⟩;have ho:(s.els.isEmpty=false->Pth G n (n+1+widL s.thn)):=fun h=>Pth.one hx (.inr tD);refine⟨fun j hj=>?_,fun j hj=>?_,fun j x hj hC t ht da=>?_⟩
    .
     by_cases j0:j=0
     . subst j0;exact .refl _
     by_cases dc:j<=widL s.thn
     .
      have h3:=t1.fr (j - 1) tO;rw[show n+1+(j - 1)=n+j by omega]at h3;exact(hn.2 (c1.resolve_left tO).1).trans h3
     have h3:=t2.fr (j - 1 - widL s.thn) tO;rw[show n+1+widL s.thn+(j - 1 - widL s.thn)=n+j by omega]at h3;exact(ho (c2.resolve_left tO).1).trans h3
    .
     by_cases j0:j=0
     .
      subst j0;rcases c1 with c1 | c1
      . grind
      exact(hn.2 c1.1).trans (t1.to 0 c1.2)
     by_cases dc:j<=widL s.thn
     .
      have h3:=t1.to (j - 1) tO
      grind
     have h3:=t2.to (j - 1 - widL s.thn) tO
     grind
    by_cases j0:j=0
    .
     subst j0;rw[zvK,hx]at hC;cases hC;dsimp only at ht;refine .inl ?_;rcases ht with ht | ht<;>split at ht<;>omega
    by_cases dc:j<=widL s.thn
    .
     have e1:n+j=n+1+(j - 1):=tO;rw[e1]at hC da;exact t1.bk (j - 1) x tO hC t ht da
    have e1:n+j=n+1+widL s.thn+(j - 1 - widL s.thn):=tO;rw[e1]at hC da;exact t2.bk (j - 1 - widL s.thn) x tO hC t ht da
   rename_i a3;split at hG
   .
    rename_i a4;rw[zt2 a4]at hw;rw[zt1 a3,zt2 a4,ztk,ztk,zB _ hs.1.2]at hY;have hx:=hG.head;have hy:=hG.tail.head;have t1:=h1 _ _ _ G hG.tail.tail
    have c1:s.thn.isEmpty=true/\widL s.thn=0\/s.thn.isEmpty=false/\1<=widL s.thn:=by
     cases ht:s.thn.isEmpty
     . exact .inr ⟨rfl,qa ht⟩
     grind
    have p1:Pth G n (n+1):=Pth.one hx (.inl rfl);have p2:Pth G (n+1) e':=Pth.one hy (.inr rfl);have p3:s.thn.isEmpty=false->Pth G (n+1) (n+2):=fun h=>Pth.one hy (.inl tD);refine⟨fun j hj=>?_,fun j hj=>?_,fun j x hj hC t ht da=>?_⟩
    .
     match j with
     | 0=>exact .refl _
     | 1=>exact p1
     | j+2 =>
      have h3:=t1.fr j tO;rw[show n+2+j=n+(j+2) by omega]at h3;exact p1.trans ((p3 (c1.resolve_left tO).1).trans h3)
    .
     match j with
     | 0=>exact p1.trans p2
     | 1=>exact p2
     | j+2 =>
      have h3:=t1.to j tO;rw[show n+2+j=n+(j+2) by omega]at h3;exact h3.trans p2
    match j with
    | 0 =>
     rw[zvK,hx]at hC;cases hC;dsimp only at ht;omega
    | 1 =>
     rw[hy]at hC;cases hC;dsimp only at ht;rcases ht with ht | ht
     . grind
     omega
    | j+2 =>
     have e1:n+(j+2)=n+2+j:=tO;rw[e1]at hC da;rcases t1.bk j x tO hC t ht da with h3 | h3
     . grind
     grind
   rename_i a4;rw[zt1 a3,zt1 a4,ztc]at hY;have hx:=hG.head;refine⟨fun j hj=>?_,fun j hj=>?_,fun j x hj hC t ht da=>?_⟩
   .
    obtain rfl:j=0:=tO;exact .refl _
   .
    obtain rfl:j=0:=tO;exact Pth.one hx (.inl O)
   grind
 exact key l (fun x h=>h)
theorem Valid.ways (V:Valid f):(∀ i,i<(zd f).length->Pth (zd f) 0 i/\Pth (zd f) i ((zd f).length - 1))/\∀ (i:Nat) x,(zd f)[i]?=some x->∀ t:Nat,(t:Int)=x.next\/(t:Int)=x.other->t<=i->∃ y,(zd f)[t]?=some y/\y.kind=5:=by
 have hY:=yA f V.plain;have da:=zB f.body V.plain 0 1 (1+widL f.body)
 have hG:CtxG (zd f) 1 (layL f.body 0 1 (1+widL f.body)):=by
  intro i x hx;have hi:=(zt5.1 hx).1;unfold zd;rw[show 1+i=i+1 by omega,zux,zth hi];exact hx
 have hL:=zne f.body V.plain 0 1 (1+widL f.body) (zd f) hG;have h0:(zd f)[0]?=some (⟨0,-1,1,-1⟩:Nd):=rfl
 have hE:(zd f)[1+widL f.body]?=some (⟨1,-1,-1,-1⟩:Nd):=by
  unfold zd;rw[List.getElem?_cons,zt1 tO,zti tO,da,show 1+widL f.body - 1 - widL f.body=0 by omega];rfl
 have p0:Pth (zd f) 0 1:=Pth.one h0 (.inl rfl)
 have pe:Pth (zd f) 1 (1+widL f.body):=by
  by_cases hw:widL f.body=0
  . rw[hw];exact .refl _
  exact hL.to 0 tO
 refine⟨fun i hi=>?_,fun i x hx t ht hC=>?_⟩
 .
  rw[show (zd f).length - 1=1+widL f.body by omega];by_cases i0:i=0
  . subst i0;exact⟨.refl _,p0.trans pe⟩
  by_cases ie:i=1+widL f.body
  . subst ie;exact⟨p0.trans pe,.refl _⟩
  have a1:=hL.fr (i - 1) tO;have a2:=hL.to (i - 1) tO;rw[show 1+(i - 1)=i by omega]at a1 a2;exact⟨p0.trans a1,a2⟩
 have hi:=(zt5.1 hx).1;by_cases i0:i=0
 . grind
 by_cases ie:i=1+widL f.body
 . grind
 rw[show i=1+(i - 1) by omega]at hx hC;rcases hL.bk (i - 1) x tO hx t ht hC with h | h
 . omega
 exact h
structure NdOk (n i:Int) (x:Nd):Prop where
 k0:i=0->x.kind=0
 k1:i=n - 1->x.kind=1
 k2:0<i/\i<n - 1->2<=x.kind/\x.kind<=5
 n0:i=n - 1->x.next=-1
 n1:i<n - 1->1<=x.next/\x.next<=n - 1
 o1:x.kind=3\/x.kind=5->1<=x.other/\x.other<=n - 1
 o0:¬ (x.kind=3\/x.kind=5)->x.other=-1
 a0:i=0\/i=n - 1->x.at_=-1
 a1:0<i/\i<n - 1->0<=x.at_
structure Formed (g:List Nd):Prop where
 lo:2<=g.length
 hi:g.length<=2050
 ok:∀ (j:Nat) x,g[j]?=some x->NdOk g.length j x
theorem zhS {n:Int} (hC:∀ (j:Nat) x,j<i->g[j]?=some x->NdOk n j x) (he:g[i]?=some x) (h:NdOk n i x):∀ (j:Nat) y,j<i+1->g[j]?=some y->NdOk n j y:=by
 grind
theorem zci (k n:Int) (c:Nat) (w:World) (hB:Blk w c [.int .i64 n] 3) :
  Calls prog 141 #[.int .i64 k,.pointer (some ⟨c,0,none⟩)] w (Ret fun r w'=>r=.bool (decide (1<=k/\k<n))/\Ext w w'):=by
 have hE:=Keep.refl (fun _=>False) w;refine zqr func141 O ntmps141 O (Gs 10 O (G.sp 6 O (fun h1=>?_) (fun h1=>?_)))
 . refine Gs 1 O (zqk O tg3 (hB.cells 0 _ O) (Gs 6 O (zoU results141 O ⟨_,rfl,tD,hE⟩)))
 refine Gs 8 O (zoU results141 O ⟨_,rfl,tD,hE⟩)
theorem zfc (g:List Nd) (gv:Value) (D:Nat->Prop) (W:World) (hg:SlR 4 RNd D W gv g) :
  Calls prog 97 #[.agg #[gv]] W (Ret fun r w'=>(∃ b:Bool,r=.bool b/\(b=true ↔ Formed g))/\Ext W w'):=by
 obtain⟨ag,cg,rfl⟩:=hg.form;have dl:=hg.max;refine zqq func97 O ntmps97 O (V.inn (Vs 2 O (V.box 1 O O (fun b1=>?_))));refine Vs 8 O (V.alloc 3 tz3 O O (fun b3=>?_));refine Vs 9 O (V.sp 15 O (fun a1=>?_) (fun a1=>?_))
 . refine Vs 13 O (zoV tr97 O (fun w hI=>⟨_,rfl,⟨_,rfl,⟨fun h=>tD,fun h=>by have:=h.lo;omega⟩⟩,hI.k0⟩))
 refine Vs 5 O (zoE O (fun a2=>?_) (fun a2=>?_))
 . refine Vs 7 O (zoV tr97 O (fun w hI=>⟨_,rfl,⟨_,rfl,⟨fun h=>tD,fun h=>by have:=h.hi;omega⟩⟩,hI.k0⟩))
 refine Vs 18 O (zrl (σ:=Nat) [3,4,21,22] [3] [3] O (fun e i=>(23,.int .i64 i)::e) (fun e i=>e) (fun i=>i<=g.length/\∀ (j:Nat) x,j<i->g[j]?=some x->NdOk g.length j x) (fun i=>g.length - i) 0 j2 j3 j1 j1 j1 UD ?_);rintro i ⟨hi,hY⟩;refine Vs 6 O (zoE O (fun dg=>?_) (fun dg=>?_))
 .
  refine Vs 7 O (zri 1000 0 i tO hg O O O (fun x dm dr dt da dh db dc=>?_));obtain rfl:=dc;refine zqQ 1000 tR34 ts65 O db tO _ rfl O ?_;have hC:¬ NdOk g.length i x->(false=true ↔ Formed g):=fun h=>⟨fun h=>tD,fun hF=>absurd (hF.ok i x da) h⟩;refine Vs 1 O (V.alloc 6 tz65 O O (fun b6=>?_));refine Vs 5 O (zrm (σ:=Unit) [3,4,5,6,21,22,23] [3,6] [3,6] O (fun e u=>(7,.bool (decide (x.kind=0\/x.kind=1)))::e) (fun e u=>e) (fun u=>True) j1 j1 ?_ ?_)
  .
   refine Vs 5 O (V.sp 31 O (fun k1_=>?_) (fun k1_=>?_))
   . refine Vs 6 O (zoS () Uu j3 trivial 0 O O)
   refine Vs 6 O (zoS () Uu j3 trivial 0 O O)
  rintro u _;refine Vs 2 O (zrm (σ:=Unit) [3,4,5,6,7,21,22,23] [3,6] [3,6] O (fun e u=>(8,.bool (decide (x.kind=3\/x.kind=5)))::e) (fun e u=>e) (fun u=>True) j1 j1 ?_ ?_)
  .
   refine Vs 5 O (V.sp 39 O (fun k1_=>?_) (fun k1_=>?_))
   . refine Vs 6 O (zoS () Uu j3 trivial 0 O O)
   refine Vs 6 O (zoS () Uu j3 trivial 0 O O)
  rintro u _;refine Vs 2 O (zrm (σ:=Unit) [3,4,5,6,7,8,21,22,23] [3,6] [3,6] O (fun e u=>(9,.bool (decide (0<=x.kind/\x.kind<=5)))::e) (fun e u=>e) (fun u=>True) j1 j1 ?_ ?_)
  .
   refine Vs 3 O (V.sp 45 O (fun k1_=>?_) (fun k1_=>?_))
   . refine Vs 14 O (zoS () Uu j3 trivial 0 O O)
   refine Vs 3 O (V.sp 48 O (fun k2_=>?_) (fun k2_=>?_))
   . refine Vs 11 O (zoS () Uu j3 trivial 0 O O)
   refine Vs 5 O (V.sp 53 O (fun k3_=>?_) (fun k3_=>?_))
   . refine Vs 6 O (zoS () Uu j3 trivial 0 O O)
   refine Vs 6 O (zoS () Uu j3 trivial 0 O O)
  rintro u _;refine Vs 3 O (zrm (σ:=Unit) [3,4,6,7,8,21,22,23] [3,6] [3,6] O (fun e u=>(58,.bool (decide (¬ (0<=x.kind/\x.kind<=5)\/¬ ((i:Int)=0 ↔ x.kind=0)\/¬ ((i:Int)=(g.length:Int) - 1 ↔ x.kind=1))))::e) (fun e u=>e) (fun u=>True) j1 j1 ?_ ?_)
  .
   refine Vs 3 O (zqh O (fun w hI=>zpS O j6) (Vs 3 O (zoE O (fun k1_=>?_) (fun k1_=>?_))))
   . refine Vs 1 O (zoS () Uu j3 trivial 0 O O)
   refine Vs 11 O (zoE O (fun k2_=>?_) (fun k2_=>?_))
   . refine Vs 1 O (zoS () Uu j3 trivial 0 O O)
   refine Va 11 O tO (zoS () Uu j3 trivial 0 O O)
  rintro u _;refine Vs 1 O (zoE O (fun c1=>?_) (fun c1=>?_))
  . refine Vs 12 O iC
  refine Vs 1 O (zrm (σ:=Unit) [3,4,6,8,21,22,23] [3,6] [3,6] O (fun e u=>(75,.bool (decide (((x.kind=0\/x.kind=1)/\x.at_ ≠ -1)\/(¬ (x.kind=0\/x.kind=1)/\x.at_<0))))::e) (fun e u=>e) (fun u=>True) j1 j1 ?_ ?_)
  .
   refine Vs 4 O (V.sp 77 O (fun k1_=>?_) (fun k1_=>?_))
   .
    refine Vs 7 O (zoE O (fun k2_=>?_) (fun k2_=>?_))
    . refine Vs 1 O (zoS () Un j3 trivial 0 O O)
    refine Vs 2 O (zqh O (fun w hI=>zpS O j6) (Vs 1 O (V.sp 84 O (fun k3_=>?_) (fun k3_=>?_))))
    . refine Vs 6 O (zoS () Un j3 trivial 0 O O)
    refine Vs 6 O (zoS () Un j3 trivial 0 O O)
   refine Vs 10 O (zqh O (fun w hI=>zpS O j6) (Vs 1 O (V.sp 84 O (fun k2_=>?_) (fun k2_=>?_))))
   . refine Vs 6 O (zoS () Un j3 trivial 0 O O)
   refine Vs 6 O (zoS () Un j3 trivial 0 O O)
  rintro u _;refine Vs 1 O (zoE O (fun c2=>?_) (fun c2=>?_))
  . refine Vs 12 O iC
  refine Vs 1 O (zrm (σ:=Unit) [3,4,6,8,21,22,23] [3,6] [3,6] O (fun e u=>(89,.bool (decide ((x.kind=1/\x.next ≠ -1)\/(x.kind ≠ 1/\¬ (1<=x.next/\x.next<(g.length:Int))))))::e) (fun e u=>e) (fun u=>True) j1 j1 ?_ ?_)
  .
   refine Vs 6 O (V.sp 93 O (fun k1_=>?_) (fun k1_=>?_))
   .
    refine Vs 7 O (zoE O (fun k2_=>?_) (fun k2_=>?_))
    . refine Vs 1 O (zoS () Un j3 trivial 0 O O)
    refine Vs 5 O (V.sp 101 O (fun k3_=>?_) (fun k3_=>?_))
    . refine Vs 3 O (zrI call141 O (fun w hI=>zci x.next g.length b3 w (hI.at 3 O)) YP)
    refine Vs 8 O (zoS () Un j3 trivial 0 O O)
   refine Vs 13 O (V.sp 101 O (fun k2_=>?_) (fun k2_=>?_))
   . refine Vs 3 O (zrI call141 O (fun w hI=>zci x.next g.length b3 w (hI.at 3 O)) YP)
   refine Vs 8 O (zoS () Un j3 trivial 0 O O)
  rintro u _;refine Vs 1 O (zoE O (fun c3=>?_) (fun c3=>?_))
  . refine Vs 12 O iC
  refine Vs 1 O (zrm (σ:=Unit) [3,4,21,22,23] [3] [3] O (fun e u=>(108,.bool (decide (((x.kind=3\/x.kind=5)/\¬ (1<=x.other/\x.other<(g.length:Int)))\/(¬ (x.kind=3\/x.kind=5)/\x.other ≠ -1))))::e) (fun e u=>e) (fun u=>True) j1 j1 ?_ ?_)
  .
   refine Vs 4 O (V.sp 110 O (fun k1_=>?_) (fun k1_=>?_))
   .
    refine Vs 3 O (zrI call141 O (fun w hI=>zci x.other g.length b3 w (hI.at 3 O)) (zqh O (fun w hI=>zpS O j6) (Vs 4 O (zoE O (fun k2_=>?_) (fun k2_=>?_)))))
    . refine Vs 1 O (zoS () Un j3 trivial 0 O O)
    refine Vs 2 O (zqh O (fun w hI=>zpS O j6) (Vs 1 O (V.sp 119 O (fun k3_=>?_) (fun k3_=>?_))))
    . refine Vs 6 O (zoS () Un j3 trivial 0 O O)
    refine Vs 6 O (zoS () Un j3 trivial 0 O O)
   refine Vs 12 O (zqh O (fun w hI=>zpS O j6) (Vs 1 O (V.sp 119 O (fun k2_=>?_) (fun k2_=>?_))))
   . refine Vs 6 O (zoS () Un j3 trivial 0 O O)
   refine Vs 6 O (zoS () Un j3 trivial 0 O O)
  rintro u _;refine Vs 1 O (zoE O (fun c4=>?_) (fun c4=>?_))
  . refine Vs 12 O iC
  refine Va 8 O tO (V.back (i+1) j2 j3 ⟨tO,zhS hY da ⟨tO,tO,tO,tO,tO,tO,tO,tO,tO⟩⟩ tO 0 O O)
 refine Vs 11 O (zoV tr97 O (fun w hI=>⟨_,rfl,⟨_,rfl,⟨fun _=>⟨tO,tO,fun j x hx=>hY j x (by have:=(zt5.1 hx).1;omega) hx⟩,fun _=>rfl⟩⟩,hI.k0⟩))
theorem zhT (n:Int) (es:List (Int × Int)) (ev:Value) (D:Nat->Prop) (w:World) (hY:SlR 2 xq D w ev es) (hC:es.length<=1048576) (hb:∀ e ∈ es,bd e):Calls prog 143 #[.int .i64 n,ev] w (Ret fun u w'=>(∃ s a c,zaS es s/\u=.agg #[.int .i64 n,.slice a (List.length s) c]/\SlR 2 xq (fun b=>w.heap.size<=b) w' (.slice a s.length c) s)/\Ext w w'):=by
 refine(zf1 n es ev D w hY hC hb).mono fun e w'=>?_;rintro⟨_,rfl,s,v,h1,rfl,h2,h3⟩;obtain⟨a,c,rfl⟩:=h2.form;exact⟨_,rfl,⟨s,a,c,h1,rfl,h2⟩,h3⟩
theorem zfd (n:Int) (es:List (Int × Int)) (ev:Value) (D:Nat->Prop) (W:World) (hC:SlR 2 xq D W ev es) :
  Calls prog 98 #[.agg #[.int .i64 n,ev]] W (Ret fun r w'=>(∃ m a s c,r=.tuple #[.agg #[.int .i64 m,.slice a (List.length s) c],.int .i64 (Gr.check n es)]/\(Gr.check n es ≠ 0->m=0/\a=none/\c=0/\s=[])/\(Gr.check n es=0->m=n/\zaS es s)/\SlR 2 xq (fun b=>W.heap.size<=b) w' (.slice a s.length c) s)/\Ext W w'):=by
 obtain⟨ae,ce,rfl⟩:=hC.form;refine zqq func98 O ntmps98 O (V.inn (Vs 2 O (V.box 1 O O (fun b1=>?_))));refine V.alloc 2 tz126 O O (fun b2=>(Vs 7 O (zr2 call142 O (fun w hI=>zga n es _ D w Jo) (Vs 9 O (zoE O (fun c0=>?_) (fun c0=>?_))))))
 . refine Vs 2 O (zru [Value.int IntKind.i64 0,Value.slice none 0 0] [(0,1),(1,1)] [] O O (fun _=>tK) (Vs 7 O (zp7 results98 tg126 ts126 O O O O (fun w hI=>⟨_,rfl,⟨0,none,[],0,rfl,fun _=>⟨rfl,rfl,rfl,rfl⟩,fun h=>absurd h c0,SlR.nil⟩,hI.k0⟩))))
 have h0:Gr.check n es=0:=tO
 have hb:es.length<=1048576/\∀ e ∈ es,bd e:=by
  unfold Gr.check at h0;split at h0
  . cases h0
  split at h0
  . cases h0
  split at h0
  .
   rename_i h1 h2 h3;refine⟨tO,fun e he=>?_⟩;have:=ztX.1 h3 e he;unfold Gr.okE at this;simp at this;unfold bd;omega
  cases h0
 refine Vs 8 O (zr4 call143 O (fun w hI=>zhT n es _ D w Jo hb.1 hb.2) ?_);rintro rr w1 w2 hY da ⟨s,a,c,hs,rfl,db⟩ dc;have dg:W.heap.size<=w1.heap.size:=hY.k0.size;refine Vs 5 O (V.dat 900 0 O O O (db) (fun b hb _ hs=>tD) (zp7 results98 tg126 ts126 O O O O (fun w hI=>⟨_,rfl,⟨n,a,s,c,tD,fun h=>absurd h0 h,fun _=>⟨rfl,hs⟩,(hI.at 900 O).1.wide zU (fun b hb=>tO)⟩,hI.k1⟩)))
def zgT (i:Int) (to:Int):List (Int × Int):=if 0<=to then [(i,to)] else []
def xy (g:List Nd) (k:Nat):List (Int × Int):=(List.range k).flatMap fun i:Nat=>zgT i (yP g i).next++zgT i (yP g i).other
theorem zhU (h:g[k]?=some x):xy g (k+1)=xy g k++(zgT k x.next++zgT k x.other):=by
 unfold xy;rw[zvn,zuq,zut,jl h]
theorem zdW (i to:Int):(zgT i to).length<=1:=by unfold zgT;split<;>simp
theorem zcj (g:List Nd):∀ k,(xy g k).length<=2*k
 | 0=>by simp[xy]
 | k+1=>by
  have:=zcj g k;have h1:=zdW k (yP g k).next;have h2:=zdW k (yP g k).other;unfold xy at this ⊢;rw[zvn,zuq,zut,zsZ,zsZ];omega
def inL (g:List Nd) (i:Nat) (x:Nd) (q:Nat):List (Int × Int):=xy g i++(List.range q).flatMap fun j=>zgT i (edk x j)
theorem znf (g:List Nd) (i:Nat) (x:Nd) (q:Nat):(inL g i x q).length<=2*i+q:=by
 have:=zcj g i
 have key:∀ q,((List.range q).flatMap fun j=>zgT i (edk x j)).length<=q:=by
  intro q;induction q with
  | zero=>simp
  | succ q ih =>
   have h1:=zdW i (edk x q);rw[zvn,zuq,zut,zsZ];omega
 have:=key q;unfold inL;rw[zsZ];omega
theorem zlU (g:List Nd) (i:Nat) (x:Nd):inL g i x 0=xy g i:=by simp[inL]
theorem zlV (g:List Nd) (i:Nat) (x:Nd) (q:Nat):inL g i x (q+1)=inL g i x q++zgT i (edk x q):=by
 unfold inL;rw[zvn,zuq,zut,zu0]
theorem zng (h:g[i]?=some x):inL g i x 2=xy g (i+1):=by
 rw[zhU h];unfold inL;simp[zvn,edk]
theorem zfY (g:List Nd) (gv:Value) (D:Nat->Prop) (W:World) (hg:SlR 4 RNd D W gv g) :
  Calls prog 51 #[.agg #[gv]] W (Ret fun r w'=>(∃ m a s c e,r=.tuple #[.agg #[.int .i64 m,.slice a (List.length s) c],.int .i64 e]/\(¬ Formed g->e=1/\m=0/\s=[])/\(Formed g->e=Gr.check g.length (xy g g.length)/\(e ≠ 0->m=0/\s=[])/\(e=0->m=g.length/\zaS (xy g g.length) s))/\SlR 2 xq (fun b=>W.heap.size<=b) w' (.slice a s.length c) s)/\Ext W w'):=by
 obtain⟨ag,cg,rfl⟩:=hg.form;have dy:=hg.max;refine zqq func51 O ntmps51 O (V.inn (Vs 2 O (V.box 1 O O (fun b1=>?_))));refine V.alloc 2 tz126 O O (fun b2=>(Vs 7 O (zr4 call97 O (fun w hI=>zfc g _ D w (Tr1 hI.k0 hg)) ?_)));rintro rr w1 w2 dz dh ⟨b,rfl,hb⟩ dl;refine zqh O (fun w hI=>zpS O j6) (Vs 2 O (V.bool O (fun q=>?_) (fun q=>?_)))
 .
  have dm:¬ Formed g:=fun h=>by rw[hb.2 h]at q;cases q
  refine Vs 2 O (zru [Value.int IntKind.i64 0,Value.slice none 0 0] [(0,1),(1,1)] [] O O (fun _=>tK) (Vs 6 O (zp7 results51 tg126 ts126 O O O O (fun w hI=>⟨_,rfl,⟨0,none,[],0,1,rfl,fun _=>⟨rfl,rfl,rfl⟩,fun h=>absurd h dm,SlR.nil⟩,hI.k1⟩))))
 have hF:Formed g:=hb.1 tD;have dA:=hF.lo;have dB:=hF.hi;refine Vs 7 O (zru [Value.int IntKind.i64 0,Value.slice none 0 0] [(0,1),(1,1)] [(0,_)] O O (fun _=>tK) (V.alloc 4 tz126 O O (fun b4=>?_)));refine Vs 5 O (zqU 900 169 2 O (Vs 8 O (zrl (σ:=Nat × Value) [2,4,18,19] [2] [2,4] O (fun e ⟨i,rv⟩=>(20,.int .i64 i)::e) (fun e ⟨i,rv⟩=>(4,.own b4 [.int .i64 g.length,rv] 126)::(900,.row 169 2 rv (xy g i).length ((xy g i).flatMap qW))::e) (fun⟨i,rv⟩=>i<=g.length) (fun⟨i,rv⟩=>g.length - i) (0,_) j2 j3 j1 j1 j1 (zt6 _) ?_)));rintro⟨i,rv⟩ hi;refine Vs 6 O (zoE O (fun dr=>?_) (fun dr=>?_))
 .
  refine Vs 7 O (zri 1000 1 i tO hg O O O (fun x dC dD dE da dt db dc=>?_));obtain rfl:=dc;refine zqQ 1000 tR34 ts65 O db tO _ rfl O ?_;have hr:=zng da;refine zrk 900 O (e':=.row 169 2 rv (inL g i x 0).length ((inL g i x 0).flatMap qW)) (by rw[zlU]) (Vs 1 O (V.alloc 6 tz65 O O (fun b6=>?_)));refine Vs 10 O (zro 29 [(0,_),(1,_)] tR27 ts3 tz3 tS O O tK (fun b29=>?_));refine Vs 5 O (zrl (σ:=Nat × Value) [2,4,5,18,19,20,29,30] [2,29] [2,4] O (fun e ⟨q,rv⟩=>(31,.int .i64 q)::e) (fun e ⟨q,rv⟩=>(4,.own b4 [.int .i64 g.length,rv] 126)::(900,.row 169 2 rv (inL g i x q).length ((inL g i x q).flatMap qW))::e) (fun⟨q,rv⟩=>q<=2) (fun⟨q,rv⟩=>2 - q) (0,rv) j2 j3 j1 j1 j1 tO ?_);rintro⟨q,rv⟩ hq;have dF:=znf g i x q;have hY:=zlV g i x q;refine Vs 6 O (zoE O (fun du=>?_) (fun du=>?_))
  .
   refine Vs 6 O (zqh O (fun w hI=>zph tR27 ts3 O O O tO) (zqh O (fun w hI=>R.load tg3 O (zmC (hI.at 29 O) tO)) (Vs 9 O (zoE O (fun hz=>?_) (fun hz=>?_)))))
   .
    rw[show zgT i (edk x q)=[((i:Int),edk x q)] from zt2 hz]at hY;refine Vs 5 O (zru [Value.int IntKind.i64 0,Value.int IntKind.i64 0] [(0,1),(1,1)] [(0,_),(1,_)] O O (fun _=>tK) (zro 42 [(0,_)] tR124 ts169 tz169 tS O O tK (fun b42=>?_)));refine zqV 900 42 tu124 Tryz.el169 O tS O O tO tO (fun u900=>(Vs 1 O (zqX 900 O tO ?_)));rintro b9 c9 rfl hC;refine Va 8 O tO (zrk 900 O (e':=.row 169 2 (.slice (some ⟨b9,0,none⟩) ((inL g i x q).length+1) c9) (inL g i x (q+1)).length ((inL g i x (q+1)).flatMap qW)) (by rw[hY,zsZ,zuq];rfl) (V.back ⟨q+1,_⟩ j2 j3 tO tZ 0 O O))
   rw[show zgT i (edk x q)=[] from zt1 hz,zu1]at hY;refine zrk 900 O (e':=.row 169 2 rv (inL g i x (q+1)).length ((inL g i x (q+1)).flatMap qW)) (by rw[hY]) (Va 7 O tO (V.back ⟨q+1,rv⟩ j2 j3 tO tZ 0 O O))
  obtain rfl:q=2:=tO;refine zrk 900 O (e':=.row 169 2 rv (xy g (i+1)).length ((xy g (i+1)).flatMap qW)) (by rw[hr]) (Va 10 O tO (V.back ⟨i+1,rv⟩ j2 j3 tO tZ 0 O O))
 obtain rfl:i=g.length:=tO;refine Vs 8 O (zr4 call98 O (fun w hI=>zfd g.length (xy g g.length) rv (fun _=>True) w (zpL tO qW yB J4 (hI.at 900 O) (fun _ _=>trivial))) ?_);rintro rr w3 w4 dw dx ⟨m,a,s,c,rfl,h1,h2,hs⟩ dg;have dG:W.heap.size<=w3.heap.size:=dw.k1.size;refine Vs 7 O (V.dat 901 0 O O O (hs) (fun b hb _ hs=>tD) (zp7 results51 tg126 ts126 O O O O (fun w hI=>⟨_,rfl,⟨m,a,s,c,_,rfl,fun h=>absurd hF h,fun _=>⟨rfl,fun he=>⟨(h1 he).1,(h1 he).2.2.2⟩,h2⟩,(hI.at 901 O).1.wide zU (fun b hb=>tO)⟩,hI.k2⟩)))
theorem Formed.edge (h:Formed g) (hx:g[i]?=some x):∀ to,to=x.next\/to=x.other->0<=to->to<g.length:=by
 have h1:=h.ok i x hx;have hi:=(zt5.1 hx).1;have:=h.lo;intro to ht h0;rcases ht with rfl | rfl
 .
  by_cases e:(i:Int)=g.length - 1
  . have:=h1.n0 e;omega
  have:=h1.n1 tO;omega
 by_cases e:x.kind=3\/x.kind=5
 . have:=h1.o1 e;omega
 have:=h1.o0 e;omega
theorem zgU (hg:∀ (i:Nat) x,g[i]?=some x->∀ to,to=x.next\/to=x.other->0<=to->to<g.length) {e:Int × Int} (h:e ∈ xy g g.length):(0<=e.1/\e.1<g.length)/\0<=e.2/\e.2<g.length:=by
 unfold xy at h;obtain⟨j,hj,he⟩:=zv3.1 h;rw[zva]at hj;have hx:g[j]?=some g[j]:=zsR hj;have h1:=hg j _ hx;rw[jl hx]at he;unfold zgT at he;rcases zta.1 he with he | he<;>(split at he<;>simp at he;subst he;rename_i h0;dsimp only)
 . grind
 grind
theorem zfe (hl:g.length<=2050) (hg:∀ (i:Nat) x,g[i]?=some x->∀ to,to=x.next\/to=x.other->0<=to->to<g.length):Gr.check g.length (xy g g.length)=0:=by
 have:=zcj g g.length;unfold Gr.check;rw[zt1 tO,zt1 tO,zt2];rw[ztX];intro e he;have:=zgU hg he;unfold Gr.okE
 grind
theorem znh (l:List St):∀ (a n e N:Nat),1<=n->1<=e->n+widL l<=N->e<N->∀ x ∈ layL l a n e,(2<=x.kind/\x.kind<=5)/\(1<=x.next/\x.next<N)/\(x.kind=3\/x.kind=5->1<=x.other/\x.other<N)/\(¬ (x.kind=3\/x.kind=5)->x.other=-1)/\0<=x.at_:=by
 induction l using zqD with
 | h l ih =>
 have key:∀ r:List St,(∀ x ∈ r,x ∈ l)->∀ (a n e N:Nat),1<=n->1<=e->n+widL r<=N->e<N->∀ x ∈ layL r a n e,(2<=x.kind/\x.kind<=5)/\(1<=x.next/\x.next<N)/\(x.kind=3\/x.kind=5->1<=x.other/\x.other<N)/\(¬ (x.kind=3\/x.kind=5)->x.other=-1)/\0<=x.at_:=by
  intro r;induction r with
  | nil=>intro _ a n e N _ _ _ _ x hx;simp[layL]at hx
  | cons s r ihr =>
   intro hm a n e N da hY hN he x hx;have h1:=(ih s (hm s (zsV ..))).1;have h2:=(ih s (hm s (zsV ..))).2;have hw:=s.wid_eq;simp only[widL]at hN;rw[layL,zta]at hx;rcases hx with hx | hx
   .
    have hC:1<=(if r.isEmpty then e else n+s.wid)/\(if r.isEmpty then e else n+s.wid)<N:=by
     cases hr:r.isEmpty
     . have:=qa hr;simp;omega
     simp;omega
    generalize (if r.isEmpty then e else n+s.wid)=e' at hx hC;rw[s.lay_eq]at hx;split at hx
    .
     rename_i a3;rw[zt1 i5]at hw;rw[zt7,zta]at hx;rcases hx with rfl | hx | hx
     .
      dsimp only
      have c1:∀ z:Bool,(z=false->1<=widL s.thn)->1<=(if z then (e':Int) else (n+1:Nat))/\(if z then (e':Int) else (n+1:Nat))<N:=by
       intro z hz;cases z
       . have:=hz rfl;simp;omega
       simp;omega
      have c2:∀ z:Bool,(z=false->1<=widL s.els)->1<=(if z then (e':Int) else (n+1+widL s.thn:Nat))/\(if z then (e':Int) else (n+1+widL s.thn:Nat))<N:=by
       intro z hz;cases z
       . have:=hz rfl;simp;omega
       simp;omega
      exact⟨tO,c1 _ qa,fun _=>c2 _ qa,fun h=>absurd (.inl O) h,tO⟩
     . exact h1 _ _ _ N tO tO tO hC.2 x hx
     exact h2 _ _ _ N tO tO tO hC.2 x hx
    split at hx
    .
     rename_i a4;rw[zt2 a4]at hw;rw[zt7,zt7]at hx;rcases hx with rfl | rfl | hx
     .
      dsimp only;exact⟨tO,tO,fun h=>tO,fun _=>rfl,tO⟩
     .
      dsimp only;refine⟨tO,?_,fun _=>tO,fun h=>absurd (.inr O) h,tO⟩;cases hr:s.thn.isEmpty
      . have:=qa hr;simp;omega
      simp;omega
     exact h1 _ _ _ N tO tO tO tO x hx
    rw[zt9]at hx;subst hx;dsimp only;exact⟨tO,tO,fun h=>tO,fun _=>rfl,tO⟩
   exact ihr (fun y hy=>hm y iu) _ _ _ N tO hY tO he x hx
 exact key l (fun x h=>h)
theorem zd2 (V:Valid f):Formed (zd f):=by
 have hC:=yA f V.plain;have hY:=zB f.body V.plain 0 1 (1+widL f.body);have da:=V.ssize;have db:=xj f.body;refine⟨tO,tO,fun j x hx=>?_⟩;have hj:=(zt5.1 hx).1;unfold zd at hx;rw[List.getElem?_cons]at hx;split at hx
 .
  rename_i j0;cases hx;exact⟨fun _=>rfl,fun h=>tO,fun h=>tO,fun h=>tO,fun _=>tD,fun h=>tD,fun _=>rfl,fun _=>rfl,fun h=>tO⟩
 rename_i j0;by_cases hl:j - 1<widL f.body
 .
  rw[zth tO]at hx;obtain⟨h1,h2,h3,h4,h5⟩:=znh f.body 0 1 (1+widL f.body) (zd f).length tO tO tO tO x (zsS hx);exact⟨fun h=>tO,fun h=>tO,fun _=>h1,fun h=>tO,fun _=>tO,fun h=>tO,h4,fun h=>tO,fun _=>h5⟩
 rw[zti tO,hY,show j - 1 - widL f.body=0 by omega]at hx;cases hx;exact⟨fun h=>tO,fun _=>rfl,fun h=>tO,fun _=>rfl,fun h=>tO,fun h=>tD,fun _=>rfl,fun _=>rfl,fun h=>tO⟩
theorem zgV (hx:g[a]?=some x) (h:(b:Int)=x.next\/(b:Int)=x.other):((a:Int),(b:Int)) ∈ xy g g.length:=by
 unfold xy;refine zv3.2 ⟨a,zva.2 (zt5.1 hx).1,?_⟩;rw[jl hx,zta];unfold zgT;rcases h with h | h
 . grind
 grind
theorem zk1 {e:Int × Int} (h:e ∈ xy g g.length):∃ (a b:Nat) (x:Nd),e=((a:Int),(b:Int))/\g[a]?=some x/\((b:Int)=x.next\/(b:Int)=x.other):=by
 unfold xy at h;obtain⟨j,hj,he⟩:=zv3.1 h;rw[zva]at hj;have hx:g[j]?=some g[j]:=zsR hj;rw[jl hx]at he;unfold zgT at he;rcases zta.1 he with he | he<;>(split at he<;>simp at he;rename_i h0)
 . exact⟨j,(g[j]).next.toNat,_,tD,hx,.inl (Int.toNat_of_nonneg h0)⟩
 exact⟨j,(g[j]).other.toNat,_,tD,hx,.inr (Int.toNat_of_nonneg h0)⟩
end Go.Proofs.YtckdhgbepmpgiaaGreat
namespace Go.GL
theorem zsQ {n:Fm} {pos:Pos} (k:Nat) (hn:(hget H k,qK H k)=(some (.row t kk (.slice (some ⟨b,0,none⟩) m c) m xs),none)) (h:∀ sp:List Value,m<=c/\c<=9223372036854775807->V P n Q ks pos env A (hset H k (NodP b (xs++sp) t)) Bs):V P n Q ks pos env A H Bs:=by
 simp only[Prod.mk.injEq]at hn;intro hA w hI;obtain⟨sp,h1,h2,h3,h4⟩:=xr (show w.ownsRow 0 t kk (.slice (some ⟨b,0,none⟩) m c) m xs from hI.at k hn.1);exact h sp ⟨h2,h3⟩ (hA.res hn.1 hn.2) w (hI.set hn.1 i3 h1 NodP.loc (fun _ h=>h) fun q hq=>⟨.inl JJ,hI.low _ (zl hn.1) q JJ⟩)
theorem VI.offP {E:Hp} (hI:VI Bs H w) (hE:E.map (fun x=>hget H x.1)=E.map (fun x=>some x.2)) (k:Nat) {F:Nat->Prop} {p:World->Prop} (hk:hget H k=some (.dat F p)):∀ q,HS E q->¬ F q:=by
 rintro q ⟨x,hx,hq⟩ hf;exact hI.froz _ (zl hk) _ (zl (Has.of hE x hx)) q hf hq
theorem VI.lowE {E:Hp} (hI:VI Bs H w) (hE:E.map (fun x=>hget H x.1)=E.map (fun x=>some x.2)):∀ q,HS E q->q<w.heap.size:=fun q hq=>by
 obtain⟨x,hx,hq⟩:=zfJ hE hq;exact hI.low x hx q hq
theorem VI.offS {E:Hp} (hI:VI Bs H w) (hE:(E++E').map (fun x=>hget H x.1)=(E++E').map (fun x=>some x.2)) (hu:xX ((E++E').map (·.1))=true):∀ q,HS E q->¬ HS E' q:=by
 rintro q ⟨x,hx,hq⟩ ⟨y,hy,hC⟩;exact(zvg.1 (hI.pick (Has.of hE) hu).apart).2.2 x hx y hy q hq hC
end Go.GL
namespace Go.Proofs.YtckdhgbepmpgiaaGreat
open Go.GL Go.GL.Dom
theorem GrO.wide {D':Nat->Prop} (h:GrO D w f g b) (hD:∀ q,D q->D' q):GrO D' w f g b:=by
 obtain⟨v1,v2,v3,gv,sv,pv,h0,h1,h2,h3,h4,h5⟩:=h;exact⟨v1,v2,v3,gv,sv,pv,hD b h0,h1,⟨h2.vars.wide yG hD,h2.hatches.wide yN hD,h2.body.wide zf hD⟩,h3.wide zC hD,h4.wide zf hD,h5.wide (zP zc) hD⟩
theorem Valid.local (V:Valid f) {s:St} (hs:s ∈ preL f.body) (ha:s.act=0\/s.act=5):∃ x,f.vars[s.var.toNat]?=some x/\x.kind=0:=by
 obtain⟨last,h⟩:=zeB f.body true (zZ V.ok).2.2.2.1 s hs;obtain⟨h1,h2,h3,_,_⟩:=qn h
 have hl:xu f.vars s.var=true:=by
  unfold zH at h3;rcases ha with ha | ha<;>(simp[ha,qM]at h3;simp[h3])
 unfold xu at hl;split at hl
 . grind
 cases hl
theorem zfZ {vs:List Vr} (t:Tm):zA vs false t=true->∀ v ∈ yD t,0<=v/\v<(vs.length:Int):=by
 induction t using zqB with
 | h t ih =>
  intro h v hv;rw[yV,ztA,ztA]at h;rw[zad,zta]at hv;rcases hv with hv | hv
  .
   split at hv
   .
    rename_i e;rw[zt9]at hv;subst hv;have h1:=h.1.2;unfold zS at h1
    grind
   cases hv
  obtain⟨k,hk,hv⟩:=mentL_mem.1 hv;exact ih k hk (zX h.2 hk) v hv
theorem Valid.defLoc (V:Valid f) (j:Nat) (h:zcr f (yP (zd f) j)=true):∃ x,f.vars[(ya f (yP (zd f) j).at_).var.toNat]?=some x/\x.kind=0:=by
 have hk:(yP (zd f) j).kind=2:=by
  unfold zcr at h
  grind
 have ha:(ya f (yP (zd f) j).at_).act=0\/(ya f (yP (zd f) j).at_).act=5:=by
  unfold zcr at h
  grind
 cases hx:(zd f)[j]? with
 | none =>
  unfold yP at hk;rw[ztd,hx]at hk;cases hk
 | some x =>
  rw[zM hx]at hk ha ⊢;have h0:=V.gOk.at hx (.inl hk);exact V.local (zsS (qh h0.1 h0.2.1)) ha
theorem Valid.defOk (V:Valid f):DefOk f (zd f):=by
 refine⟨fun j hj hd=>?_,fun j=>?_,fun j v hv=>?_⟩
 .
  unfold zO at hd ⊢;by_cases e:zcr f (yP (zd f) j)=true
  . rw[zt2 e];exact V.defLoc j e
  grind
 .
  unfold zO;by_cases e:zcr f (yP (zd f) j)=true
  .
   rw[zt2 e]
   have hk:(yP (zd f) j).kind=2/\((ya f (yP (zd f) j).at_).act=0\/(ya f (yP (zd f) j).at_).act=5):=by
    unfold zcr at e
    grind
   cases hx:(zd f)[j]? with
   | none =>
    have hC:=hk.1;unfold yP at hC;rw[ztd,hx]at hC;cases hC
   | some x =>
    rw[zM hx]at hk ⊢;have h0:=V.gOk.at hx (.inl hk.1);have:=(V.step _ (zsS (qh h0.1 h0.2.1))).1.var hk.2;omega
  grind
 unfold rdV rdN at hv;split at hv
 .
  rename_i hb;have hY:=of_decide_eq_true hb;rw[Gr.compactL_mem,zac]at hv;cases hx:(zd f)[j]? with
  | none =>
   have:(yP (zd f) j).kind=1:=by unfold yP;rw[ztd,hx];rfl
   omega
  | some x =>
   rw[zM hx]at hv hY;have h0:=V.gOk.at hx tO;exact zfZ _ (V.step _ (zsS (qh h0.1 h0.2.1))).1.formed v hv
 cases hv
theorem Valid.pred0 (V:Valid f):zw (zd f) 0=[]:=by
 apply zuf.2;intro y hy;obtain⟨h1,h2⟩:=pred_mem.1 hy;have hx:=zsR h1;rw[zM hx]at h2;rcases h2 with h2 | h2
 . have:=(V.away hx).1 _ (.inl rfl);omega
 have:=(V.away hx).1 _ (.inr rfl);omega
theorem zk2 (hs:zaS (xy g g.length) es) (_:b<g.length):((a:Int),(b:Int)) ∈ es ↔ a ∈ zw g b:=by
 rw[hs.2.1,pred_mem];constructor
 .
  intro h;obtain⟨a',b',x,e,hx,h2⟩:=zk1 h;have e1:(a:Int)=(a':Int):=congrArg Prod.fst e;have e2:(b:Int)=(b':Int):=congrArg Prod.snd e;obtain rfl:a=a':=tO;obtain rfl:b=b':=tO;rw[zM hx];exact⟨(zt5.1 hx).1,h2.imp Eq.symm Eq.symm⟩
 rintro⟨ha,h2⟩;have hx:=zsR ha;rw[zM hx]at h2;exact zgV hx (h2.imp Eq.symm Eq.symm)
theorem zdX (hg:Formed g) (hs:zaS (xy g g.length) es) (h:((a:Int),(b:Int)) ∈ es):a<g.length/\b<g.length:=by
 have:=zgU (fun i x hx=>hg.edge hx) ((hs.2.1 _).1 h);omega
theorem Valid.treeG (V:Valid f) (hs:zaS (xy (zd f) (zd f).length) es) (h:Known (zd f).length 0 es Rw order pl T):TreeG (zd f) Rw order pl T:=by
 have hF:=zd2 V;have hY:∀ a b:Nat,((a:Int),(b:Int)) ∈ es->a<(zd f).length:=fun a b h=>(zdX hF hs h).1;have hC:∀ a b:Nat,Dfs.Edge Rw a b ↔ ((a:Int),(b:Int)) ∈ es:=zch h.succ hY;refine⟨fun a b hb=>by rw[hC,zk2 hs hb],fun i hi=>?_,fun i hr=>?_,h.sol,h.ord,h.place⟩
 .
  have hp:=(V.ways.1 i hi).1
  have main:∀ {a b:Nat},Pth (zd f) a b->Dfs.Reach Rw 0 a->Dfs.Reach Rw 0 b:=fun {a b} hp=>by
   induction hp with
   | refl=>exact id
   | @step i j k x hx he _ ih=>exact fun hr=>ih (.step hr ((hC i j).2 ((hs.2.1 _).2 (zgV hx he))))
  exact main hp .refl
 cases hr with
 | refl=>exact h.hroot
 | step _ he=>exact(zdX hF hs ((hC _ _).1 he)).2
def chK (T:List Int) (n k:Nat):List (List Int):=(List.range n).map fun i:Nat=>((List.range k).filter fun c=>decide (T[c]?=some (i:Int))).map fun c:Nat=>(c:Int)
theorem zdY (T:List Int) (n k:Nat):(chK T n k).length=n:=by unfold chK;rw[ztb,zuQ]
theorem zlW (T:List Int) (n:Nat):chK T n 0=List.replicate n []:=by
 unfold chK;exact(List.map_const' (l:=List.range n) (b:=([]:List Int))).trans tD
theorem zni (T:List Int) (n:Nat):chK T n T.length=chL T n:=rfl
theorem zdZ {n:Nat} (h:i<n):(chK T n k)[i]?=some (((List.range k).filter fun c=>decide (T[c]?=some (i:Int))).map fun c:Nat=>(c:Int)):=by unfold chK;rw[zt8,zuC h];rfl
theorem zgW {n:Nat} {u:Int} (hk:T[k]?=some u):chK T n (k+1)=if 0<=u/\u<n then (chK T n k).set u.toNat ((((List.range k).filter fun c=>decide (T[c]?=some ((u.toNat:Nat):Int))).map fun c:Nat=>(c:Int))++[(k:Int)]) else chK T n k:=by
 apply zuj;intro i;by_cases hi:i<n
 .
  have hR:(chK T n (k+1))[i]?=some ((((List.range k).filter fun c=>decide (T[c]?=some (i:Int))).map fun c:Nat=>(c:Int))++if u=(i:Int) then [(k:Int)] else []):=by
   rw[zdZ hi,zvn,zuk,zuT];congr 2;by_cases e:u=(i:Int)
   . rw[zt2 e,zum (by rw[hk,e];simp)];rfl
   rw[zt1 e,zul (by rw[hk];simpa using e)];rfl
  rw[hR];by_cases e:u=(i:Int)
  .
   subst e;rw[zt2 rfl,zt2 tO,ztd,zuH (by rw[zdY];exact hi)]
  rw[zt1 e,zu1];split
  . rw[zuG tO,zdZ hi]
  rw[zdZ hi]
 rw[ztf (by rw[zdY];omega)];split
 . rw[ztf (by rw[zuS,zdY];omega)]
 rw[ztf (by rw[zdY];omega)]
def ndk:Nat->List Value
 | 0=>[]
 | k+1=>ndk k++[.slice none 0 0,.slice none 0 0,.int .i64 (-1)]
theorem zg0:∀ k,(ndk k).length=k*3
 | 0=>rfl
 | k+1=>by rw[ndk,zsZ,zg0 k];simp;omega
theorem zg1 (h:j<k) (sp:List Value):(ndk k++sp)[j*3]?=some (.slice none 0 0)/\(ndk k++sp)[j*3+1]?=some (.slice none 0 0)/\(ndk k++sp)[j*3+2]?=some (.int .i64 (-1)):=by
 induction k generalizing sp with
 | zero=>omega
 | succ k ih =>
  have hl:=zg0 k;rw[ndk,zu0];by_cases e:j<k
  . grind
  obtain rfl:j=k:=tO;refine⟨?_,?_,?_⟩<;>(rw[zti tO,hl])
  . grind
  . grind
  grind
def zgX (has:List Value) (a:Nat):Option Addr × Nat × Nat:=match has[a]? with
 | some (.slice ao m c)=>(ao,m,c)
 | _=>(none,0,0)
theorem zk3 {rows:List (List α)} (h:RowsOk enc e w has rows) (ha:a<has.length):has[a]?=some (.slice (zgX has a).1 (zgX has a).2.1 (zgX has a).2.2):=by
 have hv:=zsR ha;have hr:=zsR (show a<rows.length by rw[<- h.len];exact ha);obtain⟨ao,c,e1,_⟩:=qq h hv hr;unfold zgX;rw[hv,e1]
theorem zk4 {al2:List (List Int)} {ep e1 e2:TypeId} (da:PlS g nv E ofl ndc hY pcs hC frs has als) (h5:RowsC 4 ep w hY pcs) (h6:RowsOk zb e1 w hC frs) (h9:RowsOk zb e2 w has al2) (dh:∀ (i:Nat) v q,hY[i]?=some v->v.ownBlock=some q->D q) (dl:∀ (i:Nat) v q,hC[i]?=some v->v.ownBlock=some q->D q) (hj:j<g.length):SlR 4 (RPw (zgX has)) D w (hY[j]?.getD undef) (pwE nv g E j):=by
 obtain⟨u,hu⟩:∃ u,hY[j]?=some u:=⟨_,zsR (by rw[da.hl];exact hj)⟩;obtain⟨m,hm⟩:=h5.row j u _ hu (da.pc j hj);rw[hu]
 have db:∀ x ∈ pwE nv g E j,(RPw (zgX has)) D w x (phC hC has x):=fun x hx=>by
  obtain⟨v,a,ha,rfl⟩:=mem_pwE.1 hx;have dg:=(zt5.1 ha).1;have e9:=zk3 h9 (show a<has.length by rw[da.al];exact dg);obtain⟨fh,dc⟩:∃ u,hC[a]?=some u:=⟨_,zsR (by rw[da.fl];exact dg)⟩;have dm:frs[a]?=some (zg g j):=by rw[da.fr,zt8,ha];rfl
  refine⟨fh,?_,zpK zb iA (h6.row a fh _ dc dm) (fun q hq=>dl a fh q dc hq)⟩;unfold phC;dsimp only;rw[dc,e9];rfl
 exact zpL tS (phC hC has) j1 db hm (fun q hq=>dh j u q hu hq)
theorem zck {n:Nat} (h:(List.replicate n (Value.slice none 0 0))[i]?=some v) (hq:v.ownBlock=some q):False:=by
 rw[zuD]at h;split at h
 . cases h;cases hq
 cases h
theorem zk5 (n:Nat):RowsOk enc e w (List.replicate n (.slice none 0 0)) (List.replicate n ([]:List α)):=by
 refine⟨tD,fun i v r hv hr=>?_,fun i j vi vj q _ hi _ hq=>(zck hi hq).elim⟩;rw[zuD]at hv hr;split at hv
 .
  rename_i h;rw[zt2 h]at hr;cases hv;cases hr;exact qF _ _ _
 cases hv
theorem zff (n:Nat):RowsC kk e w (List.replicate n (.slice none 0 0)) (List.replicate n []):=by
 refine⟨tD,fun i v r hv hr=>?_,fun i j vi vj q _ hi _ hq=>(zck hi hq).elim⟩;rw[zuD]at hv hr;split at hv
 .
  rename_i h;rw[zt2 h]at hr;cases hv;cases hr;exact⟨0,qF _ _ _⟩
 cases hv
theorem PlS.start {sp:List Value}:PlS g nv [] (ofE nv []) (ndk g.length++sp) (List.replicate g.length (.slice none 0 0)) (List.replicate g.length []) [] [] [] []:=by
 refine⟨rfl,zuR,zuR,by rw[zsZ,zg0];omega,fun j hj=>?_,fun j hj=>(zg1 hj sp).2.1,fun j hj=>(zg1 hj sp).2.2,fun j hj=>?_,rfl,rfl,rfl,rfl⟩
 . rw[(zg1 hj sp).1,zuD,zt2 hj]
 rw[zuD,zt2 hj];rfl
theorem PlS.stW (h:PlS g nv E ofl ndc hC pcs hY frs has als):StW f g T (ofE nv E) (pwE nv g E) (fun j=>hC[j]?.getD undef) 0 ofl ndc (List.replicate g.length (.slice none 0 0)) (List.replicate g.length []) als:=by
 refine⟨by rw[zlz];exact h.of,zuR,zuR,h.nl,fun j hj=>?_,fun j hj=>?_,fun j hj=>?_,fun j hj=>?_,fun j hj q p hp=>?_⟩
 .
  rw[h.n0 j hj];have:=zsR (show j<hC.length by rw[h.hl];exact hj);rw[this];rfl
 . rw[h.n1 j hj,zuD,zt2 hj]
 . rw[h.n2 j hj,zlB]
 . rw[zuD,zt2 hj,zlD];rfl
 obtain⟨v,a,ha,rfl⟩:=mem_pwE.1 (zsS hp);rw[h.as_,zt8,ha,zlF];rfl
def rgI (v:Nat):List Int:=(List.range v).map fun v:Nat=>(v:Int)
theorem znj (v:Nat):(rgI v).length=v:=by unfold rgI;rw[ztb,zuQ]
theorem zbg (v:Nat):rgI (v+1)=rgI v++[(v:Int)]:=by unfold rgI;rw[zvn,zuT];rfl
theorem znY (nv:Nat):ofE nv []=rgI nv:=by unfold ofE rgI;exact zu1 _
def cuI (v:Nat):List (List Int):=(List.range v).map fun v:Nat=>[(v:Int)]
theorem zk6 (v:Nat):(cuI v).length=v:=by unfold cuI;rw[ztb,zuQ]
theorem zbh (v:Nat):cuI (v+1)=cuI v++[[(v:Int)]]:=by unfold cuI;rw[zvn,zuT];rfl
theorem znk (nv:Nat):TopW f g T of1 pw 0 (cuI nv):=fun v r hr=>by
 unfold cuI at hr;rw[zt8]at hr;obtain⟨z,hz,rfl⟩:=zw3.1 hr;have hl:=(zt5.1 hz).1;rw[zuC tD]at hz;obtain rfl:=Option.some.inj hz;exact⟨tR,rfl⟩
theorem zk7 (nv:Nat):∀ r ∈ cuI nv,r.length=1:=fun r hr=>by
 unfold cuI at hr
 grind
theorem znZ (h:RightF f g s (rdV f g)):(LP s g.length).length+f.vars.length=s.of_.length:=by
 have h1:=znA h.toFormF;have hp:(LP s g.length).Perm (xU f g s):=zvl.2 fun a=>zdC h.len h.nod a;have:=hp.length_eq;omega
theorem zlX (n root:Int) (es:List (Int × Int)) (ev:Value) (D:Nat->Prop) (w:World) (hC:SlR 2 xq D w ev es) (hc:yk n es root=0):Calls prog 52 #[.agg #[.int .i64 n,ev],.int .i64 root] w (Ret fun v w'=>(∃ u,v=.tuple #[u,.int .i64 0]/\∃ Rw order pl T,Known n.toNat root.toNat es Rw order pl T/\SlR 1 zG (fun b=>w.heap.size<=b) w' u T)/\Ext w w'):=by
 refine(zmW n root es ev D w hC).mono ?_;rintro e w' ⟨v,rfl,u,rfl,_,h,hk⟩;exact⟨_,rfl,⟨u,tD,h hc⟩,hk⟩
theorem zk8 {n:Nat} (h:Known n 0 es Rw order pl T) (hC:∀ i,Dfs.Reach Rw 0 i->i<n):order.length<=n:=Dfs.nodup_le n _ h.ord.nodup fun x hx=>hC x ((h.ord.mem x).1 hx)
theorem zhV (hg:Formed g) (hs:zaS (xy g g.length) es):yk g.length es 0=0:=by
 have h1:=zfe hg.hi (fun i x hx=>hg.edge hx);obtain⟨h2,h3,h4,h5⟩:=Gr.check_zero h1;have h0:=hg.lo;unfold yk
 have hc:Gr.check g.length es=0:=by
  unfold Gr.check;rw[zt1 tO,zt1 (by have:=hs.2.2;omega),zt2];rw[ztX]at h5 ⊢;exact fun e he=>h5 e ((hs.2.1 e).1 he)
 omega
end Go.Proofs.YtckdhgbepmpgiaaGreat
