/-
  Contracts and the mathematics that the proof needs. Nothing here is a claim.
-/
import Derived.Test.YtckdhgbepmpgiaaGreatKW4
namespace Go.Proofs.YtckdhgbepmpgiaaGreat
open Go.GL
theorem zdt {α:Type} {c:Nat} {enc:α->List Value} (hc:∀ x,(enc x).length=c) {v:Value} {j:Nat} {x y:α} (hj:j<c) (hy:enc y=(enc x).set j v):∀ (L:List α) (k:Nat) (sp:List Value),L[k]?=some x->(L.flatMap enc++sp).set (k*c+j) v=(L.set k y).flatMap enc++sp
 | [],k,sp,h=>by simp at h
 | z::r,0,sp,h=>by
  simp at h
  subst h
  simp only[Nat.zero_mul,zrq,zqj,List.set_cons_zero,zq3]
  rw[zqX _ _ (by rw[hc];exact hj),<- hy]
 | z::r,k+1,sp,h=>by
  simp only[List.getElem?_cons_succ]at h
  simp only[zqj,zqZ,zq3]
  rw[zqY _ _ (by rw[hc,zrp];omega),hc]
  rw[show (k+1)*c+j - c=k*c+j from by rw[zrp];omega,zdt hc hj hy r k sp h]
theorem zkq (m:Nat):Builtin.zeroCells (Value.int .i64 0).cells m=(List.replicate (m*1) (.int .i64 0)).toArray:=by
 apply Array.ext
 . simp[Builtin.zeroCells,Value.cells]
 intro i h1 h2
 have:i % 1=0:=by omega
 simp[Builtin.zeroCells,Value.cells,this]
theorem zed (es:List Int) (v:Value) (n:Nat) (w:World) (hown:w.ownsRow 0 3 1 v n (es.flatMap zbE)) (hlen:es.length<=1048576):Calls Tryz.prog 117 #[v] w (Ret fun u w'=>w'.ownsRow 0 3 1 u (Gr.compactL es).length ((Gr.compactL es).flatMap zbE)/\u.ownBlock=v.ownBlock/\Keep (fun q=>v.ownBlock=some q) w w'):=by
 have hn:n=es.length:=by
  have:=hown.1
  rw[ko]at this
  omega
 subst hn
 by_cases h0:es=[]
 .
  subst h0
  obtain⟨l,c,hv⟩:∃ ao c,v=.slice ao 0 c:=by
   rcases hown.2 with⟨rfl,_⟩ | ⟨g,cap,cur,rfl,_⟩<;>exact⟨_,_,rfl⟩
  subst hv
  refine zn1 Tryz.func117 O Tryz.ntmps117 O (Gs 13 O (G.tt O (rfl) (Gs 8 O (zls tr117 O ⟨_,rfl,hown,rfl,Keep.refl _ _⟩))))
 obtain⟨g,cap,sp,rfl,_,hnc,hcm,hB,hcl⟩:=jS xj (by omega) hown h0
 refine zn1 Tryz.func117 O Tryz.ntmps117 O (Gs 13 O (zmQ O (fun h2=>?_) (fun h2=>?_)))
 .
  refine Gs 8 O ?_
  have e1:Gr.compactL es=es:=by
   match es,h0,h2 with
   | [x],_,_=>rfl
   | x::y::r,_,h=>simp at h;omega
  refine zls tr117 O ⟨_,rfl,by rw[e1];exact hown,rfl,Keep.refl _ _⟩
 refine Gs 9 O ?_
 have e1:Gr.compactL (es.take 1)=es.take 1:=by
  match es,h0 with
  | x::r,_=>rfl
 refine G.loop (σ:=Nat) (fun k=>[(0,.slice (some ⟨g,0,none⟩) es.length cap),(3,.int .i64 k)]) (fun k=>fun w'=>1<=k/\k<=es.length/\Gr.compactL (es.take k)=es.take k/\Ext w w') (fun k=>es.length - k) (1) (Sub.of O) (⟨by omega,by omega,e1,Keep.refl _ _⟩) ?_
 rintro k w2 ⟨hk1,hkn,hck,hk2⟩
 have hB2:=hk2.blk hB (fun h=>h)
 refine Gs 9 O (zmQ O (fun hlt=>?_) (fun hge=>?_))
 .
  refine Gs 5 O (Qt (by kernel_rfl) (Gs 2 O ?_))
  obtain⟨x,hx⟩:∃ e,es[k]?=some e:=⟨_,zoT (by omega)⟩
  obtain⟨y,hy⟩:∃ e,es[k - 1]?=some e:=⟨_,zoT (by omega)⟩
  refine Ga 1 O (by omega) (zmW O tg3 (fun w1 hw1=>(hw1.cell (jg xj hB2 hx 0 _ O) (fun h=>h))) (Ga 4 O (by omega) (zmW O tg3 (fun w1 hw1=>((show Cells w2 g (0+((k:Int) - 1).toNat*1) (zbE y) from by rw[show ((k:Int) - 1).toNat=k - 1 from by omega];exact jg xj hB2 hy) 0 _ O |> fun h=>hw1.cell h (fun h=>h))) (Gs 1 O (zmY (fun w3 hw3=>?_))))))
  have hB3:=hw3.blk hB2 (fun h=>h)
  have hlast:(Gr.compactL (es.take k)).getLast?=some y:=by
   have:=Gr.compactL_last hy
   rwa [show k - 1+1=k from by omega]at this
  refine Gs 1 O (zmQ O (fun heq=>?_) (fun hne=>?_))
  .
   refine Gs 4 O ?_
   have hxy:x=y:=heq
   refine zmR O O (zmm tR27 ts3 O O O (by omega) (by omega)) (Gs 10 O ?_)
   have hs0:Gr.compactL (es.take (k+1))=es.take k:=by
    rw[Gr.compactL_take hx]
    unfold Gr.cstep
    rw[zp4 (by rw[hlast,hxy]),hck]
   refine G.loop (σ:=Nat × Nat × List Int) (fun⟨q,k2,L⟩=>[(0,.slice (some ⟨g,0,none⟩) es.length cap),(3,.int .i64 q),(4,.slice (some ⟨g,0+k*1,none⟩) (es.length - k) (cap - k)),(5,.int .i64 k2)]) (fun⟨q,k2,L⟩=>fun w'=>Blk w' g (L.flatMap zbE++sp) 3/\L.length=es.length/\k<=q/\q+1<=k+k2/\1<=k2/\k2<=es.length - k/\L.take q=Gr.compactL (es.take (k+k2))/\L.drop (k+k2 - 1)=es.drop (k+k2 - 1)/\Keep (fun b=>b=g) w w') (fun⟨q,k2,L⟩=>es.length - k - k2) ((k,1,es)) (Sub.of O) (⟨hB3,rfl,zpi _,by omega,by omega,by omega,hs0.symm,rfl,(hk2.ext hw3).mono (fun _ _ h=>h.elim)⟩) ?_
   rintro⟨q,k2,L⟩ w4 ⟨hB4,hL,hq1,hq2,hk21,hk22,htk,hdr,hK4⟩
   show G _ _ _ _ _ [(0,.slice (some ⟨g,0,none⟩) es.length cap),(3,.int .i64 q),(4,.slice (some ⟨g,0+k*1,none⟩) (es.length - k) (cap - k)),(5,.int .i64 k2)] _
   have hclL:(L.flatMap zbE++sp).length=cap*1:=by rw[<- hcl,zp1,zp1,ko,ko,hL]
   refine Gs 9 O (zmQ O (fun hlt2=>?_) (fun hge2=>?_))
   .
    refine Gs 5 O (Qt (by kernel_rfl) (Gs 2 O ?_))
    obtain⟨x2,hx2⟩:∃ e,es[k+k2]?=some e:=⟨_,zoT (by omega)⟩
    obtain⟨y2,hy2⟩:∃ e,es[k+k2 - 1]?=some e:=⟨_,zoT (by omega)⟩
    have hLx:L[k+k2]?=some x2:=by
     have:=congrArg (fun l=>l[1]?) hdr
     simp only[List.getElem?_drop]at this
     rw[show k+k2 - 1+1=k+k2 from by omega]at this
     rw[this];exact hx2
    have hLy:L[k+k2 - 1]?=some y2:=by
     have:=congrArg (fun l=>l[0]?) hdr
     simp only[List.getElem?_drop,zrf]at this
     rw[this];exact hy2
    have hcx:Cells w4 g (0+k*1+(k2:Int).toNat*1) (zbE x2):=by
     have:=jg xj hB4 hLx
     rwa [show 0+(k+k2)*1=0+k*1+(k2:Int).toNat*1 from by rw[zpf];omega]at this
    have hcy:Cells w4 g (0+k*1+((k2:Int) - 1).toNat*1) (zbE y2):=by
     have:=jg xj hB4 hLy
     rwa [show 0+(k+k2 - 1)*1=0+k*1+((k2:Int) - 1).toNat*1 from by omega]at this
    refine Ga 1 O (by omega) (zmW O tg3 (fun w1 hw1=>(hw1.cell (hcx 0 _ O) (fun h=>h))) (Ga 4 O (by omega) (zmW O tg3 (fun w1 hw1=>(hw1.cell (hcy 0 _ O) (fun h=>h))) (Gs 1 O (zmY (fun w5 hw5=>?_))))))
    have hB5:=hw5.blk hB4 (fun h=>h)
    have hlast2:(Gr.compactL (es.take (k+k2))).getLast?=some y2:=by
     have:=Gr.compactL_last hy2
     rwa [show k+k2 - 1+1=k+k2 from by omega]at this
    refine Gs 1 O (zmQ O (fun hne2=>?_) (fun heq2=>?_))
    .
     refine Ga 7 O (by omega) (zmV O tg3 (hw5.cell (hcx 0 _ O) (fun h=>h)) (Ga 1 O (by omega) (zm3 O (M.store ts3 O O O O hB5 (by rw[zpf,hclL];omega)) ?_)))
     rintro w6 ⟨hs6,hB6,hk6⟩
     obtain⟨z,hz⟩:∃ z,L[q]?=some z:=⟨_,zoT (by omega)⟩
     rw[zpf,zrq,<- zrf (q*1),zdt xj (y:=x2) (by decide) rfl L q sp hz]at hB6
     refine Ga 14 O (by omega) (G.back ((q+1,k2+1,L.set q x2)) (Sub.of O) (⟨hB6,by simp[hL],by omega,by omega,by omega,by omega,?_,?_,(hK4.ext hw5).trans hk6 (fun _ _ h=>h)⟩) (by first | omega | (dsimp only;omega)))
     .
      rw[show k+(k2+1)=k+k2+1 from by omega,Gr.compactL_take hx2,<- htk]
      unfold Gr.cstep
      rw[zp3 (by rw[htk,hlast2];intro h;exact hne2 (by cases h;rfl))]
      rw[zr9 (by simp;omega)]
      simp[zr8]
     rw[zqb (by omega)]
     have:=congrArg (List.drop 1) hdr
     simp only[zq8]at this
     rw[show k+(k2+1) - 1=k+k2 - 1+1 from by omega]
     exact this
    refine Ga 8 O (by omega) (G.back ((q,k2+1,L)) (Sub.of O) (⟨hB5,hL,by omega,by omega,by omega,by omega,?_,?_,hK4.ext hw5⟩) (by first | omega | (dsimp only;omega)))
    .
     rw[show k+(k2+1)=k+k2+1 from by omega,Gr.compactL_take hx2,<- htk]
     unfold Gr.cstep
     have:x2=y2:=by
      have:=heq2
      simp only[ne_eq,zp2]at this
      exact this
     rw[zp4 (by rw[htk,hlast2,this])]
    have:=congrArg (List.drop 1) hdr
    simp only[zq8]at this
    rw[show k+(k2+1) - 1=k+k2 - 1+1 from by omega]
    exact this
   refine Gs 9 O (zmR O O (zmm tR27 ts3 O O O (by omega) (by omega)) (zm0 O (M.clear (k:=1) (zs:=List.replicate ((es.length - q)*1) (.int .i64 0)) tR27 tz3 O (by omega) (zkq _) (by simp) (by intro u hu;rw[zqd hu];rfl) hB4 (by rw[zpf,hclL];omega)) ?_))
   rintro _ w6 ⟨rfl,hs6,hB6,hk6⟩
   refine Gs 6 O (zmR O O (zml tR27 ts3 O O (by omega)) (Gs 9 O (zls tr117 O ⟨_,rfl,?_,rfl,(hK4.trans hk6 (fun _ _ h=>h)).mono (fun q _ h=>by rw[h];rfl)⟩)))
   have hk2e:k+k2=es.length:=by omega
   rw[hk2e,zoY]at htk
   have hlq:(Gr.compactL es).length=q:=by rw[<- htk,zpn];omega
   have hql:q*1<=(L.flatMap zbE++sp).length:=by rw[hclL];omega
   rw[hlq]
   rw[zpf,zrq]at hB6
   have h7:=yp (k:=1) (n:=q) (cap:=cap) hB6 (by omega) hcm (by simp only[zp1,zpn,zqr,zqu]at *;omega)
   rw[zq3,zr6 (by rw[zpn];omega),List.take_take,Nat.min_self,zr6 (by rw[ko];omega),jR xj,htk]at h7
   exact h7
  refine Ga 8 O (by omega) (G.back (k+1) (Sub.of O) (⟨by omega,by omega,?_,hk2.ext hw3⟩) (by first | omega | (dsimp only;omega)))
  rw[Gr.compactL_take hx]
  unfold Gr.cstep
  rw[zp3 (by rw[hlast];intro h;exact hne (by cases h;rfl)),hck]
  rw[zr9 (by omega)]
  rw[zoT (by omega)]at hx
  cases hx
  rfl
 refine Gs 12 O ?_
 have:k=es.length:=by omega
 subst this
 rw[zoY]at hck
 refine zls tr117 O ⟨_,rfl,by rw[hck];exact zk hown hk2 (fun _ _ h=>h),rfl,hk2.mono (fun _ _ h=>h.elim)⟩
theorem zin (t:Tm):∀ (kv uo:Value) (acc:List Int) (D:Nat->Prop) (W:World),SlR 3 RTm D W kv t.kids->(xB uo acc).holds W->(∀ q,D q->q<W.heap.size/\uo.ownBlock ≠ some q)->acc.length+(yn t).length<=1000000 ->
  Calls Tryz.prog 115 #[.agg #[.int .i64 t.op,.int .i64 t.n,kv],uo] W (Ret fun r w'=>∃ x:Value,r=x/\(xB x (acc++yn t)).holds w'/\Keep (xB uo acc).S W w'/\∀ q,(xB x (acc++yn t)).S q->((xB uo acc).S q\/W.heap.size<=q)/\q<w'.heap.size):=by
 induction t using zmz with
 | h t ih =>
 intro kv uo acc D W hk hown hap hlen
 obtain⟨ak,ck,rfl⟩:=hk.form
 have hmx:=hk.max
 have haS:∀ q,(xB uo acc).S q->¬ D q:=fun q h hd=>(hap q hd).2 h
 rw[zcE,zp1]at hlen
 refine zn2 Tryz.func115 O Tryz.ntmps115 O (zof 900 (.row 3 1 uo acc.length (acc.map zb)) (hown) trivial (fun _ h=>h) (fun q hq=>qj hown hq) ?_)
 refine Vs 2 O ?_
 refine V.box 2 O O (fun b2=>?_)
 refine Vs 4 O ?_
 refine znL (σ:=Value) [2] [2] [2] O (fun e u=>(1,u)::e) (fun e u=>(900,.row 3 1 u (acc++zQ t).length ((acc++zQ t).map zb))::e) (fun u=>True) (fun _=>rfl) (fun _=>rfl) ?_ ?_
 .
  refine Vs 7 O ?_
  refine zld O (fun e=>?_) (fun e=>?_)
  .
   refine Vs 4 O ?_
   refine V.bs 13 [(0,_)] tR27 ts3 tz3 (by decide) O O (by kernel_rfl) (fun b13=>?_)
   refine znp 900 13 tu27 Tryz.el3 O (by decide) O O (by omega) (by omega) (fun u900=>?_)
   refine Vs 2 O ?_
   refine znJ 900 O (e':=.row 3 1 u900 (acc++zQ t).length ((acc++zQ t).map zb)) (by unfold zQ;rw[zp4 e,zp1,zqw];rfl) ?_
   refine zlq (u900) (Sub.of O) (Has.of O) (True.intro) 0 O O
  refine znJ 900 O (e':=.row 3 1 uo (acc++zQ t).length ((acc++zQ t).map zb)) (by unfold zQ;rw[zp3 e,zq4]) ?_
  refine Vs 1 O ?_
  refine zlq (uo) (Sub.of O) (Has.of O) (True.intro) 0 O O
 rintro u -
 refine Vs 10 O ?_
 refine znJ 900 O (e':=.row 3 1 u (acc++zQ t++mentL (t.kids.take 0)).length ((acc++zQ t++mentL (t.kids.take 0)).map zb)) (by rw[show acc++zQ t++mentL (t.kids.take 0)=acc++zQ t from zq4 _]) ?_
 refine Vs 1 O ?_
 refine znK (σ:=Nat × Value) [16,17] [] [] O (fun e ⟨i,u⟩=>(18,.int .i64 i)::(1,u)::e) (fun e ⟨i,u⟩=>(900,.row 3 1 u (acc++zQ t++mentL (t.kids.take i)).length ((acc++zQ t++mentL (t.kids.take i)).map zb))::e) (fun⟨i,u⟩=>i<=t.kids.length) (fun⟨i,u⟩=>t.kids.length - i) ((0,u)) (Sub.of O) (Has.of O) (fun _=>rfl) (fun _=>rfl) (fun _=>rfl) (zp8 _) ?_
 rintro⟨i,u⟩ hi
 show V _ _ _ _ _ ((18,.int .i64 i)::(1,u)::_) _ ((900,.row 3 1 u (acc++zQ t++mentL (t.kids.take i)).length ((acc++zQ t++mentL (t.kids.take i)).map zb))::_) _
 refine Vs 6 O ?_
 refine zld O (fun lt=>?_) (fun lt=>?_)
 .
  refine Vs 6 O ?_
  obtain⟨k,he_k,hm_k⟩:=gE_ t.kids (i) (by omega)
  obtain⟨b_k,o_k,c_k,ha_k,hd_k,hc_k,hR_k⟩:=hk.atD he_k
  obtain⟨v1_k,rfl,hk_k⟩:=hR_k.get
  obtain⟨a1_k,n1_k,rfl⟩:=hk_k.form
  refine znI 1000 0 O O (fun h_=>by have h1_:=haS _ h_;have h2_:=hd_k;first | omega | exact h1_ h2_) hc_k ?_
  refine znk 1000 tR68 ts70 O ha_k (by omega) (_) (rfl) O ?_
  have htk:=zbZ he_k
  have hle:=zeM t.kids (i+1)
  rw[htk,zp1]at hle
  refine Vs 1 O ?_
  refine V.alloc 6 tz70 O O (fun b6=>?_)
  refine Vs 6 O ?_
  refine znB 900 (E:=fun x=>.row 3 1 x (acc++zQ t++mentL (t.kids.take i)++yn k).length ((acc++zQ t++mentL (t.kids.take i)++yn k).map zb)) Tryz.call115 O (fun _=>⟨trivial,fun _ h=>h⟩) (fun w hI=>ih k hm_k _ _ (acc++zQ t++mentL (t.kids.take i)) D w (hk_k.keep zl hI.k0 (fun q hq _ hs=>haS q hs hq)) (hI.at 900 O) (fun q hq=>⟨zrj (hap q hq).1 hI.k0.size,show ¬ (xB u (acc++zQ t++mentL (t.kids.take i))).S q from hI.offD 0 900 O O (hap q hq).1 (fun h=>haS q h hq)⟩) (by simp only[zp1]at *;omega)) ?_
  rintro u2 _ rfl
  refine Va 8 O (by omega) ?_
  refine znJ 900 O (e':=.row 3 1 u2 (acc++zQ t++mentL (t.kids.take (i+1))).length ((acc++zQ t++mentL (t.kids.take (i+1))).map zb)) (by rw[htk,<- zq3]) ?_
  refine V.back (⟨i+1,u2⟩) (Sub.of O) (Has.of O) (by omega) (by first | omega | (dsimp only;omega)) 0 O O
 obtain rfl:i=t.kids.length:=by omega
 refine znJ 900 O (e':=xB u (acc++yn t)) (by rw[zoY,zcE,<- zq3]) ?_
 refine Vs 12 O ?_
 refine zlt Tryz.results115 O (fun w hI=>⟨_,rfl,⟨u,rfl,hI.at 900 rfl,hI.k0,fun q hq=>hI.inS 0 900 O O hq⟩⟩)
theorem zgM {w:World} (u:Value) (l:List Int) (h:(xB u l).holds w) (hl:l.length<=1048576):Calls Tryz.prog 116 #[u] w (Ret fun r w'=>∃ _:Unit,r=.tuple #[]/\(xB u (ja l)).holds w'/\Keep (xB u l).S w w'/\∀ q,(xB u (ja l)).S q->((xB u l).S q\/w.heap.size<=q)/\q<w'.heap.size):=by
 refine(zid l u l.length w h hl).mono ?_
 rintro _ w' ⟨_,rfl,rfl,h1,h2⟩
 have h1':(xB u (ja l)).holds w':=by rw[<- qq l]at h1;exact h1
 exact⟨_,rfl,(),rfl,h1',h2,fun q hq=>⟨.inl hq,qj h1 hq⟩⟩
theorem zc0 {w:World} (u:Value) (l:List Int) (h:(xB u l).holds w) (hl:l.length<=1048576):Calls Tryz.prog 117 #[u] w (Ret fun r w'=>∃ x:Value,r=x/\(xB x (Gr.compactL l)).holds w'/\Keep (xB u l).S w w'/\∀ q,(xB x (Gr.compactL l)).S q->((xB u l).S q\/w.heap.size<=q)/\q<w'.heap.size):=by
 have he:∀ l:List Int,l.map zb=l.flatMap zbE:=fun l=>by rw[List.map_eq_flatMap];rfl
 have h':w.ownsRow 0 3 1 u l.length (l.flatMap zbE):=by rw[<- he];exact h
 refine(zed l u l.length w h' hl).mono ?_
 rintro _ w' ⟨x,rfl,h1,h2,h3⟩
 rw[<- he]at h1
 exact⟨_,rfl,x,rfl,h1,h3,fun q hq=>⟨.inl (show u.ownBlock=some q from h2 ▸ hq),qj h1 hq⟩⟩
theorem zgN (f:Fl) (g:List Nd) (hk:GOk f g) (i:Nat) (hi:i<g.length) (b:Nat) (D:Nat->Prop) (W:World) (hG:GrO D W f g b) :
  Calls Tryz.prog 81 #[.pointer (some ⟨b,0,none⟩),.int .i64 i] W (Ret fun r w'=>SlR 1 yc (fun q=>W.heap.size<=q) w' r (rdV f g i)/\Ext W w'):=by
 obtain⟨v1,v2,v3,gv,sv,pv,hD,hcell,hf,hg,hs,hp⟩:=hG
 obtain⟨as_,cs_,rfl⟩:=hs.form
 obtain⟨ag,cg,rfl⟩:=hg.form
 have hsl:(g.map (stN f)).length=g.length:=zpd _
 have hsx:=hs.max
 refine zn2 Tryz.func81 O Tryz.ntmps81 O (znb ?_)
 refine znI 900 0 O O (fun h=>h) hcell ?_
 refine zni 0 900 0 O O ?_
 refine Vs 12 O ?_
 obtain⟨st,he_st,hm_st⟩:=gE_ (g.map (stN f)) (i) (by omega)
 obtain⟨b_st,o_st,c_st,ha_st,_,hc_st,hR_st⟩:=hs.at he_st
 obtain⟨v1_st,v2_st,v3_st,v4_st,rfl,hk_st,ht_st,hs_st,hb_st⟩:=hR_st.get
 obtain⟨a1_st,n1_st,rfl⟩:=hk_st.form
 obtain⟨a2_st,n2_st,rfl⟩:=ht_st.form
 obtain⟨a3_st,n3_st,rfl⟩:=hs_st.form
 obtain⟨a4_st,n4_st,rfl⟩:=hb_st.form
 refine znH 1000 0 O O hc_st ?_
 refine znk 1000 tR24 ts72 O ha_st (by omega) (_) (rfl) O ?_
 refine Vs 1 O ?_
 refine V.alloc 5 tz72 O O (fun b5=>?_)
 refine Vs 11 O ?_
 obtain⟨x,he_x,hm_x⟩:=gE_ g (i) (by omega)
 obtain⟨b_x,o_x,c_x,ha_x,_,hc_x,hR_x⟩:=hg.at he_x
 obtain rfl:=hR_x
 refine znH 2000 0 O O hc_x ?_
 refine znk 2000 tR34 ts65 O ha_x (by omega) (_) (rfl) O ?_
 have hx:=yD he_x
 have hst:st=stN f x:=by rw[zpa,he_x]at he_st;exact(Option.some.inj he_st).symm
 have hrd:rdV f g i=rdN f x:=by unfold rdV;rw[hx]
 have hno:rdB f x=false->SlR 1 yc (fun q=>W.heap.size<=q) W (.slice none 0 0) (rdV f g i):=fun h=>by rw[hrd];unfold rdN;rw[h];exact SlR.nil
 refine Vs 4 O ?_
 refine znL (σ:=Unit) [5] [5] [5] O (fun e u=>e) (fun e u=>e) (fun u=>rdB f x=true) (fun _=>rfl) (fun _=>rfl) ?_ ?_
 .
  refine Vs 8 O ?_
  refine zld O (fun k3=>?_) (fun k3=>?_)
  .
   refine Vs 5 O ?_
   refine zlq (()) (Sub.of O) (Has.of O) (by unfold rdB;simp[k3]) 0 O O
  refine Vs 5 O ?_
  refine zld O (fun k5=>?_) (fun k5=>?_)
  .
   refine Vs 2 O ?_
   refine zlq (()) (Sub.of O) (Has.of O) (by unfold rdB;simp[k5]) 0 O O
  refine Vs 6 O ?_
  refine zld O (fun k2=>?_) (fun k2=>?_)
  .
   have h0:=(hk.at he_x (.inl k2)).1
   have hst2:st=zO f x.at_:=by rw[hst];exact zp4 h0
   refine Vs 6 O ?_
   refine V.sp 30 O (fun a0=>?_) (fun a0=>?_)
   .
    refine Vs 6 O ?_
    refine zld O (fun a1=>?_) (fun a1=>?_)
    .
     refine Vs 9 O ?_
     refine zlt Tryz.results81 O (fun w hI=>⟨_,rfl,Tr1 hI.k0 (hno (by unfold rdB;rw[<- hst2];simp[k2,a0,a1])),hI.k0⟩)
    refine Vs 2 O ?_
    refine zlq (()) (Sub.of O) (Has.of O) (by unfold rdB;rw[<- hst2];simp[k2,zp2.1 a1]) 0 O O
   refine Vs 9 O ?_
   refine zlq (()) (Sub.of O) (Has.of O) (by unfold rdB;rw[<- hst2];simp[k2,zp2.1 a0]) 0 O O
  refine Vs 9 O ?_
  refine zlt Tryz.results81 O (fun w hI=>⟨_,rfl,Tr1 hI.k0 (hno (by unfold rdB;simp[k2,k3,k5])),hI.k0⟩)
 rintro u hrb
 have hkk:x.kind=2\/x.kind=3\/x.kind=5:=by unfold rdB at hrb;simp at hrb;omega
 obtain⟨h0,h1,h2⟩:=hk.at he_x hkk
 have hst2:st=zO f x.at_:=by rw[hst];exact zp4 h0
 rw[<- hst2]at h2
 have hrd2:rdV f g i=Gr.compactL (ja (yn st.term)):=by rw[hrd];unfold rdN;rw[zp4 hrb,<- hst2]
 refine Vs 2 O ?_
 refine zno 901 3 1 O ?_
 refine Vs 3 O ?_
 refine znB 901 (E:=fun x=>xB x ([]++yn st.term)) Tryz.call127 O (fun _=>⟨trivial,fun _ h=>h⟩) (fun w hI=>zim st.term _ _ [] (fun q=>D q/\q<W.heap.size) w ((hk_st.narrow (by omega) zaI).ext zl hI.k0) (hI.at 901 O) (fun q hq=>⟨zrj hq.2 (hI.k0).size,fun h=>by cases h⟩) (by simp;omega)) ?_
 rintro u2 _ rfl
 rw[zqM]
 refine Vs 6 O ?_
 refine znB 901 (E:=fun _:Unit=>xB u2 (ja (yn st.term))) Tryz.call116 O (fun _=>⟨trivial,fun _ h=>h⟩) (fun w hI=>zgM u2 (yn st.term) (hI.at 901 O) (by omega)) ?_
 rintro _ _ rfl
 refine Vs 5 O ?_
 refine znB 901 (E:=fun x=>xB x (Gr.compactL (ja (yn st.term)))) Tryz.call117 O (fun _=>⟨trivial,fun _ h=>h⟩) (fun w hI=>zc0 u2 (ja (yn st.term)) (hI.at 901 O) (by rw[qq];omega)) ?_
 rintro u3 _ rfl
 refine Vs 4 O ?_
 refine zlt Tryz.results81 O (fun w hI=>⟨_,rfl,by rw[hrd2];exact zmj zb (fun _ _=>rfl) (hI.at 901 O) (fun g hg=>hI.own 901 0 O O g hg),hI.k0⟩)
theorem zgO (l:List St):plainL l=true->∀ (a n e:Nat) (G:List Nd) (P:List St),CtxG G n (layL l a n e)->CtxP P a (preL l)->∀ x ∈ layL l a n e,
  (x.kind=2->∃ s,P[x.at_.toNat]?=some s/\s.act ≠ 3/\s.act ≠ 4)/\(x.kind=4->0<=x.next/\∃ y,G[x.next.toNat]?=some y/\y.kind=5/\y.at_=x.at_)/\(x.kind=5->∃ s,P[x.at_.toNat]?=some s/\s.act=4):=by
 induction l using zmB with
 | h l ih =>
 intro hp
 have key:∀ r:List St,(∀ x ∈ r,x ∈ l)->∀ (a n e:Nat) (G:List Nd) (P:List St),CtxG G n (layL r a n e)->CtxP P a (preL r)->∀ x ∈ layL r a n e,
   (x.kind=2->∃ s,P[x.at_.toNat]?=some s/\s.act ≠ 3/\s.act ≠ 4)/\(x.kind=4->0<=x.next/\∃ y,G[x.next.toNat]?=some y/\y.kind=5/\y.at_=x.at_)/\(x.kind=5->∃ s,P[x.at_.toNat]?=some s/\s.act=4):=by
  intro r
  induction r with
  | nil=>intro _ a n e G P _ _ x hx;simp[layL]at hx
  | cons s r ihr =>
   intro hm a n e G P hG hP x hx
   have hs:=yN hp s (hm s (zoX ..))
   have hps:=hs
   rw[s.plainB_eq,zpv,zpv]at hs
   have h1:=(ih s (hm s (zoX ..))).1 hs.1.2
   have h2:=(ih s (hm s (zoX ..))).2 hs.2
   have hw:=s.wid_eq
   rw[layL]at hG hx
   rw[preL]at hP
   have hlen:(s.lay a n (if r.isEmpty then e else n+s.wid)).length=s.wid:=by
    have h1:=zS [s] (by rw[plainL,hps];rfl) a n (if r.isEmpty then e else n+s.wid)
    simpa[layL,widL] using h1
   have hpl:s.pre.length=s.size:=by
    have:=yb [s]
    simpa[preL,ssize] using this
   rw[zpc]at hx
   rcases hx with hx | hx
   .
    replace hG:=hG.left
    replace hP:=hP.left
    generalize (if r.isEmpty then e else n+s.wid)=e' at hG hx hlen
    rw[s.lay_eq]at hG hx
    rw[s.pre_eq]at hP
    have hpl1:=yb s.thn
    split at hx
    .
     rename_i a3
     rw[zp4 a3]at hG
     have hl1:=zS s.thn hs.1.2 (a+1) (n+1) e'
     rw[zp9,zpc]at hx
     rcases hx with rfl | hx | hx
     . exact⟨fun h=>by (cases h),fun h=>by (cases h),fun h=>by (cases h)⟩
     . exact h1 _ _ _ G P hG.tail.left hP.tail.left x hx
     exact h2 _ _ _ G P (hG.tail.right (by omega)) (hP.tail.right (by omega)) x hx
    rename_i a3
    split at hx
    .
     rename_i a4
     rw[zp3 a3,zp4 a4]at hG
     rw[zp9,zp9]at hx
     rcases hx with rfl | rfl | hx
     . exact⟨fun h=>by (cases h),fun _=>⟨Int.natCast_nonneg _,⟨5,a,if s.thn.isEmpty then (n+1:Nat) else (n+2:Nat),e'⟩,by dsimp only;rw[zpf];exact hG.tail.head,rfl,rfl⟩,fun h=>by (cases h)⟩
     . exact⟨fun h=>by (cases h),fun h=>by (cases h),fun _=>⟨s,by dsimp only;rw[zpf];exact hP.head,a4⟩⟩
     exact h1 _ _ _ G P hG.tail.tail hP.tail.left x hx
    rename_i a4
    rw[zpb]at hx
    subst hx
    exact⟨fun _=>⟨s,by dsimp only;rw[zpf];exact hP.head,a3,a4⟩,fun h=>by (cases h),fun h=>by (cases h)⟩
   exact ihr (fun y hy=>hm y (zoW _ hy)) _ _ _ G P (hG.right (by omega)) (hP.right (by omega)) x hx
 exact key l (fun x h=>h)
theorem zgP (l:List St):plainL l=true->∀ a n e:Nat,(layL l a n e).Pairwise fun x y=>x.kind=y.kind->x.at_ ≠ y.at_:=by
 induction l using zmB with
 | h l ih =>
 intro hp
 have key:∀ r:List St,(∀ x ∈ r,x ∈ l)->∀ a n e:Nat,(layL r a n e).Pairwise fun x y=>x.kind=y.kind->x.at_ ≠ y.at_:=by
  intro r
  induction r with
  | nil=>intro _ a n e;simp[layL]
  | cons s r ihr =>
   intro hm a n e
   have hs:=yN hp s (hm s (zoX ..))
   have hr:plainL r=true:=zaX fun y hy=>yN hp y (hm y (zoW _ hy))
   have hsl:=(jl [s] (by rw[plainL,hs];rfl) a n (if r.isEmpty then e else n+s.wid)).range
   have hrl:=(jl r hr (a+s.size) (n+s.wid) e).range
   rw[s.plainB_eq,zpv,zpv]at hs
   have h1:=(ih s (hm s (zoX ..))).1 hs.1.2
   have h2:=(ih s (hm s (zoX ..))).2 hs.2
   simp only[layL,List.isEmpty_nil,if_true,zq4,ssize,zrf]at hsl
   rw[layL,zqP]
   refine⟨?_,ihr (fun y hy=>hm y (zoW _ hy)) _ _ _,fun x hx y hy _=>by have:=hsl x hx;have:=hrl y hy;omega⟩
   generalize (if r.isEmpty then e else n+s.wid)=e'
   rw[s.lay_eq]
   split
   .
    have n1:=(jl s.thn hs.1.2 (a+1) (n+1) e').range
    have n2:=(jl s.els hs.2 (a+1+ssize s.thn) (n+1+widL s.thn) e').range
    exact List.Pairwise.cons (fun y hy _=>by
     rcases zpc.1 hy with hy | hy
     . have:=n1 y hy;dsimp only;omega
     .
      have:=n2 y hy;dsimp only;omega) (zqP.2 ⟨h1 _ _ _,h2 _ _ _,fun x hx y hy _=>by have:=n1 x hx;have:=n2 y hy;omega⟩)
   split
   .
    have n1:=(jl s.thn hs.1.2 (a+1) (n+2) (n+1)).range
    exact List.Pairwise.cons (fun y hy h=>by
     rcases zp9.1 hy with rfl | hy
     . cases h
     .
      have:=n1 y hy;dsimp only;omega) (List.Pairwise.cons (fun y hy _=>by have:=n1 y hy;dsimp only;omega) (h1 _ _ _))
   exact List.Pairwise.cons (fun y hy=>by cases hy) List.Pairwise.nil
 exact key l (fun x h=>h)
theorem Valid.part {f:Fl} (V:Valid f) {i:Nat} {x:Nd} (hx:(zi f)[i]?=some x) :
  (x.kind=2->(zO f x.at_).act ≠ 3/\(zO f x.at_).act ≠ 4)/\(x.kind=4->0<=x.next/\∃ y,(zi f)[x.next.toNat]?=some y/\y.kind=5/\y.at_=x.at_)/\(x.kind=5->(zO f x.at_).act=4):=by
 have hm:=zoU hx
 have hG:CtxG (zi f) 1 (layL f.body 0 1 (1+widL f.body)):=by
  intro i x hx
  have hi:=(zp7.1 hx).1
  unfold zi
  rw[show 1+i=i+1 by omega,List.getElem?_cons_succ,zpj hi];exact hx
 unfold zi at hm
 rw[zp9,zpc,zpb]at hm
 rcases hm with rfl | hm | rfl
 . exact⟨fun h=>by (cases h),fun h=>by (cases h),fun h=>by (cases h)⟩
 .
  obtain⟨p1,p2,p3⟩:=zgO f.body V.plain 0 1 (1+widL f.body) (zi f) (preL f.body) hG (fun i x hx=>by rw[zrq];exact hx) x hm
  refine⟨fun h=>?_,p2,fun h=>?_⟩
  .
   obtain⟨s,h1,h2⟩:=p1 h
   unfold zO
   rw[h1];exact h2
  obtain⟨s,h1,h2⟩:=p3 h
  unfold zO
  rw[h1];exact h2
 exact⟨fun h=>by (cases h),fun h=>by (cases h),fun h=>by (cases h)⟩
theorem Valid.same {f:Fl} (V:Valid f) {i j:Nat} {x y:Nd} (hx:(zi f)[i]?=some x) (hy:(zi f)[j]?=some y) (hk:x.kind=y.kind) (he:x.at_=y.at_):i=j:=by
 have hP:(zi f).Pairwise fun x y=>x.kind=y.kind->x.at_ ≠ y.at_:=by
  have hkd:=kC f.body 0 1 (1+widL f.body)
  unfold zi
  refine List.Pairwise.cons (fun y hy h=>?_) (zqP.2 ⟨zgP f.body V.plain _ _ _,by simp,fun x hx y hy h=>?_⟩)
  .
   rcases zpc.1 hy with hy | hy
   . have:=hkd y hy;dsimp only at h;omega
   rw[zpb]at hy;subst hy;cases h
  rw[zpb]at hy
  have:=hkd x hx
  subst hy
  dsimp only at h
  omega
 obtain⟨hi,rfl⟩:=zp7.1 hx
 obtain⟨hj,rfl⟩:=zp7.1 hy
 rcases Nat.lt_trichotomy i j with h | h | h
 . exact absurd he (zqR.1 hP i j hi hj h hk)
 . exact h
 exact absurd he.symm (zqR.1 hP j i hj hi h hk.symm)
theorem Valid.heads {f:Fl} (V:Valid f) {i j:Nat} {x y:Nd} (hx:(zi f)[i]?=some x) (hy:(zi f)[j]?=some y) (kx:x.kind=5) (ky:y.kind=5) (he:x.at_=y.at_):i=j:=V.same hx hy (kx.trans ky.symm) he
theorem zag (l:List St) (v:Value) (D:Nat->Prop) (W:World) (k:Int) (_:SlR 10 RSt D W v l) (hk:k<0) :
  Calls Tryz.prog 25 #[v,.int .i64 k] W (Ret fun r w'=>r=.tuple #[.agg #[.int .i64 0,.int .i64 0,.int .i64 0,.int .i64 0,.int .i64 0,.int .i64 0,.slice none 0 0,.slice none 0 0,.slice none 0 0,.slice none 0 0],.bool false]/\Ext W w'):=by
 refine zn2 Tryz.func25 O Tryz.ntmps25 O (znb ?_)
 refine Vs 2 O ?_
 refine V.alloc 4 tz72 O O (fun b4=>?_)
 refine Vs 10 O ?_
 refine zld O (fun h=>?_) (fun h=>?_)
 .
  refine Vs 2 O ?_
  refine znO [Value.int IntKind.i64 0,Value.int IntKind.i64 0,Value.int IntKind.i64 0,Value.int IntKind.i64 0,Value.int IntKind.i64 0,Value.int IntKind.i64 0,Value.slice none 0 0,Value.slice none 0 0,Value.slice none 0 0,Value.slice none 0 0] [(0,1),(1,1),(2,1),(3,1),(4,3),(7,1),(8,1),(9,1)] [] O O (fun _=>by kernel_rfl) ?_
  refine Vs 6 O ?_
  refine zlE tr25 tg72 ts72 O O O O (fun w hI=>⟨_,rfl,rfl,hI.k0⟩)
 omega
end Go.Proofs.YtckdhgbepmpgiaaGreat
namespace Go.GL
theorem kE:xX RNd:=fun _ _ _ _ h=>h
end Go.GL
namespace Go.Proofs.YtckdhgbepmpgiaaGreat
open Go.GL
theorem zgQ (l:List St):∀ (a n e N:Nat),n+widL l<=N->e<N->∀ x ∈ layL l a n e,(-1<=x.next/\x.next<N)/\(-1<=x.other/\x.other<N):=by
 induction l using zmB with
 | h l ih =>
 have wpos:∀ r:List St,r.isEmpty=false->1<=widL r:=by
  intro r hr
  cases r with
  | nil=>simp at hr
  | cons s t=>have:=s.wid_eq;simp only[widL];omega
 have key:∀ r:List St,(∀ x ∈ r,x ∈ l)->∀ (a n e N:Nat),n+widL r<=N->e<N->∀ x ∈ layL r a n e,(-1<=x.next/\x.next<N)/\(-1<=x.other/\x.other<N):=by
  intro r
  induction r with
  | nil=>intro _ a n e N _ _ x hx;simp[layL]at hx
  | cons s r ihr =>
   intro hm a n e N hN he x hx
   have h1:=(ih s (hm s (zoX ..))).1
   have h2:=(ih s (hm s (zoX ..))).2
   have hw:=s.wid_eq
   simp only[widL]at hN
   rw[layL,zpc]at hx
   rcases hx with hx | hx
   .
    have he':(if r.isEmpty then e else n+s.wid)<N:=by
     cases hr:r.isEmpty
     . have:=wpos r hr;simp;omega
     simpa using he
    generalize (if r.isEmpty then e else n+s.wid)=e' at hx he'
    rw[s.lay_eq]at hx
    split at hx
    .
     rename_i a3
     rw[zp3 (show ¬ s.act=4 by omega)]at hw
     rw[zp9,zpc]at hx
     rcases hx with rfl | hx | hx
     .
      dsimp only
      refine⟨?_,?_⟩
      .
       cases hr:s.thn.isEmpty
       . have:=wpos _ hr;simp;omega
       simp;omega
      cases hr:s.els.isEmpty
      . have:=wpos _ hr;simp;omega
      simp;omega
     . exact h1 _ _ _ N (by omega) he' x hx
     exact h2 _ _ _ N (by omega) he' x hx
    split at hx
    .
     rename_i a4
     rw[zp4 a4]at hw
     rw[zp9,zp9]at hx
     rcases hx with rfl | rfl | hx
     . dsimp only;omega
     .
      dsimp only
      refine⟨?_,by omega⟩
      cases hr:s.thn.isEmpty
      . have:=wpos _ hr;simp;omega
      simp;omega
     exact h1 _ _ _ N (by omega) (by omega) x hx
    rw[zpb]at hx
    subst hx
    dsimp only;omega
   exact ihr (fun y hy=>hm y (zoW _ hy)) _ _ _ N (by omega) he x hx
 exact key l (fun x h=>h)
theorem Valid.edge {f:Fl} (V:Valid f) {i:Nat} {x:Nd} (hx:(zi f)[i]?=some x):(∀ to,to=x.next\/to=x.other -> -1<=to/\to<(zi f).length)/\(x.kind=2->0<=x.at_/\x.at_<(preL f.body).length):=by
 have hlen:=yH f V.plain
 have hi:=(zp7.1 hx).1
 refine⟨?_,fun k2=>?_⟩
 .
  have hm:=zoU hx
  unfold zi at hm
  rw[zp9,zpc,zpb]at hm
  rcases hm with rfl | hm | rfl
  . dsimp only;intro to h;omega
  .
   have:=zgQ f.body 0 1 (1+widL f.body) (zi f).length (by omega) (by omega) x hm
   intro to h
   rcases h with rfl | rfl<;>omega
  dsimp only;intro to h;omega
 by_cases hl:i<(zi f).length - 1
 .
  obtain⟨h1,h2⟩:=V.node (k:=(i:Int)) (by omega) (by omega)
  rw[zpf,hx]at h1
  have e:=Option.some.inj h1
  rw[<- e]at h2
  obtain⟨h3,h4,_⟩:=h2.step (by omega)
  have:=(zp7.1 h4).1
  omega
 have hx2:=hx
 unfold zi at hx2
 obtain⟨j,rfl⟩:∃ j,i=j+1:=⟨i - 1,by omega⟩
 rw[List.getElem?_cons_succ,zpk (by rw[zS _ V.plain];omega),zS _ V.plain]at hx2
 rw[show j - widL f.body=0 by omega]at hx2
 simp at hx2
 subst hx2
 cases k2
theorem zeN (l:List St) (v:Value) (D:Nat->Prop) (w:World) (k:Int) (s:St) (hl:SlR 10 RSt D w v l) (h0:0<=k) (hs:(preL l)[k.toNat]?=some s) (hz:ssize l<=10000) :
  Calls Tryz.prog 25 #[v,.int .i64 k] w (Ret fun r w'=>(∃ a1 c1 a2 c2 a3 c3 a4 c4,r=.tuple #[.agg #[.int .i64 s.act,.int .i64 s.cost,.int .i64 s.var,.int .i64 s.n,.int .i64 s.term.op,.int .i64 s.term.n,.slice a1 s.term.kids.length c1,.slice a2 s.thn.length c2,.slice a3 s.els.length c3,.slice a4 s.bounds.length c4],.bool true]/\RSt D w' s [.int .i64 s.act,.int .i64 s.cost,.int .i64 s.var,.int .i64 s.n,.int .i64 s.term.op,.int .i64 s.term.n,.slice a1 s.term.kids.length c1,.slice a2 s.thn.length c2,.slice a3 s.els.length c3,.slice a4 s.bounds.length c4]/\SlR 3 RTm D w' (.slice a1 s.term.kids.length c1) s.term.kids)/\Ext w w'):=by
 obtain⟨k,rfl⟩:=zpP h0
 refine(zjG l v D w k s hl hs hz).mono fun e w'=>?_
 rintro⟨_,rfl,⟨cs,rfl,_,hR⟩,hk⟩
 have hR0:=hR
 obtain⟨u1,u2,u3,u4,rfl,h1,h2,h3,h4⟩:=hR.get
 obtain⟨a1,c1,rfl⟩:=h1.form
 obtain⟨a2,c2,rfl⟩:=h2.form
 obtain⟨a3,c3,rfl⟩:=h3.form
 obtain⟨a4,c4,rfl⟩:=h4.form
 exact⟨_,rfl,⟨a1,c1,a2,c2,a3,c3,a4,c4,rfl,hR0,h1⟩,hk⟩
abbrev yJ (f:Fl) (r:Ins) (j:Nat):Mc:=zbK f (ya f r) (zi f) j (zl1 f r)
theorem zgR {f:Fl} {r:Ins} (vd:Valid f) (e0:zB f.vars r=0) {K:Nat} (hg:GoesAll f r K):∀ j,j<=K->MInv f j (yJ f r j)
 | 0,_=>⟨zbm e0,by show (0:Int)<=0/\(0:Int)<=_;omega,zpi _,fun k=>by show (0:Int)<=0/\(0:Int)<=_;omega⟩
 | j+1,h=>by
  have h3:0<=(yJ f r j).at_/\(yJ f r j).at_<((zi f).length:Int) - 1:=by
   obtain⟨_,_,h2⟩:=hg
   exact h2 j (by omega)
  rw[show yJ f r (j+1)=jt f (ya f r) (zi f) (yJ f r j) from zbW _ _ _ _ _]
  exact zgw vd.good (vd.node h3.1 h3.2).2 (zgR vd e0 hg j (by omega))
def CtOk (f:Fl) (cl:List Int) (rd:Int->Int):Prop:=∀ (i:Nat) x,(zi f)[i]?=some x->x.kind=5->cl[i]?=some (rd x.at_)
theorem CtOk.set {f:Fl} (vd:Valid f) {cl:List Int} {rd:Int->Int} (h:CtOk f cl rd) (hl:cl.length=(zi f).length) {i:Nat} {x:Nd} (hx:(zi f)[i]?=some x) (hk:x.kind=5) (v:Int):CtOk f (cl.set i v) (zcO rd x.at_ v):=by
 intro q y hy ky
 have hi:=(zp7.1 hx).1
 unfold zcO
 by_cases e:y.at_=x.at_
 .
  obtain rfl:q=i:=vd.heads hy hx ky hk e
  rw[zp4 e,List.getElem?_set_self (by omega)]
 rw[zp3 e,List.getElem?_set_ne (fun h=>e (by subst h;rw[hx]at hy;cases hy;rfl))]
 exact h q y hy ky
theorem zjH {f:Fl} (vd:Valid f) {i:Nat} {x:Nd} (hx:(zi f)[i]?=some x):(i+1=(zi f).length->x=⟨1,-1,-1,-1⟩)/\(x.kind=0->x.at_=-1):=by
 have hlen:=yH f vd.plain
 have hi:=(zp7.1 hx).1
 unfold zi at hx
 cases i with
 | zero=>simp at hx;subst hx;exact⟨fun h=>by omega,fun _=>rfl⟩
 | succ i =>
  rw[List.getElem?_cons_succ]at hx
  by_cases hi2:i<widL f.body
  .
   rw[zpj (by rw[zS _ vd.plain];omega)]at hx
   refine⟨fun h=>by omega,fun h=>?_⟩
   rcases kC _ _ _ _ x (zoU hx) with h' | h' | h' | h'<;>omega
  rw[zpk (by rw[zS _ vd.plain];omega),zS _ vd.plain,show i - widL f.body=0 by omega]at hx
  simp at hx;subst hx
  exact⟨fun _=>rfl,fun h=>by (cases h)⟩
end Go.Proofs.YtckdhgbepmpgiaaGreat
namespace Go.GL
open Go.RowKit
section
variable {P:Program} {n:Nat} {Q:Exit->Act->World->Prop} {ks:List Fr} {pos:Pos} {env:Env} {A:Tgs} {H Hs:Hp} {Bs B0:zC} {ops:Array Oper} {rest:List Oper} {v:Value} {L:List Nat} {fuel:Nat} {listed:Array Bool}
variable {d:Nat} {op:Op} {ty:TypeId} {ps:String} {aft:Array Edge} {g:Option (Nat × Bool)}
theorem V.opM (k:Nat) {e e':HE} {r:Value} (hn:(Nat.blt d n,gd ops env g,hget H k,ji H k)=(true,some true,some e,none)) (hl:e'.loc) (hz:∀ b,¬ e'.fz b) (hm:∀ w,VI Bs H w->yK P ⟨some d,op,ty,ps,aft,g⟩ env w (fun u w'=>u=r/\e'.holds w'/\Keep e.S w w'/\∀ q,e'.S q->(e.S q\/w.heap.size<=q)/\q<w'.heap.size))
  (h:V P n Q ks (.o ops rest) ((d,r)::env) ((d,none)::A) (yx H k e') Bs):V P n Q ks (.o ops (⟨some d,op,ty,ps,aft,g⟩::rest)) env A H Bs:=by
 simp only[Prod.mk.injEq]at hn
 refine fun hA w hI=>zlY hn.1 hn.2.1 (hm w hI) ?_
 rintro _ w' ⟨rfl,hh,hk,hS⟩
 exact h (TgOk.none (hA.res hn.2.2.1 hn.2.2.2)) w' (hI.set hn.2.2.1 hk hh hl hz hS)
end
section
variable {P:Program} {n:Nat} {Q:Exit->Act->World->Prop} {ks:List Fr} {env:Env} {A:Tgs} {H Hs:Hp} {Bs B0:zC} {ops:Array Oper} {L:List Nat} {fuel:Nat} {listed:Array Bool}
variable {d:Nat} {ty:TypeId} {ps:String} {aft:Array Edge}
theorem zov (i i2 k2 j:Nat) (kk:List Nat) {f:FuncId} {xs:Array Operand} {ts:Array TypeId} {vs:List Value} {α:Type} {Hn:α->Hp} {Φ:Value->α->Prop} (A1:Tgs) {e2 ty2:TypeId} {ps2:String} {aft2:Array Edge} {d2:Nat} {z:Value} {cs:List Value} (hf:∀ args w,(callFunc f args).run P w=.ok (.enter f args) w)
  (hi:(ops[i]?,ops[i2]?)=(some ⟨some d,.call ⟨.value (.func f),xs,ts⟩,ty,ps,aft,none⟩,some ⟨some d2,.alloc e2,ty2,ps2,aft2,none⟩)) (hr:Region.ready .any ops listed=[i,i2]) (hn:(Nat.blt d n,Nat.blt d2 n,qM env xs.toList,(hget H k2).isNone,qu (Hs.map (·.1)))=(true,true,some vs,true,true)) (hB:Bs.drop j=B0)
  (hHs:∀ x,Hs.map (fun y=>hget (Hn x++yL kk H) y.1)=Hs.map (fun y=>some y.2))
  (hA1:∀ r x,A1.map (fun p=>zdM ((d,r)::env) p.1)=A1.map (fun p=>jC (Hn x++yL kk H) p.2)) (hA2:∀ x,A1.all (fun p=>(jC (Hn x++yL kk H) p.2).isSome)=true)
  (hz:∀ w,(zeroValue e2).run P w=.ok z w) (hzc:z.cells=cs.toArray)
  (hc:∀ w,VI Bs H w->Calls P f vs.toArray w (Ret fun r w'=>∃ x,Φ r x/\Hands H kk (Hn x) w w'))
  (h:∀ r x,Φ r x->VD P n Q ks ops Hs B0 L fuel (listed.setIfInBounds i true) ((d,r)::env) A1 (Hn x++yL kk H) Bs)
  (h2:∀ b,VD P n Q ks ops Hs B0 L fuel (listed.setIfInBounds i2 true) ((d2,.pointer (some ⟨b,0,none⟩))::env) ((d2,some (k2,0))::A) ((k2,.own b cs e2)::H) Bs):VD P n Q ks ops Hs B0 L (fuel+1) listed env A H Bs:=by
 simp only[Prod.mk.injEq,zrt]at hi hn
 subst hB
 obtain⟨hi1,hi2⟩:=hi
 obtain⟨hb1,hb2,hv,hk2,hu0⟩:=hn
 intro hH hA w hI
 refine zmg i i2 (R:=fun r w'=>∃ x,Φ r x/\Hands H kk (Hn x) w w') (Rj:=fun r w'=>∃ b,r=.pointer (some ⟨b,0,none⟩)/\New w cs e2 b w') hi1 hi2 hr O O hb1 O O hb2 (.inr ⟨f,_,F.call hf (yT hv),hc w hI⟩) (.inl (M.alloc hz hzc)) ?_ ?_
 .
  rintro r w1 ⟨x,hP,hh⟩
  have hI':=hI.hands hh
  exact⟨fun _=>(hI'.drop j).pick (Has.of (hHs x)) hu0,h r x hP (Has.of (hHs x)) (TgOk.of (hA1 r x) (hA2 x)) w1 hI'⟩
 rintro _ w1 ⟨b,rfl,hb,hs,hB,hk⟩
 have hI1:VI Bs ((k2,.own b cs e2)::H) w1:=hI.new hk k2 hB trivial (fun _ h=>h) (fun q hq=>by have hq:q=b:=hq;omega)
 have hH1:Has Hs ((k2,.own b cs e2)::H):=hH.new hk2
 refine⟨fun _=>(hI1.drop j).pick hH1 hu0,h2 b hH1 ((hA.new hk2).push fun k' off hg=>?_) w1 hI1⟩
 cases hg
 exact⟨b,0,by simp[ji,hget,],rfl⟩
end
end Go.GL
namespace Go.Proofs.YtckdhgbepmpgiaaGreat
open Go.GL
abbrev FQ:=(Option Addr × Nat) × (Option Addr × Nat) × (Option Addr × Nat) × (Option Addr × Nat)
abbrev zkr (s:St) (y:FQ):Value:=.agg #[.int .i64 s.act,.int .i64 s.cost,.int .i64 s.var,.int .i64 s.n,.int .i64 s.term.op,.int .i64 s.term.n,.slice y.1.1 s.term.kids.length y.1.2,.slice y.2.1.1 s.thn.length y.2.1.2,.slice y.2.2.1.1 s.els.length y.2.2.1.2,.slice y.2.2.2.1 s.bounds.length y.2.2.2.2]
theorem zee {H:Hp} (l:List St) (v:Value) (D:Nat->Prop) (w:World) (k:Int) (s:St) (hl:SlR 10 RSt D w v l) (h0:0<=k) (hs:(preL l)[k.toNat]?=some s) (hz:ssize l<=10000) :
  Calls Tryz.prog 25 #[v,.int .i64 k] w (Ret fun r w'=>∃ y:FQ,r=.tuple #[zkr s y,.bool true]/\Hands H [] [] w w'):=by
 refine(zeN l v D w k s hl h0 hs hz).mono ?_
 rintro _ w' ⟨_,rfl,⟨a1,c1,a2,c2,a3,c3,a4,c4,rfl,_,_⟩,hk⟩
 exact⟨_,rfl,((a1,c1),(a2,c2),(a3,c3),(a4,c4)),rfl,hk.mono fun q _ h=>h.elim,fun x hx=>(by cases hx),List.Pairwise.nil⟩
theorem qH {f:Fl} {k:Int} (h0:0<=k) (h1:k<((preL f.body).length:Int)):(preL f.body)[k.toNat]?=some (zO f k):=by
 unfold zO
 rw[zoT (show k.toNat<(preL f.body).length by omega)]
 rfl
theorem zbo (f:Fl) (g:List Nd) (hk:GOk f g) (hz:ssize f.body<=10000) (i:Nat) (hi:i<g.length) (v1 v2 v3 gv:Value) (D D':Nat->Prop) (W:World) (hf:RFl D W f v1 v2 v3) (hg:SlR 4 RNd D' W gv g) :
  Calls Tryz.prog 23 #[.agg #[v1,v2,v3],.agg #[gv],.int .i64 i] W (Ret fun r w'=>r=.int .i64 (xA f g i)/\Ext W w'):=by
 obtain⟨ag,cg,rfl⟩:=hg.form
 have hgm:=hg.max
 refine zn3 Tryz.func23 O Tryz.ntmps23 O (znb ?_)
 refine Vs 2 O ?_
 refine V.box 3 O O (fun b3=>?_)
 refine V.box 4 O O (fun b4=>?_)
 refine Vs 9 O ?_
 obtain⟨x,he_x,hm_x⟩:=gE_ g (i) (by omega)
 obtain⟨b_x,o_x,c_x,ha_x,_,hc_x,hR_x⟩:=hg.at he_x
 obtain rfl:=hR_x
 refine znH 1000 0 O O hc_x ?_
 refine znk 1000 tR34 ts65 O ha_x (by omega) (_) (rfl) O ?_
 have hx:=yD he_x
 refine Vs 5 O ?_
 refine zld O (fun k2=>?_) (fun k2=>?_)
 .
  refine Vs 7 O ?_
  refine zlt tr23 O (fun w hI=>⟨_,rfl,by unfold xA zdn;rw[hx,zp3 (by simp[k2])],hI.k0⟩)
 have k2:=zp2.1 k2
 obtain⟨h0,h1,h2⟩:=hk.at he_x (.inl k2)
 have hdef:xA f g i=if (zO f x.at_).act=0\/(zO f x.at_).act=5 then (zO f x.at_).var else -1:=by
  unfold xA zdn
  rw[hx]
  by_cases e:(zO f x.at_).act=0\/(zO f x.at_).act=5
  . rw[zp4 e,zp4 (by simpa[k2] using e)]
  rw[zp3 e,zp3 (by simpa[k2] using e)]
 generalize hse:zO f x.at_=s at *
 refine Vs 3 O ?_
 refine Vw [3,4,1000] [] O ?_
 refine Vd [0,1,2,3,4] 0 (by kernel_rfl) O O O ?_
 refine znl 5 1000 tR34 ts65 O (by kernel_rfl) O ha_x (by omega) (_) (rfl) O ?_
 refine Vd [6,7] 0 (by kernel_rfl) O O O ?_
 refine zov 8 12 7 0 [] (Hn:=fun y:FQ=>[]) [(3,some (3,0)),(4,some (4,0)),(9,some (4,0)),(12,some (1000,0)),(13,some (1000,0)),(17,some (3,2)),(19,some (4,0)),(22,some (1000,0)),(23,some (1000,1))] tc25 O (by kernel_rfl) O O (fun _=>rfl) (fun _ _=>rfl) (fun _=>rfl) tz72 O (fun w hI=>zee f.body v3 D w x.at_ s (Tr1 hI.k0 hf.body) h0 (hse ▸ qH h0 h1) hz) ?_ (fun b7=>?_)
 .
  rintro _ ⟨⟨a1,c1⟩,⟨a2,c2⟩,⟨a3,c3⟩,⟨a4,c4⟩⟩ rfl
  refine Vd [9,10,11] 0 (by kernel_rfl) O O O ?_
  refine znh 12 7 0 O (by kernel_rfl) O O (fun _ _=>M.alloc tz72 O) (fun b7=>?_)
  refine Ve 13 0 O (by kernel_rfl) O O O ?_
  refine Vd [14] 0 (by kernel_rfl) O O O ?_
  refine VD.done (by kernel_rfl) ?_
  refine Vs 8 O ?_
  refine V.sp 31 O (fun a0=>?_) (fun a0=>?_)
  .
   refine Vs 16 O ?_
   refine zlt tr23 O (fun w hI=>⟨_,rfl,by rw[hdef,zp4 (.inl a0)],hI.k0⟩)
  refine Vs 6 O ?_
  refine zld O (fun a5=>?_) (fun a5=>?_)
  .
   refine Vs 9 O ?_
   refine zlt tr23 O (fun w hI=>⟨_,rfl,by rw[hdef,zp4 (.inr a5)],hI.k0⟩)
  refine Vs 8 O ?_
  refine zlt tr23 O (fun w hI=>⟨_,rfl,by rw[hdef,zp3 (fun h=>h.elim a0 a5)],hI.k0⟩)
 refine zoq 8 0 [] (Hn:=fun y:FQ=>[]) [(3,some (3,0)),(4,some (4,0)),(7,some (7,0)),(9,some (4,0)),(12,some (1000,0)),(13,some (1000,0)),(17,some (3,2)),(19,some (4,0)),(22,some (1000,0)),(23,some (1000,1))] tc25 O (by kernel_rfl) O O (fun _=>rfl) (fun _ _=>rfl) (fun _=>rfl) (fun w hI=>zee f.body v3 D w x.at_ s (Tr1 hI.k0 hf.body) h0 (hse ▸ qH h0 h1) hz) ?_
 rintro _ ⟨⟨a1,c1⟩,⟨a2,c2⟩,⟨a3,c3⟩,⟨a4,c4⟩⟩ rfl
 refine Vd [9,10,11] 0 (by kernel_rfl) O O O ?_
 refine Ve 13 0 O (by kernel_rfl) O O O ?_
 refine Vd [14] 0 (by kernel_rfl) O O O ?_
 refine VD.done (by kernel_rfl) ?_
 refine Vs 8 O ?_
 refine V.sp 31 O (fun a0=>?_) (fun a0=>?_)
 .
  refine Vs 16 O ?_
  refine zlt tr23 O (fun w hI=>⟨_,rfl,by rw[hdef,zp4 (.inl a0)],hI.k0⟩)
 refine Vs 6 O ?_
 refine zld O (fun a5=>?_) (fun a5=>?_)
 .
  refine Vs 9 O ?_
  refine zlt tr23 O (fun w hI=>⟨_,rfl,by rw[hdef,zp4 (.inr a5)],hI.k0⟩)
 refine Vs 8 O ?_
 refine zlt tr23 O (fun w hI=>⟨_,rfl,by rw[hdef,zp3 (fun h=>h.elim a0 a5)],hI.k0⟩)
theorem zgS (f:Fl) (g:List Nd) (hk:GOk f g) (hz:ssize f.body<=10000) (i:Nat) (hi:i<g.length) (v1 v2 v3 gv:Value) (D D':Nat->Prop) (W:World) (hf:RFl D W f v1 v2 v3) (hg:SlR 4 RNd D' W gv g) :
  Calls Tryz.prog 71 #[.agg #[v1,v2,v3],.agg #[gv],.int .i64 i] W (Ret fun r w'=>SlR 1 yc (fun q=>W.heap.size<=q) w' r (rdV f g i)/\Ext W w'):=by
 obtain⟨ag,cg,rfl⟩:=hg.form
 have hgm:=hg.max
 refine zn3 Tryz.func71 O Tryz.ntmps71 O (znb ?_)
 refine Vs 2 O ?_
 refine V.box 3 O O (fun b3=>?_)
 refine V.box 4 O O (fun b4=>?_)
 refine Vs 8 O ?_
 obtain⟨x,he_x,hm_x⟩:=gE_ g (i) (by omega)
 obtain⟨b_x,o_x,c_x,ha_x,_,hc_x,hR_x⟩:=hg.at he_x
 obtain rfl:=hR_x
 refine znH 1000 0 O O hc_x ?_
 refine znk 1000 tR34 ts65 O ha_x (by omega) (_) (rfl) O ?_
 have hx:=yD he_x
 obtain⟨hk1,hk2⟩:=hk i x he_x
 have hrd:rdV f g i=rdN f x:=by unfold rdV;rw[hx]
 have hno:rdB f x=false->SlR 1 yc (fun q=>W.heap.size<=q) W (.slice none 0 0) (rdV f g i):=fun h=>by rw[hrd];unfold rdN;rw[h];exact SlR.nil
 refine Vs 1 O ?_
 refine V.alloc 7 tz65 O O (fun b7=>?_)
 refine Vs 4 O ?_
 refine znc (p:=x.at_<0) (fun hat=>?_) (fun hat=>?_)
 .
  have hkd:=hk1 hat
  refine Vs 5 O ?_
  refine znw tc25 O (fun w hI=>zag f.body v3 D w x.at_ (Tr1 hI.k0 hf.body) hat) ?_
  have hrb:rdB f x=false:=zp6 (by omega)
  refine Vs 3 O ?_
  refine V.alloc 8 tz72 O O (fun b8=>?_)
  refine Vs 11 O ?_
  refine V.sp 27 O (fun p1=>?_) (fun p1=>?_)
  .
   refine Vs 5 O ?_
   refine V.sp 32 O (fun p2=>?_) (fun p2=>?_)
   .
    refine Vs 4 O ?_
    refine V.sp 36 O (fun p3=>?_) (fun p3=>?_)
    .
     refine Vs 20 O ?_
     refine zlt tr71 O (fun w hI=>⟨_,rfl,Tr1 hI.k0 (hno hrb),hI.k0⟩)
    omega
   omega
  omega
 obtain⟨h1,h2⟩:=hk2 (by omega)
 have hst:=qH (show 0<=x.at_ by omega) h1
 generalize hse:zO f x.at_=s at *
 refine Vs 5 O ?_
 refine zny tc25 O (fun w hI=>zeN f.body v3 (fun b=>D b/\b<W.heap.size) w x.at_ s ((SlR.narrow (by omega) qP hf.body).ext zc hI.k0) (by omega) hst hz) ?_
 rintro rr w1 w2 hI1 hk12 ⟨a1,c1,a2,c2,a3,c3,a4,c4,rfl,hR,hkids⟩ hlow
 refine Vs 3 O ?_
 refine V.alloc 1008 tz72 O O (fun b1008=>?_)
 refine Vs 5 O ?_
 refine znL (σ:=Unit) [8] [1008] [8] O (fun e u=>e) (fun e u=>e) (fun u=>rdB f x=true) (fun _=>rfl) (fun _=>rfl) ?_ ?_
 .
  refine Vs 6 O ?_
  refine V.sp 27 O (fun k1_=>?_) (fun k1_=>?_)
  .
   refine Vs 5 O ?_
   refine V.sp 32 O (fun k2_=>?_) (fun k2_=>?_)
   .
    refine Vs 4 O ?_
    refine V.sp 36 O (fun k3_=>?_) (fun k3_=>?_)
    .
     refine Vs 21 O ?_
     refine zlt tr71 O (fun w hI=>⟨_,rfl,Tr1 hI.k1 (hno (by unfold rdB;rw[hse];exact zp6 (by omega))),hI.k1⟩)
    refine Vs 4 O ?_
    refine V.sp 40 O (fun k4_=>?_) (fun k4_=>?_)
    .
     refine Vs 8 O ?_
     refine zld O (fun k5_=>?_) (fun k5_=>?_)
     .
      refine Vs 8 O ?_
      refine zlt tr71 O (fun w hI=>⟨_,rfl,Tr1 hI.k1 (hno (by unfold rdB;rw[hse];exact zp6 (by omega))),hI.k1⟩)
     refine Vs 1 O ?_
     refine zlq (()) (Sub.of O) (Has.of O) (by unfold rdB;rw[hse];exact zp5 (by omega)) 0 O O
    refine Vs 10 O ?_
    refine zlq (()) (Sub.of O) (Has.of O) (by unfold rdB;rw[hse];exact zp5 (by omega)) 0 O O
   refine Vs 18 O ?_
   refine zlq (()) (Sub.of O) (Has.of O) (by unfold rdB;rw[hse];exact zp5 (by omega)) 0 O O
  refine Vs 23 O ?_
  refine zlq (()) (Sub.of O) (Has.of O) (by unfold rdB;rw[hse];exact zp5 (by omega)) 0 O O
 rintro u hrb
 have hrd2:rdV f g i=Gr.compactL (ja (yn s.term)):=by rw[hrd];unfold rdN;rw[zp4 hrb,hse]
 refine Vs 2 O ?_
 refine zno 901 3 1 O ?_
 refine Vs 3 O ?_
 refine znB 901 (E:=fun x=>xB x ([]++yn s.term)) Tryz.call115 O (fun _=>⟨trivial,fun _ h=>h⟩) (fun w hI=>zin s.term _ _ [] (fun q=>D q/\q<W.heap.size) w ((hkids.wide zl (fun q h=>(⟨h.1,h.2⟩:D q/\q<W.heap.size))).keep zl hI.k0 (fun b hb _ hs=>by have:=hI1.hsE 0 O hs;have:=hb.2;omega)) (hI.at 901 O) (fun q hq=>⟨zrj hq.2 (hI.k1).size,fun h=>by cases h⟩) (by simp;omega)) ?_
 rintro u2 _ rfl
 rw[zqM]
 refine Vs 6 O ?_
 refine znB 901 (E:=fun _:Unit=>xB u2 (ja (yn s.term))) Tryz.call116 O (fun _=>⟨trivial,fun _ h=>h⟩) (fun w hI=>zgM u2 (yn s.term) (hI.at 901 O) (by omega)) ?_
 rintro _ _ rfl
 refine Vs 5 O ?_
 refine znB 901 (E:=fun x=>xB x (Gr.compactL (ja (yn s.term)))) Tryz.call117 O (fun _=>⟨trivial,fun _ h=>h⟩) (fun w hI=>zc0 u2 (ja (yn s.term)) (hI.at 901 O) (by rw[qq];omega)) ?_
 rintro u3 _ rfl
 refine Vs 4 O ?_
 refine zlt tr71 O (fun w hI=>⟨_,rfl,by rw[hrd2];exact zmj zb (fun _ _=>rfl) (hI.at 901 O) (fun g hg=>hI.own 901 1 O O g hg),hI.k1⟩)
theorem verB_nat {f:Fl} {s:Sf} {n:Nat} {v:Int} {b:Bool}:jO f s (n:Int) v b ↔ s.of_[n]?=some v/\(b=true->f.vars.length<=n):=by
 unfold jO
 rw[zpf]
 constructor
 . exact fun h=>⟨h.2.1,fun hb=>by have:=h.2.2 hb;omega⟩
 exact fun h=>⟨by omega,h.1,fun hb=>by have:=h.2 hb;omega⟩
theorem zeO {f:Fl} {s:Sf} {k v:Int} {b:Bool} (h:¬ 0<=k):¬ jO f s k v b:=fun h2=>h h2.1
abbrev chk (gb:Nat) (ofv nv bv dv:Value):List Value:=[.pointer (some ⟨gb,0,none⟩),ofv,nv,bv,dv]
theorem zeP (f:Fl) (s:Sf) (k v:Int) (b gb:Nat) (ofv nv bv dv:Value) (D:Nat->Prop) (W:World) (hc:Cells W b 0 (chk gb ofv nv bv dv)) (hof:SlR 1 yc D W ofv s.of_) :
  Calls Tryz.prog 82 #[.pointer (some ⟨b,0,none⟩),.int .i64 k,.int .i64 v] W (Ret fun r w'=>r=.bool (decide (jO f s k v false))/\Ext W w'):=by
 obtain⟨ao,co,rfl⟩:=hof.form
 have hmx:=hof.max
 refine zn3 Tryz.func82 O Tryz.ntmps82 O (znb ?_)
 refine znI 900 0 O O (fun h=>h) hc ?_
 refine zni 0 900 0 O O ?_
 refine Vs 10 O ?_
 refine V.sp 9 O (fun g0=>?_) (fun g0=>?_)
 .
  obtain⟨n,rfl⟩:=zpP g0
  refine Vs 10 O ?_
  refine V.sp 19 O (fun g1=>?_) (fun g1=>?_)
  .
   refine Vs 6 O ?_
   obtain⟨x,he_x,hm_x⟩:=gE_ s.of_ (n) (by omega)
   obtain⟨b_x,o_x,c_x,ha_x,_,hc_x,hR_x⟩:=hof.at he_x
   obtain rfl:=hR_x
   refine znH 1000 0 O O hc_x ?_
   refine znk 1000 tR27 ts3 O ha_x (by omega) (_) (rfl) O ?_
   refine Vs 8 O ?_
   refine zlt Tryz.results82 O (fun w hI=>⟨_,rfl,by rw[zpl.2 (show jO f s (n:Int) v false ↔ x=v by rw[verB_nat,he_x];simp)],hI.k0⟩)
  refine Vs 15 O ?_
  refine zlt Tryz.results82 O (fun w hI=>⟨_,rfl,by rw[zp6 (fun h=>g1 (by have:=(zp7.1 (verB_nat.1 h).1).1;omega))],hI.k0⟩)
 refine Vs 25 O ?_
 refine zlt Tryz.results82 O (fun w hI=>⟨_,rfl,by rw[zp6 (zeO g0)],hI.k0⟩)
theorem zbp (f:Fl) (g:List Nd) (s:Sf) (k v:Int) (b gb:Nat) (ofv nv bv dv:Value) (D D':Nat->Prop) (W:World) (hc:Cells W b 0 (chk gb ofv nv bv dv)) (hof:SlR 1 yc D W ofv s.of_) (hG:GrO D' W f g gb) :
  Calls Tryz.prog 80 #[.pointer (some ⟨b,0,none⟩),.int .i64 k,.int .i64 v] W (Ret fun r w'=>r=.bool (decide (jO f s k v true))/\Ext W w'):=by
 obtain⟨v1,v2,v3,gv,sv,pv,hD,hcell,hf,hg,hs,hp⟩:=hG
 obtain⟨a1,c1,rfl⟩:=hf.vars.form
 obtain⟨ao,co,rfl⟩:=hof.form
 refine zn3 Tryz.func80 O Tryz.ntmps80 O (znb ?_)
 refine znI 900 0 O O (fun h=>h) hc ?_
 refine znI 901 0 O O (fun h=>h) hcell ?_
 refine zni 0 900 0 O O ?_
 refine Vs 12 O ?_
 refine zni 11 901 0 O O ?_
 refine Vs 7 O ?_
 refine V.sp 18 O (fun g0=>?_) (fun g0=>?_)
 .
  refine Vs 3 O ?_
  refine znw Tryz.call82 O (fun w hI=>zeP f s k v b gb _ _ _ _ D w (Tr1 hI.k0 hc) (Tr1 hI.k0 hof)) ?_
  refine Vs 5 O ?_
  refine zlt Tryz.results80 O (fun w hI=>⟨_,rfl,by rw[zpl.2 (show jO f s k v true ↔ jO f s k v false by unfold jO;simp;omega)],hI.k0⟩)
 refine Vs 9 O ?_
 refine zlt Tryz.results80 O (fun w hI=>⟨_,rfl,by rw[zp6 (fun h=>g0 (by have:=h.2.2 rfl;omega))],hI.k0⟩)
theorem xQ (f:Fl) (s:Sf) (k v:Int) (fr:Bool) (v1 v2 v3 ofv nv:Value) (D D':Nat->Prop) (W:World) (hf:RFl D' W f v1 v2 v3) (hof:SlR 1 yc D W ofv s.of_) :
  Calls Tryz.prog 68 #[.agg #[v1,v2,v3],.agg #[ofv,nv],.int .i64 k,.int .i64 v,.bool fr] W (Ret fun r w'=>r=.bool (decide (jO f s k v fr))/\Ext W w'):=by
 obtain⟨a1,c1,rfl⟩:=hf.vars.form
 obtain⟨ao,co,rfl⟩:=hof.form
 have hmx:=hof.max
 refine G.in5 Tryz.func68 O Tryz.ntmps68 O (znb ?_)
 refine Vs 2 O ?_
 refine V.box 5 O O (fun b5=>?_)
 refine V.box 6 O O (fun b6=>?_)
 refine Vs 8 O ?_
 refine V.sp 13 O (fun g0=>?_) (fun g0=>?_)
 .
  obtain⟨n,rfl⟩:=zpP g0
  refine Vs 7 O ?_
  refine V.sp 20 O (fun g1=>?_) (fun g1=>?_)
  .
   refine Vs 3 O ?_
   obtain⟨x,he_x,hm_x⟩:=gE_ s.of_ (n) (by omega)
   obtain⟨b_x,o_x,c_x,ha_x,_,hc_x,hR_x⟩:=hof.at he_x
   obtain rfl:=hR_x
   refine znH 1000 0 O O hc_x ?_
   refine znk 1000 tR27 ts3 O ha_x (by omega) (_) (rfl) O ?_
   refine Vs 5 O ?_
   refine V.sp 29 O (fun g2=>?_) (fun g2=>?_)
   .
    refine Vs 1 O ?_
    refine zmS O (fun w hI=>zms O (by first | exact za | rfl)) ?_
    refine Vs 1 O ?_
    refine V.sb 32 O (fun g3=>?_) (fun g3=>?_)
    .
     have hfr:fr=false:=by simpa using g3
     refine Vs 11 O ?_
     refine zlt tr68 O (fun w hI=>⟨_,rfl,by rw[hfr,zp5 (verB_nat.2 ⟨by rw[he_x,g2],fun h=>by cases h⟩)],hI.k0⟩)
    have hfr:fr=true:=by simpa using g3
    refine Vs 11 O ?_
    refine zlt tr68 O (fun w hI=>⟨_,rfl,by rw[hfr,zpl.2 (show jO f s (n:Int) v true ↔ (n:Int) ≥ (f.vars.length:Int) by rw[verB_nat,he_x,g2];simp)],hI.k0⟩)
   refine Vs 14 O ?_
   refine zlt tr68 O (fun w hI=>⟨_,rfl,by rw[zp6 (fun h=>g2 (by have:=(verB_nat.1 h).1;rw[he_x]at this;exact Option.some.inj this))],hI.k0⟩)
  refine Vs 23 O ?_
  refine zlt tr68 O (fun w hI=>⟨_,rfl,by rw[zp6 (fun h=>g1 (by have:=(zp7.1 (verB_nat.1 h).1).1;omega))],hI.k0⟩)
 refine Vs 30 O ?_
 refine zlt tr68 O (fun w hI=>⟨_,rfl,by rw[zp6 (zeO g0)],hI.k0⟩)
def qI (g:List Nd) (n:Nat) (i:Nat):List Int:=((List.range i).filter fun y:Nat=>decide ((xk g y).next=(n:Int)\/(xk g y).other=(n:Int))).map fun i:Nat=>(i:Int)
theorem zfs (g:List Nd) (n i:Nat):qI g n (i+1)=qI g n i++if (xk g i).next=(n:Int)\/(xk g i).other=(n:Int) then [(i:Int)] else []:=by
 unfold qI
 rw[zqU,zqf,zqw]
 congr 1
 by_cases e:(xk g i).next=(n:Int)\/(xk g i).other=(n:Int)
 . rw[zp4 e,zqh (by simpa using e)];rfl
 rw[zp3 e,zqg (by simpa using e)];rfl
theorem zio (g:List Nd) (n i:Nat):(qI g n i).length<=i:=by
 unfold qI
 rw[zpd]
 exact zoZ (zqt _ _) (zri List.length_range)
theorem za2 (g:List Nd) (hgl:g.length<=1000000) (n:Nat) (gv:Value) (D:Nat->Prop) (W:World) (hg:SlR 4 RNd D W gv g) :
  Calls Tryz.prog 70 #[.agg #[gv],.int .i64 n] W (Ret fun r w'=>SlR 1 yc (fun q=>W.heap.size<=q) w' r (qG g n)/\Ext W w'):=by
 obtain⟨ag,cg,rfl⟩:=hg.form
 refine zn2 Tryz.func70 O Tryz.ntmps70 O (znb ?_)
 refine Vs 2 O ?_
 refine V.box 2 O O (fun b2=>?_)
 refine Vs 4 O ?_
 refine zno 901 3 1 O ?_
 refine Vs 14 O ?_
 refine znK (σ:=Nat × Value) [1,9,10] [] [] O (fun e ⟨i,u⟩=>(11,.int .i64 i)::(5,u)::e) (fun e ⟨i,u⟩=>(901,.row 3 1 u (qI g n i).length ((qI g n i).map zb))::e) (fun⟨i,u⟩=>i<=g.length) (fun⟨i,u⟩=>g.length - i) ((0,_)) (Sub.of O) (Has.of O) (fun _=>rfl) (fun _=>rfl) (fun _=>rfl) (zp8 _) ?_
 rintro⟨i,u⟩ hi
 show V _ _ _ _ _ ((11,.int .i64 i)::(5,u)::_) _ ((901,.row 3 1 u (qI g n i).length ((qI g n i).map zb))::_) _
 have hpl:=zio g n i
 have hnx:=zfs g n i
 refine Vs 6 O ?_
 refine zld O (fun lt=>?_) (fun lt=>?_)
 .
  refine Vs 7 O ?_
  obtain⟨x,he_x,hm_x⟩:=gE_ g (i) (by omega)
  obtain⟨b_x,o_x,c_x,ha_x,_,hc_x,hR_x⟩:=hg.at he_x
  obtain rfl:=hR_x
  refine znH 1000 0 O O hc_x ?_
  refine znk 1000 tR34 ts65 O ha_x (by omega) (_) (rfl) O ?_
  have hx:=yD he_x
  rw[hx]at hnx
  refine Vs 1 O ?_
  refine V.alloc 7 tz65 O O (fun b7=>?_)
  refine Vs 4 O ?_
  refine znL (σ:=Value) [1,9,10,11] [] [] O (fun e u'=>(5,u')::e) (fun e u'=>(901,.row 3 1 u' (qI g n (i+1)).length ((qI g n (i+1)).map zb))::e) (fun u'=>True) (fun _=>rfl) (fun _=>rfl) ?_ ?_
  .
   refine Vs 7 O ?_
   refine V.sp 20 O (fun g1=>?_) (fun g1=>?_)
   .
    refine Vs 11 O ?_
    refine V.bs 28 [(0,_)] tR27 ts3 tz3 (by decide) O O (by kernel_rfl) (fun b28=>?_)
    refine znp 901 28 tu27 Tryz.el3 O (by decide) O O (by omega) (by omega) (fun u901=>?_)
    refine Vs 2 O ?_
    refine znJ 901 O (e':=.row 3 1 u901 (qI g n (i+1)).length ((qI g n (i+1)).map zb)) (by rw[hnx,zp4 (.inl g1),zp1,zqw];rfl) ?_
    refine zlq (u901) (Sub.of O) (Has.of O) (True.intro) 0 O O
   refine Vs 7 O ?_
   refine zld O (fun g2=>?_) (fun g2=>?_)
   .
    refine Vs 3 O ?_
    refine V.bs 1028 [(0,_)] tR27 ts3 tz3 (by decide) O O (by kernel_rfl) (fun b1028=>?_)
    refine znp 901 1028 tu27 Tryz.el3 O (by decide) O O (by omega) (by omega) (fun u901=>?_)
    refine Vs 2 O ?_
    refine znJ 901 O (e':=.row 3 1 u901 (qI g n (i+1)).length ((qI g n (i+1)).map zb)) (by rw[hnx,zp4 (.inr g2),zp1,zqw];rfl) ?_
    refine zlq (u901) (Sub.of O) (Has.of O) (True.intro) 0 O O
   refine znJ 901 O (e':=.row 3 1 u (qI g n (i+1)).length ((qI g n (i+1)).map zb)) (by rw[hnx,zp3 (fun h=>h.elim g1 g2),zq4]) ?_
   refine Vs 1 O ?_
   refine zlq (u) (Sub.of O) (Has.of O) (True.intro) 0 O O
  rintro u' -
  show V _ _ _ _ _ ((5,u')::_) _ ((901,.row 3 1 u' (qI g n (i+1)).length ((qI g n (i+1)).map zb))::_) _
  refine Va 6 O (by omega) ?_
  refine V.back (⟨i+1,u'⟩) (Sub.of O) (Has.of O) (by omega) (by first | omega | (dsimp only;omega)) 0 O O
 obtain rfl:i=g.length:=by omega
 refine Vs 12 O ?_
 refine zlt Tryz.results70 O (fun w hI=>⟨_,rfl,zmj zb (fun _ _=>rfl) (show w.ownsRow 0 3 1 u (qG g n).length ((qG g n).map zb) from hI.at 901 O) (fun g hg=>hI.own 901 0 O O g hg),hI.k0⟩)
def VOk (f:Fl) (j:Nat) (v:Int):Prop:=(j<f.vars.length->v=(j:Int))/\(f.vars.length<=j->0<=v/\∃ x,f.vars[v.toNat]?=some x/\x.kind=0)
theorem ofF_iff {f:Fl} {s:Sf}:OfF f s ↔ f.vars.length<=s.of_.length/\∀ (j:Nat) v,s.of_[j]?=some v->VOk f j v :=
 ⟨fun h=>⟨h.len,fun j v hv=>⟨fun hj=>h.ini j v hv hj,fun hj=>h.new j v hv hj⟩⟩,fun h=>⟨h.1,fun j v hv hj=>(h.2 j v hv).1 hj,fun j v hv hj=>(h.2 j v hv).2 hj⟩⟩
theorem zW {α:Type} {l:List α} {P:Nat->α->Prop} {i:Nat} {x:α} (h:∀ (j:Nat) y,j<i->l[j]?=some y->P j y) (hx:l[i]?=some x) (hp:P i x):∀ (j:Nat) y,j<i+1->l[j]?=some y->P j y:=fun j y hj hy=>by
 by_cases e:j=i
 . subst e;rw[hx]at hy;cases hy;exact hp
 exact h j y (by omega) hy
theorem xC {α:Type} {l:List α} {P:Nat->α->Prop} (h:∀ (j:Nat) y,j<l.length->l[j]?=some y->P j y):∀ (j:Nat) y,l[j]?=some y->P j y:=fun j y hy=>h j y (zp7.1 hy).1 hy
theorem zdu (f:Fl) (g:List Nd) (s:Sf) (b gb:Nat) (ofv nv bv dv:Value) (D D':Nat->Prop) (W:World) (hc:Cells W b 0 (chk gb ofv nv bv dv)) (hof:SlR 1 yc D W ofv s.of_) (hG:GrO D' W f g gb) :
  Calls Tryz.prog 38 #[.pointer (some ⟨b,0,none⟩)] W (Ret fun r w'=>(∃ q:Bool,r=.bool q/\(q=true ↔ OfF f s))/\Ext W w'):=by
 obtain⟨v1,v2,v3,gv,sv,pv,hD,hcell,hf,hg,hs,hp⟩:=hG
 have hfv:=hf.vars
 obtain⟨a1,c1,rfl⟩:=hfv.form
 obtain⟨ao,co,rfl⟩:=hof.form
 have hmx:=hof.max
 have hno:∀ (j:Nat) v,s.of_[j]?=some v->¬ VOk f j v->((false:Bool)=true ↔ OfF f s):=fun j v hv hn=>⟨fun h=>(by cases h),fun h=>absurd ((ofF_iff.1 h).2 j v hv) hn⟩
 refine zn1 Tryz.func38 O Tryz.ntmps38 O (znb ?_)
 refine znI 900 0 O O (fun h=>h) hc ?_
 refine znI 901 0 O O (fun h=>h) hcell ?_
 refine zni 0 900 0 O O ?_
 refine Vs 11 O ?_
 refine zni 9 901 0 O O ?_
 refine Vs 21 O ?_
 refine zld O (fun l0=>?_) (fun l0=>?_)
 .
  refine Vs 7 O ?_
  refine zlt tr38 O (fun w hI=>⟨_,rfl,⟨_,rfl,⟨fun h=>(by cases h),fun h=>absurd h.len (by omega)⟩⟩,hI.k0⟩)
 refine Vs 15 O ?_
 refine znK (σ:=Nat) [0,3,27,28] [900,901] [0] O (fun e i=>(29,.int .i64 i)::e) (fun e i=>e) (fun i=>i<=s.of_.length/\∀ (j:Nat) v,j<i->s.of_[j]?=some v->VOk f j v) (fun i=>s.of_.length - i) (0) (Sub.of O) (Has.of O) (fun _=>rfl) (fun _=>rfl) (fun _=>rfl) (⟨zp8 _,fun j v h=>absurd h (zrn _)⟩) ?_
 rintro i ⟨hi,hall⟩
 refine Vs 6 O ?_
 refine zld O (fun lt=>?_) (fun lt=>?_)
 .
  refine Vs 7 O ?_
  obtain⟨v,he_v,hm_v⟩:=gE_ s.of_ (i) (by omega)
  obtain⟨b_v,o_v,c_v,ha_v,_,hc_v,hR_v⟩:=hof.at he_v
  obtain rfl:=hR_v
  refine znH 1000 0 O O hc_v ?_
  refine znk 1000 tR27 ts3 O ha_v (by omega) (_) (rfl) O ?_
  refine Vs 12 O ?_
  refine V.sp 37 O (fun a1=>?_) (fun a1=>?_)
  .
   refine Vs 6 O ?_
   refine zld O (fun a2=>?_) (fun a2=>?_)
   .
    refine Vs 12 O ?_
    refine zlt tr38 O (fun w hI=>⟨_,rfl,⟨_,rfl,hno i v he_v fun h=>a2 (h.1 (by omega))⟩,hI.k0⟩)
   have hnx:=zW hall he_v ⟨fun _=>zp2.1 a2,fun h=>by omega⟩
   refine Vs 8 O ?_
   refine V.sp 45 O (fun b1=>?_) (fun b1=>?_)
   . omega
   refine Va 33 O (by omega) ?_
   refine V.back (i+1) (Sub.of O) (Has.of O) (⟨by omega,hnx⟩) (by first | omega | (dsimp only;omega)) 0 O O
  refine Vs 15 O ?_
  refine V.sp 45 O (fun b1=>?_) (fun b1=>?_)
  .
   refine Vs 3 O ?_
   refine V.sp 48 O (fun b2=>?_) (fun b2=>?_)
   .
    refine Vs 34 O ?_
    refine zlt tr38 O (fun w hI=>⟨_,rfl,⟨_,rfl,hno i v he_v fun h=>by have:=(h.2 (by omega)).1;omega⟩,hI.k0⟩)
   obtain⟨m,rfl⟩:=zpP (show 0<=v by omega)
   refine Vs 5 O ?_
   refine V.sp 53 O (fun b3=>?_) (fun b3=>?_)
   .
    refine Vs 29 O ?_
    have hb:¬ VOk f i (m:Int):=fun h=>by
     obtain⟨_,x,hx,_⟩:=h.2 (by omega)
     have:=(zp7.1 hx).1
     omega
    refine zlt tr38 O (fun w hI=>⟨_,rfl,⟨_,rfl,hno i m he_v hb⟩,hI.k0⟩)
   refine Vs 4 O ?_
   refine zni 57 901 0 O O ?_
   refine Vs 5 O ?_
   obtain⟨vr,he_vr,hm_vr⟩:=gE_ f.vars (m) (by omega)
   obtain⟨b_vr,o_vr,c_vr,ha_vr,_,hc_vr,hR_vr⟩:=hfv.at he_vr
   obtain rfl:=hR_vr
   refine znH 2000 0 O O hc_vr ?_
   refine znk 2000 tR22 ts142 O ha_vr (by omega) (_) (rfl) O ?_
   refine Vs 7 O ?_
   refine zld O (fun b4=>?_) (fun b4=>?_)
   .
    have hb:¬ VOk f i (m:Int):=fun h=>by
     obtain⟨_,x,hx,h0⟩:=h.2 (by omega)
     rw[zpf,he_vr]at hx
     cases hx
     exact b4 h0
    refine Vs 11 O ?_
    refine zlt tr38 O (fun w hI=>⟨_,rfl,⟨_,rfl,hno i m he_v hb⟩,hI.k0⟩)
   have hnx:=zW hall he_v ⟨fun h=>by omega,fun _=>⟨by omega,vr,he_vr,zp2.1 b4⟩⟩
   refine Va 7 O (by omega) ?_
   refine V.back (i+1) (Sub.of O) (Has.of O) (⟨by omega,hnx⟩) (by first | omega | (dsimp only;omega)) 0 O O
  omega
 obtain rfl:i=s.of_.length:=by omega
 refine Vs 11 O ?_
 refine zlt tr38 O (fun w hI=>⟨_,rfl,⟨_,rfl,⟨fun _=>ofF_iff.2 ⟨by omega,xC hall⟩,fun _=>rfl⟩⟩,hI.k0⟩)
structure PhOne (f:Fl) (g:List Nd) (s:Sf) (n:Nat) (p:Phn):Prop where
 ver:jO f s p.ver p.var true
 frm:p.frm=qG g n
 len:p.args.length=p.frm.length
 args:∀ a ∈ p.args,jO f s a p.var false
structure PhTo (f:Fl) (g:List Nd) (s:Sf) (n:Nat) (l:List Phn) (i:Nat):Prop where
 asc:(l.take i).Pairwise fun p q=>p.var<q.var
 one:∀ p ∈ l.take i,PhOne f g s n p
theorem zo6 {f:Fl} {g:List Nd} {s:Sf} {n:Nat} {l:List Phn}:PhTo f g s n l 0:=⟨List.Pairwise.nil,fun p h=>by cases h⟩
theorem PhTo.next {f:Fl} {g:List Nd} {s:Sf} {n:Nat} {l:List Phn} {i:Nat} {p:Phn} (h:PhTo f g s n l i) (hp:l[i]?=some p) (hv:0<i->∃ q,l[i - 1]?=some q/\q.var<p.var) (h1:PhOne f g s n p):PhTo f g s n l (i+1):=by
 refine⟨?_,fun q hq=>?_⟩
 .
  rw[zd hp]
  refine zqP.2 ⟨h.asc,zqS _ _,fun x hx y hy=>?_⟩
  rw[zpb]at hy
  subst hy
  obtain⟨k,hk⟩:=zqH.1 hx
  have hkl:=(zp7.1 hk).1
  rw[zpn]at hkl
  obtain⟨q,hq,hqp⟩:=hv (by omega)
  by_cases e:k=i - 1
  .
   subst e
   rw[List.getElem?_take_of_lt (by omega),hq]at hk
   cases hk
   exact hqp
  have hq2:(l.take i)[i - 1]?=some q:=by rw[List.getElem?_take_of_lt (by omega)];exact hq
  have:=zqR.1 h.asc k (i - 1) (by rw[zpn];omega) (by have:=(zp7.1 hq2).1;exact this) (by omega)
  rw[(zp7.1 hk).2,(zp7.1 hq2).2]at this
  omega
 rw[zd hp,zpc,zpb]at hq
 rcases hq with hq | rfl
 . exact h.one q hq
 exact h1
theorem PhTo.done {f:Fl} {g:List Nd} {s:Sf} {n:Nat} {l:List Phn} (h:PhTo f g s n l l.length) (h0:n=0->l=[]):PhiF f g s n l:=by
 have ha:=h.asc
 have ho:=h.one
 rw[zoY]at ha ho
 exact⟨h0,ha,fun p hp=>(ho p hp).ver,fun p hp=>(ho p hp).frm,fun p hp=>(ho p hp).len,fun p hp=>(ho p hp).args⟩
theorem PhiF.bad {f:Fl} {g:List Nd} {s:Sf} {n:Nat} {l:List Phn} {p:Phn} (h:PhiF f g s n l) (hp:p ∈ l):PhOne f g s n p:=⟨h.ver p hp,h.frm p hp,h.len p hp,h.args p hp⟩
theorem ziq (f:Fl) (g:List Nd) (s:Sf) (n:Nat) (hn:n<g.length) (l:List Phn) (b gb:Nat) (lv ofv nv bv dv:Value) (D D' Dl:Nat->Prop) (W:World) (hc:Cells W b 0 (chk gb ofv nv bv dv)) (hof:SlR 1 yc D W ofv s.of_) (hG:GrO D' W f g gb) (hl:SlR 4 zil Dl W lv l) :
  Calls Tryz.prog 78 #[.pointer (some ⟨b,0,none⟩),.int .i64 n,lv] W (Ret fun r w'=>(∃ q:Bool,r=.bool q/\(q=true ↔ PhiF f g s n l))/\Ext W w'):=by
 have hG0:=hG
 obtain⟨v1,v2,v3,gv,sv,pv,hD,hcell,hf,hg,hs,hpr⟩:=hG0
 obtain⟨apr,cpr,rfl⟩:=hpr.form
 obtain⟨al,cl,rfl⟩:=hl.form
 have hprl:(zec g).length=g.length:=by simp[zec]
 have hprm:=hpr.max
 have hlm:=hl.max
 have hofm:=hof.max
 have hno:∀ p ∈ l,¬ PhOne f g s n p->((false:Bool)=true ↔ PhiF f g s n l):=fun p hp hb=>⟨fun h=>(by cases h),fun h=>absurd (h.bad hp) hb⟩
 refine zn3 Tryz.func78 O Tryz.ntmps78 O (znb ?_)
 refine znI 900 0 O O (fun h=>h) hc ?_
 refine znI 901 0 O O (fun h=>h) hcell ?_
 refine zni 0 900 0 O O ?_
 refine Vs 6 O ?_
 refine znL (σ:=Unit) [0,1,2] [900,901] [0] O (fun e u=>e) (fun e u=>e) (fun u=>n=0->l=[]) (fun _=>rfl) (fun _=>rfl) ?_ ?_
 .
  refine Vs 5 O ?_
  refine V.sp 13 O (fun z1=>?_) (fun z1=>?_)
  .
   refine Vs 6 O ?_
   refine zld O (fun z2=>?_) (fun z2=>?_)
   .
    refine Vs 8 O ?_
    refine zlt tr78 O (fun w hI=>⟨_,rfl,⟨_,rfl,⟨fun h=>(by cases h),fun h=>absurd (h.zero (by omega)) (fun e=>by rw[e]at z2;simp at z2)⟩⟩,hI.k0⟩)
   refine Vs 1 O ?_
   refine zlq (()) (Sub.of O) (Has.of O) (fun _=>zqs.1 (by omega)) 0 O O
  refine Vs 8 O ?_
  refine zlq (()) (Sub.of O) (Has.of O) (fun e=>absurd (by rw[e];rfl) z1) 0 O O
 rintro u h0
 refine Vs 10 O ?_
 refine znK (σ:=Nat) [0,1,2,18,19] [900,901] [0] O (fun e i=>(20,.int .i64 i)::e) (fun e i=>e) (fun i=>i<=l.length/\PhTo f g s n l i) (fun i=>l.length - i) (0) (Sub.of O) (Has.of O) (fun _=>rfl) (fun _=>rfl) (fun _=>rfl) (⟨zp8 _,zo6⟩) ?_
 rintro i ⟨hi,hin⟩
 refine Vs 6 O ?_
 refine zld O (fun lt=>?_) (fun lt=>?_)
 .
  refine Vs 7 O ?_
  obtain⟨p,he_p,hm_p⟩:=gE_ l (i) (by omega)
  obtain⟨b_p,o_p,c_p,ha_p,_,hc_p,hR_p⟩:=hl.at he_p
  obtain⟨v1_p,v2_p,rfl,hf_p,hg_p⟩:=hR_p
  obtain⟨a1_p,n1_p,rfl⟩:=hf_p.form
  obtain⟨a2_p,n2_p,rfl⟩:=hg_p.form
  refine znH 1000 0 O O hc_p ?_
  refine znk 1000 tR56 ts88 O ha_p (by omega) (_) (rfl) O ?_
  have hgpm:=hg_p.max
  have hfpm:=hf_p.max
  obtain⟨pr,he_pr,hm_pr⟩:=gE_ (zec g) (n) (by omega)
  obtain⟨b_pr,o_pr,c_pr,ha_pr,_,hc_pr,hR_pr⟩:=hpr.at he_pr
  obtain⟨v1_pr,rfl,hs_pr⟩:=hR_pr
  obtain⟨a1_pr,n1_pr,rfl⟩:=hs_pr.form
  refine znH 2000 0 O O hc_pr ?_
  have hprd:pr=qG g n:=by rw[zeL hn]at he_pr;exact(Option.some.inj he_pr).symm
  refine Vs 1 O ?_
  refine V.alloc 8 tz88 O O (fun b8=>?_)
  refine Vs 6 O ?_
  refine znc (p:=0<i) (fun ci=>?_) (fun ci=>?_)
  .
   obtain⟨q,he_q,hm_q⟩:=gE_ l ((i-1)) (by omega)
   obtain⟨b_q,o_q,c_q,ha_q,_,hc_q,hR_q⟩:=hl.at he_q
   obtain⟨v1_q,v2_q,rfl,hf_q,hg_q⟩:=hR_q
   obtain⟨a1_q,n1_q,rfl⟩:=hf_q.form
   obtain⟨a2_q,n2_q,rfl⟩:=hg_q.form
   refine znH 3000 0 O O hc_q ?_
   refine Vw [900,901,1000,2000,8,3000] [] O ?_
   refine Vd [0,1,2] 0 (by kernel_rfl) O O O ?_
   refine VD.sp 27 O (fun c1=>?_) (fun c1=>?_)
   .
    refine Vb [3,4,5,6,7] 0 (by kernel_rfl) O O O (by omega) ?_
    refine znl 8 3000 tR56 ts88 O (by kernel_rfl) O ha_q (by omega) (i - 1) (by omega) O ?_
    refine Vd [9,10,11,12,13] 0 (by kernel_rfl) O O O ?_
    refine VD.sp 38 O (fun c2=>?_) (fun c2=>?_)
    .
     have hbad:¬ PhiF f g s n l:=fun h=>by
      have:=zqR.1 h.asc (i - 1) i (zp7.1 he_q).1 (zp7.1 he_p).1 (by omega)
      rw[(zp7.1 he_q).2,(zp7.1 he_p).2]at this
      omega
     refine Vd [14,15,16,17,18] 0 (by kernel_rfl) O O O ?_
     refine VD.skip 19 0 O (by kernel_rfl) O O ?_
     refine Vd [20,21,22,23,24,25,26,27,28,29,30,31,32,33,34] 0 (by kernel_rfl) O O O ?_
     refine VD.skip 35 0 O (by kernel_rfl) O O ?_
     refine Vd [36,37,38,39,40,41,42,43,44,45,46] 0 (by kernel_rfl) O O O ?_
     refine VD.done (by kernel_rfl) ?_
     refine Vs 14 O ?_
     refine zlt tr78 O (fun w hI=>⟨_,rfl,⟨_,rfl,⟨fun h=>(by cases h),fun h=>absurd h hbad⟩⟩,hI.k0⟩)
    have hlt:0<i->∃ q,l[i - 1]?=some q/\q.var<p.var:=fun _=>⟨q,he_q,by omega⟩
    refine Vd [14,15,16,17,18] 0 (by kernel_rfl) O O O ?_
    refine znx 19 0 Tryz.call80 O (by kernel_rfl) O O (fun w hI=>zbp f g s p.ver p.var b gb _ _ _ _ D D' w (Tr1 hI.k0 hc) (Tr1 hI.k0 hof) (Tr1 hI.k0 hG)) ?_
    refine zmT 20 0 O (by kernel_rfl) O O (fun w hI=>zms O za) ?_
    refine Vd [21,22] 0 (by kernel_rfl) O O O ?_
    refine VD.sp 47 O (fun c3=>?_) (fun c3=>?_)
    .
     refine Vd [23,24,25,26,27,28,29,30,31,32,33,34] 0 (by kernel_rfl) O O O ?_
     refine VD.skip 35 0 O (by kernel_rfl) O O ?_
     refine Vd [36,37,38,39,40,41,42,43,44,45,46] 0 (by kernel_rfl) O O O ?_
     refine VD.done (by kernel_rfl) ?_
     refine Vs 14 O ?_
     refine zlt tr78 O (fun w hI=>⟨_,rfl,⟨_,rfl,hno p hm_p fun h=>c3 h.ver⟩,hI.k0⟩)
    have c3:=zp2.1 c3
    refine Vd [23,24,25,26,27,28] 0 (by kernel_rfl) O O O ?_
    refine znj 53 901 0 O O ?_
    refine Vd [29,30,31,32] 0 (by kernel_rfl) O O O ?_
    refine znl 33 2000 tR89 ts27 O (by kernel_rfl) O ha_pr (by omega) (n) (by omega) O ?_
    refine Vd [34] 0 (by kernel_rfl) O O O ?_
    refine znx 35 0 Tryz.call69 O (by kernel_rfl) O O (fun w hI=>zax p.frm pr _ _ _ _ w (Tr1 hI.k0 hf_p) (Tr1 hI.k0 hs_pr)) ?_
    refine zmT 36 0 O (by kernel_rfl) O O (fun w hI=>zms O za) ?_
    refine Vd [37,38] 0 (by kernel_rfl) O O O ?_
    refine VD.sp 63 O (fun c4=>?_) (fun c4=>?_)
    .
     refine Vd [39,40,41,42,43,44,45,46] 0 (by kernel_rfl) O O O ?_
     refine VD.done (by kernel_rfl) ?_
     refine Vs 14 O ?_
     refine zlt tr78 O (fun w hI=>⟨_,rfl,⟨_,rfl,hno p hm_p fun h=>c4 (by rw[hprd];exact h.frm)⟩,hI.k0⟩)
    have c4:=zp2.1 c4
    refine Vd [39,40,41,42,43,44,45,46] 0 (by kernel_rfl) O O O ?_
    refine VD.done (by kernel_rfl) ?_
    refine Vs 1 O ?_
    refine zld O (fun c5=>?_) (fun c5=>?_)
    .
     refine Vs 12 O ?_
     refine zlt tr78 O (fun w hI=>⟨_,rfl,⟨_,rfl,hno p hm_p fun h=>c5 (by have:=h.len;omega)⟩,hI.k0⟩)
    refine Vs 11 O ?_
    refine znK (σ:=Nat) [0,1,2,8,18,19,20,73,74] [8,900,901] [0,8] O (fun e j=>(75,.int .i64 j)::e) (fun e j=>e) (fun j=>j<=p.args.length/\∀ (q:Nat) a,q<j->p.args[q]?=some a->jO f s a p.var false) (fun j=>p.args.length - j) (0) (Sub.of O) (Has.of O) (fun _=>rfl) (fun _=>rfl) (fun _=>rfl) (⟨zp8 _,fun q a h=>absurd h (zrn _)⟩) ?_
    rintro j ⟨hj,hall⟩
    refine Vs 6 O ?_
    refine zld O (fun lj=>?_) (fun lj=>?_)
    .
     refine Vs 6 O ?_
     obtain⟨a,he_a,hm_a⟩:=gE_ p.args (j) (by omega)
     obtain⟨b_a,o_a,c_a,ha_a,_,hc_a,hR_a⟩:=hg_p.at he_a
     obtain rfl:=hR_a
     refine znH 4000 0 O O hc_a ?_
     refine znk 4000 tR27 ts3 O ha_a (by omega) (_) (rfl) O ?_
     refine Vs 10 O ?_
     refine znw Tryz.call82 O (fun w hI=>zeP f s a p.var b gb _ _ _ _ D w (Tr1 hI.k0 hc) (Tr1 hI.k0 hof)) ?_
     refine zmS O (fun w hI=>zms O (by first | exact za | rfl)) ?_
     refine Vs 2 O ?_
     refine zld O (fun c6=>?_) (fun c6=>?_)
     .
      refine Vs 15 O ?_
      refine zlt tr78 O (fun w hI=>⟨_,rfl,⟨_,rfl,hno p hm_p fun h=>c6 (h.args a hm_a)⟩,hI.k0⟩)
     have hnx:=zW hall he_a (zp2.1 c6)
     refine Va 7 O (by omega) ?_
     refine V.back (j+1) (Sub.of O) (Has.of O) (⟨by omega,hnx⟩) (by first | omega | (dsimp only;omega)) 0 O O
    obtain rfl:j=p.args.length:=by omega
    have h1:PhOne f g s n p:=⟨c3,by rw[c4,hprd],by omega,fun a ha=>by obtain⟨q,hq⟩:=zqH.1 ha;exact xC hall q a hq⟩
    have hnx:=hin.next he_p hlt h1
    refine Va 10 O (by omega) ?_
    refine V.back (i+1) (Sub.of O) (Has.of O) (⟨by omega,hnx⟩) (by first | omega | (dsimp only;omega)) 0 O O
   omega
  refine Vw [900,901,1000,2000,8] [] O ?_
  refine Vd [0,1,2] 0 (by kernel_rfl) O O O ?_
  refine VD.sp 27 O (fun c1=>?_) (fun c1=>?_)
  . omega
  have hlt:0<i->∃ q,l[i - 1]?=some q/\q.var<p.var:=fun h=>by omega
  refine Vd [3,4,5,6,7,8,9,10,11,12,13,14,15,16,17,18] 0 (by kernel_rfl) O O O ?_
  refine znx 19 0 Tryz.call80 O (by kernel_rfl) O O (fun w hI=>zbp f g s p.ver p.var b gb _ _ _ _ D D' w (Tr1 hI.k0 hc) (Tr1 hI.k0 hof) (Tr1 hI.k0 hG)) ?_
  refine zmT 20 0 O (by kernel_rfl) O O (fun w hI=>zms O za) ?_
  refine Vd [21,22] 0 (by kernel_rfl) O O O ?_
  refine VD.sp 47 O (fun c3=>?_) (fun c3=>?_)
  .
   refine Vd [23,24,25,26,27,28,29,30,31,32,33,34] 0 (by kernel_rfl) O O O ?_
   refine VD.skip 35 0 O (by kernel_rfl) O O ?_
   refine Vd [36,37,38,39,40,41,42,43,44,45,46] 0 (by kernel_rfl) O O O ?_
   refine VD.done (by kernel_rfl) ?_
   refine Vs 14 O ?_
   refine zlt tr78 O (fun w hI=>⟨_,rfl,⟨_,rfl,hno p hm_p fun h=>c3 h.ver⟩,hI.k0⟩)
  have c3:=zp2.1 c3
  refine Vd [23,24,25,26,27,28] 0 (by kernel_rfl) O O O ?_
  refine znj 53 901 0 O O ?_
  refine Vd [29,30,31,32] 0 (by kernel_rfl) O O O ?_
  refine znl 33 2000 tR89 ts27 O (by kernel_rfl) O ha_pr (by omega) (n) (by omega) O ?_
  refine Vd [34] 0 (by kernel_rfl) O O O ?_
  refine znx 35 0 Tryz.call69 O (by kernel_rfl) O O (fun w hI=>zax p.frm pr _ _ _ _ w (Tr1 hI.k0 hf_p) (Tr1 hI.k0 hs_pr)) ?_
  refine zmT 36 0 O (by kernel_rfl) O O (fun w hI=>zms O za) ?_
  refine Vd [37,38] 0 (by kernel_rfl) O O O ?_
  refine VD.sp 63 O (fun c4=>?_) (fun c4=>?_)
  .
   refine Vd [39,40,41,42,43,44,45,46] 0 (by kernel_rfl) O O O ?_
   refine VD.done (by kernel_rfl) ?_
   refine Vs 14 O ?_
   refine zlt tr78 O (fun w hI=>⟨_,rfl,⟨_,rfl,hno p hm_p fun h=>c4 (by rw[hprd];exact h.frm)⟩,hI.k0⟩)
  have c4:=zp2.1 c4
  refine Vd [39,40,41,42,43,44,45,46] 0 (by kernel_rfl) O O O ?_
  refine VD.done (by kernel_rfl) ?_
  refine Vs 1 O ?_
  refine zld O (fun c5=>?_) (fun c5=>?_)
  .
   refine Vs 12 O ?_
   refine zlt tr78 O (fun w hI=>⟨_,rfl,⟨_,rfl,hno p hm_p fun h=>c5 (by have:=h.len;omega)⟩,hI.k0⟩)
  refine Vs 11 O ?_
  refine znK (σ:=Nat) [0,1,2,8,18,19,20,73,74] [8,900,901] [0,8] O (fun e j=>(75,.int .i64 j)::e) (fun e j=>e) (fun j=>j<=p.args.length/\∀ (q:Nat) a,q<j->p.args[q]?=some a->jO f s a p.var false) (fun j=>p.args.length - j) (0) (Sub.of O) (Has.of O) (fun _=>rfl) (fun _=>rfl) (fun _=>rfl) (⟨zp8 _,fun q a h=>absurd h (zrn _)⟩) ?_
  rintro j ⟨hj,hall⟩
  refine Vs 6 O ?_
  refine zld O (fun lj=>?_) (fun lj=>?_)
  .
   refine Vs 6 O ?_
   obtain⟨a,he_a,hm_a⟩:=gE_ p.args (j) (by omega)
   obtain⟨b_a,o_a,c_a,ha_a,_,hc_a,hR_a⟩:=hg_p.at he_a
   obtain rfl:=hR_a
   refine znH 5000 0 O O hc_a ?_
   refine znk 5000 tR27 ts3 O ha_a (by omega) (_) (rfl) O ?_
   refine Vs 10 O ?_
   refine znw Tryz.call82 O (fun w hI=>zeP f s a p.var b gb _ _ _ _ D w (Tr1 hI.k0 hc) (Tr1 hI.k0 hof)) ?_
   refine zmS O (fun w hI=>zms O (by first | exact za | rfl)) ?_
   refine Vs 2 O ?_
   refine zld O (fun c6=>?_) (fun c6=>?_)
   .
    refine Vs 15 O ?_
    refine zlt tr78 O (fun w hI=>⟨_,rfl,⟨_,rfl,hno p hm_p fun h=>c6 (h.args a hm_a)⟩,hI.k0⟩)
   have hnx:=zW hall he_a (zp2.1 c6)
   refine Va 7 O (by omega) ?_
   refine V.back (j+1) (Sub.of O) (Has.of O) (⟨by omega,hnx⟩) (by first | omega | (dsimp only;omega)) 0 O O
  obtain rfl:j=p.args.length:=by omega
  have h1:PhOne f g s n p:=⟨c3,by rw[c4,hprd],by omega,fun a ha=>by obtain⟨q,hq⟩:=zqH.1 ha;exact xC hall q a hq⟩
  have hnx:=hin.next he_p hlt h1
  refine Va 10 O (by omega) ?_
  refine V.back (i+1) (Sub.of O) (Has.of O) (⟨by omega,hnx⟩) (by first | omega | (dsimp only;omega)) 0 O O
 obtain rfl:i=l.length:=by omega
 have hdone:=hin.done h0
 refine Vs 11 O ?_
 refine zlt tr78 O (fun w hI=>⟨_,rfl,⟨_,rfl,⟨fun _=>hdone,fun _=>rfl⟩⟩,hI.k0⟩)
theorem zft (f:Fl) (g:List Nd) (s:Sf) (hk:GOk f g) (hlen:s.nodes.length=g.length) (b gb:Nat) (ofv nv bv dv:Value) (D D':Nat->Prop) (W:World) (hc:Cells W b 0 (chk gb ofv nv bv dv)) (hS:RSf D W s ofv nv) (hG:GrO D' W f g gb) :
  Calls Tryz.prog 39 #[.pointer (some ⟨b,0,none⟩)] W (Ret fun r w'=>(∃ q:Bool,r=.bool q/\(q=true ↔ ∀ (n:Nat) x,s.nodes[n]?=some x->NodF f g s (rdV f g) n x))/\Ext W w'):=by
 have hof:=hS.of_
 have hnd:=hS.nodes
 have hnm:=hnd.max
 obtain⟨an,cn,rfl⟩:=hnd.form
 have hno:∀ (n:Nat) x,s.nodes[n]?=some x->¬ NodF f g s (rdV f g) n x->((false:Bool)=true ↔ ∀ (n:Nat) x,s.nodes[n]?=some x->NodF f g s (rdV f g) n x):=fun n x hx hb=>⟨fun h=>(by cases h),fun h=>absurd (h n x hx) hb⟩
 refine zn1 Tryz.func39 O Tryz.ntmps39 O (znb ?_)
 refine znI 900 0 O O (fun h=>h) hc ?_
 refine zni 0 900 0 O O ?_
 refine Vs 18 O ?_
 refine znK (σ:=Nat) [0,13,14] [900] [0] O (fun e n=>(15,.int .i64 n)::e) (fun e n=>e) (fun n=>n<=s.nodes.length/\∀ (j:Nat) x,j<n->s.nodes[j]?=some x->NodF f g s (rdV f g) j x) (fun n=>s.nodes.length - n) (0) (Sub.of O) (Has.of O) (fun _=>rfl) (fun _=>rfl) (fun _=>rfl) (⟨zp8 _,fun j x h=>absurd h (zrn _)⟩) ?_
 rintro n ⟨hn,hall⟩
 refine Vs 6 O ?_
 refine zld O (fun lt=>?_) (fun lt=>?_)
 .
  refine Vs 7 O ?_
  obtain⟨x,he_x,hm_x⟩:=gE_ s.nodes (n) (by omega)
  obtain⟨b_x,o_x,c_x,ha_x,_,hc_x,hR_x⟩:=hnd.at he_x
  obtain⟨v1_x,v2_x,rfl,hp_x,hu_x⟩:=hR_x
  obtain⟨a1_x,n1_x,rfl⟩:=hp_x.form
  obtain⟨a2_x,n2_x,rfl⟩:=hu_x.form
  refine znH 1000 0 O O hc_x ?_
  refine znk 1000 tR28 ts59 O ha_x (by omega) (_) (rfl) O ?_
  have hum:=hu_x.max
  have hng:n<g.length:=by omega
  refine Vs 1 O ?_
  refine V.alloc 4 tz59 O O (fun b4=>?_)
  refine Vs 11 O ?_
  refine zny Tryz.call78 O (fun w hI=>ziq f g s n hng x.phis b gb _ _ _ _ _ D D' D w (Tr1 hI.k0 hc) (Tr1 hI.k0 hof) (Tr1 hI.k0 hG) (Tr1 hI.k0 hp_x)) ?_
  rintro r1 w1 w2 hI1 hk12 ⟨q,rfl,hq⟩ hlow
  refine zmS O (fun w hI=>zms O (by first | exact za | rfl)) ?_
  refine Vs 2 O ?_
  refine V.bool O (fun p1=>?_) (fun p1=>?_)
  .
   have hb:¬ PhiF f g s n x.phis:=fun h=>by have:=hq.2 h;rw[this]at p1;cases p1
   refine Vs 12 O ?_
   refine zlt tr39 O (fun w hI=>⟨_,rfl,⟨_,rfl,hno n x he_x fun h=>hb h.phi⟩,hI.k1⟩)
  have hphi:=hq.1 (by simpa using p1)
  refine Vs 9 O ?_
  refine znw Tryz.call79 O (fun w hI=>zbn f g hk n hng gb D' w (Tr1 hI.k1 hG)) ?_
  refine Vs 4 O ?_
  refine znL (σ:=Unit) [0,3,4,13,14,15] [4,900] [0,4] O (fun e u=>e) (fun e u=>e) (fun u=>(xA f g n<0->x.dfn=-1)/\(0<=xA f g n->jO f s x.dfn (xA f g n) true)) (fun _=>rfl) (fun _=>rfl) ?_ ?_
  .
   refine Vs 5 O ?_
   refine V.sp 34 O (fun d1=>?_) (fun d1=>?_)
   .
    refine Vs 5 O ?_
    refine V.sp 39 O (fun d2=>?_) (fun d2=>?_)
    .
     refine Vs 27 O ?_
     refine zlt tr39 O (fun w hI=>⟨_,rfl,⟨_,rfl,hno n x he_x fun h=>d2 (h.no d1)⟩,hI.k1⟩)
    refine Vs 3 O ?_
    refine V.sp 42 O (fun d3=>?_) (fun d3=>?_)
    . omega
    refine Vs 12 O ?_
    refine zlq (()) (Sub.of O) (Has.of O) (⟨fun _=>zp2.1 d2,fun h=>by omega⟩) 0 O O
   refine Vs 8 O ?_
   refine V.sp 42 O (fun d3=>?_) (fun d3=>?_)
   .
    refine Vs 4 O ?_
    refine znw Tryz.call80 O (fun w hI=>zbp f g s x.dfn (xA f g n) b gb _ _ _ _ D D' w (Tr1 hI.k1 hc) (Tr1 hI.k1 hof) (Tr1 hI.k1 hG)) ?_
    refine zmS O (fun w hI=>zms O (by first | exact za | rfl)) ?_
    refine Vs 4 O ?_
    refine zld O (fun d4=>?_) (fun d4=>?_)
    .
     refine Vs 13 O ?_
     refine zlt tr39 O (fun w hI=>⟨_,rfl,⟨_,rfl,hno n x he_x fun h=>d4 (h.yes d3)⟩,hI.k1⟩)
    refine Vs 1 O ?_
    refine zlq (()) (Sub.of O) (Has.of O) (⟨fun h=>by omega,fun _=>zp2.1 d4⟩) 0 O O
   omega
  rintro u ⟨hd1,hd2⟩
  refine Vs 8 O ?_
  refine zny Tryz.call81 O (fun w hI=>zgN f g hk n hng gb D' w (Tr1 hI.k1 hG)) ?_
  rintro r2 w3 w4 hI3 hk34 hrd hlow2
  obtain⟨ar,cr,rfl⟩:=hrd.form
  have hrm:=hrd.max
  refine Vs 14 O ?_
  refine zld O (fun e0=>?_) (fun e0=>?_)
  .
   refine Vs 12 O ?_
   refine zlt tr39 O (fun w hI=>⟨_,rfl,⟨_,rfl,hno n x he_x fun h=>e0 (by rw[<- h.use,zpd])⟩,hI.k2⟩)
  refine Vs 11 O ?_
  refine znK (σ:=Nat) [0,6,13,14,15,64,65] [900] [0] O (fun e k=>(66,.int .i64 k)::e) (fun e k=>e) (fun k=>k<=x.uses.length/\∀ (q:Nat) u,q<k->x.uses[q]?=some u->(rdV f g n)[q]?=some u.1/\jO f s u.2 u.1 false) (fun k=>x.uses.length - k) (0) (Sub.of O) (Has.of O) (fun _=>rfl) (fun _=>rfl) (fun _=>rfl) (⟨zp8 _,fun q u h=>absurd h (zrn _)⟩) ?_
  rintro k ⟨hk2,hall2⟩
  refine Vs 6 O ?_
  refine zld O (fun lk=>?_) (fun lk=>?_)
  .
   refine Vs 7 O ?_
   obtain⟨u,he_u,hm_u⟩:=gE_ x.uses (k) (by omega)
   obtain⟨b_u,o_u,c_u,ha_u,_,hc_u,hR_u⟩:=hu_x.at he_u
   obtain rfl:=hR_u
   refine znH 2000 2 O O hc_u ?_
   refine znk 2000 tR57 ts85 O ha_u (by omega) (_) (rfl) O ?_
   obtain⟨rk,he_rk,hm_rk⟩:=gE_ (rdV f g n) (k) (by omega)
   obtain⟨b_rk,o_rk,c_rk,ha_rk,hd_rk,hc_rk,hR_rk⟩:=hrd.atD he_rk
   obtain rfl:=hR_rk
   refine znI 3000 0 O O (fun h_=>by have h1_:=hlow2 _ h_;have h2_:=hd_rk;first | omega | exact h1_ h2_) hc_rk ?_
   refine Vs 1 O ?_
   refine V.alloc 8 tz85 O O (fun b8=>?_)
   refine Vs 5 O ?_
   refine Vw [900,2000,3000,8] [] O ?_
   refine Vd [0,1,2,3] 0 (by kernel_rfl) O O O ?_
   refine znl 4 3000 tR27 ts3 O (by kernel_rfl) O ha_rk (by omega) (k) (by omega) O ?_
   refine Vd [5,6,7] 0 (by kernel_rfl) O O O ?_
   refine VD.sp 78 O (fun e1=>?_) (fun e1=>?_)
   .
    have hb:¬ NodF f g s (rdV f g) n x:=fun h=>e1 (by
     have:=congrArg (fun l:List Int=>l[k]?) h.use
     rw[zpa,he_u,he_rk]at this
     exact Option.some.inj this)
    refine Vd [8,9,10,11,12] 0 (by kernel_rfl) O O O ?_
    refine VD.skip 13 0 O (by kernel_rfl) O O ?_
    refine Vd [14,15] 0 (by kernel_rfl) O O O ?_
    refine VD.done (by kernel_rfl) ?_
    refine Vs 17 O ?_
    refine zlt tr39 O (fun w hI=>⟨_,rfl,⟨_,rfl,hno n x he_x hb⟩,hI.k2⟩)
   have e1:=zp2.1 e1
   refine Vd [8,9,10,11,12] 0 (by kernel_rfl) O O O ?_
   refine znx 13 0 Tryz.call82 O (by kernel_rfl) O O (fun w hI=>zeP f s u.2 u.1 b gb _ _ _ _ D w (Tr1 hI.k2 hc) (Tr1 hI.k2 hof)) ?_
   refine zmT 14 0 O (by kernel_rfl) O O (fun w hI=>zms O za) ?_
   refine Vd [15] 0 (by kernel_rfl) O O O ?_
   refine VD.done (by kernel_rfl) ?_
   refine Vs 1 O ?_
   refine zld O (fun e2=>?_) (fun e2=>?_)
   .
    refine Vs 15 O ?_
    refine zlt tr39 O (fun w hI=>⟨_,rfl,⟨_,rfl,hno n x he_x fun h=>e2 (h.ver u hm_u)⟩,hI.k2⟩)
   have hnx:=zW hall2 he_u ⟨by rw[he_rk,e1],zp2.1 e2⟩
   refine Va 7 O (by omega) ?_
   refine V.back (k+1) (Sub.of O) (Has.of O) (⟨by omega,hnx⟩) (by first | omega | (dsimp only;omega)) 0 O O
  obtain rfl:k=x.uses.length:=by omega
  have hall3:=xC hall2
  have huse:x.uses.map (·.1)=rdV f g n:=by
   apply zqe
   intro q
   rw[zpa]
   by_cases hql:q<x.uses.length
   . rw[(hall3 q _ (zoT hql)).1,zoT hql];rfl
   rw[zph (by omega),zph (by omega)];rfl
  have hnode:NodF f g s (rdV f g) n x:=⟨hphi,hd1,hd2,huse,fun u hu=>by obtain⟨q,hq⟩:=zqH.1 hu;exact(hall3 q u hq).2⟩
  have hnx:=zW hall he_x hnode
  refine Va 10 O (by omega) ?_
  refine V.back (n+1) (Sub.of O) (Has.of O) (⟨by omega,hnx⟩) (by first | omega | (dsimp only;omega)) 2 O O
 obtain rfl:n=s.nodes.length:=by omega
 refine Vs 11 O ?_
 refine zlt tr39 O (fun w hI=>⟨_,rfl,⟨_,rfl,⟨fun _=>xC hall,fun _=>rfl⟩⟩,hI.k0⟩)
end Go.Proofs.YtckdhgbepmpgiaaGreat
namespace Go.GL
open Go.RowKit
section
variable {P:Program} {n:Nat} {Q:Exit->Act->World->Prop} {ks:List Fr} {env:Env} {A:Tgs} {H Hs:Hp} {Bs B0:zC} {ops:Array Oper} {L:List Nat} {fuel:Nat} {listed:Array Bool} {d d2:Nat} {ty ty2:TypeId} {ps ps2:String} {aft aft2:Array Edge} {g g2:Option (Nat × Bool)}
theorem zow {n:Nat} {Q:Exit->Act->World->Prop} {pos:Pos} (k:Nat) {e:HE} {p:World->Prop} (hn:(hget H k,ji H k)=(some e,none)) (hl:(HE.dat e.S p).loc) (hp:∀ w,VI Bs H w->p w)
  (h:∀ w,p w->(∀ b,HS (yx H k (.dat e.S p)) b->¬ e.S b)->V P n Q ks pos env A (yx H k (.dat e.S p)) ((w,HS (yx H k (.dat e.S p)))::Bs)):V P n Q ks pos env A H Bs:=by
 simp only[Prod.mk.injEq]at hn
 intro hA w hI
 have he:(HE.dat e.S p).holds w:=⟨hp w hI,fun q hq=>hI.low _ (zx hn.1) q hq⟩
 have hF:=hI.freeze hn.1 he hl (fun q h=>h) (fun b hb=>hb)
 have hg:hget (yx H k (.dat e.S p)) k=some (.dat e.S p):=by rw[jV hn.1,zrg];rfl
 exact h w (hp w hI) (fun b hb hs=>hF.offF k hg b hs hb) (hA.res hn.1 hn.2) w hF.here
end
end Go.GL
namespace Go.Proofs.YtckdhgbepmpgiaaGreat
open Go.GL
def jy (L:List Int) (m:Nat):List Int:=(List.range m).map fun k:Nat=>((L.count (k:Int):Nat):Int)
theorem xJ (L:List Int) (m:Nat):(jy L m).length=m:=by simp[jy]
theorem qd {L:List Int} {m k:Nat} (h:k<m):(jy L m)[k]?=some ((L.count (k:Int):Nat):Int):=by unfold jy;rw[zpa,List.getElem?_range h];rfl
theorem zeQ (m:Nat):jy [] m=List.replicate m 0:=by
 rw[List.eq_replicate_iff]
 refine⟨xJ _ _,fun x hx=>?_⟩
 obtain⟨k,_,rfl⟩:=zqI.1 hx
 rfl
theorem kF {L:List Int} {m k:Nat} (h:k<m):(jy L m).set k (((L.count (k:Int):Nat):Int)+1)=jy (L++[(k:Int)]) m:=by
 apply zqe
 intro j
 by_cases hj:j<m
 .
  rw[qd hj,zq6]
  by_cases e:j=k
  .
   subst e
   rw[List.getElem?_set_self (by rw[xJ];exact hj),List.count_singleton_self];rfl
  rw[List.getElem?_set_ne (fun h=>e h.symm),qd hj,List.count_singleton]
  rw[zp3 (by simp;omega)]
  simp
 rw[zph (by rw[zqv,xJ];omega),zph (by rw[xJ];omega)]
def dP (x:Sn):List Int:=if 0<=x.dfn then [x.dfn] else []
def LP (s:Sf) (n:Nat):List Int:=(List.range n).flatMap fun i=>dP (zg s i)++(zg s i).phis.map (·.ver)
theorem zcF {s:Sf} {n:Nat} {x:Sn} (h:s.nodes[n]?=some x):LP s (n+1)=LP s n++dP x++x.phis.map (·.ver):=by
 unfold LP
 rw[zqU,zqi,zql,yC h,zq3]
theorem zeR {f:Fl} {g:List Nd} {s:Sf} {rd:Nat->List Int} (hlen:s.nodes.length=g.length) (hN:∀ (n:Nat) x,s.nodes[n]?=some x->NodF f g s rd n x) (a:Int):(LP s g.length).count a=(qg f g s).count a:=by
 have main:∀ n,n<=g.length->(LP s n).count a=((List.range n).flatMap (dfL f g s)).count a:=by
  intro n
  induction n with
  | zero=>exact fun _=>rfl
  | succ n ih =>
   intro hn
   have e:=zoT (show n<s.nodes.length by omega)
   have hx:=hN n _ e
   rw[zcF e,zqU,zqi,zql,zq6,zq6,zq6,ih (by omega)]
   unfold dfL dP
   rw[yC e,zq6]
   by_cases hd:0<=xA f g n
   .
    have:=(hx.yes hd).1
    rw[zp4 hd,zp4 this];omega
   have:=hx.no (by omega)
   rw[zp3 hd,zp3 (by omega)];omega
 exact main _ (zpi _)
theorem xR {f:Fl} {s:Sf} {k v:Int} {b:Bool} (h:jO f s k v b):∃ n:Nat,k=(n:Int)/\n<s.of_.length:=⟨k.toNat,by have:=h.1;omega,(zp7.1 h.2.1).1⟩
theorem zir (f:Fl) (g:List Nd) (s:Sf) (rd:Nat->List Int) (hlen:s.nodes.length=g.length) (hN:∀ (n:Nat) x,s.nodes[n]?=some x->NodF f g s rd n x) (hvl:f.vars.length<=s.of_.length) (hbig:s.of_.length<=1000000/\(LP s g.length).length<=1000000) (b gb:Nat) (ofv nv bv dv:Value) (D D':Nat->Prop) (W:World) (hc:Cells W b 0 (chk gb ofv nv bv dv)) (hS:RSf D W s ofv nv) (hG:GrO D' W f g gb) :
  Calls Tryz.prog 40 #[.pointer (some ⟨b,0,none⟩)] W (Ret fun r w'=>(∃ q:Bool,r=.bool q/\(q=true ↔ ∀ k:Nat,f.vars.length<=k->k<s.of_.length->(qg f g s).count (k:Int)=1))/\Ext W w'):=by
 obtain⟨v1,v2,v3,gv,sv,pv,hD,hcell,hf,hg,hs,hp⟩:=hG
 have hfv:=hf.vars
 obtain⟨a1,c1,rfl⟩:=hfv.form
 have hof:=hS.of_
 have hnd:=hS.nodes
 have hnm:=hnd.max
 obtain⟨ao,co,rfl⟩:=hof.form
 obtain⟨an,cn,rfl⟩:=hnd.form
 generalize hm:s.of_.length=m at *
 have hcb:∀ (L:List Int) (k:Int),L.count k<=L.length:=fun L k=>List.count_le_length
 refine zn1 Tryz.func40 O Tryz.ntmps40 O (znb ?_)
 refine znI 900 0 O O (fun h=>h) hc ?_
 refine znI 901 0 O O (fun h=>h) hcell ?_
 refine zni 0 900 0 O O ?_
 refine Vs 13 O ?_
 refine zm6 16 tu27 Tryz.el3 O (by omega) (by omega) (zs:=List.replicate m (.int .i64 0)) (xD _ _ O) (by simp) (fun b16=>?_)
 refine znJ 16 O (e':=.row 3 1 (.slice (some ⟨b16,0,none⟩) m m) m ((jy (LP s 0) m).map zb)) (by rw[show LP s 0=[] from rfl,zeQ,zqB]) ?_
 refine Vs 16 O ?_
 refine znK (σ:=Nat) [0,3,21,22] [900,901] [0] O (fun e n=>(23,.int .i64 n)::e) (fun e n=>(16,.row 3 1 (.slice (some ⟨b16,0,none⟩) m m) m ((jy (LP s n) m).map zb))::e) (fun n=>n<=s.nodes.length) (fun n=>s.nodes.length - n) (0) (Sub.of O) (Has.of O) (fun _=>rfl) (fun _=>rfl) (fun _=>rfl) (zp8 _) ?_
 rintro n hn
 have hlp:∀ j,j<=g.length->(LP s j).length<=(LP s g.length).length:=fun j hj=>by
  have:LP s g.length=LP s j++(List.range' j (g.length - j)).flatMap fun i=>dP (zg s i)++(zg s i).phis.map (·.ver):=by
   unfold LP
   rw[<- zqi,zqT,zqT]
   congr 1
   rw[show g.length=j+(g.length - j) by omega,<- List.range'_append_1]
   simp
  rw[this,zp1]
  omega
 refine Vs 6 O ?_
 refine zld O (fun lt=>?_) (fun lt=>?_)
 .
  refine Vs 6 O ?_
  obtain⟨x,he_x,hm_x⟩:=gE_ s.nodes (n) (by omega)
  obtain⟨b_x,o_x,c_x,ha_x,_,hc_x,hR_x⟩:=hnd.at he_x
  obtain⟨v1_x,v2_x,rfl,hp_x,hu_x⟩:=hR_x
  obtain⟨a1_x,n1_x,rfl⟩:=hp_x.form
  obtain⟨a2_x,n2_x,rfl⟩:=hu_x.form
  refine znH 1000 0 O O hc_x ?_
  refine znk 1000 tR28 ts59 O ha_x (by omega) (_) (rfl) O ?_
  have hx:=hN n x he_x
  have hpm:=hp_x.max
  have hnx:=zcF he_x
  have hl1:=hlp (n+1) (by omega)
  rw[hnx,zp1,zp1,zpd]at hl1
  refine Vs 1 O ?_
  refine V.alloc 5 tz59 O O (fun b5=>?_)
  refine Vs 4 O ?_
  refine znL (σ:=Unit) [0,3,5,21,22,23] [5,900,901] [0,5] O (fun e u=>e) (fun e u=>(16,.row 3 1 (.slice (some ⟨b16,0,none⟩) m m) m ((jy (LP s n++dP x) m).map zb))::e) (fun u=>True) (fun _=>rfl) (fun _=>rfl) ?_ ?_
  .
   refine Vs 7 O ?_
   refine zld O (fun d0=>?_) (fun d0=>?_)
   .
    have hdp:dP x=[x.dfn]:=zp4 d0
    have hd1:0<=xA f g n:=by
     by_cases e:0<=xA f g n
     . exact e
     have:=hx.no (by omega);omega
    obtain⟨k,hk,hkm⟩:=xR (hx.yes hd1)
    rw[hm]at hkm
    have hck:=hcb (LP s n) (k:Int)
    refine Va 5 O (by omega) ?_
    refine znt 16 (k) tg3 O (by omega) (show _=some (Value.int .i64 (((LP s n).count (k:Int):Nat):Int)) by rw[zpa,qd hkm];rfl) ?_
    refine Va 2 O (by omega) ?_
    refine znu 16 (k) ts3 O (by omega) (by simp[xJ];omega) ?_
    refine znJ 16 O (e':=.row 3 1 (.slice (some ⟨b16,0,none⟩) m m) m ((jy (LP s n++dP x) m).map zb)) (by rw[hdp,hk,<- kF hkm,zqC]) ?_
    refine Vs 1 O ?_
    refine zlq (()) (Sub.of O) (Has.of O) (True.intro) 0 O O
   have hdp:dP x=[]:=zp3 d0
   refine znJ 16 O (e':=.row 3 1 (.slice (some ⟨b16,0,none⟩) m m) m ((jy (LP s n++dP x) m).map zb)) (by rw[hdp,zq4]) ?_
   refine Vs 1 O ?_
   refine zlq (()) (Sub.of O) (Has.of O) (True.intro) 0 O O
  rintro u -
  refine Vs 9 O ?_
  refine znJ 16 O (e':=.row 3 1 (.slice (some ⟨b16,0,none⟩) m m) m ((jy (LP s n++dP x++(x.phis.take 0).map (·.ver)) m).map zb)) (by rw[zra,zqA,zq4]) ?_
  refine Vs 1 O ?_
  refine znK (σ:=Nat) [0,3,21,22,23,38,39] [900,901] [0] O (fun e j=>(40,.int .i64 j)::e) (fun e j=>(16,.row 3 1 (.slice (some ⟨b16,0,none⟩) m m) m ((jy (LP s n++dP x++(x.phis.take j).map (·.ver)) m).map zb))::e) (fun j=>j<=x.phis.length) (fun j=>x.phis.length - j) (0) (Sub.of O) (Has.of O) (fun _=>rfl) (fun _=>rfl) (fun _=>rfl) (zp8 _) ?_
  rintro j hj
  refine Vs 6 O ?_
  refine zld O (fun lj=>?_) (fun lj=>?_)
  .
   refine Vs 6 O ?_
   obtain⟨p,he_p,hm_p⟩:=gE_ x.phis (j) (by omega)
   obtain⟨b_p,o_p,c_p,ha_p,_,hc_p,hR_p⟩:=hp_x.at he_p
   obtain⟨v1_p,v2_p,rfl,hf_p,hg_p⟩:=hR_p
   obtain⟨a1_p,n1_p,rfl⟩:=hf_p.form
   obtain⟨a2_p,n2_p,rfl⟩:=hg_p.form
   refine znH 2000 0 O O hc_p ?_
   refine znk 2000 tR56 ts88 O ha_p (by omega) (_) (rfl) O ?_
   obtain⟨k,hk,hkm⟩:=xR (hx.phi.ver p hm_p)
   rw[hm]at hkm
   have hck:=hcb (LP s n++dP x++(x.phis.take j).map (·.ver)) (k:Int)
   rw[zp1,zp1,zpd,zpn]at hck
   refine Vs 1 O ?_
   refine V.alloc 7 tz88 O O (fun b7=>?_)
   refine Va 8 O (by omega) ?_
   refine znt 16 (k) tg3 O (by omega) (show _=some (Value.int .i64 (((LP s n++dP x++(x.phis.take j).map (·.ver)).count (k:Int):Nat):Int)) by rw[zpa,qd hkm];rfl) ?_
   refine Va 2 O (by omega) ?_
   refine znu 16 (k) ts3 O (by omega) (by simp[xJ];omega) ?_
   refine znJ 16 O (e':=.row 3 1 (.slice (some ⟨b16,0,none⟩) m m) m ((jy (LP s n++dP x++(x.phis.take (j+1)).map (·.ver)) m).map zb)) (by rw[zd he_p,zqw,<- zq3,show [p].map (·.ver)=[(k:Int)] by rw[<- hk];rfl,<- kF hkm,zqC]) ?_
   refine Va 7 O (by omega) ?_
   refine V.back (j+1) (Sub.of O) (Has.of O) (by omega) (by first | omega | (dsimp only;omega)) 0 O O
  obtain rfl:j=x.phis.length:=by omega
  refine znJ 16 O (e':=.row 3 1 (.slice (some ⟨b16,0,none⟩) m m) m ((jy (LP s (n+1)) m).map zb)) (by rw[zoY,hnx]) ?_
  refine Va 10 O (by omega) ?_
  refine V.back (n+1) (Sub.of O) (Has.of O) (by omega) (by first | omega | (dsimp only;omega)) 0 O O
 obtain rfl:n=s.nodes.length:=by omega
 have hall:∀ a,(LP s s.nodes.length).count a=(qg f g s).count a:=fun a=>by rw[hlen];exact zeR hlen hN a
 refine Vs 7 O ?_
 refine zow 16 O (p:=fun w=>SlR 1 yc (fun q=>(Value.slice (some ⟨b16,0,none⟩) m m).ownBlock=some q) w (.slice (some ⟨b16,0,none⟩) m m) (jy (LP s s.nodes.length) m)) (fun w w' T h hk hT=>h.keep ze hk fun b hb _=>hT b hb) (fun w hI=>zmj zb (fun _ _=>rfl) (show w.ownsRow 0 3 1 _ m _ from hI.at 16 O) (fun g hg=>hg)) (fun wp hpin hap=>?_)
 have hcl:=xJ (LP s s.nodes.length) m
 have hdr:=hpin.drop f.vars.length (by omega)
 have hdl:((jy (LP s s.nodes.length) m).drop f.vars.length).length=m - f.vars.length:=by rw[zqr,hcl]
 refine Vs 6 O ?_
 refine zni 57 901 0 O O ?_
 refine Vs 5 O ?_
 refine zmS O (fun w hI=>zlR tR27 ts3 O O (by omega)) ?_
 refine Vs 5 O ?_
 refine znK (σ:=Nat) [63,64] [16] [] O (fun e j=>(65,.int .i64 j)::e) (fun e j=>e) (fun j=>j<=m - f.vars.length/\∀ k:Nat,f.vars.length<=k->k<f.vars.length+j->(qg f g s).count (k:Int)=1) (fun j=>m - f.vars.length - j) (0) (Sub.of O) (Has.of O) (fun _=>rfl) (fun _=>rfl) (fun _=>rfl) (⟨zp8 _,fun k h1 h2=>by omega⟩) ?_
 rintro j ⟨hj,hone⟩
 refine Vs 6 O ?_
 refine zld O (fun lj=>?_) (fun lj=>?_)
 .
  refine Vs 6 O ?_
  obtain⟨c,he_c,hm_c⟩:=gE_ ((jy (LP s s.nodes.length) m).drop f.vars.length) (j) (by omega)
  obtain⟨b_c,o_c,c_c,ha_c,hd_c,hc_c,hR_c⟩:=hdr.atD he_c
  obtain rfl:=hR_c
  refine znI 3000 0 O O (fun h_=>by have h1_:=hap _ h_;have h2_:=hd_c;first | omega | exact h1_ h2_) hc_c ?_
  refine znk 3000 tR27 ts3 O ha_c (by omega) (_) (rfl) O ?_
  have hcc:c=(((qg f g s).count ((f.vars.length+j:Nat):Int):Nat):Int):=by
   rw[List.getElem?_drop,qd (by omega),hall]at he_c
   exact(Option.some.inj he_c).symm
  refine Vs 10 O ?_
  refine zld O (fun e1=>?_) (fun e1=>?_)
  .
   have hb:¬ ∀ k:Nat,f.vars.length<=k->k<m->(qg f g s).count (k:Int)=1:=fun h=>e1 (by rw[hcc,h _ (by omega) (by omega)];rfl)
   refine Vs 11 O ?_
   refine zlt Tryz.results40 O (fun w hI=>⟨_,rfl,⟨_,rfl,⟨fun h=>(by cases h),fun h=>absurd h hb⟩⟩,hI.k1⟩)
  have hnx:∀ k:Nat,f.vars.length<=k->k<f.vars.length+(j+1)->(qg f g s).count (k:Int)=1:=fun k h1 h2=>by
   by_cases e:k=f.vars.length+j
   . subst e;omega
   exact hone k h1 (by omega)
  refine Va 7 O (by omega) ?_
  refine V.back (j+1) (Sub.of O) (Has.of O) (⟨by omega,hnx⟩) (by first | omega | (dsimp only;omega)) 0 O O
 refine Vs 11 O ?_
 refine zlt Tryz.results40 O (fun w hI=>⟨_,rfl,⟨_,rfl,⟨fun _ k h1 h2=>hone k h1 (by omega),fun _=>rfl⟩⟩,hI.k1⟩)
theorem zfu {L L':List Int} {m:Nat} (h:∀ a,L.count a=L'.count a):jy L m=jy L' m:=by
 unfold jy
 exact zqx fun k _=>by rw[h]
theorem zjI {s:Sf} {j N:Nat} (hj:j<=N):(LP s j).length<=(LP s N).length:=by
 have:LP s N=LP s j++(List.range' j (N - j)).flatMap fun i=>dP (zg s i)++(zg s i).phis.map (·.ver):=by
  unfold LP
  rw[<- zqi,zqT,zqT]
  congr 1
  rw[show N=j+(N - j) by omega,<- List.range'_append_1]
  simp
 rw[this,zp1]
 omega
theorem zfv (f:Fl) (g:List Nd) (s:Sf) (hk:GOk f g) (hz:ssize f.body<=10000) (hgl:g.length<=1000000) (hbig:s.of_.length<=1000000/\(LP s s.nodes.length).length<=1000000) (v1 v2 v3 gv ofv nodv:Value) (D:Nat->Prop) (W:World) (hf:RFl D W f v1 v2 v3) (hg:SlR 4 RNd D W gv g) (hS:RSf D W s ofv nodv) :
  Calls Tryz.prog 34 #[.agg #[v1,v2,v3],.agg #[gv],.agg #[ofv,nodv]] W (Ret fun r w'=>(∃ q:Bool,r=.bool q/\(q=true ↔ FormF f g s (rdV f g)))/\Ext W w'):=by
 have hf0:=hf
 have hg0:=hg
 have hS0:=hS
 have hfv:=hf.vars
 have hof:=hS.of_
 have hnd:=hS.nodes
 obtain⟨ag,cg,rfl⟩:=hg.form
 obtain⟨an,cn,rfl⟩:=hnd.form
 obtain⟨ao,co,rfl⟩:=hof.form
 obtain⟨a1,c1,rfl⟩:=hfv.form
 have hnm:=hnd.max
 have hgm:=hg.max
 have hom:=hof.max
 have hcb:∀ (L:List Int) (k:Int),L.count k<=L.length:=fun L k=>List.count_le_length
 have hno:¬ FormF f g s (rdV f g)->((false:Bool)=true ↔ FormF f g s (rdV f g)):=fun hb=>⟨fun h=>(by cases h),fun h=>absurd h hb⟩
 refine zn3 Tryz.func34 O Tryz.ntmps34 O (znb ?_)
 refine Vs 2 O ?_
 refine V.box 3 O O (fun b3=>?_)
 refine V.box 4 O O (fun b4=>?_)
 refine V.box 5 O O (fun b5=>?_)
 refine Vs 4 O ?_
 refine znL (σ:=Unit) [3,4,5] [3,4,5] [3,4,5] O (fun e u=>e) (fun e u=>e) (fun u=>f.vars.length<=s.of_.length/\s.nodes.length=g.length) (fun _=>rfl) (fun _=>rfl) ?_ ?_
 .
  refine Vs 10 O ?_
  refine V.sp 28 O (fun l0=>?_) (fun l0=>?_)
  .
   refine Vs 19 O ?_
   refine zlt tr34 O (fun w hI=>⟨_,rfl,⟨_,rfl,hno fun h=>by have:=h.of_.len;omega⟩,hI.k0⟩)
  refine Vs 10 O ?_
  refine zld O (fun l1=>?_) (fun l1=>?_)
  .
   refine Vs 8 O ?_
   refine zlt tr34 O (fun w hI=>⟨_,rfl,⟨_,rfl,hno fun h=>by have:=h.len;omega⟩,hI.k0⟩)
  refine Vs 1 O ?_
  refine zlq (()) (Sub.of O) (Has.of O) (⟨by omega,by omega⟩) 0 O O
 rintro u ⟨hvl,hlen⟩
 have hnoV:∀ (j:Nat) v,s.of_[j]?=some v->¬ VOk f j v->¬ FormF f g s (rdV f g):=fun j v hv hn h=>hn ((ofF_iff.1 h.of_).2 j v hv)
 refine Vs 11 O ?_
 refine znK (σ:=Nat) [3,4,5,38,39] [3,4,5] [3,4,5] O (fun e i=>(40,.int .i64 i)::e) (fun e i=>e) (fun i=>i<=s.of_.length/\∀ (j:Nat) v,j<i->s.of_[j]?=some v->VOk f j v) (fun i=>s.of_.length - i) (0) (Sub.of O) (Has.of O) (fun _=>rfl) (fun _=>rfl) (fun _=>rfl) (⟨zp8 _,fun j v h=>absurd h (zrn _)⟩) ?_
 rintro i ⟨hi,hall⟩
 refine Vs 6 O ?_
 refine zld O (fun lt=>?_) (fun lt=>?_)
 .
  refine Vs 7 O ?_
  obtain⟨v,he_v,hm_v⟩:=gE_ s.of_ (i) (by omega)
  obtain⟨b_v,o_v,c_v,ha_v,_,hc_v,hR_v⟩:=hof.at he_v
  obtain rfl:=hR_v
  refine znH 1000 0 O O hc_v ?_
  refine znk 1000 tR27 ts3 O ha_v (by omega) (_) (rfl) O ?_
  refine Vs 5 O ?_
  refine znL (σ:=Unit) [3,4,5,38,39,40] [3,4,5] [3,4,5] O (fun e u=>e) (fun e u=>e) (fun u=>VOk f i v) (fun _=>rfl) (fun _=>rfl) ?_ ?_
  .
   refine Vs 8 O ?_
   refine V.sp 50 O (fun a1=>?_) (fun a1=>?_)
   .
    refine Vs 5 O ?_
    refine V.sp 55 O (fun a2=>?_) (fun a2=>?_)
    .
     refine Vs 41 O ?_
     refine zlt tr34 O (fun w hI=>⟨_,rfl,⟨_,rfl,hno (hnoV i v he_v fun h=>a2 (h.1 (by omega)))⟩,hI.k0⟩)
    refine Vs 6 O ?_
    refine V.sp 61 O (fun b1=>?_) (fun b1=>?_)
    . omega
    refine Vs 24 O ?_
    refine zlq (()) (Sub.of O) (Has.of O) (⟨fun _=>zp2.1 a2,fun h=>by omega⟩) 0 O O
   refine Vs 11 O ?_
   refine V.sp 61 O (fun b1=>?_) (fun b1=>?_)
   .
    refine Vs 3 O ?_
    refine V.sp 64 O (fun b2=>?_) (fun b2=>?_)
    .
     refine Vs 32 O ?_
     refine zlt tr34 O (fun w hI=>⟨_,rfl,⟨_,rfl,hno (hnoV i v he_v fun h=>by have:=(h.2 (by omega)).1;omega)⟩,hI.k0⟩)
    obtain⟨m,rfl⟩:=zpP (show 0<=v by omega)
    refine Vs 7 O ?_
    refine V.sp 71 O (fun b3=>?_) (fun b3=>?_)
    .
     refine Vs 25 O ?_
     have hb:¬ VOk f i (m:Int):=fun h=>by
      obtain⟨_,x,hx,_⟩:=h.2 (by omega)
      have:=(zp7.1 hx).1
      omega
     refine zlt tr34 O (fun w hI=>⟨_,rfl,⟨_,rfl,hno (hnoV i m he_v hb)⟩,hI.k0⟩)
    refine Vs 3 O ?_
    obtain⟨vr,he_vr,hm_vr⟩:=gE_ f.vars (m) (by omega)
    obtain⟨b_vr,o_vr,c_vr,ha_vr,_,hc_vr,hR_vr⟩:=hfv.at he_vr
    obtain rfl:=hR_vr
    refine znH 2000 0 O O hc_vr ?_
    refine znk 2000 tR22 ts142 O ha_vr (by omega) (_) (rfl) O ?_
    refine Vs 8 O ?_
    refine zld O (fun b4=>?_) (fun b4=>?_)
    .
     have hb:¬ VOk f i (m:Int):=fun h=>by
      obtain⟨_,x,hx,h0⟩:=h.2 (by omega)
      rw[zpf,he_vr]at hx
      cases hx
      exact b4 h0
     refine Vs 12 O ?_
     refine zlt tr34 O (fun w hI=>⟨_,rfl,⟨_,rfl,hno (hnoV i m he_v hb)⟩,hI.k0⟩)
    refine Vs 1 O ?_
    refine zlq (()) (Sub.of O) (Has.of O) (⟨fun h=>by omega,fun _=>⟨by omega,vr,he_vr,zp2.1 b4⟩⟩) 0 O O
   omega
  rintro u hvk
  have hnx:=zW hall he_v hvk
  refine Va 6 O (by omega) ?_
  refine V.back (i+1) (Sub.of O) (Has.of O) (⟨by omega,hnx⟩) (by first | omega | (dsimp only;omega)) 0 O O
 obtain rfl:i=s.of_.length:=by omega
 have hOf:OfF f s:=ofF_iff.2 ⟨hvl,xC hall⟩
 generalize hm:s.of_.length=m at *
 refine Vs 10 O ?_
 refine zm6 86 tu27 Tryz.el3 O (by omega) (by omega) (zs:=List.replicate m (.int .i64 0)) (xD _ _ O) (by simp) (fun b86=>?_)
 refine znJ 86 O (e':=.row 3 1 (.slice (some ⟨b86,0,none⟩) m m) m ((jy (LP s 0) m).map zb)) (by rw[show LP s 0=[] from rfl,zeQ,zqB]) ?_
 refine Vs 13 O ?_
 refine znK (σ:=Nat) [3,4,5,9,88,89] [3,4,5] [3,4,5] O (fun e n=>(90,.int .i64 n)::e) (fun e n=>(86,.row 3 1 (.slice (some ⟨b86,0,none⟩) m m) m ((jy (LP s n) m).map zb))::e) (fun n=>n<=s.nodes.length/\∀ (j:Nat) x,j<n->s.nodes[j]?=some x->NodF f g s (rdV f g) j x) (fun n=>s.nodes.length - n) (0) (Sub.of O) (Has.of O) (fun _=>rfl) (fun _=>rfl) (fun _=>rfl) (⟨zp8 _,fun j x h=>absurd h (zrn _)⟩) ?_
 rintro n ⟨hn,hnod⟩
 refine Vs 6 O ?_
 refine zld O (fun lt=>?_) (fun lt=>?_)
 .
  refine Vs 7 O ?_
  obtain⟨x,he_x,hm_x⟩:=gE_ s.nodes (n) (by omega)
  obtain⟨b_x,o_x,c_x,ha_x,_,hc_x,hR_x⟩:=hnd.at he_x
  obtain⟨v1_x,v2_x,rfl,hp_x,hu_x⟩:=hR_x
  obtain⟨a1_x,n1_x,rfl⟩:=hp_x.form
  obtain⟨a2_x,n2_x,rfl⟩:=hu_x.form
  refine znH 3000 0 O O hc_x ?_
  refine znk 3000 tR28 ts59 O ha_x (by omega) (_) (rfl) O ?_
  have hnoN:¬ NodF f g s (rdV f g) n x->¬ FormF f g s (rdV f g):=fun hb h=>hb (h.nod n x he_x)
  have hng:n<g.length:=by omega
  have hum:=hu_x.max
  have hpm:=hp_x.max
  have hlx:=zcF he_x
  have hl1:=zjI (s:=s) (j:=n+1) (N:=s.nodes.length) (by omega)
  rw[hlx,zp1,zp1,zpd]at hl1
  refine Vs 1 O ?_
  refine V.alloc 11 tz59 O O (fun b11=>?_)
  refine Vs 5 O ?_
  refine znL (σ:=Unit) [3,4,5,9,10,11,88,89,90] [3,4,5,11,86] [3,4,5,11] O (fun e u=>e) (fun e u=>e) (fun u=>n=0->x.phis=[]) (fun _=>rfl) (fun _=>rfl) ?_ ?_
  .
   refine Vs 5 O ?_
   refine V.sp 97 O (fun z1=>?_) (fun z1=>?_)
   .
    refine Vs 7 O ?_
    refine zld O (fun z2=>?_) (fun z2=>?_)
    .
     have hb:=hnoN fun h=>absurd (h.phi.zero (by omega)) (fun e=>by rw[e]at z2;simp at z2)
     refine Vs 13 O ?_
     refine zlt tr34 O (fun w hI=>⟨_,rfl,⟨_,rfl,hno hb⟩,hI.k0⟩)
    refine Vs 1 O ?_
    refine zlq (()) (Sub.of O) (Has.of O) (fun _=>zqs.1 (by omega)) 0 O O
   refine Vs 9 O ?_
   refine zlq (()) (Sub.of O) (Has.of O) (fun e=>absurd (by rw[e];rfl) z1) 0 O O
  rintro u h0
  refine Vs 10 O ?_
  refine znJ 86 O (e':=.row 3 1 (.slice (some ⟨b86,0,none⟩) m m) m ((jy (LP s n++(x.phis.take 0).map (·.ver)) m).map zb)) (by rw[zra,zqA,zq4]) ?_
  refine Vs 1 O ?_
  refine znK (σ:=Nat) [3,4,5,9,10,11,88,89,90,104,105] [3,4,5,11] [3,4,5,11] O (fun e i=>(106,.int .i64 i)::e) (fun e i=>(86,.row 3 1 (.slice (some ⟨b86,0,none⟩) m m) m ((jy (LP s n++(x.phis.take i).map (·.ver)) m).map zb))::e) (fun i=>i<=x.phis.length/\PhTo f g s n x.phis i) (fun i=>x.phis.length - i) (0) (Sub.of O) (Has.of O) (fun _=>rfl) (fun _=>rfl) (fun _=>rfl) (⟨zp8 _,zo6⟩) ?_
  rintro i ⟨hi,hin⟩
  refine Vs 6 O ?_
  refine zld O (fun lp=>?_) (fun lp=>?_)
  .
   refine Vs 7 O ?_
   obtain⟨p,he_p,hm_p⟩:=gE_ x.phis (i) (by omega)
   obtain⟨b_p,o_p,c_p,ha_p,_,hc_p,hR_p⟩:=hp_x.at he_p
   obtain⟨v1_p,v2_p,rfl,hf_p,hg_p⟩:=hR_p
   obtain⟨a1_p,n1_p,rfl⟩:=hf_p.form
   obtain⟨a2_p,n2_p,rfl⟩:=hg_p.form
   refine znH 4000 0 O O hc_p ?_
   refine znk 4000 tR56 ts88 O ha_p (by omega) (_) (rfl) O ?_
   have hgpm:=hg_p.max
   have hfpm:=hf_p.max
   have hnoP:¬ PhOne f g s n p->¬ FormF f g s (rdV f g):=fun hb=>hnoN fun h=>hb (h.phi.bad hm_p)
   refine Vs 1 O ?_
   refine V.alloc 13 tz88 O O (fun b13=>?_)
   refine Vs 5 O ?_
   refine znL (σ:=Unit) [3,4,5,9,10,11,13,88,89,90,104,105,106] [3,4,5,11,13,86] [3,4,5,11,13] O (fun e u=>e) (fun e u=>e) (fun u=>(0<i->∃ q,x.phis[i - 1]?=some q/\q.var<p.var)/\jO f s p.ver p.var true/\p.frm=qG g n/\p.args.length=p.frm.length) (fun _=>rfl) (fun _=>rfl) ?_ ?_
   .
    refine znc (p:=0<i) (fun ci=>?_) (fun ci=>?_)
    .
     obtain⟨q,he_q,hm_q⟩:=gE_ x.phis ((i-1)) (by omega)
     obtain⟨b_q,o_q,c_q,ha_q,_,hc_q,hR_q⟩:=hp_x.at he_q
     obtain⟨v1_q,v2_q,rfl,hf_q,hg_q⟩:=hR_q
     obtain⟨a1_q,n1_q,rfl⟩:=hf_q.form
     obtain⟨a2_q,n2_q,rfl⟩:=hg_q.form
     refine znH 5000 0 O O hc_q ?_
     refine Vs 1 O ?_
     refine Vw [3,4,5,11,4000,13,5000] [] O ?_
     refine Vd [0,1,2] 0 (by kernel_rfl) O O O ?_
     refine VD.sp 113 O (fun c1=>?_) (fun c1=>?_)
     .
      refine Vb [3,4,5,6,10,11] 0 (by kernel_rfl) O O O (by omega) ?_
      refine znl 7 5000 tR56 ts88 O (by kernel_rfl) O ha_q (by omega) (i - 1) (by omega) O ?_
      refine Vd [8,9,12,13,14] 0 (by kernel_rfl) O O O ?_
      refine VD.sp 125 O (fun c2=>?_) (fun c2=>?_)
      .
       have hbad:=hnoN fun h=>by
        have:=zqR.1 h.phi.asc (i - 1) i (zp7.1 he_q).1 (zp7.1 he_p).1 (by omega)
        rw[(zp7.1 he_q).2,(zp7.1 he_p).2]at this
        omega
       refine Vd [15,16,17,18,19,20] 0 (by kernel_rfl) O O O ?_
       refine VD.skip 21 0 O (by kernel_rfl) O O ?_
       refine Vd [22,23,24,25,26,27,28] 0 (by kernel_rfl) O O O ?_
       refine VD.skip 29 0 O (by kernel_rfl) O O ?_
       refine VD.skip 30 0 O (by kernel_rfl) O O ?_
       refine Vd [31,32,33,34,35,36,37,38,39,40,41] 0 (by kernel_rfl) O O O ?_
       refine VD.done (by kernel_rfl) ?_
       refine Vs 20 O ?_
       refine zlt tr34 O (fun w hI=>⟨_,rfl,⟨_,rfl,hno (hbad)⟩,hI.k0⟩)
      have hlt:0<i->∃ q,x.phis[i - 1]?=some q/\q.var<p.var:=fun _=>⟨q,he_q,by omega⟩
      refine Vd [15,16,17,18,19,20] 0 (by kernel_rfl) O O O ?_
      refine znx 21 0 tc68 O (by kernel_rfl) O O (fun w hI=>xQ f s p.ver p.var true _ _ _ _ _ D D w (Tr1 hI.k0 hf0) (Tr1 hI.k0 hS0.of_)) ?_
      refine zmT 22 0 O (by kernel_rfl) O O (fun w hI=>zms O za) ?_
      refine Vd [23,24] 0 (by kernel_rfl) O O O ?_
      refine VD.sp 135 O (fun c3=>?_) (fun c3=>?_)
      .
       have hb:=hnoP fun h=>c3 h.ver
       refine Vd [25,26,27,28] 0 (by kernel_rfl) O O O ?_
       refine VD.skip 29 0 O (by kernel_rfl) O O ?_
       refine VD.skip 30 0 O (by kernel_rfl) O O ?_
       refine Vd [31,32,33,34,35,36,37,38,39,40,41] 0 (by kernel_rfl) O O O ?_
       refine VD.done (by kernel_rfl) ?_
       refine Vs 20 O ?_
       refine zlt tr34 O (fun w hI=>⟨_,rfl,⟨_,rfl,hno (hb)⟩,hI.k0⟩)
      have c3:=zp2.1 c3
      refine Vd [25,26,27,28] 0 (by kernel_rfl) O O O ?_
      refine znz 29 0 Tryz.call70 O (by kernel_rfl) O O (fun w hI=>za2 g hgl n _ D w (Tr1 hI.k0 hg0)) ?_
      rintro pr w1 w2 hI1 hk12 hpr hlow
      refine znx 30 1 Tryz.call69 O (by kernel_rfl) O O (fun w hI=>zax p.frm (qG g n) _ _ _ _ w (Tr1 hI.k1 hf_p) (hpr.keep ze hI.k0 (fun b hb _ hs=>by have:=hlow b hs;omega))) ?_
      refine zmT 31 1 O (by kernel_rfl) O O (fun w hI=>zms O za) ?_
      refine Vd [32,33] 1 (by kernel_rfl) O O O ?_
      refine VD.sp 144 O (fun c4=>?_) (fun c4=>?_)
      .
       have hb:=hnoP fun h=>c4 h.frm
       refine Vd [34,35,36,37,38,39,40,41] 1 (by kernel_rfl) O O O ?_
       refine VD.done (by kernel_rfl) ?_
       refine Vs 20 O ?_
       refine zlt tr34 O (fun w hI=>⟨_,rfl,⟨_,rfl,hno (hb)⟩,hI.k1⟩)
      have c4:=zp2.1 c4
      refine Vd [34,35,36,37,38,39,40,41] 1 (by kernel_rfl) O O O ?_
      refine VD.done (by kernel_rfl) ?_
      refine Vs 1 O ?_
      refine zld O (fun c5=>?_) (fun c5=>?_)
      .
       have hb:=hnoP fun h=>c5 (by have:=h.len;omega)
       refine Vs 18 O ?_
       refine zlt tr34 O (fun w hI=>⟨_,rfl,⟨_,rfl,hno (hb)⟩,hI.k1⟩)
      refine Vs 1 O ?_
      refine zlq (()) (Sub.of O) (Has.of O) (⟨hlt,c3,c4,by omega⟩) 1 O O
     omega
    refine Vs 1 O ?_
    refine Vw [3,4,5,11,4000,13] [] O ?_
    refine Vd [0,1,2] 0 (by kernel_rfl) O O O ?_
    refine VD.sp 113 O (fun c1=>?_) (fun c1=>?_)
    . omega
    have hlt:0<i->∃ q,x.phis[i - 1]?=some q/\q.var<p.var:=fun h=>by omega
    refine Vd [3,4,5,6,7,8,9,10,11,12,13,14,15,16,17,18,19,20] 0 (by kernel_rfl) O O O ?_
    refine znx 21 0 tc68 O (by kernel_rfl) O O (fun w hI=>xQ f s p.ver p.var true _ _ _ _ _ D D w (Tr1 hI.k0 hf0) (Tr1 hI.k0 hS0.of_)) ?_
    refine zmT 22 0 O (by kernel_rfl) O O (fun w hI=>zms O za) ?_
    refine Vd [23,24] 0 (by kernel_rfl) O O O ?_
    refine VD.sp 135 O (fun c3=>?_) (fun c3=>?_)
    .
     have hb:=hnoP fun h=>c3 h.ver
     refine Vd [25,26,27,28] 0 (by kernel_rfl) O O O ?_
     refine VD.skip 29 0 O (by kernel_rfl) O O ?_
     refine VD.skip 30 0 O (by kernel_rfl) O O ?_
     refine Vd [31,32,33,34,35,36,37,38,39,40,41] 0 (by kernel_rfl) O O O ?_
     refine VD.done (by kernel_rfl) ?_
     refine Vs 20 O ?_
     refine zlt tr34 O (fun w hI=>⟨_,rfl,⟨_,rfl,hno (hb)⟩,hI.k0⟩)
    have c3:=zp2.1 c3
    refine Vd [25,26,27,28] 0 (by kernel_rfl) O O O ?_
    refine znz 29 0 Tryz.call70 O (by kernel_rfl) O O (fun w hI=>za2 g hgl n _ D w (Tr1 hI.k0 hg0)) ?_
    rintro pr w1 w2 hI1 hk12 hpr hlow
    refine znx 30 1 Tryz.call69 O (by kernel_rfl) O O (fun w hI=>zax p.frm (qG g n) _ _ _ _ w (Tr1 hI.k1 hf_p) (hpr.keep ze hI.k0 (fun b hb _ hs=>by have:=hlow b hs;omega))) ?_
    refine zmT 31 1 O (by kernel_rfl) O O (fun w hI=>zms O za) ?_
    refine Vd [32,33] 1 (by kernel_rfl) O O O ?_
    refine VD.sp 144 O (fun c4=>?_) (fun c4=>?_)
    .
     have hb:=hnoP fun h=>c4 h.frm
     refine Vd [34,35,36,37,38,39,40,41] 1 (by kernel_rfl) O O O ?_
     refine VD.done (by kernel_rfl) ?_
     refine Vs 20 O ?_
     refine zlt tr34 O (fun w hI=>⟨_,rfl,⟨_,rfl,hno (hb)⟩,hI.k1⟩)
    have c4:=zp2.1 c4
    refine Vd [34,35,36,37,38,39,40,41] 1 (by kernel_rfl) O O O ?_
    refine VD.done (by kernel_rfl) ?_
    refine Vs 1 O ?_
    refine zld O (fun c5=>?_) (fun c5=>?_)
    .
     have hb:=hnoP fun h=>c5 (by have:=h.len;omega)
     refine Vs 18 O ?_
     refine zlt tr34 O (fun w hI=>⟨_,rfl,⟨_,rfl,hno (hb)⟩,hI.k1⟩)
    refine Vs 1 O ?_
    refine zlq (()) (Sub.of O) (Has.of O) (⟨hlt,c3,c4,by omega⟩) 1 O O
   rintro u ⟨hlt,c3,c4,c5⟩
   obtain⟨k,hkv,hkm⟩:=xR c3
   rw[hm]at hkm
   have hck:=hcb (LP s n++(x.phis.take i).map (·.ver)) (k:Int)
   simp only[zp1,zpd,zpn]at hck
   refine Va 7 O (by omega) ?_
   refine znt 86 (k) tg3 O (by omega) (show _=some (Value.int .i64 (((LP s n++(x.phis.take i).map (·.ver)).count (k:Int):Nat):Int)) by rw[zpa,qd hkm];rfl) ?_
   refine Va 2 O (by omega) ?_
   refine znu 86 (k) ts3 O (by omega) (by simp[xJ];omega) ?_
   refine znJ 86 O (e':=.row 3 1 (.slice (some ⟨b86,0,none⟩) m m) m ((jy (LP s n++(x.phis.take (i+1)).map (·.ver)) m).map zb)) (by rw[zd he_p,zqw,<- zq3,show [p].map (·.ver)=[(k:Int)] by rw[<- hkv];rfl,<- kF hkm,zqC]) ?_
   refine Vs 11 O ?_
   refine znK (σ:=Nat) [3,4,5,9,10,11,13,88,89,90,104,105,106,161,162] [3,4,5,11,13,86] [3,4,5,11,13] O (fun e j=>(163,.int .i64 j)::e) (fun e j=>e) (fun j=>j<=p.args.length/\∀ (q:Nat) a,q<j->p.args[q]?=some a->jO f s a p.var false) (fun j=>p.args.length - j) (0) (Sub.of O) (Has.of O) (fun _=>rfl) (fun _=>rfl) (fun _=>rfl) (⟨zp8 _,fun q a h=>absurd h (zrn _)⟩) ?_
   rintro j ⟨hj,hargs⟩
   refine Vs 6 O ?_
   refine zld O (fun lj=>?_) (fun lj=>?_)
   .
    refine Vs 6 O ?_
    obtain⟨a,he_a,hm_a⟩:=gE_ p.args (j) (by omega)
    obtain⟨b_a,o_a,c_a,ha_a,_,hc_a,hR_a⟩:=hg_p.at he_a
    obtain rfl:=hR_a
    refine znH 6000 0 O O hc_a ?_
    refine znk 6000 tR27 ts3 O ha_a (by omega) (_) (rfl) O ?_
    refine Vs 11 O ?_
    refine znw tc68 O (fun w hI=>xQ f s a p.var false _ _ _ _ _ D D w (Tr1 hI.k0 hf0) (Tr1 hI.k0 hS0.of_)) ?_
    refine zmS O (fun w hI=>zms O (by first | exact za | rfl)) ?_
    refine Vs 2 O ?_
    refine zld O (fun c6=>?_) (fun c6=>?_)
    .
     have hb:=hnoP fun h=>c6 (h.args a hm_a)
     refine Vs 20 O ?_
     refine zlt tr34 O (fun w hI=>⟨_,rfl,⟨_,rfl,hno hb⟩,hI.k0⟩)
    have hnx:=zW hargs he_a (zp2.1 c6)
    refine Va 7 O (by omega) ?_
    refine V.back (j+1) (Sub.of O) (Has.of O) (⟨by omega,hnx⟩) (by first | omega | (dsimp only;omega)) 0 O O
   obtain rfl:j=p.args.length:=by omega
   have h1:PhOne f g s n p:=⟨c3,c4,by omega,fun a ha=>by obtain⟨q,hq⟩:=zqH.1 ha;exact xC hargs q a hq⟩
   have hnx:=hin.next he_p hlt h1
   refine Va 10 O (by omega) ?_
   refine V.back (i+1) (Sub.of O) (Has.of O) (⟨by omega,hnx⟩) (by first | omega | (dsimp only;omega)) 0 O O
  obtain rfl:i=x.phis.length:=by omega
  have hphi:=hin.done h0
  refine znJ 86 O (e':=.row 3 1 (.slice (some ⟨b86,0,none⟩) m m) m ((jy (LP s n++x.phis.map (·.ver)) m).map zb)) (by rw[zoY]) ?_
  refine Vs 10 O ?_
  refine znw Tryz.call23 O (fun w hI=>zbo f g hk hz n hng _ _ _ _ D D w (Tr1 hI.k0 hf0) (Tr1 hI.k0 hg0)) ?_
  refine Vs 4 O ?_
  refine znL (σ:=Unit) [3,4,5,9,10,11,16,88,89,90] [3,4,5,11,86] [3,4,5,11] O (fun e u=>e) (fun e u=>e) (fun u=>(xA f g n<0->x.dfn=-1)/\(0<=xA f g n->jO f s x.dfn (xA f g n) true)) (fun _=>rfl) (fun _=>rfl) ?_ ?_
  .
   refine Vs 5 O ?_
   refine V.sp 182 O (fun d1=>?_) (fun d1=>?_)
   .
    refine Vs 5 O ?_
    refine V.sp 187 O (fun d2=>?_) (fun d2=>?_)
    .
     have hb:=hnoN fun h=>d2 (h.no d1)
     refine Vs 28 O ?_
     refine zlt tr34 O (fun w hI=>⟨_,rfl,⟨_,rfl,hno hb⟩,hI.k0⟩)
    refine Vs 3 O ?_
    refine V.sp 190 O (fun d3=>?_) (fun d3=>?_)
    . omega
    refine Vs 13 O ?_
    refine zlq (()) (Sub.of O) (Has.of O) (⟨fun _=>zp2.1 d2,fun h=>by omega⟩) 0 O O
   refine Vs 8 O ?_
   refine V.sp 190 O (fun d3=>?_) (fun d3=>?_)
   .
    refine Vs 5 O ?_
    refine znw tc68 O (fun w hI=>xQ f s x.dfn (xA f g n) true _ _ _ _ _ D D w (Tr1 hI.k0 hf0) (Tr1 hI.k0 hS0.of_)) ?_
    refine zmS O (fun w hI=>zms O (by first | exact za | rfl)) ?_
    refine Vs 4 O ?_
    refine zld O (fun d4=>?_) (fun d4=>?_)
    .
     have hb:=hnoN fun h=>d4 (h.yes d3)
     refine Vs 13 O ?_
     refine zlt tr34 O (fun w hI=>⟨_,rfl,⟨_,rfl,hno hb⟩,hI.k0⟩)
    refine Vs 1 O ?_
    refine zlq (()) (Sub.of O) (Has.of O) (⟨fun h=>by omega,fun _=>zp2.1 d4⟩) 0 O O
   omega
  rintro u ⟨hd1,hd2⟩
  refine Vs 2 O ?_
  refine znL (σ:=Unit) [3,4,5,9,10,11,88,89,90] [3,4,5,11] [3,4,5,11] O (fun e u=>e) (fun e u=>(86,.row 3 1 (.slice (some ⟨b86,0,none⟩) m m) m ((jy (LP s (n+1)) m).map zb))::e) (fun u=>True) (fun _=>rfl) (fun _=>rfl) ?_ ?_
  .
   refine Vs 6 O ?_
   refine zld O (fun d0=>?_) (fun d0=>?_)
   .
    obtain⟨k,hkv,hkm⟩:=xR (hd2 d0)
    rw[hm]at hkm
    have hdp:dP x=[(k:Int)]:=by unfold dP;rw[zp4 (by omega),hkv]
    rw[hdp]at hl1 hlx
    simp only[zpe]at hl1
    have hck:=hcb (LP s n++x.phis.map (·.ver)) (k:Int)
    simp only[zp1,zpd]at hck
    refine Va 5 O (by omega) ?_
    refine znt 86 (k) tg3 O (by omega) (show _=some (Value.int .i64 (((LP s n++x.phis.map (·.ver)).count (k:Int):Nat):Int)) by rw[zpa,qd hkm];rfl) ?_
    refine Va 2 O (by omega) ?_
    refine znu 86 (k) ts3 O (by omega) (by simp[xJ];omega) ?_
    refine znJ 86 O (e':=.row 3 1 (.slice (some ⟨b86,0,none⟩) m m) m ((jy (LP s (n+1)) m).map zb)) (by rw[hlx,zfu (L:=LP s n++[(k:Int)]++x.phis.map (·.ver)) (L':=LP s n++x.phis.map (·.ver)++[(k:Int)]) (fun a=>by simp only[zq6];omega),<- kF hkm,zqC]) ?_
    refine Vs 1 O ?_
    refine zlq (()) (Sub.of O) (Has.of O) (True.intro) 0 O O
   have hdp:dP x=[]:=by have:=hd1 (by omega);unfold dP;rw[zp3 (by omega)]
   rw[hdp,zq4]at hlx
   refine znJ 86 O (e':=.row 3 1 (.slice (some ⟨b86,0,none⟩) m m) m ((jy (LP s (n+1)) m).map zb)) (by rw[hlx]) ?_
   refine Vs 1 O ?_
   refine zlq (()) (Sub.of O) (Has.of O) (True.intro) 0 O O
  rintro u -
  refine Vs 6 O ?_
  refine zny Tryz.call71 O (fun w hI=>zgS f g hk hz n hng _ _ _ _ D D w (Tr1 hI.k0 hf0) (Tr1 hI.k0 hg0)) ?_
  rintro r2 w3 w4 hI3 hk34 hrd hlow2
  obtain⟨ar,cr,rfl⟩:=hrd.form
  have hrm:=hrd.max
  refine Vs 14 O ?_
  refine zld O (fun e0=>?_) (fun e0=>?_)
  .
   have hb:=hnoN fun h=>e0 (by rw[<- h.use,zpd])
   refine Vs 12 O ?_
   refine zlt tr34 O (fun w hI=>⟨_,rfl,⟨_,rfl,hno hb⟩,hI.k1⟩)
  refine Vs 11 O ?_
  refine znK (σ:=Nat) [3,4,5,9,17,88,89,90,220,221] [3,4,5,86] [3,4,5] O (fun e k=>(222,.int .i64 k)::e) (fun e k=>e) (fun k=>k<=x.uses.length/\∀ (q:Nat) u,q<k->x.uses[q]?=some u->(rdV f g n)[q]?=some u.1/\jO f s u.2 u.1 false) (fun k=>x.uses.length - k) (0) (Sub.of O) (Has.of O) (fun _=>rfl) (fun _=>rfl) (fun _=>rfl) (⟨zp8 _,fun q u h=>absurd h (zrn _)⟩) ?_
  rintro k ⟨hk2,hall2⟩
  refine Vs 6 O ?_
  refine zld O (fun lk=>?_) (fun lk=>?_)
  .
   refine Vs 7 O ?_
   obtain⟨u,he_u,hm_u⟩:=gE_ x.uses (k) (by omega)
   obtain⟨b_u,o_u,c_u,ha_u,_,hc_u,hR_u⟩:=hu_x.at he_u
   obtain rfl:=hR_u
   refine znH 7000 1 O O hc_u ?_
   refine znk 7000 tR57 ts85 O ha_u (by omega) (_) (rfl) O ?_
   obtain⟨rk,he_rk,hm_rk⟩:=gE_ (rdV f g n) (k) (by omega)
   obtain⟨b_rk,o_rk,c_rk,ha_rk,hd_rk,hc_rk,hR_rk⟩:=hrd.atD he_rk
   obtain rfl:=hR_rk
   refine znI 8000 0 O O (fun h_=>by have h1_:=hlow2 _ h_;have h2_:=hd_rk;first | omega | exact h1_ h2_) hc_rk ?_
   refine Vs 1 O ?_
   refine V.alloc 19 tz85 O O (fun b19=>?_)
   refine Vs 5 O ?_
   refine Vw [3,4,5,7000,8000,19] [] O ?_
   refine Vd [0,1,2,3] 0 (by kernel_rfl) O O O ?_
   refine znl 4 8000 tR27 ts3 O (by kernel_rfl) O ha_rk (by omega) (k) (by omega) O ?_
   refine Vd [5,6,7] 0 (by kernel_rfl) O O O ?_
   refine VD.sp 234 O (fun e1=>?_) (fun e1=>?_)
   .
    have hb:=hnoN fun h=>e1 (by
     have:=congrArg (fun l:List Int=>l[k]?) h.use
     rw[zpa,he_u,he_rk]at this
     exact Option.some.inj this)
    refine Vd [8,9,10,11,12,13] 0 (by kernel_rfl) O O O ?_
    refine VD.skip 14 0 O (by kernel_rfl) O O ?_
    refine Vd [15,16] 0 (by kernel_rfl) O O O ?_
    refine VD.done (by kernel_rfl) ?_
    refine Vs 17 O ?_
    refine zlt tr34 O (fun w hI=>⟨_,rfl,⟨_,rfl,hno hb⟩,hI.k1⟩)
   have e1:=zp2.1 e1
   refine Vd [8,9,10,11,12,13] 0 (by kernel_rfl) O O O ?_
   refine znx 14 0 tc68 O (by kernel_rfl) O O (fun w hI=>xQ f s u.2 u.1 false _ _ _ _ _ D D w (Tr1 hI.k1 hf0) (Tr1 hI.k1 hS0.of_)) ?_
   refine zmT 15 0 O (by kernel_rfl) O O (fun w hI=>zms O za) ?_
   refine Vd [16] 0 (by kernel_rfl) O O O ?_
   refine VD.done (by kernel_rfl) ?_
   refine Vs 1 O ?_
   refine zld O (fun e2=>?_) (fun e2=>?_)
   .
    have hb:=hnoN fun h=>e2 (h.ver u hm_u)
    refine Vs 15 O ?_
    refine zlt tr34 O (fun w hI=>⟨_,rfl,⟨_,rfl,hno hb⟩,hI.k1⟩)
   have hnx:=zW hall2 he_u ⟨by rw[he_rk,e1],zp2.1 e2⟩
   refine Va 7 O (by omega) ?_
   refine V.back (k+1) (Sub.of O) (Has.of O) (⟨by omega,hnx⟩) (by first | omega | (dsimp only;omega)) 0 O O
  obtain rfl:k=x.uses.length:=by omega
  have hall3:=xC hall2
  have huse:x.uses.map (·.1)=rdV f g n:=by
   apply zqe
   intro q
   rw[zpa]
   by_cases hql:q<x.uses.length
   . rw[(hall3 q _ (zoT hql)).1,zoT hql];rfl
   rw[zph (by omega),zph (by omega)];rfl
  have hnode:NodF f g s (rdV f g) n x:=⟨hphi,hd1,hd2,huse,fun u hu=>by obtain⟨q,hq⟩:=zqH.1 hu;exact(hall3 q u hq).2⟩
  have hnx:=zW hnod he_x hnode
  refine Va 10 O (by omega) ?_
  refine V.back (n+1) (Sub.of O) (Has.of O) (⟨by omega,hnx⟩) (by first | omega | (dsimp only;omega)) 1 O O
 obtain rfl:n=s.nodes.length:=by omega
 have hNod:=xC hnod
 have hcnt:∀ a,(LP s s.nodes.length).count a=(qg f g s).count a:=fun a=>by rw[hlen];exact zeR hlen hNod a
 refine Vs 15 O ?_
 refine znK (σ:=Nat) [9] [] [] O (fun e k=>(20,.int .i64 k)::e) (fun e k=>(86,.row 3 1 (.slice (some ⟨b86,0,none⟩) m m) m ((jy (LP s s.nodes.length) m).map zb))::e) (fun k=>f.vars.length<=k/\∀ j:Nat,f.vars.length<=j->j<k->(qg f g s).count (j:Int)=1) (fun k=>m - k) (f.vars.length) (Sub.of O) (Has.of O) (fun _=>rfl) (fun _=>rfl) (fun _=>rfl) (⟨zpi _,fun j h1 h2=>by omega⟩) ?_
 rintro k ⟨hk1,hone⟩
 refine Vs 9 O ?_
 refine zld O (fun lk=>?_) (fun lk=>?_)
 .
  refine Va 9 O (by omega) ?_
  refine znt 86 (k) tg3 O (by omega) (show _=some (Value.int .i64 (((LP s s.nodes.length).count (k:Int):Nat):Int)) by rw[zpa,qd (by omega)];rfl) ?_
  refine Vs 3 O ?_
  refine zld O (fun e1=>?_) (fun e1=>?_)
  .
   have hb:¬ FormF f g s (rdV f g):=fun h=>e1 (by rw[hcnt,h.one k hk1 (by omega)];rfl)
   refine Vs 11 O ?_
   refine zlt tr34 O (fun w hI=>⟨_,rfl,⟨_,rfl,hno hb⟩,hI.k0⟩)
  have hnx:∀ j:Nat,f.vars.length<=j->j<k+1->(qg f g s).count (j:Int)=1:=fun j h1 h2=>by
   by_cases e:j=k
   . subst e;rw[<- hcnt];omega
   exact hone j h1 (by omega)
  refine Va 8 O (by omega) ?_
  refine V.back (k+1) (Sub.of O) (Has.of O) (⟨by omega,hnx⟩) (by first | omega | (dsimp only;omega)) 0 O O
 have hF:FormF f g s (rdV f g):=⟨hOf,hlen,hNod,fun j h1 h2=>hone j h1 (by omega)⟩
 refine Vs 11 O ?_
 refine zlt tr34 O (fun w hI=>⟨_,rfl,⟨_,rfl,⟨fun _=>hF,fun _=>rfl⟩⟩,hI.k0⟩)
def wPh (p:Phn):Nat:=1+p.frm.length+p.args.length
def wPs (l:List Phn):Nat:=(l.map wPh).sum
def wSn (x:Sn):Nat:=x.uses.length+wPs x.phis
def wNs (l:List Sn):Nat:=(l.map wSn).sum
theorem zis {l:List Phn} {i:Nat} {p:Phn} (h:l[i]?=some p):wPs (l.take (i+1))=wPs (l.take i)+wPh p:=by unfold wPs;rw[zd h,zqw,zr3];simp
theorem zeS {l:List Sn} {i:Nat} {x:Sn} (h:l[i]?=some x):wNs (l.take (i+1))=wNs (l.take i)+wSn x:=by unfold wNs;rw[zd h,zqw,zr3];simp
structure FewS (s:Sf):Prop where
 of_:s.of_.length<=200
 nodes:s.nodes.length<=100
 all:wNs s.nodes<=600
theorem zjJ (l:List Phn):l.length<=wPs l:=by
 induction l with
 | nil=>simp
 | cons p l ih =>
  have h1:1<=wPh p:=by unfold wPh;omega
  unfold wPs at *
  rw[zqy,zr4,zpm]
  omega
theorem zkR (s:Sf) (n:Nat) (hn:n<=s.nodes.length):(LP s n).length<=n+wNs (s.nodes.take n):=by
 induction n with
 | zero=>simp[LP]
 | succ n ih =>
  have e:=zoT (show n<s.nodes.length by omega)
  have h1:=ih (by omega)
  rw[zcF e,zeS e,zp1,zp1,zpd]
  have h2:=zjJ s.nodes[n].phis
  have h3:(dP s.nodes[n]).length<=1:=by unfold dP;split<;>simp
  unfold wSn
  omega
theorem FewS.lp {s:Sf} (h:FewS s):(LP s s.nodes.length).length<=700:=by
 have h1:=zkR s s.nodes.length (zpi _)
 rw[zoY]at h1
 have:=h.all
 have:=h.nodes
 omega
def zl2 (s:Sf):Prop:=∀ x ∈ s.nodes,x.uses.length<=1152921504606846976/\∀ p ∈ x.phis,p.frm.length<=1152921504606846976/\p.args.length<=1152921504606846976
theorem zkS (s:Sf) (hsm:zl2 s) (ofv nodv:Value) (D:Nat->Prop) (W:World) (hS:RSf D W s ofv nodv) :
  Calls Tryz.prog 13 #[.agg #[ofv,nodv]] W (Ret fun r w'=>(∃ q:Bool,r=.bool q/\(q=true->FewS s))/\Ext W w'):=by
 have hof:=hS.of_
 have hnd:=hS.nodes
 obtain⟨ao,co,rfl⟩:=hof.form
 obtain⟨an,cn,rfl⟩:=hnd.form
 have hnm:=hnd.max
 refine zn1 Tryz.func13 O Tryz.ntmps13 O (znb ?_)
 refine Vs 2 O ?_
 refine V.box 1 O O (fun b1=>?_)
 refine Vs 4 O ?_
 refine znL (σ:=Unit) [1] [1] [1] O (fun e u=>e) (fun e u=>e) (fun u=>s.of_.length<=200/\s.nodes.length<=100) (fun _=>rfl) (fun _=>rfl) ?_ ?_
 .
  refine Vs 7 O ?_
  refine V.sp 11 O (fun l0=>?_) (fun l0=>?_)
  .
   refine Vs 16 O ?_
   refine zlt tr13 O (fun w hI=>⟨_,rfl,⟨_,rfl,fun h=>by cases h⟩,hI.k0⟩)
  refine Vs 7 O ?_
  refine zld O (fun l1=>?_) (fun l1=>?_)
  .
   refine Vs 8 O ?_
   refine zlt tr13 O (fun w hI=>⟨_,rfl,⟨_,rfl,fun h=>by cases h⟩,hI.k0⟩)
  refine Vs 1 O ?_
  refine zlq (()) (Sub.of O) (Has.of O) (⟨by omega,by omega⟩) 0 O O
 rintro u ⟨h200,h100⟩
 refine Vs 16 O ?_
 refine znK (σ:=Nat) [18,19] [] [] O (fun e n=>(20,.int .i64 n)::(3,.int .i64 (600 - (wNs (s.nodes.take n):Int)))::e) (fun e n=>e) (fun n=>n<=s.nodes.length/\wNs (s.nodes.take n)<=600) (fun n=>s.nodes.length - n) (0) (Sub.of O) (Has.of O) (fun _=>rfl) (fun _=>rfl) (fun _=>rfl) (⟨zp8 _,zp8 _⟩) ?_
 rintro n ⟨hn,hw⟩
 refine Vs 6 O ?_
 refine zld O (fun ln=>?_) (fun ln=>?_)
 .
  refine Vs 6 O ?_
  obtain⟨x,he_x,hm_x⟩:=gE_ s.nodes (n) (by omega)
  obtain⟨b_x,o_x,c_x,ha_x,_,hc_x,hR_x⟩:=hnd.at he_x
  obtain⟨v1_x,v2_x,rfl,hp_x,hu_x⟩:=hR_x
  obtain⟨a1_x,n1_x,rfl⟩:=hp_x.form
  obtain⟨a2_x,n2_x,rfl⟩:=hu_x.form
  refine znH 1000 0 O O hc_x ?_
  refine znk 1000 tR28 ts59 O ha_x (by omega) (_) (rfl) O ?_
  have hpm:=hp_x.max
  obtain⟨hxu,hxp⟩:=hsm x hm_x
  have hnx:=zeS he_x
  generalize wNs (s.nodes.take n)=t0 at *
  refine Vs 1 O ?_
  refine V.alloc 5 tz59 O O (fun b5=>?_)
  refine Va 19 O (by omega) ?_
  refine V.eq 3 (v:=.int .i64 (600 - (t0:Int) - (x.uses.length:Int) - (wPs (x.phis.take 0):Int))) O (by simp[wPs]) ?_
  refine Vs 1 O ?_
  refine znK (σ:=Nat) [5,18,19,20] [5] [5] O (fun e i=>(6,.int .i64 i)::(3,.int .i64 (600 - (t0:Int) - (x.uses.length:Int) - (wPs (x.phis.take i):Int)))::e) (fun e i=>e) (fun i=>i<=x.phis.length/\(wPs (x.phis.take i):Int)<=600+2*1152921504606846976+1) (fun i=>x.phis.length - i) (0) (Sub.of O) (Has.of O) (fun _=>rfl) (fun _=>rfl) (fun _=>rfl) (⟨zp8 _,by simp[wPs]⟩) ?_
  rintro i ⟨hi,hwp⟩
  refine Vs 9 O ?_
  refine V.sp 34 O (fun a1=>?_) (fun a1=>?_)
  .
   refine Vs 5 O ?_
   refine zld O (fun a2=>?_) (fun a2=>?_)
   .
    refine Vs 4 O ?_
    refine Vq (by kernel_rfl) ?_
    refine Vs 4 O ?_
    obtain⟨p,he_p,hm_p⟩:=gE_ x.phis (i) (by omega)
    obtain⟨b_p,o_p,c_p,ha_p,_,hc_p,hR_p⟩:=hp_x.at he_p
    obtain⟨v1_p,v2_p,rfl,hf_p,hg_p⟩:=hR_p
    obtain⟨a1_p,n1_p,rfl⟩:=hf_p.form
    obtain⟨a2_p,n2_p,rfl⟩:=hg_p.form
    refine znH 2000 0 O O hc_p ?_
    refine znn 2000 tR56 ts88 O ha_p (by omega) (_) (rfl) O ?_
    have hpx:=zis he_p
    obtain⟨hb1,hb2⟩:=hxp p hm_p
    have hwe:wPh p=1+p.frm.length+p.args.length:=rfl
    refine Va 7 O (by omega) ?_
    refine znn 2000 tR56 ts88 O ha_p (by omega) (_) (rfl) O ?_
    refine Va 14 O (by omega) ?_
    refine V.back (i+1) (Sub.cons (rfl) (Sub.cons ((show some (Value.int .i64 _)=some (Value.int .i64 _) from congrArg (fun z=>some (Value.int .i64 z)) (by rw[hpx,hwe];omega))) (Sub.of O))) (Has.of O) (⟨by omega,by omega⟩) (by omega) 0 O O
   refine Vs 11 O ?_
   refine zld O (fun b1=>?_) (fun b1=>?_)
   .
    refine Vs 11 O ?_
    refine zlt tr13 O (fun w hI=>⟨_,rfl,⟨_,rfl,fun h=>by cases h⟩,hI.k0⟩)
   omega
  refine Vs 17 O ?_
  refine zld O (fun b1=>?_) (fun b1=>?_)
  .
   refine Vs 11 O ?_
   refine zlt tr13 O (fun w hI=>⟨_,rfl,⟨_,rfl,fun h=>by cases h⟩,hI.k0⟩)
  have hil:i=x.phis.length:=by omega
  subst hil
  rw[zoY]at hwp b1
  have hwx:wSn x=x.uses.length+wPs x.phis:=rfl
  refine Va 7 O (by omega) ?_
  refine V.back (n+1) (Sub.cons (rfl) (Sub.cons ((show some (Value.int .i64 _)=some (Value.int .i64 _) from congrArg (fun z=>some (Value.int .i64 z)) (by rw[hnx,hwx,zoY];omega))) (Sub.of O))) (Has.of O) (⟨by omega,by omega⟩) (by omega) 0 O O
 obtain rfl:n=s.nodes.length:=by omega
 rw[zoY]at hw
 refine Vs 11 O ?_
 refine zlt tr13 O (fun w hI=>⟨_,rfl,⟨_,rfl,fun _=>⟨h200,h100,hw⟩⟩,hI.k0⟩)
open Go.GL Go.ChangeShapes Go.WideShapes Go.ChangeAt Go.RowKit
section
variable {H:Type} {enc:TypeId × Value->H} {w:World} {base:Nat} {sp:Nat->Bool} {held:Bool}
def wtB (P:Program) (t:TypeId) (d:DataW H):Prop:=∀ n ∈ d.weights P t,n<=reachBytes
theorem wtB.field {P:Program} {t:TypeId} {fs:Array Field} {parts:List (DataW H)} (h:wtB P t (.agg parts)) (ht:P.underlying t=some (.struct fs)) {i:Nat} {f:Field} {d:DataW H} (hf:fs[i]?=some f) (hd:parts[i]?=some d):wtB P f.type d:=fun n hn=>by
 refine h n ?_
 rw[DataW.weights,ht]
 exact DataW.weights_mem_each (j:=i) (by simp[hf]) hd n hn
theorem jz {P:Program} {e:TypeId} {d:DataW H} {n:Nat}:∀ {l:List (DataW H)},d ∈ l->n ∈ d.weights P e->n ∈ DataW.weightsAll P e l
 | x::l,h,hn=>by
  rw[DataW.weightsAll,zpc]
  rcases zp9.1 h with rfl | h
  . exact .inl hn
  exact .inr (jz h hn)
theorem wtB.slice {P:Program} {t e:TypeId} {es rs:List (DataW H)} (h:wtB P t (.slice es rs)) (ht:P.underlying t=some (.slice e)):es.length*P.bytesOf e<=reachBytes/\∀ d ∈ es,wtB P e d:=by
 refine⟨zoZ (zrl _ (Nat.le_add_right es.length rs.length)) (h _ (by rw[DataW.weights,ht];exact zoX ..)),fun d hd n hn=>h n ?_⟩
 rw[DataW.weights,ht]
 exact zoW _ (zqD _ (jz hd hn))
theorem zl3 {P:Program} {ts:List TypeId} {ds:List (DataW H)} (h:(DataW.weightsEach P ts ds).all (·<=reachBytes)=true) {j:Nat} {t:TypeId} {d:DataW H} (ht:ts[j]?=some t) (hd:ds[j]?=some d):wtB P t d:=fun n hn=>by
 simpa using zq0.1 h _ (DataW.weights_mem_each ht hd n hn)
theorem jb {P:Program} {fs:Array Field} {m:Nat} {cs:List Value} {xs:List (DataW H × List MemPlace)} (hx:xs.length=fs.size) (hat:∀ (i:Nat) (f:Field),fs[i]?=some f->DataW.trod enc P w base sp held m f.type ((cs.drop f.offset).take (P.cellsOf f.type))=xs[i]?) (i:Nat) {f:Field} (hf:fs[i]?=some f) {c:Nat} (hc:P.cellsOf f.type=c) :
  ∃ y,DataW.trod enc P w base sp held m f.type ((cs.drop f.offset).take c)=some y/\(xs.map (·.1))[i]?=some y.1:=by
 have h:=hat i f hf
 have hi:=(Array.getElem?_eq_some_iff.1 hf).1
 rw[zoT (show i<xs.length by omega),hc]at h
 exact⟨_,h,by rw[zpa,zoT (show i<xs.length by omega)];rfl⟩
theorem zbq {α:Type} {R:Rel α} {P:Program} {t e:TypeId} {c fuel m:Nat} {cs:List Value} {x:DataW H × List MemPlace} (ht:P.underlying t=some (.slice e)) (hc:P.cellsOf e=c) (hc0:0<c) (hm:P.bytesOf e=m) (hm0:8<=m) (hB:wtB P t x.1)
  (hR:∀ (n:Nat) (cs:List Value) (y:DataW H × List MemPlace),wtB P e y.1->DataW.trod enc P w base sp held n e cs=some y->∃ z,R (fun _=>True) w z cs) (h:DataW.trod enc P w base sp held fuel t cs=some x):∃ v l,cs=[v]/\SlR c R (fun _=>True) w v l/\l.length<=1152921504606846976:=by
 obtain⟨v,l,h1,h2,h3⟩:=zfX (R:=R) (fun d=>wtB P e d) ht hc hc0 (fun es rs he d hd=>by rw[he]at hB;exact(hB.slice ht).2 d hd) (fun n cs y hq hy=>hR n cs y hq hy) h
 refine⟨v,l,h1,h2,?_⟩
 rcases h3 with e0 | ⟨es,rs,e1,e2⟩
 . rw[e0];exact zp8 _
 rw[e1]at hB
 have h4:=(hB.slice ht).1
 rw[hm,e2]at h4
 have h5:reachBytes<2 ^ 47:=reachBytes_lt
 have h6:l.length*8<=l.length*m:=Nat.mul_le_mul_left _ hm0
 omega
set_option maxRecDepth 100000 in
theorem zit (k:Nat) (cs:List Value) (x:DataW H × List MemPlace) (h:DataW.trod enc Tryz.prog w base sp held k 85 cs=some x):∃ t,zai (fun _=>True) w t cs:=by
 obtain⟨xs,m,hk,rfl,hl,hx,hat⟩:=DataW.trod_struct Tryz.underlying85 h
 rw[show Tryz.prog.cellsOf 85=2 by kernel_rfl]at hl
 match cs,hl with
 | [c0,c1],_ =>
  obtain⟨y0,h0⟩:=zn hx hat 0 rfl (c:=1) (by kernel_rfl)
  obtain⟨y1,h1⟩:=zn hx hat 1 rfl (c:=1) (by kernel_rfl)
  obtain⟨n0,e0,_⟩:=DataW.trod_int tu3 h0
  obtain⟨n1,e1,_⟩:=DataW.trod_int tu3 h1
  simp at e0 e1
  subst e0;subst e1
  exact⟨(n0,n1),rfl⟩
set_option maxRecDepth 100000 in
theorem ziu (k:Nat) (cs:List Value) (x:DataW H × List MemPlace) (hB:wtB Tryz.prog 88 x.1) (h:DataW.trod enc Tryz.prog w base sp held k 88 cs=some x):∃ t,zil (fun _=>True) w t cs/\t.frm.length<=1152921504606846976/\t.args.length<=1152921504606846976:=by
 obtain⟨xs,m,hk,rfl,hl,hx,hat⟩:=DataW.trod_struct tu88 h
 rw[show Tryz.prog.cellsOf 88=4 by kernel_rfl]at hl
 match cs,hl with
 | [c0,c1,c2,c3],_ =>
  obtain⟨y0,h0⟩:=zn hx hat 0 rfl (c:=1) (by kernel_rfl)
  obtain⟨y1,h1⟩:=zn hx hat 1 rfl (c:=1) (by kernel_rfl)
  obtain⟨y2,h2,b2⟩:=jb hx hat 2 rfl (c:=1) (by kernel_rfl)
  obtain⟨y3,h3,b3⟩:=jb hx hat 3 rfl (c:=1) (by kernel_rfl)
  obtain⟨n0,e0,_⟩:=DataW.trod_int tu3 h0
  obtain⟨n1,e1,_⟩:=DataW.trod_int tu3 h1
  obtain⟨v2,l2,e2,s2,q2⟩:=zbq tu27 zam (by decide) (show Tryz.prog.bytesOf 3=8 by kernel_rfl) (by decide) (hB.field (i:=2) tu88 rfl b2) (fun n cs y _ hy=>zcc tu3 hy) h2
  obtain⟨v3,l3,e3,s3,q3⟩:=zbq tu27 zam (by decide) (show Tryz.prog.bytesOf 3=8 by kernel_rfl) (by decide) (hB.field (i:=3) tu88 rfl b3) (fun n cs y _ hy=>zcc tu3 hy) h3
  simp at e0 e1 e2 e3
  subst e0;subst e1;subst e2;subst e3
  exact⟨⟨n0,n1,l2,l3⟩,⟨_,_,rfl,s2,s3⟩,q2,q3⟩
set_option maxRecDepth 100000 in
theorem zjK (k:Nat) (cs:List Value) (x:DataW H × List MemPlace) (hB:wtB Tryz.prog 59 x.1) (h:DataW.trod enc Tryz.prog w base sp held k 59 cs=some x):∃ t,RSn (fun _=>True) w t cs/\t.uses.length<=1152921504606846976/\∀ p ∈ t.phis,p.frm.length<=1152921504606846976/\p.args.length<=1152921504606846976:=by
 obtain⟨xs,m,hk,rfl,hl,hx,hat⟩:=DataW.trod_struct tu59 h
 rw[show Tryz.prog.cellsOf 59=3 by kernel_rfl]at hl
 match cs,hl with
 | [c0,c1,c2],_ =>
  obtain⟨y0,h0,b0⟩:=jb hx hat 0 rfl (c:=1) (by kernel_rfl)
  obtain⟨y1,h1,b1⟩:=jb hx hat 1 rfl (c:=1) (by kernel_rfl)
  obtain⟨y2,h2⟩:=zn hx hat 2 rfl (c:=1) (by kernel_rfl)
  obtain⟨v0,l0,e0,s0,_⟩:=zbq (R:=(fun D w q cs=>zil D w q cs/\q.frm.length<=1152921504606846976/\q.args.length<=1152921504606846976:Rel Phn)) Tryz.underlying56 (show Tryz.prog.cellsOf 88=4 by kernel_rfl) (by decide) (show Tryz.prog.bytesOf 88=64 by kernel_rfl) (by decide) (hB.field (i:=0) tu59 rfl b0) (fun n cs y hq hy=>ziu n cs y hq hy) h0
  obtain⟨v1,l1,e1,s1,q1⟩:=zbq Tryz.underlying57 (show Tryz.prog.cellsOf 85=2 by kernel_rfl) (by decide) (show Tryz.prog.bytesOf 85=16 by kernel_rfl) (by decide) (hB.field (i:=1) tu59 rfl b1) (fun n cs y _ hy=>zit n cs y hy) h1
  obtain⟨n2,e2,_⟩:=DataW.trod_int tu3 h2
  simp at e0 e1 e2
  subst e0;subst e1;subst e2
  refine⟨⟨l0,l1,n2⟩,⟨_,_,rfl,s0.map fun _ _ _ h=>h.1,s1⟩,q1,fun p hp=>?_⟩
  obtain⟨a2,c2,rfl⟩:=s0.form
  obtain⟨i,hi⟩:=zqH.1 hp
  obtain⟨_,_,_,_,_,_,_,h8⟩:=s0.at hi
  exact h8
set_option maxRecDepth 100000 in
theorem zgT {r:Reach} {b0:Nat} {v:Value} {d:DataW H} {ps:List MemPlace} (hB:wtB Tryz.prog 30 d) (hval:Value.okWide Tryz.prog w r b0 30 v) (hd:DataW.Trod enc Tryz.prog w base sp held 30 v d ps) :
  ∃ s v1 v2,v=.agg #[v1,v2]/\RSf (fun _=>True) w s v1 v2/\zl2 s:=by
 unfold Value.okWide at hval
 rw[tu30]at hval
 obtain⟨cs,rfl,hsz,_⟩:=hval
 obtain⟨k,hn⟩:=hd
 obtain⟨xs,m,_,hd,hl,hx,hat⟩:=DataW.trod_struct tu30 hn
 rw[show Tryz.prog.cellsOf 30=2 by kernel_rfl]at hsz
 obtain rfl:=(Prod.mk.inj hd).1
 obtain⟨l⟩:=cs
 match l,hsz with
 | [c0,c1],_ =>
  obtain⟨y0,h0⟩:=zn hx hat 0 rfl (c:=1) (by kernel_rfl)
  obtain⟨y1,h1,b1⟩:=jb hx hat 1 rfl (c:=1) (by kernel_rfl)
  obtain⟨v0,l0,e0,hs0⟩:=zep tu27 zam (by decide) (fun n cs y hy=>zcc tu3 hy) h0
  obtain⟨v1,l1,e1,s1,_⟩:=zbq (R:=(fun D w q cs=>RSn D w q cs/\q.uses.length<=1152921504606846976/\∀ p ∈ q.phis,p.frm.length<=1152921504606846976/\p.args.length<=1152921504606846976:Rel Sn)) Tryz.underlying28 (show Tryz.prog.cellsOf 59=3 by kernel_rfl) (by decide) (show Tryz.prog.bytesOf 59=56 by kernel_rfl) (by decide) (hB.field (i:=1) tu30 rfl b1) (fun n cs y hq hy=>zjK n cs y hq hy) h1
  simp[Value.cells]at e0 e1
  subst e0;subst e1
  refine⟨⟨l0,l1⟩,_,_,rfl,⟨hs0,s1.map fun _ _ _ h=>h.1⟩,fun p hp=>?_⟩
  obtain⟨a2,c2,rfl⟩:=s1.form
  obtain⟨i,hi⟩:=zqH.1 hp
  obtain⟨_,_,_,_,_,_,_,h8⟩:=s1.at hi
  exact h8
end
open Go.GL
def bfV (rows:List (List Int)) (i:Nat) (v:Int):Int:=((rows[i]?.getD [])[v.toNat]?).getD (-1)
structure Shp (rows:List (List Int)) (N nv:Nat):Prop where
 len:rows.length=N
 row:∀ r ∈ rows,r.length=nv
def jA (rows:List (List Int)) (i v:Nat) (x:Int):List (List Int):=rows.set i ((rows[i]?.getD []).set v x)
theorem zak {rows:List (List Int)} {i:Nat} {r:List Int} {v:Nat} {x:Int} (hr:rows[i]?=some r) (hx:r[v]?=some x):bfV rows i (v:Int)=x:=by unfold bfV;rw[hr,zrs,zpf,hx];rfl
theorem Shp.at {rows:List (List Int)} {N nv:Nat} (h:Shp rows N nv) {i:Nat} (hi:i<N):∃ r,rows[i]?=some r/\r.length=nv:=by
 have hl:=h.len
 exact⟨_,zoT (show i<rows.length by omega),h.row _ (List.getElem_mem _)⟩
theorem Shp.set {rows:List (List Int)} {N nv:Nat} (h:Shp rows N nv) {i v:Nat} (hi:i<N) (x:Int):Shp (jA rows i v x) N nv:=by
 obtain⟨r,hr,hl⟩:=h.at hi
 refine⟨by unfold jA;rw[zqv];exact h.len,fun q hq=>?_⟩
 unfold jA at hq
 rcases List.mem_or_eq_of_mem_set hq with hq | rfl
 . exact h.row q hq
 rw[hr,zrs,zqv];exact hl
theorem zeT {rows:List (List Int)} {N nv:Nat} (h:Shp rows N nv) {i v:Nat} (hi:i<N) (hv:v<nv) (x:Int) {j:Nat} {u:Int} (hu:0<=u):bfV (jA rows i v x) j u=zbF (bfV rows) i (v:Int) x j u:=by
 obtain⟨r,hr,hl⟩:=h.at hi
 unfold bfV jA zbF
 rw[hr,zrs]
 by_cases e:j=i
 .
  subst e
  have hlt:=(zp7.1 hr).1
  rw[List.getElem?_set_self hlt,zrs]
  by_cases e2:u=(v:Int)
  . rw[zp4 ⟨rfl,e2⟩,e2,zpf,List.getElem?_set_self (by omega)];rfl
  rw[zp3 (fun h=>e2 h.2),List.getElem?_set_ne (by omega)]
  show _=((rows[j]?.getD [])[u.toNat]?).getD (-1)
  rw[hr];rfl
 rw[List.getElem?_set_ne (fun h=>e h.symm),zp3 (fun h=>e h.1)]
section
variable {f:Fl} {g:List Nd} {s:Sf} {nv:Nat}
theorem ziv {B C:Nat->Int->Int} {v:Int} (h:∀ y,y<g.length->B y v=C y v) {i:Nat}:eqV g s (yw f g s B) i v=eqV g s (yw f g s C) i v:=by
 unfold eqV
 split
 . rfl
 split
 . rfl
 congr 1
 refine zqx fun y hy=>?_
 unfold yw
 rw[h y (xh hy)]
theorem RunV.congr {B C:Nat->Int->Int} (h:RunV f g s nv B) (he:∀ i,i<g.length->∀ v:Int,0<=v->v<(nv:Int)->B i v=C i v):RunV f g s nv C :=
 ⟨fun i hi v hv hn=>he i hi v hv hn ▸ h.snd i hi v hv hn,fun i hi v hv hn=>by
  rw[<- he i hi v hv hn,<- ziv fun y hy=>he y hy v hv hn]
  exact h.le i hi v hv hn⟩
end
def rkR (r:List Int):Nat:=(r.map qZ).sum
def rkT (rows:List (List Int)):Nat:=(rows.map rkR).sum
theorem zeU {l:List Nat} {i:Nat} {x y:Nat} (h:l[i]?=some x):(l.set i y).sum+x=l.sum+y:=by
 induction l generalizing i with
 | nil=>simp at h
 | cons z l ih =>
  cases i with
  | zero=>simp at h;subst h;simp;omega
  | succ i =>
   have:=ih (i:=i) (by simpa using h)
   simp only[zqZ,zr4]
   omega
theorem zgU {rows:List (List Int)} {i v:Nat} {r:List Int} {old x:Int} (hr:rows[i]?=some r) (ho:r[v]?=some old):rkT (jA rows i v x)+qZ old=rkT rows+qZ x:=by
 have h1:rkR (r.set v x)+qZ old=rkR r+qZ x:=by
  unfold rkR
  rw[zqC]
  exact zeU (by rw[zpa,ho];rfl)
 have h2:rkT (jA rows i v x)+rkR r=rkT rows+rkR (r.set v x):=by
  unfold rkT jA
  rw[hr,zrs,zqC]
  exact zeU (by rw[zpa,hr];rfl)
 omega
theorem zgV {l:List Nat} {b:Nat} (h:∀ x ∈ l,x<=b):l.sum<=l.length*b:=by
 induction l with
 | nil=>simp
 | cons x l ih =>
  have h1:=h x (zoX ..)
  have h2:=ih fun y hy=>h y (zoW _ hy)
  rw[zr4,zpm,zrp]
  omega
theorem zjL {rows:List (List Int)} {N nv:Nat} (h:Shp rows N nv):rkT rows<=N*(nv*2):=by
 unfold rkT
 have:=zgV (l:=rows.map rkR) (b:=nv*2) fun x hx=>by
  obtain⟨r,hr,rfl⟩:=zqI.1 hx
  have:=zgV (l:=r.map qZ) (b:=2) fun y hy=>by
   obtain⟨z,_,rfl⟩:=zqI.1 hy
   exact zjD z
  rw[zpd,h.row r hr]at this
  exact this
 rw[zpd,h.len]at this
 exact this
structure PassV (f:Fl) (g:List Nd) (s:Sf) (nv:Nat) (rows0 rows:List (List Int)) (ch:Bool) (dn:Nat->Nat->Prop):Prop where
 shp:Shp rows g.length nv
 run:RunV f g s nv (bfV rows)
 no:ch=false->rows=rows0/\∀ i v,dn i v->bfV rows0 i (v:Int)=-2\/eqV g s (yw f g s (bfV rows0)) i v=bfV rows0 i v\/eqV g s (yw f g s (bfV rows0)) i v=-1
 yes:ch=true->rkT rows0<rkT rows
section
variable {f:Fl} {g:List Nd} {s:Sf} {nv:Nat} {rows0 rows:List (List Int)} {ch:Bool} {dn dn':Nat->Nat->Prop}
theorem PassV.imp (h:PassV f g s nv rows0 rows ch dn) (hd:∀ i v,dn' i v->dn i v):PassV f g s nv rows0 rows ch dn':=⟨h.shp,h.run,fun e=>⟨(h.no e).1,fun i v hv=>(h.no e).2 i v (hd i v hv)⟩,h.yes⟩
theorem zo7 (h1:Shp rows g.length nv) (h2:RunV f g s nv (bfV rows)) (hd:∀ i v,¬ dn i v):PassV f g s nv rows rows false dn:=⟨h1,h2,fun _=>⟨rfl,fun i v h=>absurd h (hd i v)⟩,fun h=>by cases h⟩
theorem PassV.skip (h:PassV f g s nv rows0 rows ch dn) {i v:Nat} (hs:bfV rows i (v:Int)=-2\/eqV g s (yw f g s (bfV rows)) i v=bfV rows i v\/eqV g s (yw f g s (bfV rows)) i v=-1) (hd:∀ j u,dn' j u->dn j u\/(j=i/\u=v)):PassV f g s nv rows0 rows ch dn' :=
 ⟨h.shp,h.run,fun e=>by
  obtain⟨h1,h2⟩:=h.no e
  refine⟨h1,fun j u hju=>?_⟩
  rcases hd j u hju with h3 | ⟨rfl,rfl⟩
  . exact h2 j u h3
  .
   rw[<- h1];exact hs,h.yes⟩
theorem PassV.set (hs:NnS f g s) (h:PassV f g s nv rows0 rows ch dn) {i v:Nat} (hi:i<g.length) (hv:v<nv) (hn:eqV g s (yw f g s (bfV rows)) i v ≠ bfV rows i v):PassV f g s nv rows0 (jA rows i v (eqV g s (yw f g s (bfV rows)) i v)) true dn':=by
 obtain⟨r,hr,hl⟩:=h.shp.at hi
 have ho:=zoT (show v<r.length by omega)
 have hb:=zak hr ho
 have hle:=h.run.le i hi (v:Int) (by omega) (by omega)
 have hrk:=zcB hle hn
 have h1:=zgU (x:=eqV g s (yw f g s (bfV rows)) i v) hr ho
 rw[<- hb]at h1
 refine⟨h.shp.set hi _,(h.run.next hs hi (v:=(v:Int)) (by omega) (by omega)).congr fun j _ u hu _=>(zeT h.shp hi hv _ hu).symm,fun e=>(by cases e),fun _=>?_⟩
 cases ch with
 | false=>rw[<- (h.no rfl).1];omega
 | true=>have:=h.yes rfl;omega
theorem PassV.done (h:PassV f g s nv rows0 rows false dn) (hd:∀ i v,1<=i->i<g.length->v<nv->dn i v) (h0:∀ v:Int,0<=v->v<(nv:Int)->bfV rows 0 v=v):SolV f g s nv (bfV rows):=by
 refine h.run.done fun i hi v hv hn=>?_
 obtain⟨h1,h2⟩:=h.no rfl
 by_cases e:i=0
 .
  subst e
  exact .inr (.inl (by rw[h0 v hv hn];unfold eqV;rw[zp4 rfl]))
 have:=h2 i v.toNat (hd i v.toNat (by omega) hi (by omega))
 rw[Int.toNat_of_nonneg hv,<- h1]at this
 exact this
end
open Go.GL
theorem zdv {g:List Nd} {s:Sf} {O O':Nat->Int->Int} {v:Int} (h:∀ y,y<g.length->O y v=O' y v) {i:Nat}:eqV g s O i v=eqV g s O' i v:=by
 unfold eqV
 split
 . rfl
 split
 . rfl
 congr 1
 exact zqx fun y hy=>h y (xh hy)
structure FlwV (f:Fl) (g:List Nd) (s:Sf) (nv:Nat) (I O:Nat->Int->Int):Prop where
 snd:∀ i,i<g.length->∀ v:Int,0<=v->v<(nv:Int)->SndV (RV f g s v i) (I i v)
 out:∀ i,i<g.length->∀ v:Int,0<=v->v<(nv:Int)->O i v=-1\/O i v=yw f g s I i v
 le:∀ i,i<g.length->∀ v:Int,0<=v->v<(nv:Int)->LeV (I i v) (eqV g s O i v)
section
variable {f:Fl} {g:List Nd} {s:Sf} {nv:Nat} {I O:Nat->Int->Int}
theorem zo8 (h:∀ i v,I i v=-1) (h':∀ i v,O i v=-1):FlwV f g s nv I O :=
 ⟨fun i _ v _ _=>.inl (h i v),fun i _ v _ _=>.inl (h' i v),fun i _ v _ _=>by rw[h];exact .inl rfl⟩
theorem FlwV.stay (h:FlwV f g s nv I O) {i:Nat} (hi:i<g.length) {v:Int} (hv:0<=v) (hn:v<(nv:Int)):(if I i v=-2 then -2 else eqV g s O i v)=eqV g s O i v:=by
 split
 .
  rename_i e
  have:=h.le i hi v hv hn
  unfold LeV at this
  omega
 rfl
theorem FlwV.next (hs:NnS f g s) (h:FlwV f g s nv I O) {i:Nat} (hi:i<g.length) {v:Int} (hv:0<=v) (hn:v<(nv:Int)) :
  FlwV f g s nv (zbF I i v (eqV g s O i v)) (zbF O i v (if xA f g i=v then (zg s i).dfn else eqV g s O i v))/\LeV (O i v) (if xA f g i=v then (zg s i).dfn else eqV g s O i v):=by
 have hle:=h.le i hi v hv hn
 have hup:LeV (O i v) (if xA f g i=v then (zg s i).dfn else eqV g s O i v):=by
  rcases h.out i hi v hv hn with e | e
  . exact .inl e
  rw[e]
  unfold yw
  split
  . exact LeV.refl _
  exact hle
 have hO:∀ j,j<g.length->∀ u:Int,0<=u->u<(nv:Int)->LeV (O j u) (zbF O i v (if xA f g i=v then (zg s i).dfn else eqV g s O i v) j u):=fun j hj u hu hun=>by
  unfold zbF
  split
  . rename_i e;obtain⟨rfl,rfl⟩:=e;exact hup
  exact LeV.refl _
 refine⟨⟨fun j hj u hu hun=>?_,fun j hj u hu hun=>?_,fun j hj u hu hun=>?_⟩,hup⟩
 .
  by_cases e:j=i/\u=v
  .
   obtain⟨rfl,rfl⟩:=e
   rw[show zbF I j u (eqV g s O j u) j u=eqV g s O j u from zp4 ⟨rfl,rfl⟩]
   unfold eqV
   split
   . rename_i h0;subst h0;exact .inr (.inl ⟨hu,.ini⟩)
   rename_i h0
   split
   . rename_i k hk;exact .inr (.inl ⟨hs.phi _ _ _ hk,.phi h0 hk⟩)
   rename_i hk
   refine zeI fun x hx=>?_
   obtain⟨y,hy,rfl⟩:=zqI.1 hx
   rcases h.out y (xh hy) u hu hun with e | e
   . exact .inl e
   rw[e]
   unfold yw
   split
   . rename_i hd;exact .inr (.inl ⟨hs.dfn _ (xh hy) (by omega),.dfn h0 hk hy hd⟩)
   rename_i hd;exact(h.snd y (xh hy) u hu hun).imp fun k hk2=>.pass h0 hk hy hd hk2
  rw[show zbF I i v (eqV g s O i v) j u=I j u from zp3 e]
  exact h.snd j hj u hu hun
 .
  by_cases e:j=i/\u=v
  .
   obtain⟨rfl,rfl⟩:=e
   right
   unfold yw zbF
   simp
  rw[show zbF O i v (if xA f g i=v then (zg s i).dfn else eqV g s O i v) j u=O j u from zp3 e]
  rcases h.out j hj u hu hun with e2 | e2
  . exact .inl e2
  right
  rw[e2]
  unfold yw
  rw[show zbF I i v (eqV g s O i v) j u=I j u from zp3 e]
 have hm:LeV (eqV g s O j u) (eqV g s (zbF O i v (if xA f g i=v then (zg s i).dfn else eqV g s O i v)) j u):=zgC fun y hy=>hO y hy u hu hun
 by_cases e:j=i/\u=v
 .
  obtain⟨rfl,rfl⟩:=e
  rw[show zbF I j u (eqV g s O j u) j u=eqV g s O j u from zp4 ⟨rfl,rfl⟩]
  exact hm
 rw[show zbF I i v (eqV g s O i v) j u=I j u from zp3 e]
 exact(h.le j hj u hu hun).trans hm
theorem FlwV.congr {I' O':Nat->Int->Int} (h:FlwV f g s nv I O) (he:∀ i,i<g.length->∀ v:Int,0<=v->v<(nv:Int)->I i v=I' i v) (he':∀ i,i<g.length->∀ v:Int,0<=v->v<(nv:Int)->O i v=O' i v):FlwV f g s nv I' O' :=
 ⟨fun i hi v hv hn=>he i hi v hv hn ▸ h.snd i hi v hv hn,fun i hi v hv hn=>by
  rw[<- he' i hi v hv hn]
  rcases h.out i hi v hv hn with e | e
  . exact .inl e
  . right;rw[e];unfold yw;rw[he i hi v hv hn],fun i hi v hv hn=>by
  rw[<- he i hi v hv hn,<- zdv fun y hy=>he' y hy v hv hn]
  exact h.le i hi v hv hn⟩
theorem FlwV.done (h:FlwV f g s nv I O) (hd:∀ i,i<g.length->∀ v:Int,0<=v->v<(nv:Int)->I i v=eqV g s O i v/\O i v=yw f g s I i v):SolV f g s nv I :=
 ⟨h.snd,fun i hi v hv hn=>by
  rw[(hd i hi v hv hn).1]
  exact zdv fun y hy=>(hd y hy v hv hn).2⟩
end
structure PasF (f:Fl) (g:List Nd) (s:Sf) (nv:Nat) (i0 o0 ins outs:List (List Int)) (ch:Bool) (dn:Nat->Nat->Prop):Prop where
 shi:Shp ins g.length nv
 sho:Shp outs g.length nv
 run:FlwV f g s nv (bfV ins) (bfV outs)
 no:ch=false->(ins=i0/\outs=o0)/\∀ i v,dn i v->bfV i0 i (v:Int)=eqV g s (bfV o0) i v/\bfV o0 i v=yw f g s (bfV i0) i v
 yes:ch=true->rkT i0+rkT o0<rkT ins+rkT outs
section
variable {f:Fl} {g:List Nd} {s:Sf} {nv:Nat} {i0 o0 ins outs:List (List Int)} {ch:Bool} {dn dn':Nat->Nat->Prop}
theorem zo9 (h1:Shp ins g.length nv) (h2:Shp outs g.length nv) (h3:FlwV f g s nv (bfV ins) (bfV outs)) (hd:∀ i v,¬ dn i v):PasF f g s nv ins outs ins outs false dn:=⟨h1,h2,h3,fun _=>⟨⟨rfl,rfl⟩,fun i v h=>absurd h (hd i v)⟩,fun h=>by cases h⟩
theorem PasF.imp (h:PasF f g s nv i0 o0 ins outs ch dn) (hd:∀ i v,dn' i v->dn i v):PasF f g s nv i0 o0 ins outs ch dn':=⟨h.shi,h.sho,h.run,fun e=>⟨(h.no e).1,fun i v hv=>(h.no e).2 i v (hd i v hv)⟩,h.yes⟩
theorem PasF.skip (h:PasF f g s nv i0 o0 ins outs ch dn) {i v:Nat} (h1:bfV ins i (v:Int)=eqV g s (bfV outs) i v) (h2:bfV outs i v=if xA f g i=(v:Int) then (zg s i).dfn else eqV g s (bfV outs) i v) (hd:∀ j u,dn' j u->dn j u\/(j=i/\u=v)):PasF f g s nv i0 o0 ins outs ch dn' :=
 ⟨h.shi,h.sho,h.run,fun e=>by
  obtain⟨⟨e1,e2⟩,h4⟩:=h.no e
  refine⟨⟨e1,e2⟩,fun j u hju=>?_⟩
  rcases hd j u hju with h3 | ⟨rfl,rfl⟩
  . exact h4 j u h3
  .
   rw[<- e1,<- e2]
   refine⟨h1,h2.trans ?_⟩
   unfold yw
   rw[h1],h.yes⟩
theorem PasF.set (hs:NnS f g s) (h:PasF f g s nv i0 o0 ins outs ch dn) {i v:Nat} (hi:i<g.length) (hv:v<nv)
  (hn:¬ (bfV ins i (v:Int)=eqV g s (bfV outs) i v/\bfV outs i v=if xA f g i=(v:Int) then (zg s i).dfn else eqV g s (bfV outs) i v)):PasF f g s nv i0 o0 (jA ins i v (eqV g s (bfV outs) i v)) (jA outs i v (if xA f g i=(v:Int) then (zg s i).dfn else eqV g s (bfV outs) i v)) true dn':=by
 obtain⟨r,hr,hl⟩:=h.shi.at hi
 obtain⟨q,hq,hql⟩:=h.sho.at hi
 have ho:=zoT (show v<r.length by omega)
 have hqo:=zoT (show v<q.length by omega)
 have hb:=zak hr ho
 have hqb:=zak hq hqo
 obtain⟨hnx,hup⟩:=h.run.next hs hi (v:=(v:Int)) (by omega) (by omega)
 have hle:=h.run.le i hi (v:Int) (by omega) (by omega)
 have h1:=zgU (x:=eqV g s (bfV outs) i v) hr ho
 have h2:=zgU (x:=if xA f g i=(v:Int) then (zg s i).dfn else eqV g s (bfV outs) i v) hq hqo
 rw[<- hb]at h1
 rw[<- hqb]at h2
 have mono:∀ {a b:Int},LeV a b->qZ a<=qZ b:=fun {a b} hab=>by
  by_cases e:b=a
  . rw[e];exact zpi _
  exact Nat.le_of_lt (zcB hab e)
 have hrk:qZ (bfV ins i v)+qZ (bfV outs i v)<qZ (eqV g s (bfV outs) i v)+qZ (if xA f g i=(v:Int) then (zg s i).dfn else eqV g s (bfV outs) i v):=by
  have m1:=mono hle
  have m2:=mono hup
  by_cases e1:eqV g s (bfV outs) i v=bfV ins i v
  .
   by_cases e2:(if xA f g i=(v:Int) then (zg s i).dfn else eqV g s (bfV outs) i v)=bfV outs i v
   . exact absurd ⟨e1.symm,e2.symm⟩ hn
   have:=zcB hup e2;omega
  have:=zcB hle e1;omega
 refine⟨h.shi.set hi _,h.sho.set hi _,hnx.congr (fun j _ u hu _=>(zeT h.shi hi hv _ hu).symm) (fun j _ u hu _=>(zeT h.sho hi hv _ hu).symm),fun e=>(by cases e),fun _=>?_⟩
 cases ch with
 | false=>obtain⟨⟨e1,e2⟩,_⟩:=h.no rfl;rw[<- e1,<- e2];omega
 | true=>have:=h.yes rfl;omega
theorem PasF.done (h:PasF f g s nv i0 o0 ins outs false dn) (hd:∀ i v,i<g.length->v<nv->dn i v):SolV f g s nv (bfV ins)/\∀ i,i<g.length->∀ v:Int,0<=v->v<(nv:Int)->bfV outs i v=yw f g s (bfV ins) i v:=by
 obtain⟨⟨e1,e2⟩,h4⟩:=h.no rfl
 have h5:∀ i,i<g.length->∀ v:Int,0<=v->v<(nv:Int)->bfV ins i v=eqV g s (bfV outs) i v/\bfV outs i v=yw f g s (bfV ins) i v:=fun i hi v hv hn=>by
  have:=h4 i v.toNat (hd i v.toNat hi (by omega))
  rw[Int.toNat_of_nonneg hv,<- e1,<- e2]at this
  exact this
 exact⟨h.run.done h5,fun i hi v hv hn=>(h5 i hi v hv hn).2⟩
end
open Go.GL
theorem zc1 (f:Fl) (g:List Nd) (s:Sf) (hk:GOk f g) (hlen:s.nodes.length=g.length) (rows:List (List Int)) (nv:Nat) (hsh:Shp rows g.length nv) (i v:Nat) (hi:i<g.length) (hv:v<nv) (b gb:Nat) (ofv nodv bv dv:Value) (D D' Db:Nat->Prop) (W:World) (hc:Cells W b 0 (chk gb ofv nodv bv dv)) (hS:RSf D W s ofv nodv) (hG:GrO D' W f g gb) (hr:SlR 1 (RSl 1 yc) Db W bv rows) :
  Calls Tryz.prog 84 #[.pointer (some ⟨b,0,none⟩),.int .i64 i,.int .i64 v] W (Ret fun r w'=>r=.int .i64 (yw f g s (bfV rows) i v)/\Ext W w'):=by
 have hnd:=hS.nodes
 have hnm:=hnd.max
 have hrm:=hr.max
 have hrl:=hsh.len
 obtain⟨an,cn,rfl⟩:=hnd.form
 obtain⟨ar,cr,rfl⟩:=hr.form
 refine zn3 Tryz.func84 O Tryz.ntmps84 O (znb ?_)
 refine znI 900 0 O O (fun h=>h) hc ?_
 refine zni 0 900 0 O O ?_
 refine Vs 13 O ?_
 refine znw Tryz.call79 O (fun w hI=>zbn f g hk i hi gb D' w (Tr1 hI.k0 hG)) ?_
 refine Vs 4 O ?_
 refine zld O (fun d0=>?_) (fun d0=>?_)
 .
  refine Vs 8 O ?_
  obtain⟨x,he_x,hm_x⟩:=gE_ s.nodes (i) (by omega)
  obtain⟨b_x,o_x,c_x,ha_x,_,hc_x,hR_x⟩:=hnd.at he_x
  obtain⟨v1_x,v2_x,rfl,hp_x,hu_x⟩:=hR_x
  obtain⟨a1_x,n1_x,rfl⟩:=hp_x.form
  obtain⟨a2_x,n2_x,rfl⟩:=hu_x.form
  refine znH 1000 0 O O hc_x ?_
  refine znk 1000 tR28 ts59 O ha_x (by omega) (_) (rfl) O ?_
  refine Vs 7 O ?_
  refine zlt Tryz.results84 O (fun w hI=>⟨_,rfl,by unfold yw;rw[zp4 d0,yC he_x],hI.k0⟩)
 refine Vs 9 O ?_
 obtain⟨r,he_r,hm_r⟩:=gE_ rows (i) (by omega)
 obtain⟨b_r,o_r,c_r,ha_r,_,hc_r,hR_r⟩:=hr.at he_r
 obtain⟨v1_r,rfl,hs_r⟩:=hR_r
 obtain⟨a1_r,n1_r,rfl⟩:=hs_r.form
 refine znH 2000 0 O O hc_r ?_
 refine znk 2000 tR89 ts27 O ha_r (by omega) (_) (rfl) O ?_
 have hrn:=hsh.row r hm_r
 refine Vs 2 O ?_
 obtain⟨y,he_y,hm_y⟩:=gE_ r (v) (by omega)
 obtain⟨b_y,o_y,c_y,ha_y,_,hc_y,hR_y⟩:=hs_r.at he_y
 obtain rfl:=hR_y
 refine znH 3000 0 O O hc_y ?_
 refine znk 3000 tR27 ts3 O ha_y (by omega) (_) (rfl) O ?_
 refine Vs 5 O ?_
 refine zlt Tryz.results84 O (fun w hI=>⟨_,rfl,by unfold yw;rw[zp3 d0,zak he_r he_y],hI.k0⟩)
theorem zjM {l:List Phn} {v:Int} {k:Nat} {p:Phn} (h:∀ (j:Nat) q,j<k->l[j]?=some q->q.var ≠ v) (hp:l[k]?=some p) (hv:p.var=v):zdp l v=some p.ver:=by
 unfold zdp
 induction l generalizing k with
 | nil=>simp at hp
 | cons q l ih =>
  cases k with
  | zero =>
   simp at hp
   subst hp
   rw[List.find?_cons_of_pos (by simpa using hv)];rfl
  | succ k =>
   have:=h 0 q (by omega) rfl
   rw[List.find?_cons_of_neg (by simpa using this)]
   exact ih (k:=k) (fun j q' hj hq=>h (j+1) q' (by omega) (by simpa using hq)) (by simpa using hp)
theorem ziw {l:List Phn} {v:Int} (h:∀ (j:Nat) q,l[j]?=some q->q.var ≠ v):zdp l v=none:=by
 unfold zdp
 rw[Option.map_eq_none_iff,List.find?_eq_none]
 intro p hp e
 obtain⟨j,hj⟩:=zqH.1 hp
 exact h j p hj (by simpa using e)
theorem kG {g:List Nd} {i j:Nat} {y:Int} (h:(qG g i)[j]?=some y):∃ n:Nat,y=(n:Int)/\(yW g i)[j]?=some n/\n<g.length:=by
 unfold qG at h
 rw[zpa]at h
 obtain⟨n,hn,rfl⟩:=zrv.1 h
 exact⟨n,rfl,hn,xh (zoU hn)⟩
theorem zix (f:Fl) (g:List Nd) (s:Sf) (hk:GOk f g) (hlen:s.nodes.length=g.length) (rows:List (List Int)) (nv:Nat) (hsh:Shp rows g.length nv) (i v:Nat) (hi:i<g.length) (h0:i ≠ 0) (hv:v<nv) (b gb:Nat) (ofv nodv bv dv:Value) (D D' Db:Nat->Prop) (W:World) (hc:Cells W b 0 (chk gb ofv nodv bv dv)) (hS:RSf D W s ofv nodv) (hG:GrO D' W f g gb) (hr:SlR 1 (RSl 1 yc) Db W bv rows) :
  Calls Tryz.prog 83 #[.pointer (some ⟨b,0,none⟩),.int .i64 i,.int .i64 v] W (Ret fun r w'=>r=.int .i64 (eqV g s (yw f g s (bfV rows)) i v)/\Ext W w'):=by
 have hG0:=hG
 obtain⟨v1,v2,v3,gv,sv,pv,hD,hcell,hf,hg,hs,hpr⟩:=hG0
 obtain⟨apr,cpr,rfl⟩:=hpr.form
 have hprl:(zec g).length=g.length:=by simp[zec]
 have hprm:=hpr.max
 have hS0:=hS
 have hnd:=hS.nodes
 have hnm:=hnd.max
 obtain⟨an,cn,rfl⟩:=hnd.form
 refine zn3 Tryz.func83 O Tryz.ntmps83 O (znb ?_)
 refine znI 900 0 O O (fun h=>h) hc ?_
 refine znI 901 0 O O (fun h=>h) hcell ?_
 refine zni 0 900 0 O O ?_
 refine Vs 14 O ?_
 obtain⟨x,he_x,hm_x⟩:=gE_ s.nodes (i) (by omega)
 obtain⟨b_x,o_x,c_x,ha_x,_,hc_x,hR_x⟩:=hnd.at he_x
 obtain⟨v1_x,v2_x,rfl,hp_x,hu_x⟩:=hR_x
 obtain⟨a1_x,n1_x,rfl⟩:=hp_x.form
 obtain⟨a2_x,n2_x,rfl⟩:=hu_x.form
 refine znH 1000 0 O O hc_x ?_
 refine znk 1000 tR28 ts59 O ha_x (by omega) (_) (rfl) O ?_
 have hpm:=hp_x.max
 have hxn:zg s i=x:=yC he_x
 refine Vs 7 O ?_
 refine znK (σ:=Nat) [0,1,2,21,22] [900,901] [0] O (fun e k=>(23,.int .i64 k)::e) (fun e k=>e) (fun k=>k<=x.phis.length/\∀ (j:Nat) q,j<k->x.phis[j]?=some q->q.var ≠ (v:Int)) (fun k=>x.phis.length - k) (0) (Sub.of O) (Has.of O) (fun _=>rfl) (fun _=>rfl) (fun _=>rfl) (⟨zp8 _,fun j q h=>absurd h (zrn _)⟩) ?_
 rintro k ⟨hkk,hall⟩
 refine Vs 6 O ?_
 refine zld O (fun lt=>?_) (fun lt=>?_)
 .
  refine Vs 6 O ?_
  obtain⟨p,he_p,hm_p⟩:=gE_ x.phis (k) (by omega)
  obtain⟨b_p,o_p,c_p,ha_p,_,hc_p,hR_p⟩:=hp_x.at he_p
  obtain⟨v1_p,v2_p,rfl,hf_p,hg_p⟩:=hR_p
  obtain⟨a1_p,n1_p,rfl⟩:=hf_p.form
  obtain⟨a2_p,n2_p,rfl⟩:=hg_p.form
  refine znH 2000 0 O O hc_p ?_
  refine znk 2000 tR56 ts88 O ha_p (by omega) (_) (rfl) O ?_
  refine Vs 1 O ?_
  refine V.alloc 8 tz88 O O (fun b8=>?_)
  refine Vs 11 O ?_
  refine zld O (fun e0=>?_) (fun e0=>?_)
  .
   refine Vs 13 O ?_
   refine zlt Tryz.results83 O (fun w hI=>⟨_,rfl,by unfold eqV zfn;rw[zp3 h0,hxn,zjM hall he_p e0],hI.k0⟩)
  have hnx:=zW hall he_p e0
  refine Va 7 O (by omega) ?_
  refine V.back (k+1) (Sub.of O) (Has.of O) (⟨by omega,hnx⟩) (by first | omega | (dsimp only;omega)) 0 O O
 obtain rfl:k=x.phis.length:=by omega
 have hno:zfn s i v=none:=by unfold zfn;rw[hxn];exact ziw (xC hall)
 refine Vs 17 O ?_
 refine zni 37 901 0 O O ?_
 refine Vs 4 O ?_
 obtain⟨pr,he_pr,hm_pr⟩:=gE_ (zec g) (i) (by omega)
 obtain⟨b_pr,o_pr,c_pr,ha_pr,_,hc_pr,hR_pr⟩:=hpr.at he_pr
 obtain⟨v1_pr,rfl,hs_pr⟩:=hR_pr
 obtain⟨a1_pr,n1_pr,rfl⟩:=hs_pr.form
 refine znH 3000 0 O O hc_pr ?_
 refine znk 3000 tR89 ts27 O ha_pr (by omega) (_) (rfl) O ?_
 have hprd:pr=qG g i:=by rw[zeL hi]at he_pr;exact(Option.some.inj he_pr).symm
 have hprn:pr.length=(yW g i).length:=by rw[hprd];simp[qG]
 have hpnm:=hs_pr.max
 refine Vs 6 O ?_
 refine znK (σ:=Nat) [0,2,43,44] [900,901] [0] O (fun e j=>(45,.int .i64 j)::(9,.int .i64 (qO (((yW g i).take j).map fun y:Nat=>yw f g s (bfV rows) y v)))::e) (fun e j=>e) (fun j=>j<=pr.length) (fun j=>pr.length - j) (0) (Sub.of O) (Has.of O) (fun _=>rfl) (fun _=>rfl) (fun _=>rfl) (zp8 _) ?_
 rintro j hj
 refine Vs 6 O ?_
 refine zld O (fun lj=>?_) (fun lj=>?_)
 .
  refine Vs 6 O ?_
  obtain⟨y,he_y,hm_y⟩:=gE_ pr (j) (by omega)
  obtain⟨b_y,o_y,c_y,ha_y,_,hc_y,hR_y⟩:=hs_pr.at he_y
  obtain rfl:=hR_y
  refine znH 4000 0 O O hc_y ?_
  refine znk 4000 tR27 ts3 O ha_y (by omega) (_) (rfl) O ?_
  obtain⟨n,rfl,hn1,hn2⟩:=kG (hprd ▸ he_y)
  have hnx:qO (((yW g i).take (j+1)).map fun y:Nat=>yw f g s (bfV rows) y v)=yX (qO (((yW g i).take j).map fun y:Nat=>yw f g s (bfV rows) y v)) (yw f g s (bfV rows) n v):=by rw[zd hn1,zqw,List.map_singleton,zdo]
  generalize qO (((yW g i).take j).map fun y:Nat=>yw f g s (bfV rows) y v)=ac at *
  refine Vs 9 O ?_
  refine znw Tryz.call84 O (fun w hI=>zc1 f g s hk hlen rows nv hsh n v hn2 hv b gb _ _ _ _ D D' Db w (Tr1 hI.k0 hc) (Tr1 hI.k0 hS0) (Tr1 hI.k0 hG) (Tr1 hI.k0 hr)) ?_
  generalize yw f g s (bfV rows) n v=bb at *
  refine Vs 3 O ?_
  refine znL (σ:=Unit) [0,2,43,44,45] [900,901] [0] O (fun e u=>(9,.int .i64 (yX ac bb))::e) (fun e u=>e) (fun u=>True) (fun _=>rfl) (fun _=>rfl) ?_ ?_
  .
   refine Vs 6 O ?_
   refine V.sp 56 O (fun e1=>?_) (fun e1=>?_)
   .
    refine Vs 10 O ?_
    refine zlq (()) (Sub.cons (by unfold yX;rw[zp4 (.inl e1)];rfl) (Sub.of O)) (Has.of O) (True.intro) 0 O O
   refine Vs 7 O ?_
   refine zld O (fun e2=>?_) (fun e2=>?_)
   .
    refine Vs 2 O ?_
    refine zlq (()) (Sub.cons (by unfold yX;rw[zp4 (.inr e2)];rfl) (Sub.of O)) (Has.of O) (True.intro) 0 O O
   refine Vs 7 O ?_
   refine zld O (fun e3=>?_) (fun e3=>?_)
   .
    refine Vs 5 O ?_
    refine zlq (()) (Sub.cons (by unfold yX;rw[zp3 (fun h=>h.elim e1 e2),zp4 e3];rfl) (Sub.of O)) (Has.of O) (True.intro) 0 O O
   refine Vs 4 O ?_
   refine zlq (()) (Sub.cons (by unfold yX;rw[zp3 (fun h=>h.elim e1 e2),zp3 e3];rfl) (Sub.of O)) (Has.of O) (True.intro) 0 O O
  rintro u -
  refine Va 6 O (by omega) ?_
  refine V.back (j+1) (Sub.cons (rfl) (Sub.cons (by rw[hnx];rfl) (Sub.of O))) (Has.of O) (by omega) (by omega) 0 O O
 obtain rfl:j=pr.length:=by omega
 refine Vs 12 O ?_
 refine zlt Tryz.results83 O (fun w hI=>⟨_,rfl,by unfold eqV;rw[zp3 h0,hno,hprn,zoY],hI.k0⟩)
end Go.Proofs.YtckdhgbepmpgiaaGreat
namespace Go.GL
theorem RowsOk.add {α:Type} {enc:α->Value} {e:TypeId} {w:World} {rv:List Value} {rows:List (List α)} {u:Value} {r:List α} (h:RowsOk enc e w rv rows) (hu:w.ownsRow 0 e 1 u r.length (r.map enc)) (hap:∀ g,u.ownBlock=some g->∀ (i:Nat) v,rv[i]?=some v->v.ownBlock ≠ some g):RowsOk enc e w (rv++[u]) (rows++[r]):=by
 have hlen:=h.len
 have hat:∀ (i:Nat) (v:Value),(rv++[u])[i]?=some v->(i<rv.length/\rv[i]?=some v)\/(i=rv.length/\v=u):=fun i v hv=>by
  by_cases hi:i<rv.length
  . rw[zpj hi]at hv;exact .inl ⟨hi,hv⟩
  have hl:=(zp7.1 hv).1
  rw[zp1,zpe]at hl
  obtain rfl:i=rv.length:=by omega
  rw[zpk (by omega),zro]at hv
  exact .inr ⟨rfl,by simpa using hv.symm⟩
 refine⟨by rw[zp1,zp1,hlen];rfl,fun i v r' hv hr=>?_,fun i j vi vj g hij hi hj hg=>?_⟩
 .
  rcases hat i v hv with⟨h1,h2⟩ | ⟨rfl,rfl⟩
  .
   rw[zpj (by omega)]at hr
   exact h.row i v r' h2 hr
  rw[hlen,zpk (by omega),zro]at hr
  obtain rfl:r=r':=by simpa using hr
  exact hu
 rcases hat i vi hi with⟨h1,h2⟩ | ⟨rfl,rfl⟩
 .
  rcases hat j vj hj with⟨h3,h4⟩ | ⟨rfl,rfl⟩
  . exact h.apart i j vi vj g hij h2 h4 hg
  exact fun hg2=>hap g hg2 i vi h2 hg
 rcases hat j vj hj with⟨h3,h4⟩ | ⟨rfl,rfl⟩
 . exact fun hg2=>hap g hg j vj h4 hg2
 exact absurd O hij
theorem RowsOk.nil {α:Type} {enc:α->Value} {e:TypeId} {w:World}:RowsOk enc e w [] ([]:List (List α)):=⟨rfl,fun i v r h=>by simp at h,fun i j vi vj g _ h=>by simp at h⟩
theorem ziy {α:Type} {l:List α} {i:Nat} {x:α} (h:l[i]?=some x):l.set i x=l:=by
 apply zqe
 intro j
 rw[List.getElem?_set]
 by_cases e:i=j
 .
  subst e
  rw[zp4 rfl,zp4 (zp7.1 h).1,h]
 rw[zp3 e]
section
variable {P:Program} {env:Env} {w:World} {dst:Option Tmp} {ty:TypeId} {pos:String} {aft:Array Edge} {g0:Option (Nat × Bool)}
variable {α:Type} {enc:α->Value} {e:TypeId} {rv:List Value} {rows:List (List α)} {p j g m c:Nat} {r:List α} {a:α}
theorem kH (hR:RowsOk enc e w rv rows) {v:Value} (hv:rv[p]?=some v) (hr:rows[p]?=some r):∃ ao c,v=.slice ao r.length c/\(0<r.length->∃ g,ao=some ⟨g,0,none⟩):=by
 have h:=hR.row p v r hv hr
 rcases h.2 with⟨rfl,h0⟩ | ⟨g,cap,cur,rfl,_⟩
 . rw[h0];exact⟨_,_,rfl,fun h=>by omega⟩
 exact⟨_,_,rfl,fun _=>⟨_,rfl⟩⟩
theorem xS (hR:RowsOk enc e w rv rows) (hv:rv[p]?=some (.slice (some ⟨g,0,none⟩) m c)) (hr:rows[p]?=some r) (ha:r[j]?=some a):w.cell? ⟨g,0+(j:Int).toNat*1,none⟩=some (enc a):=by
 have h:=hR.row p _ r hv hr
 obtain⟨ao,c',he⟩:=xW h
 simp only[Value.slice.injEq]at he
 obtain⟨_,rfl,_⟩:=he
 have:=(jh h).2.2 j (enc a) (by rw[zpa,ha];rfl)
 simpa using this
theorem zox {tl:TypeId} {x y:Operand} (hs:∀ w,(sizeOf tl).run P w=.ok 1 w) (hR:RowsOk enc e w rv rows) (hv:rv[p]?=some (.slice (some ⟨g,0,none⟩) m c)) (hr:rows[p]?=some r) (hj:j<r.length) (h1:one (enc a)=true) (hx:ev env x=some (.pointer (some ⟨g,0+(j:Int).toNat*1,none⟩))) (hy:ev env y=some (enc a)) :
  xL P ⟨dst,.store tl x y,ty,pos,aft,g0⟩ env w (fun w'=>RowsOk enc e w' rv (rows.set p (r.set j a))/\Keep (fun q=>∃ (i:Nat) (v:Value),rv[i]?=some v/\v.ownBlock=some q) w w'/\∀ q,(∃ (i:Nat) (v:Value),rv[i]?=some v/\v.ownBlock=some q)->((∃ (i:Nat) (v:Value),rv[i]?=some v/\v.ownBlock=some q)\/w.heap.size<=q)/\q<w'.heap.size):=by
 have ho:=hR.row p _ r hv hr
 obtain⟨ao,c',he⟩:=xW ho
 simp only[Value.slice.injEq]at he
 obtain⟨_,rfl,_⟩:=he
 obtain⟨sp,hB,hc,hcm,hlen⟩:=qQ ho
 have hj0:0+(j:Int).toNat*1=j:=by simp
 rw[hj0]at hx
 obtain⟨h6,h7⟩:=xE h1
 obtain⟨w',hrun,hsz,hB',hk⟩:=M.store (dst:=dst) (ty:=ty) (pos:=pos) (aft:=aft) (g:=g0) hs hx hy h6 h7 hB (by rw[zp1,zpd];omega)
 have hown:w'.ownsRow 0 e 1 (.slice (some ⟨g,0,none⟩) r.length c) (r.set j a).length ((r.set j a).map enc):=by
  have:=yp (k:=1) (n:=r.length) (cap:=c) hB' hc hcm (by rw[zqv];exact hlen)
  rw[zqX _ _ (by rw[zpd];exact hj),zrm,zr6 (by rw[zqv,zpd];omega),zr7 (by rw[zqv,zpd];omega)]at this
  rw[zqv,zqC]
  exact this
 have hin:∃ (i:Nat) (v:Value),rv[i]?=some v/\v.ownBlock=some g:=⟨p,_,hv,rfl⟩
 have hput:=hR.put hv hown (.inl rfl) (hk.mono fun q _ hq=>by have hq:q=g:=hq;subst hq;exact rfl)
 rw[ziy hv]at hput
 refine⟨w',hrun,hput,hk.mono fun q _ hq=>by have hq:q=g:=hq;subst hq;exact hin,fun q hq=>⟨.inl hq,?_⟩⟩
 obtain⟨i,v,h8,h9⟩:=hq
 exact zrj (hR.blk h8 h9) hk.size
end
theorem zgW {rv:List Value} {u:Value} {q:Nat} (hq:∃ (i:Nat) (v:Value),(rv++[u])[i]?=some v/\v.ownBlock=some q):(∃ (i:Nat) (v:Value),rv[i]?=some v/\v.ownBlock=some q)\/u.ownBlock=some q:=by
 obtain⟨i,v,h1,h2⟩:=hq
 by_cases hi:i<rv.length
 . exact .inl ⟨i,v,by rwa [zpj hi]at h1,h2⟩
 have hl:=(zp7.1 h1).1
 rw[zp1,zpe]at hl
 rw[zpk (by omega),show i - rv.length=0 by omega]at h1
 have h3:u=v:=Option.some.inj h1
 exact .inr (h3 ▸ h2)
end Go.GL
namespace Go.Proofs.YtckdhgbepmpgiaaGreat
open Go.GL
theorem ziz {e:TypeId} {w:World} {rv:List Value} {rows:List (List Int)} {p:Nat} {v:Value} {r:List Int} (h:RowsOk zb e w rv rows) (hv:rv[p]?=some v) (hr:rows[p]?=some r):SlR 1 yc (fun _=>True) w v r:=zmj zb (fun _ _=>rfl) (h.row p v r hv hr) (fun _ _=>trivial)
theorem zbr {w:World} {v:Value} {rv:List Value} {rows:List (List Int)} {D:Nat->Prop} (h1:w.ownsRow 0 27 1 v rows.length rv) (h2:RowsOk zb 3 w rv rows) (hD1:∀ g,v.ownBlock=some g->D g) (hD2:∀ (i:Nat) u g,rv[i]?=some u->u.ownBlock=some g->D g):SlR 1 (RSl 1 yc) D w v rows:=by
 have:OwnR 27 1 (RSl 1 yc) D w v rows:=⟨rv,h1,fun i x hx=>by
  have hlen:=h2.len
  have hl:=(zp7.1 hx).1
  obtain⟨u,hu⟩:∃ u,rv[i]?=some u:=⟨_,zoT (by omega)⟩
  have hd:(rv.drop (i*1)).take 1=[u]:=by rw[zrm,zik hu];rfl
  rw[hd]
  exact⟨u,rfl,zmj zb (fun _ _=>rfl) (h2.row i u x hu hx) (fun g hg=>hD2 i u g hu hg)⟩⟩
 exact this.sl (by decide) (qh ze) (fun q h=>h) hD1
def jB (f:Fl) (g:List Nd) (s:Sf):Prop:=(∀ (n:Nat) x,s.nodes[n]?=some x->∀ u ∈ x.uses,inV f g s n u.1=u.2)/\∀ (n:Nat) x,s.nodes[n]?=some x->∀ p ∈ x.phis,∀ (i:Nat) y a,p.frm[i]?=some y->p.args[i]?=some a->kZ f g s y.toNat p.var=a
def zdN (nv i:Nat):List Int:=(List.range nv).map fun v:Nat=>if i=0 then (v:Int) else -1
def rows0 (nv N:Nat):List (List Int):=(List.range N).map (zdN nv)
theorem zay (nv i:Nat):(zdN nv i).length=nv:=by simp[zdN]
theorem zdw (nv N:Nat):Shp (rows0 nv N) N nv:=⟨by simp[rows0],fun r hr=>by obtain⟨i,_,rfl⟩:=zqI.1 hr;exact zay nv i⟩
theorem zdx {nv N i:Nat} (h:i<N):(rows0 nv N)[i]?=some (zdN nv i):=by unfold rows0;rw[zpa,List.getElem?_range h];rfl
theorem zeV {nv N i:Nat} {v:Int} (hi:i<N) (h0:0<=v) (hv:v<(nv:Int)):bfV (rows0 nv N) i v=if i=0 then v else -1:=by
 obtain⟨n,rfl⟩:=zpP h0
 refine zak (zdx hi) ?_
 unfold zdN
 rw[zpa,List.getElem?_range (by omega)]
 rfl
theorem zgX (f:Fl) (g:List Nd) (s:Sf) (nv:Nat):RunV f g s nv (bfV (rows0 nv g.length)):=by
 have h:RunV f g s nv (fun i v=>if i=0 then v else -1):=zo4 fun i v=>rfl
 exact h.congr fun i hi v hv hn=>(zeV hi hv hn).symm
theorem ziA {nv i k:Nat} (h:k<nv):((zdN nv i).take k++List.replicate (nv - k) 0).set k (if i=0 then (k:Int) else -1)=(zdN nv i).take (k+1)++List.replicate (nv - (k+1)) 0:=by
 have hg:(zdN nv i)[k]?=some (if i=0 then (k:Int) else -1):=by unfold zdN;rw[zpa,List.getElem?_range h];rfl
 rw[zd hg,zqY _ _ (by rw[zpn,zay];omega),zpn,zay,show k - min k nv=0 by omega,show nv - k=(nv - (k+1))+1 by omega,zqV]
 simp
theorem zks {f:Fl} {s:Sf} (h:OfF f s) {k:Nat} {v:Int} (hv:s.of_[k]?=some v):0<=v/\v<(f.vars.length:Int):=by
 by_cases hk:k<f.vars.length
 . have:=h.ini k v hv hk;omega
 obtain⟨h1,x,hx,_⟩:=h.new k v hv (by omega)
 have:=(zp7.1 hx).1
 omega
theorem kI {f:Fl} {s:Sf} (h:OfF f s) {k v:Int} {b:Bool} (hv:jO f s k v b):0<=v/\v<(f.vars.length:Int):=zks h hv.2.1
def zkt (f:Fl) (g:List Nd) (s:Sf) (p:Phn):Prop:=∀ (m:Nat) y,p.frm[m]?=some y->∀ a,p.args[m]?=some a->kZ f g s y.toNat p.var=a
structure NodU (f:Fl) (g:List Nd) (s:Sf) (n:Nat) (x:Sn):Prop where
 use:∀ u ∈ x.uses,inV f g s n u.1=u.2
 arg:∀ p ∈ x.phis,zkt f g s p
theorem zdy {f:Fl} {g:List Nd} {s:Sf} (h:∀ (n:Nat) x,s.nodes[n]?=some x->NodU f g s n x):jB f g s :=
 ⟨fun n x hx u hu=>(h n x hx).use u hu,fun n x hx p hp i y a hy ha=>(h n x hx).arg p hp i y hy a ha⟩
theorem zgY {f:Fl} {g:List Nd} {s:Sf} {B:Nat->Int->Int} {q:Nat} {v:Int} (h:B q v=inV f g s q v):yw f g s B q v=kZ f g s q v:=by
 unfold kZ yw
 rw[h]
theorem zef (f:Fl) (g:List Nd) (s:Sf) (hk:GOk f g) (hlen:s.nodes.length=g.length) (rows:List (List Int)) (nv:Nat) (hsh:Shp rows g.length nv) (i:Nat) (v:Int) (hi:i<g.length) (h0:0<=v) (hv:v<(nv:Int)) (b gb:Nat) (ofv nodv bv dv:Value) (D D' Db:Nat->Prop) (W:World) (hc:Cells W b 0 (chk gb ofv nodv bv dv)) (hS:RSf D W s ofv nodv) (hG:GrO D' W f g gb) (hr:SlR 1 (RSl 1 yc) Db W bv rows) :
  Calls Tryz.prog 84 #[.pointer (some ⟨b,0,none⟩),.int .i64 i,.int .i64 v] W (Ret fun r w'=>r=.int .i64 (yw f g s (bfV rows) i v)/\Ext W w'):=by
 obtain⟨n,rfl⟩:=zpP h0
 exact zc1 f g s hk hlen rows nv hsh i n hi (by omega) b gb ofv nodv bv dv D D' Db W hc hS hG hr
theorem zgZ (f:Fl) (g:List Nd) (s:Sf) (hk:GOk f g) (hF:FormF f g s (rdV f g)) (hg1:1<=g.length) (hgl:g.length<=100000) (hvl:f.vars.length<=1000) (b gb:Nat) (ofv nodv dv:Value) (D:Nat->Prop) (W:World) (hB:(HE.own b (chk gb ofv nodv (.slice none 0 0) dv) 97).holds W) (hap:∀ q,D q->q<W.heap.size/\q ≠ b) (hS:RSf D W s ofv nodv) (hG:GrO D W f g gb) :
  Calls Tryz.prog 41 #[.pointer (some ⟨b,0,none⟩)] W (Ret fun r w'=>∃ x:Value × Bool,(r=.bool x.2/\(x.2=true ↔ jB f g s))/\(HE.own b (chk gb ofv nodv x.1 dv) 97).holds w'/\Keep (HE.own b (chk gb ofv nodv (.slice none 0 0) dv) 97).S W w'/\∀ q,(HE.own b (chk gb ofv nodv x.1 dv) 97).S q->((HE.own b (chk gb ofv nodv (.slice none 0 0) dv) 97).S q\/W.heap.size<=q)/\q<w'.heap.size):=by
 have hG0:=hG
 obtain⟨v1,v2,v3,gv,sv,pv,hD,hcell,hf,hg,hs,hpr⟩:=hG0
 obtain⟨av,cv,rfl⟩:=hf.vars.form
 obtain⟨ag,cg,rfl⟩:=hg.form
 have hS0:=hS
 have hnd:=hS.nodes
 have hnm:=hnd.max
 obtain⟨an,cn,rfl⟩:=hnd.form
 have hlen:=hF.len
 have hnn:=hF.nn
 have haS:∀ q,(HE.own b (chk gb ofv (.slice an s.nodes.length cn) (.slice none 0 0) dv) 97).S q->¬ D q:=fun q h hd=>(hap q hd).2 h
 have hbl:g.length*(f.vars.length*2)<=100000*(1000*2):=Nat.mul_le_mul hgl (by omega)
 generalize hnv:f.vars.length=nv at *
 generalize hN:g.length=N at *
 refine zn1 Tryz.func41 O Tryz.ntmps41 O (zof 900 (.own b [.pointer (some ⟨gb,0,none⟩),ofv,.slice an s.nodes.length cn,.slice none 0 0,dv] 97) (hB) trivial (fun _ h=>h) (fun q hq=>by have hq:q=b:=hq;subst hq;exact(show Blk W q _ _ from hB).lt) ?_)
 refine znI 901 0 O O (fun h=>(hap _ hD).2 h) hcell ?_
 refine zni 0 900 0 O O ?_
 refine Vs 11 O ?_
 refine zni 23 901 0 O O ?_
 refine Vs 15 O ?_
 refine zni 32 901 0 O O ?_
 refine Vs 7 O ?_
 refine zno 903 27 1 O ?_
 refine zno 902 3 1 O ?_
 refine zog 902 (e':=RowsP zb 3 [] []) O (fun w hI=>RowsOk.nil) RowsP.loc (fun _ h=>h) (fun q hq=>by obtain⟨i,u,h,_⟩:=hq;simp at h) ?_
 refine Vs 1 O ?_
 refine znK (σ:=Nat × Value × List Value) [0,3,36] [901] [0] O (fun e ⟨i,u,hv⟩=>(37,.int .i64 i)::e) (fun e ⟨i,u,hv⟩=>(900,.own b [.pointer (some ⟨gb,0,none⟩),ofv,.slice an s.nodes.length cn,u,dv] 97)::(903,.row 27 1 u i hv)::(902,RowsP zb 3 hv ((rows0 nv N).take i))::e) (fun⟨i,u,hv⟩=>i<=N/\hv.length=i) (fun⟨i,u,hv⟩=>N - i) ((0,.slice none 0 0,[])) (Sub.of O) (Has.of O) (fun _=>rfl) (fun _=>rfl) (fun _=>rfl) (⟨zp8 _,rfl⟩) ?_
 rintro⟨i,u,hv⟩ ⟨hi,hhv⟩
 show V _ _ _ _ _ ((37,.int .i64 i)::_) _ ((900,.own b [.pointer (some ⟨gb,0,none⟩),ofv,.slice an s.nodes.length cn,u,dv] 97)::(903,.row 27 1 u i hv)::(902,RowsP zb 3 hv ((rows0 nv N).take i))::_) _
 refine Vs 6 O ?_
 refine zld O (fun lt=>?_) (fun lt=>?_)
 .
  refine Vs 13 O ?_
  refine zm6 41 tu27 Tryz.el3 O (by omega) (by omega) (zs:=List.replicate nv (.int .i64 0)) (xD _ _ O) (by simp) (fun b41=>?_)
  refine znJ 41 O (e':=.row 3 1 (.slice (some ⟨b41,0,none⟩) nv nv) nv (((zdN nv i).take 0++List.replicate (nv - 0) 0).map zb)) (by simp) ?_
  refine Vs 12 O ?_
  refine znK (σ:=Nat) [0,3,4,5,36,37,43] [900,901,902,903] [0] O (fun e k=>(44,.int .i64 k)::e) (fun e k=>(41,.row 3 1 (.slice (some ⟨b41,0,none⟩) nv nv) nv (((zdN nv i).take k++List.replicate (nv - k) 0).map zb))::e) (fun k=>k<=nv) (fun k=>nv - k) (0) (Sub.of O) (Has.of O) (fun _=>rfl) (fun _=>rfl) (fun _=>rfl) (zp8 _) ?_
  rintro k hkk
  have hrl:=zay nv i
  refine Vs 6 O ?_
  refine zld O (fun lk=>?_) (fun lk=>?_)
  .
   have hst:=ziA (i:=i) (show k<nv by omega)
   have hle:((zdN nv i).take k++List.replicate (nv - k) (0:Int)).length=nv:=by rw[zp1,zpn,zqu,hrl];omega
   refine Va 15 O (by omega) ?_
   refine znu 41 (k) ts3 O (by omega) (by rw[zpd,hle];omega) ?_
   refine Vs 3 O ?_
   refine znc (p:=i=0) (fun z0=>?_) (fun z0=>?_)
   .
    refine Vs 5 O ?_
    refine zld O (fun z1=>?_) (fun z1=>?_)
    .
     refine Va 5 O (by omega) ?_
     refine znu 41 (k) ts3 O (by omega) (by rw[zqv,zpd,hle];omega) ?_
     rw[zp4 z0]at hst
     refine znJ 41 O (e':=.row 3 1 (.slice (some ⟨b41,0,none⟩) nv nv) nv (((zdN nv i).take (k+1)++List.replicate (nv - (k+1)) 0).map zb)) (by rw[List.set_set,<- hst,zqC]) ?_
     refine Va 7 O (by omega) ?_
     refine V.back (k+1) (Sub.of O) (Has.of O) (by omega) (by first | omega | (dsimp only;omega)) 0 O O
    omega
   refine Vs 5 O ?_
   refine zld O (fun z1=>?_) (fun z1=>?_)
   . omega
   rw[zp3 z0]at hst
   refine znJ 41 O (e':=.row 3 1 (.slice (some ⟨b41,0,none⟩) nv nv) nv (((zdN nv i).take (k+1)++List.replicate (nv - (k+1)) 0).map zb)) (by rw[<- hst,zqC]) ?_
   refine Va 7 O (by omega) ?_
   refine V.back (k+1) (Sub.of O) (Has.of O) (by omega) (by first | omega | (dsimp only;omega)) 0 O O
  obtain rfl:k=nv:=by omega
  refine znJ 41 O (e':=.row 3 1 (.slice (some ⟨b41,0,none⟩) k k) (zdN k i).length ((zdN k i).map zb)) (by rw[zr7 (by omega),zro,zqW,zq4,hrl]) ?_
  refine Vs 12 O ?_
  refine V.bs 63 [(0,_)] tR89 ts27 tz27 (by decide) O O (by kernel_rfl) (fun b63=>?_)
  refine znp 903 63 tu89 Tryz.el27 O (by decide) O O (by omega) (by omega) (fun u903=>?_)
  refine Vs 2 O ?_
  refine znr 903 O (by omega) ?_
  rintro ob oc rfl hcap_903
  refine Va 8 O (by omega) ?_
  refine zot 902 41 (e':=RowsP zb 3 (hv++[Value.slice (some ⟨b41,0,none⟩) k k]) ((rows0 k N).take (i+1))) [(0,some (900,0)),(57,some (900,0)),(58,some (900,0)),(59,some (900,0)),(60,some (900,3)),(65,some (900,0)),(66,some (900,3))] O O O (fun w hI=>(by rw[zd (zdx (nv:=k) (show i<N by omega))];exact(show RowsOk _ _ _ _ _ from hI.at 902 O).add (hI.at 41 O) (fun g hg i v hv hvg=>hI.sep (k:=902) (k2:=41) O O (by decide) ⟨i,v,hv,hvg⟩ hg))) (RowsP.loc) (fun _ h=>h) (fun q (hq:∃ (i:Nat) (v:Value),(hv++[Value.slice (some ⟨b41,0,none⟩) k k])[i]?=some v/\v.ownBlock=some q)=>zgW hq) ?_
  refine V.back (⟨i+1,.slice (some ⟨ob,0,none⟩) (i+1) oc,hv++[.slice (some ⟨b41,0,none⟩) k k]⟩) (Sub.of O) (Has.of O) (⟨by omega,by rw[zp1,hhv];rfl⟩) (by first | omega | (dsimp only;omega)) 0 O O
 obtain rfl:i=N:=by omega
 have hrl0:(rows0 nv i).length=i:=(zdw nv i).len
 have hsh0:Shp (rows0 nv i) g.length nv:=by rw[hN];exact zdw nv i
 have hrun0:RunV f g s nv (bfV (rows0 nv i)):=by have:=zgX f g s nv;rwa [hN]at this
 have h000:∀ v:Int,0<=v->v<(nv:Int)->bfV (rows0 nv i) 0 v=v:=fun v h0 h1=>by rw[zeV (by omega) h0 h1,zp4 rfl]
 have hTr:∀ q,(fun _:Nat=>True) q:=fun _=>trivial
 refine znr 903 O (by omega) ?_
 rintro og oc rfl hcap_903
 refine znJ 902 O (e':=RowsP zb 3 hv (rows0 nv i)) (by rw[zr7 (by omega)]) ?_
 refine Vs 12 O ?_
 refine znK (σ:=Bool × List (List Int)) [0,3] [900,901,903] [0] O (fun e ⟨ch,rows⟩=>(7,.bool ch)::e) (fun e ⟨ch,rows⟩=>(902,RowsP zb 3 hv rows)::e) (fun⟨ch,rows⟩=>Shp rows g.length nv/\RunV f g s nv (bfV rows)/\(∀ v:Int,0<=v->v<(nv:Int)->bfV rows 0 v=v)/\(ch=false->SolV f g s nv (bfV rows))) (fun⟨ch,rows⟩=>(g.length*(nv*2) - rkT rows)*2+ch.toNat) ((true,rows0 nv i)) (Sub.of O) (Has.of O) (fun _=>rfl) (fun _=>rfl) (fun _=>rfl) (⟨hsh0,hrun0,h000,fun h=>by cases h⟩) ?_
 rintro⟨ch,rows⟩ ⟨hsh,hrun,h00,hso⟩
 show V _ _ _ _ _ ((7,.bool ch)::_) _ ((902,RowsP zb 3 hv rows)::_) _
 refine Vs 6 O ?_
 refine V.bool O (fun c1=>?_) (fun c1=>?_)
 .
  subst c1
  refine Vs 14 O ?_
  refine znK (σ:=Nat × Bool × List (List Int)) [0,3] [900,901,903] [0] O (fun e ⟨j,c2,Q1⟩=>(8,.int .i64 j)::(7,.bool c2)::e) (fun e ⟨j,c2,Q1⟩=>(902,RowsP zb 3 hv Q1)::e) (fun⟨j,c2,Q1⟩=>1<=j/\j<=i/\PassV f g s nv rows Q1 c2 (fun a u=>1<=a/\a<j/\u<nv)/\∀ v:Int,0<=v->v<(nv:Int)->bfV Q1 0 v=v) (fun⟨j,c2,Q1⟩=>i - j) ((1,false,rows)) (Sub.of O) (Has.of O) (fun _=>rfl) (fun _=>rfl) (fun _=>rfl) (⟨zpi _,by omega,zo7 hsh hrun (fun a u h=>by omega),h00⟩) ?_
  rintro⟨j,c2,Q1⟩ ⟨hj1,hj,hps,hz⟩
  show V _ _ _ _ _ ((8,.int .i64 j)::(7,.bool c2)::_) _ ((902,RowsP zb 3 hv Q1)::_) _
  refine Vs 8 O ?_
  refine zni 73 901 0 O O ?_
  refine Vs 7 O ?_
  refine zld O (fun lj=>?_) (fun lj=>?_)
  .
   refine Vs 11 O ?_
   refine znK (σ:=Nat × Bool × List (List Int)) [0,3,8,81] [900,901,903] [0] O (fun e ⟨v,c3,Q3⟩=>(82,.int .i64 v)::(7,.bool c3)::e) (fun e ⟨v,c3,Q3⟩=>(902,RowsP zb 3 hv Q3)::e) (fun⟨v,c3,Q3⟩=>v<=nv/\PassV f g s nv rows Q3 c3 (fun a u=>1<=a/\((a<j/\u<nv)\/(a=j/\u<v)))/\∀ v:Int,0<=v->v<(nv:Int)->bfV Q3 0 v=v) (fun⟨v,c3,Q3⟩=>nv - v) ((0,c2,Q1)) (Sub.of O) (Has.of O) (fun _=>rfl) (fun _=>rfl) (fun _=>rfl) (⟨zp8 _,hps.imp (fun a u h=>by omega),hz⟩) ?_
   rintro⟨v,c3,Q3⟩ ⟨hv0,hps3,hz3⟩
   show V _ _ _ _ _ ((82,.int .i64 v)::(7,.bool c3)::_) _ ((902,RowsP zb 3 hv Q3)::_) _
   refine Vs 6 O ?_
   refine zld O (fun lv=>?_) (fun lv=>?_)
   .
    obtain⟨r,her,hrl⟩:=hps3.shp.at (show j<g.length by omega)
    obtain⟨old,heo⟩:∃ z,r[v]?=some z:=⟨_,zoT (by omega)⟩
    have hbo:=zak her heo
    obtain⟨hu,hru⟩:∃ z,hv[j]?=some z:=⟨_,zoT (by omega)⟩
    refine znd (p:=∃ ao ch,hu=.slice ao r.length ch/\(0<r.length->∃ g,ao=some ⟨g,0,none⟩)) (fun w hI=>kH (show RowsOk _ _ _ _ _ from hI.at 902 O) hru her) (fun hhd=>?_)
    obtain⟨ao,cu,rfl,hau⟩:=hhd
    obtain⟨gu,rfl⟩:=hau (by omega)
    have hR3l:Q3.length=i:=by have:=hps3.shp.len;omega
    refine Va 18 O (by omega) ?_
    refine znt 903 (j) tg27 O (by omega) (hru) ?_
    refine Vs 1 O ?_
    refine zmS O (fun w hI=>zlO tR27 ts3 O O O (by omega)) ?_
    refine zmS O (fun w hI=>R.load tg3 O (xS (hI.at 902 O) hru her heo)) ?_
    refine Vs 9 O ?_
    refine zld O (fun o1=>?_) (fun o1=>?_)
    .
     refine Vs 5 O ?_
     refine znw Tryz.call83 O (fun w hI=>zix f g s hk (by omega) Q3 nv hps3.shp j v (by omega) (by omega) (by omega) b gb _ _ _ _ D D (fun _=>True) w (Blk.cells (hI.at 900 O)) (hS.keep hI.k0 fun q hd _ h=>haS q h hd) (hG.keep hI.k0 fun q hd _ h=>haS q h hd) (zbr (show w.ownsRow 0 _ 1 _ _ _ from hR3l ▸ hI.at 903 O) (hI.at 902 O) (fun _ _=>trivial) (fun _ _ _ _ _=>trivial))) ?_
     refine Vs 9 O ?_
     refine V.sp 104 O (fun n1=>?_) (fun n1=>?_)
     .
      refine Vs 5 O ?_
      refine zld O (fun n2=>?_) (fun n2=>?_)
      .
       have yx:PassV f g s nv rows (jA Q3 j v (eqV g s (yw f g s (bfV Q3)) j v)) true (fun a u=>1<=a/\((a<j/\u<nv)\/(a=j/\u<v+1))):=hps3.set hnn (i:=j) (v:=v) (by omega) (by omega) (by rw[hbo];exact n1)
       have hz4:∀ u:Int,0<=u->u<(nv:Int)->bfV (jA Q3 j v (eqV g s (yw f g s (bfV Q3)) j v)) 0 u=u:=fun u h0 h1=>by
        rw[zeT hps3.shp (by omega) (by omega) _ h0]
        unfold zbF
        rw[zp3 (by omega)]
        exact hz3 u h0 h1
       generalize eqV g s (yw f g s (bfV Q3)) j v=now at *
       refine Va 8 O (by omega) ?_
       refine znt 903 (j) tg27 O (by omega) (hru) ?_
       refine Vs 2 O ?_
       refine zmS O (fun w hI=>zlO tR27 ts3 O O O (by omega)) ?_
       refine zo2 902 (e':=RowsP zb 3 hv (Q3.set j (r.set v now))) O (RowsP.loc) (fun _ h=>h) (fun w hI=>zox ts3 (hI.at 902 O) hru her (by omega) O O O) ?_
       refine znJ 902 O (e':=RowsP zb 3 hv (jA Q3 j v now)) (by unfold jA;rw[her];rfl) ?_
       refine Va 11 O (by omega) ?_
       refine V.back (⟨v+1,true,jA Q3 j v now⟩) (Sub.of O) (Has.of O) (⟨by omega,yx,hz4⟩) (by first | omega | (dsimp only;omega)) 0 O O
      have hskip:PassV f g s nv rows Q3 c3 (fun a u=>1<=a/\((a<j/\u<nv)\/(a=j/\u<v+1))):=hps3.skip (i:=j) (v:=v) (.inr (.inr (by omega))) (fun a u h=>by omega)
      refine Va 7 O (by omega) ?_
      refine V.back (⟨v+1,c3,Q3⟩) (Sub.of O) (Has.of O) (⟨by omega,hskip,hz3⟩) (by first | omega | (dsimp only;omega)) 0 O O
     have hskip:PassV f g s nv rows Q3 c3 (fun a u=>1<=a/\((a<j/\u<nv)\/(a=j/\u<v+1))):=hps3.skip (i:=j) (v:=v) (.inr (.inl (by rw[hbo];omega))) (fun a u h=>by omega)
     refine Va 13 O (by omega) ?_
     refine V.back (⟨v+1,c3,Q3⟩) (Sub.of O) (Has.of O) (⟨by omega,hskip,hz3⟩) (by first | omega | (dsimp only;omega)) 0 O O
    have hskip:PassV f g s nv rows Q3 c3 (fun a u=>1<=a/\((a<j/\u<nv)\/(a=j/\u<v+1))):=hps3.skip (i:=j) (v:=v) (.inl (by rw[hbo];omega)) (fun a u h=>by omega)
    refine Va 7 O (by omega) ?_
    refine V.back (⟨v+1,c3,Q3⟩) (Sub.of O) (Has.of O) (⟨by omega,hskip,hz3⟩) (by first | omega | (dsimp only;omega)) 0 O O
   refine Va 11 O (by omega) ?_
   refine V.back (⟨j+1,c3,Q3⟩) (Sub.of O) (Has.of O) (⟨by omega,by omega,hps3.imp (fun a u h=>by omega),hz3⟩) (by first | omega | (dsimp only;omega)) 0 O O
  have hms:(g.length*(nv*2) - rkT Q1)*2+c2.toNat<(g.length*(nv*2) - rkT rows)*2+true.toNat:=by
   have:=zjL hps.shp
   cases c2 with
   | true=>have:=hps.yes rfl;simp only[zpK];omega
   | false=>rw[(hps.no rfl).1];simp only[zpK,Bool.toNat_false];omega
  have hsolN:c2=false->SolV f g s nv (bfV Q1):=fun e=>by
   subst e
   exact hps.done (fun a u h1 h2 h3=>by omega) hz
  refine Vs 5 O ?_
  refine V.back (⟨c2,Q1⟩) (Sub.of O) (Has.of O) (⟨hps.shp,hps.run,hz,hsolN⟩) (by first | omega | (dsimp only;omega)) 0 O O
 subst c1
 have hsol:=hso rfl
 have hrowl:rows.length=i:=by have:=hsh.len;omega
 have hrows:=hsh.row
 refine zot 903 902 (e':=.res (fun q=>(Value.slice (some ⟨og,0,none⟩) i oc).ownBlock=some q\/∃ (k:Nat) (u:Value),hv[k]?=some u/\u.ownBlock=some q) (fun w=>SlR 1 (RSl 1 yc) (fun q=>(Value.slice (some ⟨og,0,none⟩) i oc).ownBlock=some q\/∃ (k:Nat) (u:Value),hv[k]?=some u/\u.ownBlock=some q) w (.slice (some ⟨og,0,none⟩) i oc) rows)) [(0,some (900,0))] O O O (fun w hI=>zbr (show w.ownsRow 0 _ 1 _ _ _ from hrowl ▸ hI.at 903 O) (hI.at 902 O) (fun _ h=>.inl h) (fun k u q h h2=>.inr ⟨k,u,h,h2⟩)) ((fun w w' T h hk hT=>h.keep (qh ze) hk fun b hb hl=>hT b hl hb)) (fun _ h=>h) (fun q hq=>hq) ?_
 refine zow 903 O (p:=(fun w=>SlR 1 (RSl 1 yc) (fun q=>(Value.slice (some ⟨og,0,none⟩) i oc).ownBlock=some q\/∃ (k:Nat) (u:Value),hv[k]?=some u/\u.ownBlock=some q) w (.slice (some ⟨og,0,none⟩) i oc) rows)) (fun w w' T h hk hT=>h.keep (qh ze) hk fun b hb _=>hT b hb) (fun w hI=>hI.at 903 O) (fun wp hpin hap2=>?_)
 refine Vs 18 O ?_
 refine znK (σ:=Nat) [0,123,124] [900,901,903] [0] O (fun e n=>(125,.int .i64 n)::e) (fun e n=>e) (fun n=>n<=s.nodes.length/\(∀ (m:Nat) x,m<n->s.nodes[m]?=some x->NodU f g s m x)) (fun n=>s.nodes.length - n) (0) (Sub.of O) (Has.of O) (fun _=>rfl) (fun _=>rfl) (fun _=>rfl) (⟨zp8 _,fun m x h=>absurd h (zrn _)⟩) ?_
 rintro n ⟨hn,hall⟩
 refine Vs 6 O ?_
 refine zld O (fun ln=>?_) (fun ln=>?_)
 .
  refine Vs 7 O ?_
  obtain⟨x,he_x,hm_x⟩:=gE_ s.nodes (n) (by omega)
  obtain⟨b_x,o_x,c_x,ha_x,hd_x,hc_x,hR_x⟩:=hnd.atD he_x
  obtain⟨v1_x,v2_x,rfl,hp_x,hu_x⟩:=hR_x
  obtain⟨a1_x,n1_x,rfl⟩:=hp_x.form
  obtain⟨a2_x,n2_x,rfl⟩:=hu_x.form
  refine znI 1000 1 O O (fun h_=>by have h1_:=haS _ h_;have h2_:=hd_x;first | omega | exact h1_ h2_) hc_x ?_
  refine znk 1000 tR28 ts59 O ha_x (by omega) (_) (rfl) O ?_
  have hnod:=hF.nod n x he_x
  have hum:=hu_x.max
  have hpm:=hp_x.max
  have hng:n<g.length:=by omega
  refine Vs 1 O ?_
  refine V.alloc 13 tz59 O O (fun b13=>?_)
  refine Vs 14 O ?_
  refine znK (σ:=Nat) [0,12,13,123,124,125,131,132] [13,900,901,903] [0,13] O (fun e k=>(133,.int .i64 k)::e) (fun e k=>e) (fun k=>k<=x.uses.length/\(∀ (j:Nat) u,j<k->x.uses[j]?=some u->inV f g s n u.1=u.2)) (fun k=>x.uses.length - k) (0) (Sub.of O) (Has.of O) (fun _=>rfl) (fun _=>rfl) (fun _=>rfl) (⟨zp8 _,fun j u h=>absurd h (zrn _)⟩) ?_
  rintro k ⟨hkk,hku⟩
  refine Vs 6 O ?_
  refine zld O (fun lk=>?_) (fun lk=>?_)
  .
   refine Vs 6 O ?_
   obtain⟨u,he_u,hm_u⟩:=gE_ x.uses (k) (by omega)
   obtain⟨b_u,o_u,c_u,ha_u,hd_u,hc_u,hR_u⟩:=hu_x.atD he_u
   obtain rfl:=hR_u
   refine znI 2000 1 O O (fun h_=>by have h1_:=haS _ h_;have h2_:=hd_u;first | omega | exact h1_ h2_) hc_u ?_
   refine znk 2000 tR57 ts85 O ha_u (by omega) (_) (rfl) O ?_
   have hub:=kI hF.of_ (hnod.ver u hm_u)
   obtain⟨u1,u2⟩:=u
   dsimp only at hub
   obtain⟨v,rfl⟩:∃ v:Nat,u1=(v:Int):=⟨u1.toNat,by omega⟩
   obtain⟨r,he_r,hm_r⟩:=gE_ rows (n) (by omega)
   obtain⟨b_r,o_r,c_r,ha_r,hd_r,hc_r,hR_r⟩:=hpin.atD he_r
   obtain⟨v1_r,rfl,hs_r⟩:=hR_r
   obtain⟨a1_r,n1_r,rfl⟩:=hs_r.form
   refine znI 3000 0 O O (fun h_=>by have h1_:=hap2 _ h_;have h2_:=hd_r;first | omega | exact h1_ h2_) hc_r ?_
   have hrn:=hrows r hm_r
   obtain⟨y,he_y,hm_y⟩:=gE_ r (v) (by omega)
   obtain⟨b_y,o_y,c_y,ha_y,hd_y,hc_y,hR_y⟩:=hs_r.atD he_y
   obtain rfl:=hR_y
   refine znI 4000 0 O O (fun h_=>by have h1_:=hap2 _ h_;have h2_:=hd_y;first | omega | exact h1_ h2_) hc_y ?_
   have hyin:y=inV f g s n v:=by rw[<- zak he_r he_y];exact hsol.is hnn (by omega) (by omega) hng
   refine Vs 1 O ?_
   refine V.alloc 15 tz85 O O (fun b15=>?_)
   refine Vs 4 O ?_
   refine Vq (by kernel_rfl) ?_
   refine Vs 5 O ?_
   refine znn 3000 tR89 ts27 O ha_r (by omega) (n) (by omega) O ?_
   refine Vs 3 O ?_
   refine znn 4000 tR27 ts3 O ha_y (by omega) (v) (by omega) O ?_
   refine Vs 6 O ?_
   refine zld O (fun e1=>?_) (fun e1=>?_)
   .
    have hbad:¬ jB f g s:=fun h=>e1 (by rw[hyin];exact h.1 n x he_x _ hm_u)
    refine Vs 16 O ?_
    refine zlt Tryz.results41 O (fun w hI=>⟨_,rfl,⟨(.slice (some ⟨og,0,none⟩) i oc,false),⟨rfl,⟨fun h=>(by cases h),fun h=>absurd h hbad⟩⟩,hI.at 900 rfl,hI.k1,fun q hq=>hI.inS 1 900 O O hq⟩⟩)
   have hnx:=zW hku he_u (show inV f g s n v=u2 by omega)
   refine Va 7 O (by omega) ?_
   refine V.back (k+1) (Sub.of O) (Has.of O) (⟨by omega,hnx⟩) (by first | omega | (dsimp only;omega)) 0 O O
  obtain rfl:k=x.uses.length:=by omega
  refine Vs 14 O ?_
  refine znK (σ:=Nat) [0,123,124,125,153,154] [900,901,903] [0] O (fun e k=>(155,.int .i64 k)::e) (fun e k=>e) (fun k=>k<=x.phis.length/\(∀ (j:Nat) p,j<k->x.phis[j]?=some p->zkt f g s p)) (fun k=>x.phis.length - k) (0) (Sub.of O) (Has.of O) (fun _=>rfl) (fun _=>rfl) (fun _=>rfl) (⟨zp8 _,fun j u h=>absurd h (zrn _)⟩) ?_
  rintro k ⟨hkp,hpu⟩
  refine Vs 6 O ?_
  refine zld O (fun lp=>?_) (fun lp=>?_)
  .
   refine Vs 6 O ?_
   obtain⟨p,he_p,hm_p⟩:=gE_ x.phis (k) (by omega)
   obtain⟨b_p,o_p,c_p,ha_p,hd_p,hc_p,hR_p⟩:=hp_x.atD he_p
   obtain⟨v1_p,v2_p,rfl,hf_p,hg_p⟩:=hR_p
   obtain⟨a1_p,n1_p,rfl⟩:=hf_p.form
   obtain⟨a2_p,n2_p,rfl⟩:=hg_p.form
   refine znI 5000 1 O O (fun h_=>by have h1_:=haS _ h_;have h2_:=hd_p;first | omega | exact h1_ h2_) hc_p ?_
   refine znk 5000 tR56 ts88 O ha_p (by omega) (_) (rfl) O ?_
   have hfr:=hnod.phi.frm p hm_p
   have hal:=hnod.phi.len p hm_p
   have hpv:=kI hF.of_ (hnod.phi.ver p hm_p)
   have hfm:=hf_p.max
   have hgm:=hg_p.max
   refine Vs 1 O ?_
   refine V.alloc 17 tz88 O O (fun b17=>?_)
   refine Vs 12 O ?_
   refine znK (σ:=Nat) [0,17,123,124,125,153,154,155,160,161] [17,900,901,903] [0,17] O (fun e j=>(162,.int .i64 j)::e) (fun e j=>e) (fun j=>j<=p.frm.length/\(∀ (m:Nat) y,m<j->p.frm[m]?=some y->∀ a,p.args[m]?=some a->kZ f g s y.toNat p.var=a)) (fun j=>p.frm.length - j) (0) (Sub.of O) (Has.of O) (fun _=>rfl) (fun _=>rfl) (fun _=>rfl) (⟨zp8 _,fun m y h=>absurd h (zrn _)⟩) ?_
   rintro j ⟨hj,hja⟩
   refine Vs 6 O ?_
   refine zld O (fun lj=>?_) (fun lj=>?_)
   .
    refine Vs 7 O ?_
    obtain⟨y,he_y,hm_y⟩:=gE_ p.frm (j) (by omega)
    obtain⟨b_y,o_y,c_y,ha_y,hd_y,hc_y,hR_y⟩:=hf_p.atD he_y
    obtain rfl:=hR_y
    refine znI 6000 1 O O (fun h_=>by have h1_:=haS _ h_;have h2_:=hd_y;first | omega | exact h1_ h2_) hc_y ?_
    refine znk 6000 tR27 ts3 O ha_y (by omega) (_) (rfl) O ?_
    obtain⟨q,rfl,hq1,hq2⟩:=kG (hfr ▸ he_y)
    obtain⟨a,he_a,hm_a⟩:=gE_ p.args (j) (by omega)
    obtain⟨b_a,o_a,c_a,ha_a,hd_a,hc_a,hR_a⟩:=hg_p.atD he_a
    obtain rfl:=hR_a
    refine znI 7000 1 O O (fun h_=>by have h1_:=haS _ h_;have h2_:=hd_a;first | omega | exact h1_ h2_) hc_a ?_
    have hout:yw f g s (bfV rows) q p.var=kZ f g s q p.var:=zgY (hsol.is hnn (by omega) (by omega) hq2)
    refine Vs 6 O ?_
    refine Vw [17,900,901,6000,7000] [] O ?_
    refine Vd [0,1,2,3,5,6,7] 0 (by kernel_rfl) O O O ?_
    refine znl 8 7000 tR27 ts3 O (by kernel_rfl) O ha_a (by omega) (j) (by omega) O ?_
    refine Vd [9] 0 (by kernel_rfl) O O O ?_
    refine znx 4 0 Tryz.call84 O (by kernel_rfl) O O (fun w hI=>zef f g s hk (by omega) rows nv hsh q p.var hq2 (by omega) (by omega) b gb _ _ _ _ D D _ w (Blk.cells (hI.at 900 O)) (hS.keep hI.k1 fun q hd _ h=>haS q h hd) (hG.keep hI.k1 fun q hd _ h=>haS q h hd) (hpin.keep (qh ze) hI.k0 fun q hd _ hs=>hap2 q hs hd)) ?_
    refine Vd [10] 0 (by kernel_rfl) O O O ?_
    refine VD.done (by kernel_rfl) ?_
    refine Vs 1 O ?_
    refine zld O (fun e1=>?_) (fun e1=>?_)
    .
     have hbad:¬ jB f g s:=fun h=>e1 (by rw[hout];exact h.2 n x he_x p hm_p j _ a he_y he_a)
     refine Vs 19 O ?_
     refine zlt Tryz.results41 O (fun w hI=>⟨_,rfl,⟨(.slice (some ⟨og,0,none⟩) i oc,false),⟨rfl,⟨fun h=>(by cases h),fun h=>absurd h hbad⟩⟩,hI.at 900 rfl,hI.k1,fun q hq=>hI.inS 1 900 O O hq⟩⟩)
    have hnx:=zW hja he_y (show ∀ a',p.args[j]?=some a'->kZ f g s (Int.toNat (q:Int)) p.var=a' from fun a' ha'=>by
     obtain rfl:a'=a:=Option.some.inj (ha'.symm.trans he_a)
     have e2:=zp2.1 e1
     rw[hout]at e2;exact e2)
    refine Va 7 O (by omega) ?_
    refine V.back (j+1) (Sub.of O) (Has.of O) (⟨by omega,hnx⟩) (by first | omega | (dsimp only;omega)) 0 O O
   obtain rfl:j=p.frm.length:=by omega
   have hnx:=zW hpu he_p (show zkt f g s p from fun m y hm a ha=>hja m y (zp7.1 hm).1 hm a ha)
   refine Va 10 O (by omega) ?_
   refine V.back (k+1) (Sub.of O) (Has.of O) (⟨by omega,hnx⟩) (by first | omega | (dsimp only;omega)) 0 O O
  obtain rfl:k=x.phis.length:=by omega
  have hnx:∀ (m:Nat) x',m<n+1->s.nodes[m]?=some x'->NodU f g s m x':=fun m x' hm hx=>by
   by_cases e:m=n
   .
    subst e
    obtain rfl:x'=x:=Option.some.inj (hx.symm.trans he_x)
    exact⟨fun u hu=>by obtain⟨q,hq⟩:=zqH.1 hu;exact xC hku q u hq,fun p hp=>by obtain⟨q,hq⟩:=zqH.1 hp;exact xC hpu q p hq⟩
   exact hall m x' (by omega) hx
  refine Va 10 O (by omega) ?_
  refine V.back (n+1) (Sub.of O) (Has.of O) (⟨by omega,hnx⟩) (by first | omega | (dsimp only;omega)) 0 O O
 obtain rfl:n=s.nodes.length:=by omega
 have hyes:jB f g s:=zdy (xC hall)
 refine Vs 11 O ?_
 refine zlt Tryz.results41 O (fun w hI=>⟨_,rfl,⟨(.slice (some ⟨og,0,none⟩) i oc,true),⟨rfl,⟨fun _=>hyes,fun _=>rfl⟩⟩,hI.at 900 rfl,hI.k1,fun q hq=>hI.inS 1 900 O O hq⟩⟩)
def EqD (D:Nat->Prop) (w w':World):Prop:=∀ b,D b->b<w.heap.size/\w'.heap[b]?=w.heap[b]?
theorem EqD.refl {D:Nat->Prop} {w:World} (h:∀ b,D b->b<w.heap.size):EqD D w w:=fun b hb=>⟨h b hb,rfl⟩
theorem EqD.keep {D S:Nat->Prop} {w w' w2:World} (h:EqD D w w') (hk:Keep S w' w2) (hl:∀ b,D b->b<w'.heap.size) (hS:∀ b,D b->¬ S b):EqD D w w2:=fun b hb=>⟨(h b hb).1,(hk.block b (hl b hb) (hS b hb)).trans (h b hb).2⟩
theorem EqD.to {α:Type} {k:Nat} {R:Rel α} (hR:yd R) {D:Nat->Prop} {w w':World} (h:EqD D w w') {v:Value} {l:List α} (hs:SlR k R D w v l):SlR k R D w' v l:=hs.stable hR (fun _ h=>h) fun b hb _=>(h b hb).2
theorem EqD.back {α:Type} {k:Nat} {R:Rel α} (hR:yd R) {D:Nat->Prop} {w w':World} (h:EqD D w w') {v:Value} {l:List α} (hs:SlR k R D w' v l):SlR k R D w v l:=hs.stable hR (fun _ h=>h) fun b hb _=>(h b hb).2.symm
theorem EqD.lt {D:Nat->Prop} {w w':World} (h:EqD D w w') {b:Nat} (hb:D b):b<w'.heap.size:=by
 have h1:=(h b hb).2
 have h2:=(h b hb).1
 rw[Array.getElem?_eq_getElem h2]at h1
 exact(Array.getElem?_eq_some_iff.1 h1).1
def EncS (D:Nat->Prop) (w:World) (l:List St) (xs:List Value):Prop:=xs.length=l.length*10/\∀ (i:Nat) x,l[i]?=some x->RSt D w x ((xs.drop (i*10)).take 10)
theorem EncS.nil {D:Nat->Prop} {w:World}:EncS D w [] []:=⟨rfl,fun i x h=>by simp at h⟩
theorem EncS.add {D:Nat->Prop} {w:World} {l:List St} {xs cs:List Value} {x:St} (h:EncS D w l xs) (hx:RSt D w x cs) (hc:cs.length=10):EncS D w (l++[x]) (xs++cs):=by
 have h1:=h.1
 refine⟨by rw[zp1,zp1,h1,hc,zpe];omega,fun i y hy=>?_⟩
 by_cases hi:i<l.length
 .
  rw[zpj hi]at hy
  rw[zq7 (by omega),zr6 (by rw[zqr];omega)]
  exact h.2 i y hy
 have hl:=(zp7.1 hy).1
 rw[zp1,zpe]at hl
 obtain rfl:i=l.length:=by omega
 rw[zpk (by omega),zro]at hy
 obtain rfl:x=y:=by simpa using hy
 rw[<- h1,List.drop_left,zr7 (by omega)]
 exact hx
theorem ziB (l:List St):∀ (D:Nat->Prop) (W0 W:World) (v uo:Value) (acc:List St) (xs:List Value),SlR 10 RSt D W0 v l->EqD D W0 W->EncS D W0 acc xs->(HE.row 72 10 uo acc.length xs).holds W->(∀ q,D q->uo.ownBlock ≠ some q)->acc.length+ssize l<=1000000 ->
  Calls Tryz.prog 75 #[v,uo] W (Ret fun r w'=>∃ x:Value × List Value,(r=x.1/\EncS D W0 (acc++preL l) x.2)/\(HE.row 72 10 x.1 (acc++preL l).length x.2).holds w'/\Keep (HE.row 72 10 uo acc.length xs).S W w'/\∀ q,(HE.row 72 10 x.1 (acc++preL l).length x.2).S q->((HE.row 72 10 uo acc.length xs).S q\/W.heap.size<=q)/\q<w'.heap.size):=by
 induction l using zmB with
 | h l ih =>
 intro D W0 W v uo acc xs hl0 hEq hxs hown hap hlen
 have hl:=hEq.to zc hl0
 obtain⟨av,cv,rfl⟩:=hl.form
 have hmx:=hl.max
 have haS:∀ q,(HE.row 72 10 uo acc.length xs).S q->¬ D q:=fun q h hd=>hap q hd h
 refine zn2 Tryz.func75 O Tryz.ntmps75 O (zof 900 (.row 72 10 uo acc.length xs) (hown) trivial (fun _ h=>h) (fun q hq=>qj hown hq) ?_)
 refine Vs 13 O ?_
 refine znJ 900 O (e':=.row 72 10 uo (acc++preL (l.take 0)).length xs) (by rw[show acc++preL (l.take 0)=acc from zq4 _]) ?_
 refine Vs 1 O ?_
 refine znK (σ:=Nat × Value × List Value) [7,8] [] [] O (fun e ⟨i,u,ys⟩=>(9,.int .i64 i)::(1,u)::e) (fun e ⟨i,u,ys⟩=>(900,.row 72 10 u (acc++preL (l.take i)).length ys)::e) (fun⟨i,u,ys⟩=>i<=l.length/\EncS D W0 (acc++preL (l.take i)) ys) (fun⟨i,u,ys⟩=>l.length - i) ((0,uo,xs)) (Sub.of O) (Has.of O) (fun _=>rfl) (fun _=>rfl) (fun _=>rfl) (⟨zp8 _,by rw[show acc++preL (l.take 0)=acc from zq4 _];exact hxs⟩) ?_
 rintro⟨i,u,ys⟩ ⟨hi,hys⟩
 show V _ _ _ _ _ ((9,.int .i64 i)::(1,u)::_) _ ((900,.row 72 10 u (acc++preL (l.take i)).length ys)::_) _
 refine Vs 6 O ?_
 refine zld O (fun lt=>?_) (fun lt=>?_)
 .
  refine Vs 6 O ?_
  obtain⟨x,he_x,hm_x⟩:=gE_ l (i) (by omega)
  obtain⟨b_x,o_x,c_x,ha_x,hd_x,hc_x,hR_x⟩:=hl.atD he_x
  obtain⟨v1_x,v2_x,v3_x,v4_x,rfl,hk_x,ht_x,hs_x,hb_x⟩:=hR_x.get
  obtain⟨a1_x,n1_x,rfl⟩:=hk_x.form
  obtain⟨a2_x,n2_x,rfl⟩:=ht_x.form
  obtain⟨a3_x,n3_x,rfl⟩:=hs_x.form
  obtain⟨a4_x,n4_x,rfl⟩:=hb_x.form
  refine znI 1000 0 O O (fun h_=>by have h1_:=haS _ h_;have h2_:=hd_x;first | omega | exact h1_ h2_) hc_x ?_
  refine znk 1000 tR24 ts72 O ha_x (by omega) (_) (rfl) O ?_
  have hsp:=xa he_x
  have hse:=x.size_eq
  have hpt:=zgk he_x
  have hpl:=yb (l.take i)
  have hpl1:=yb x.thn
  have hpl2:=yb x.els
  have hth:=hEq.back zc ht_x
  have hel:=hEq.back zc hs_x
  have hkb:=hEq.back zl hk_x
  have hbb:=hEq.back ze hb_x
  have hys1:EncS D W0 (acc++preL (l.take i)++[x]) (ys++[.int .i64 x.act,.int .i64 x.cost,.int .i64 x.var,.int .i64 x.n,.int .i64 x.term.op,.int .i64 x.term.n,.slice a1_x x.term.kids.length n1_x,.slice a2_x x.thn.length n2_x,.slice a3_x x.els.length n3_x,.slice a4_x x.bounds.length n4_x]):=hys.add (RSt.put hkb hth hel hbb) rfl
  have hfin:acc++preL (l.take i)++[x]++preL x.thn++preL x.els=acc++preL (l.take (i+1)):=by rw[hpt,x.pre_eq];simp
  have htot:ssize (l.take i)+(1+ssize x.thn+ssize x.els)<=ssize l:=by omega
  have hla:(acc++preL (l.take i)).length=acc.length+ssize (l.take i):=by rw[zp1,hpl]
  refine Vs 1 O ?_
  refine V.alloc 6 tz72 O O (fun b6=>?_)
  refine Vs 7 O ?_
  refine V.bs 15 [(0,_)] tR24 ts72 tz72 (by decide) O O (by kernel_rfl) (fun b15=>?_)
  refine znp 900 15 tu24 Tryz.el72 O (by decide) O O (by omega) (by omega) (fun u900=>?_)
  refine Vs 3 O ?_
  refine znJ 900 O (e':=.row 72 10 u900 (acc++preL (l.take i)++[x]).length (ys++[.int .i64 x.act,.int .i64 x.cost,.int .i64 x.var,.int .i64 x.n,.int .i64 x.term.op,.int .i64 x.term.n,.slice a1_x x.term.kids.length n1_x,.slice a2_x x.thn.length n2_x,.slice a3_x x.els.length n3_x,.slice a4_x x.bounds.length n4_x])) (by rw[zp1 (bs:=[x])];rfl) ?_
  refine Vw [1000,6,15] [] O ?_
  refine Vd [0,1,2,3,4] 0 (by kernel_rfl) O O O ?_
  refine znC 5 900 0 (E:=fun z:Value × List Value=>.row 72 10 z.1 (acc++preL (l.take i)++[x]++preL x.thn).length z.2) Tryz.call75 O (by kernel_rfl) O O (fun _=>⟨trivial,fun _ h=>h⟩) (fun w hI=>(ih x hm_x).1 D W0 w _ _ (acc++preL (l.take i)++[x]) _ hth (hEq.keep hI.k0 (fun b hb=>hEq.lt hb) (fun b hb hs=>haS b hs hb)) hys1 (hI.at 900 O) (fun q hq=>by exact hI.offD 0 900 O O (hEq.lt hq) (fun h=>haS q h hq)) (by simp only[zp1,zpe]at *;omega)) ?_
  rintro u2 ⟨_,y2⟩ ⟨rfl,hy2⟩
  refine znC 6 900 0 (E:=fun z:Value × List Value=>.row 72 10 z.1 (acc++preL (l.take i)++[x]++preL x.thn++preL x.els).length z.2) Tryz.call75 O (by kernel_rfl) O O (fun _=>⟨trivial,fun _ h=>h⟩) (fun w hI=>(ih x hm_x).2 D W0 w _ _ (acc++preL (l.take i)++[x]++preL x.thn) _ hel (hEq.keep hI.k0 (fun b hb=>hEq.lt hb) (fun b hb hs=>haS b hs hb)) hy2 (hI.at 900 O) (fun q hq=>by exact hI.offD 0 900 O O (hEq.lt hq) (fun h=>haS q h hq)) (by simp only[zp1,zpe]at *;omega)) ?_
  rintro u3 ⟨_,y3⟩ ⟨rfl,hy3⟩
  refine Vd [7] 0 (by kernel_rfl) O O O ?_
  refine VD.done (by kernel_rfl) ?_
  refine Va 6 O (by omega) ?_
  rw[hfin]at hy3
  refine znJ 900 O (e':=.row 72 10 u3 (acc++preL (l.take (i+1))).length y3) (by rw[hfin]) ?_
  refine V.back (⟨i+1,u3,y3⟩) (Sub.of O) (Has.of O) (⟨by omega,hy3⟩) (by first | omega | (dsimp only;omega)) 0 O O
 obtain rfl:i=l.length:=by omega
 rw[zoY]at hys
 refine znJ 900 O (e':=.row 72 10 u (acc++preL l).length ys) (by rw[zoY]) ?_
 refine Vs 12 O ?_
 refine zlt Tryz.results75 O (fun w hI=>⟨_,rfl,⟨(u,ys),⟨rfl,hys⟩,hI.at 900 rfl,hI.k0,fun q hq=>hI.inS 0 900 O O hq⟩⟩)
def ju (x:Nd) (q:Nat):List Int:=([x.next,x.other].take q).filter fun y=>decide (0<=y)
def zdz (x:Nd):List Int:=ju x 2
theorem zdA (x:Nd) (q:Nat):(ju x q).length<=2:=by
 unfold ju
 refine zoZ (zqt _ _) ?_
 rw[zpn]
 exact Nat.min_le_right _ _
def eds (x:Nd) (q:Nat):Int:=if q=0 then x.next else x.other
theorem zfw (x:Nd) {q:Nat} (hq:q<2):ju x (q+1)=ju x q++if 0<=eds x q then [eds x q] else []:=by
 have h:q=0\/q=1:=by omega
 rcases h with rfl | rfl
 . by_cases h:0<=x.next<;>simp[ju,eds,h]
 by_cases h:0<=x.next<;>by_cases h2:0<=x.other<;>simp[ju,eds,h,h2]
theorem zjN (x:Nd) {q:Nat} (hq:q<2):[Value.int .i64 x.next,Value.int .i64 x.other][((q:Int)).toNat]?=some (.int .i64 (eds x q)):=by
 have h:q=0\/q=1:=by omega
 rcases h with rfl | rfl<;>rfl
theorem mem_succ {x:Nd} {y:Int}:y ∈ zdz x ↔ 0<=y/\(x.next=y\/x.other=y):=by
 unfold zdz ju
 simp only[List.take,zqF,zp9,zqO,or_false,decide_eq_true_eq]
 constructor
 .
  rintro⟨h1 | h1,h2⟩
  . exact⟨h2,.inl h1.symm⟩
  exact⟨h2,.inr h1.symm⟩
 rintro⟨h2,h1 | h1⟩
 . exact⟨.inl h1.symm,h2⟩
 exact⟨.inr h1.symm,h2⟩
theorem ziC (x:Nd) (W:World) :
  Calls Tryz.prog 76 #[.agg (qL x).toArray] W (Ret fun r w'=>SlR 1 yc (fun b=>W.heap.size<=b) w' r (zdz x)/\Ext W w'):=by
 refine zn1 Tryz.func76 O Tryz.ntmps76 O (znb ?_)
 refine Vs 2 O ?_
 refine V.box 1 O O (fun b1=>?_)
 refine Vs 15 O ?_
 refine znO [Value.int IntKind.i64 0,Value.int IntKind.i64 0] [(0,1),(1,1)] [(0,_),(1,_)] O O (fun _=>by kernel_rfl) ?_
 refine Vs 3 O ?_
 refine zno 900 3 1 O ?_
 refine Vs 1 O ?_
 refine znK (σ:=Nat × Value) [10] [] [] O (fun e ⟨q,u⟩=>(11,.int .i64 q)::(3,u)::e) (fun e ⟨q,u⟩=>(900,.row 3 1 u (ju x q).length ((ju x q).map zb))::e) (fun⟨q,u⟩=>q<=2) (fun⟨q,u⟩=>2 - q) ((0,.slice none 0 0)) (Sub.of O) (Has.of O) (fun _=>rfl) (fun _=>rfl) (fun _=>rfl) (zp8 _) ?_
 rintro⟨q,u⟩ hq
 show V _ _ _ _ _ ((11,.int .i64 q)::(3,u)::_) _ ((900,.row 3 1 u (ju x q).length ((ju x q).map zb))::_) _
 have hl:=zdA x q
 refine Vs 6 O ?_
 refine zld O (fun lt=>?_) (fun lt=>?_)
 .
  have hq2:q<2:=by omega
  have hnx:=zfw x hq2
  refine Vs 6 O ?_
  refine zmS O (fun w hI=>zor Tryz.runUnderlying169 ts3 tg3 O O (by omega) (zjN x hq2)) ?_
  refine Vs 9 O ?_
  refine zld O (fun c=>?_) (fun c=>?_)
  .
   rw[zp4 c]at hnx
   refine Vs 3 O ?_
   refine V.bs 18 [(0,_)] tR27 ts3 tz3 (by decide) O O (by kernel_rfl) (fun b18=>?_)
   refine znp 900 18 tu27 Tryz.el3 O (by decide) O O (by omega) (by omega) (fun u900=>?_)
   refine Va 8 O (by omega) ?_
   refine znJ 900 O (e':=.row 3 1 u900 (ju x (q+1)).length ((ju x (q+1)).map zb)) (by rw[hnx,zp1,zqw];rfl) ?_
   refine V.back (⟨q+1,u900⟩) (Sub.of O) (Has.of O) (by omega) (by first | omega | (dsimp only;omega)) 0 O O
  rw[zp3 c,zq4]at hnx
  refine znJ 900 O (e':=.row 3 1 u (ju x (q+1)).length ((ju x (q+1)).map zb)) (by rw[hnx]) ?_
  refine Va 7 O (by omega) ?_
  refine V.back (⟨q+1,u⟩) (Sub.of O) (Has.of O) (by omega) (by first | omega | (dsimp only;omega)) 0 O O
 obtain rfl:q=2:=by omega
 refine Vs 12 O ?_
 refine zlt Tryz.results76 O (fun w hI=>⟨_,rfl,zmj zb (fun _ _=>rfl) (hI.at 900 O) (fun g hg=>hI.own 900 0 O O g hg),hI.k0⟩)
end Go.Proofs.YtckdhgbepmpgiaaGreat
namespace Go.GL
def zeg (_ n:Nat) (us:List Value):List Value:=(List.replicate n us).flatten
theorem zaz {k n:Nat} {us:List Value} (h:us.length=k):(zeg k n us).length=n*k:=by
 unfold zeg
 induction n with
 | zero=>simp
 | succ n ih=>rw[zqV,zqm,zp1,ih,h,zrp];omega
theorem zeW {k n:Nat} {us:List Value} (h:us.length=k) {i:Nat} (hi:i<n):((zeg k n us).drop (i*k)).take k=us:=by
 unfold zeg
 induction n generalizing i with
 | zero=>omega
 | succ n ih =>
  rw[zqV,zqm]
  cases i with
  | zero=>rw[Nat.zero_mul,List.drop_zero,List.take_left' h]
  | succ i=>rw[zrp,zrc,<- zq8,List.drop_left' h];exact ih (by omega)
theorem zjO {k n:Nat} {us:List Value} (h:us.length=k) {j:Nat} (hj:j<n*k):(zeg k n us)[j]?=us[j % k]?:=by
 have hk:0<k:=by rcases Nat.eq_zero_or_pos k with e | e;(· subst e;omega);exact e
 have h1:=zeW h (i:=j / k) (n:=n) ((Nat.div_lt_iff_lt_mul hk).2 hj)
 have h2:us[j % k]?=(((zeg k n us).drop (j / k*k)).take k)[j % k]?:=by rw[h1]
 rw[h2,List.getElem?_take_of_lt (Nat.mod_lt _ hk),List.getElem?_drop,Nat.mul_comm,Nat.div_add_mod]
theorem zku {z:Value} {k n:Nat} {us:List Value} (hz:z.cells=us.toArray) (h:us.length=k):madeCells z.cells (n*k)=(zeg k n us).toArray:=by
 rw[hz]
 apply Array.ext
 . simp[madeCells,zaz h]
 intro i h1 h2
 have hi:i<n*k:=by simpa[madeCells] using h1
 have:=zjO h (n:=n) hi
 rw[zoT (by rw[zaz h];exact hi)]at this
 have hk:0<k:=by rcases Nat.eq_zero_or_pos k with e | e;(· subst e;omega);exact e
 rw[zoT (by rw[h];exact Nat.mod_lt _ hk)]at this
 simp only[madeCells,List.getElem_toArray,zr1]
 have h3:=Option.some.inj this
 rw[h3]
 simp[h,zoT (show i % k<us.length by rw[h];exact Nat.mod_lt _ hk)]
section
variable {P:Program} {n:Nat} {Q:Exit->Act->World->Prop} {ks:List Fr} {env:Env} {A:Tgs} {H Hs:Hp} {Bs B0:zC} {ops:Array Oper} {L:List Nat} {fuel:Nat} {listed:Array Bool} {d:Nat} {v:Value} {ty:TypeId} {ps:String} {aft:Array Edge} {g:Option (Nat × Bool)}
theorem zoy (is k j:Nat) {ts:TypeId} {kk:Nat} {x y:Operand} {b o:Nat} {cs us:List Value} {e:TypeId} (hss:∀ w,(sizeOf ts).run P w=.ok kk w) (hi:ops[is]?=some ⟨none,.store ts x y,ty,ps,aft,g⟩) (hr:Region.ready .any ops listed=[is])
  (hn:(gd ops env g,hget H k,ev env x,ev env y,L.contains is)=(some true,some (.own b cs e),some (.pointer (some ⟨b,o,none⟩)),some v,true)) (hv:v.cells=us.toArray) (hk:us.length=kk) (h1:∀ u ∈ us,u.oneCell'=true) (hj:o=j) (hl:j+kk<=cs.length)
  (h:VDx P n Q ks ops (VI B0 Hs) L fuel (listed.setIfInBounds is true) env A (yx H k (.own b (cs.take j++us++cs.drop (j+kk)) e)) Bs):VD P n Q ks ops Hs B0 L (fuel+1) listed env A H Bs:=by
 simp only[Prod.mk.injEq]at hn
 subst hj
 obtain⟨h2,h3,h4,h5,h6⟩:=hn
 intro hH hA w hI
 have hB:Blk w b cs e:=hI.at k h3
 refine zoi is hi hr h2 h6 (zm4 hss h4 h5 hv hk h1 hB hl) ?_
 rintro w2 ⟨_,hB2,hk2⟩
 exact h (hA.set h3) w2 (hI.set h3 hk2 hB2 trivial (fun _ h=>h) fun q hq=>⟨.inl hq,by have hq:q=b:=hq;rw[hq];exact hB2.lt⟩)
end
section
variable {P:Program} {env:Env} {w:World} {dst:Option Tmp} {ty:TypeId} {pos:String} {aft:Array Edge} {g:Option (Nat × Bool)}
theorem M.bs0 {t e:TypeId} {k:Nat} (hu:∀ w,(underlying t).run P w=.ok (.slice e) w) (hs:∀ w,(sizeOf e).run P w=.ok k w) :
  yK P ⟨dst,.buildSlice t 0 #[],ty,pos,aft,g⟩ env w (fun u w'=>∃ b,u=.slice (some ⟨b,0,none⟩) 0 0/\New w [] e b w'):=by
 refine⟨.slice (some ⟨w.heap.size,0,none⟩) 0 0,w.alloc (.cells #[] e),?_,_,rfl,New.mk w [] e⟩
 intro n a ha
 have h0:Array.range 0=#[]:=Array.eq_empty_of_size_eq_zero (by simp)
 simp[execOp,Instr.buildSlice,hu,hs,newRow,Instr.fill,h0]
end
end Go.GL
namespace Go.Proofs.YtckdhgbepmpgiaaGreat
open Go.GL
theorem ziD (vs:List Vr) (k:Int) (vv:Value) (D:Nat->Prop) (w:World) (hvs:SlR 5 RVr D w vv vs) (hlen:vs.length<=1000000):Calls Tryz.prog 85 #[vv,.int .i64 k] w (Ret fun r w'=>SlR 5 RVr (fun b=>w.heap.size<=b) w' r (zp k vs)/\Ext w w'):=by
 obtain⟨av,nv,rfl⟩:=hvs.form
 have hvs0:=hvs
 have hE:=Keep.refl (fun _=>False) w
 refine zn2 Tryz.func85 O Tryz.ntmps85 O (Gs 7 O (zlY O O (M.bs0 tR22 ts142) ?_))
 rintro _ w0 ⟨b0,rfl,hg_b0,hs_b0,hB_b0,hk_b0⟩
 obtain⟨hE,hvs⟩:=Tr2 hk_b0 hE hvs
 have ho0:w0.ownsRow 0 142 5 (.slice (some ⟨b0,0,none⟩) 0 0) 0 []:=yp (k:=5) (n:=0) (cap:=0) hB_b0 (zpi _) (by decide) rfl
 refine Gs 10 O (G.loop (σ:=Nat × Value) (fun⟨i,vl⟩=>[(0,.slice av vs.length nv),(1,.int .i64 k),(5,vl),(6,.int .i64 i)]) (fun⟨i,vl⟩=>fun w'=>i<=vs.length/\w'.ownsRow 0 142 5 vl (zp k (vs.take i)).length ((zp k (vs.take i)).flatMap zdZ)/\(∀ q,vl.ownBlock=some q->w.heap.size<=q)/\Ext w w') (fun⟨i,vl⟩=>vs.length - i) ((0,.slice (some ⟨b0,0,none⟩) 0 0)) (Sub.of O) (⟨zp8 _,ho0,fun q hq=>by obtain rfl:b0=q:=Option.some.inj hq;omega,hE⟩) ?_)
 rintro⟨i,vl⟩ w2 ⟨hi,hown,hfr,hE2⟩
 show G _ _ _ _ _ [(0,.slice av vs.length nv),(1,.int .i64 k),(5,vl),(6,.int .i64 i)] _
 have hvs2:=hvs0.ext xl hE2
 refine Gs 9 O (zlc O (fun hlt=>?_) (fun hlt=>?_))
 .
  obtain⟨x,he_x,hm_x⟩:=gE_ vs (i) (by omega)
  obtain⟨b_x,o_x,c_x,ha_x,_,hc_x,hR_x⟩:=hvs2.at he_x
  have h1_x:=RVr.one hR_x
  obtain rfl:=hR_x
  have hlt_x:b_x<_:=zoV _ _ (hc_x 0 _ rfl)
  have hot:=zb9 (k:=k) he_x
  have hol:=jq k (vs.take i)
  rw[zpn]at hol
  refine Gs 8 O (zmR O O (zlO tR22 ts142 O O ha_x (by omega)) (Gs 1 O (zmV O tg100 (hc_x 1 _ O) (Gs 4 O (zlc O (fun hkx=>?_) (fun hkx=>?_))))))
  .
   rw[zp4 hkx]at hot
   refine Gs 4 O (zmR O O (zlO tR22 ts142 O O ha_x (by omega)) (zmX O tg142 ts142 hc_x O (zlY O O (M.buildSlice (cs:=zdZ x) [(0,_)] tR22 ts142 tz142 (by decide) O (by kernel_rfl)) ?_)))
   rintro _ w5 ⟨b5,rfl,hg_b5,hs_b5,hB_b5,hk_b5⟩
   have hown5:=zk hown hk_b5 (fun _ _ h=>h)
   have hE5:=hE2.ext hk_b5
   have hs5:=hE5.size
   refine zlY O O (M.append tu22 Tryz.el142 O (by decide) O O hown5 O (Cells.add hB_b5.cells) (zeB _) (by omega) (by omega)) ?_
   rintro vl' w6 ⟨hown6,hfr6,hk6,_⟩
   refine Ga 9 O (by omega) (G.back ((i+1,vl')) (Sub.of O) (⟨by omega,?_,?_,hE5.trans hk6 (fun q hq h=>by have:=hfr q h;omega)⟩) (by first | omega | (dsimp only;omega)))
   .
    rw[hot,zp1,zqi]
    exact hown6
   intro q hq
   rcases hfr6 with h | ⟨q',h,h'⟩
   . exact hfr q (by rw[<- h];exact hq)
   rw[h]at hq;cases hq;omega
  rw[zp3 hkx,zq4]at hot
  refine Ga 8 O (by omega) (G.back ((i+1,vl)) (Sub.of O) (⟨by omega,by rw[hot];exact hown,hfr,hE2⟩) (by first | omega | (dsimp only;omega)))
 obtain rfl:i=vs.length:=by omega
 rw[zoY]at hown
 refine Gs 12 O (zls Tryz.results85 O ⟨_,rfl,zmk (by omega) zdZ zeA (fun x _=>rfl) hown hfr,hE2⟩)
theorem zaA (l:List St):∀ (v:Value) (D:Nat->Prop) (w:World),SlR 10 RSt D w v l->ssize l<=1000000->Calls Tryz.prog 66 #[v] w (Ret fun r w'=>r=.int .i64 (widL l)/\Ext w w'):=by
 induction l using zmB with
 | h l ih =>
 intro v D w hl hsz
 have hlen:=jk l
 obtain⟨ao,cap,rfl⟩:=hl.form
 refine zn1 Tryz.func66 O Tryz.ntmps66 O (Gs 19 O (G.loop (σ:=Nat) (fun i=>[(3,.int .i64 (widL (l.take i))),(6,.slice ao l.length cap),(7,.int .i64 l.length),(8,.int .i64 i)]) (fun i=>fun w'=>i<=l.length/\Ext w w') (fun i=>l.length - i) (0) (Sub.of O) (⟨zp8 _,Keep.refl _ _⟩) ?_))
 rintro i w1 ⟨hi,hL1⟩
 replace hl:=Tr1 hL1 hl
 refine Gs 6 O (zlc O (fun hlt=>?_) (fun hge=>?_))
 .
  obtain⟨s,he_s,hm_s⟩:=gE_ l (i) (by omega)
  obtain⟨b_s,o_s,c_s,ha_s,_,hc_s,hR_s⟩:=hl.at he_s
  have h1_s:=RSt.one hR_s
  obtain⟨v1_s,v2_s,v3_s,v4_s,rfl,hk_s,ht_s,hs_s,hb_s⟩:=hR_s.get
  obtain⟨a1_s,n1_s,rfl⟩:=hk_s.form
  obtain⟨a2_s,n2_s,rfl⟩:=ht_s.form
  obtain⟨a3_s,n3_s,rfl⟩:=hs_s.form
  obtain⟨a4_s,n4_s,rfl⟩:=hb_s.form
  have hlt_s:b_s<_:=zoV _ _ (hc_s 0 _ rfl)
  have hsp:=xa he_s
  have hse:=s.size_eq
  have hwe:=s.wid_eq
  have hwt:=zaV he_s
  have hw0:=xd l
  have hw1':=kS he_s
  have hw2:=xd s.thn
  have hw3:=xd s.els
  have hE:=Keep.refl (fun _=>False) w1
  refine Gs 6 O (zmR O O (zlO tR24 ts72 O O ha_s (by omega)) (zmX O tg72 ts72 hc_s O (zlY O O (M.alloc (cs:=_) tz72 O) ?_)))
  rintro _ wa1 ⟨b,rfl,hg_b,hs_b,hB_b,hk_b⟩
  refine zm3 O (zm4 ts72 O O O O h1_s hB_b (by simp)) ?_
  rintro w_b ⟨_,hB_b,hkk_b⟩
  replace hk_b:=hk_b.trans hkk_b (fun q hq h=>by have h:q=b:=h;omega)
  have hge_b:_<=b:=zoZ hE.size (zri hg_b.symm)
  obtain⟨hl,hL1,hc_s,hk_s,ht_s,hs_s,hb_s⟩:=Tr7 hk_b hl hL1 hc_s hk_s ht_s hs_s hb_s
  replace hE:=Tr1 hk_b hE
  refine Gs 3 O (Dw (fun q=>Ext w_b q) [] (fun wd2 hD _=>?_))
  refine Ds [0,1] (by kernel_rfl) O (WD.take 2 O (by kernel_rfl) O O O hD (fun w1 hw1=>R.load tg24 O ((hw1.blk hB_b (fun h=>h)).cells 7 _ O)) (Ds [5] (by kernel_rfl) O (WD.take 6 O (by kernel_rfl) O O O hD (fun w1 hw1=>R.load tg24 O ((hw1.blk hB_b (fun h=>h)).cells 8 _ O)) (WD.call 3 O (by kernel_rfl) O O O (F.call (vs:=[_]) tc66 O) ((ih s hm_s).1 _ D _ (ht_s.ext zc hD) (by omega)) ?_))))
  rintro _ wz3 ⟨rfl,hz3⟩
  replace hD:=hD.ext hz3
  refine⟨fun _=>hD,?_⟩
  refine Da [4] (by kernel_rfl) O (by omega) (WD.call 7 O (by kernel_rfl) O O O (F.call (vs:=[_]) tc66 O) ((ih s hm_s).2 _ D _ (hs_s.ext zc hD) (by omega)) ?_)
  rintro _ wz4 ⟨rfl,hz4⟩
  replace hD:=hD.ext hz4
  refine⟨fun _=>hD,?_⟩
  refine Da [8,9,10] (by kernel_rfl) O (by omega) (G.done (by kernel_rfl) ?_ _)
  obtain⟨hl,hL1,hc_s,hk_s,ht_s,hs_s,hb_s⟩:=Tr7 hD hl hL1 hc_s hk_s ht_s hs_s hb_s
  obtain⟨hE,hB_b⟩:=Tr2 hD hE hB_b
  refine Gs 4 O (zmV O tg66 (hB_b.cells 0 _ O) (Gs 3 O (zlc O (fun h4=>?_) (fun h4=>?_))))
  .
   rw[zp4 h4]at hwe
   refine Ga 11 O (by omega) (G.back (i+1) (Sub.cons (yr O (by rw[hwt];omega)) (Sub.of O)) (⟨by omega,hL1⟩) (by first | omega | (dsimp only;omega)))
  rw[zp3 h4]at hwe
  refine Ga 7 O (by omega) (G.back (i+1) (Sub.cons (yr O (by rw[hwt];omega)) (Sub.of O)) (⟨by omega,hL1⟩) (by first | omega | (dsimp only;omega)))
 have:i=l.length:=by omega
 subst this
 refine Gs 12 O (zls Tryz.results66 O ⟨_,rfl,by rw[zoY],hL1⟩)
theorem zoz {α:Type} {k:Nat} {R:Rel α} {D:Nat->Prop} {w:World} {ao:Option Addr} {n c i:Nat} {l:List α} {x:α} (h:SlR k R D w (.slice ao n c) l) (hx:l[i]?=some x):SlR k R D w (.slice (if c=(i:Int).toNat then ao else ao.map (·.add ((i:Int).toNat*k))) (((i:Int)+1).toNat - (i:Int).toNat) (c - (i:Int).toNat)) [x]:=by
 have hi:=(zp7.1 hx).1
 have h1:=(h.drop i (by omega)).take 1 (by rw[zqr];omega)
 rw[zaY hx]at h1
 rw[zpf,show ((i:Int)+1).toNat - i=1 by omega]
 exact h1
theorem jc {w w1 w2:World} {vo vo':Value} {n:Nat} {xs:List Value} (hE:Ext w w1) (hf:∀ g,vo.ownBlock=some g->w.heap.size<=g) (hk:Keep (fun k=>vo.ownBlock=some k) w1 w2) (hfr:vo'.ownBlock=vo.ownBlock\/∃ g,vo'.ownBlock=some g/\w1.heap.size<=g) (_:w1.ownsRow 0 65 4 vo n xs) :
  Ext w w2/\(∀ g,vo'.ownBlock=some g->w.heap.size<=g):=by
 refine⟨Keep.trans hE hk (fun k hk h=>by have:=hf k h;omega),fun g hg=>?_⟩
 rcases hfr with h | ⟨g',h,h'⟩
 . exact hf g (by rw[<- h];exact hg)
 rw[h]at hg;cases hg
 have:=hE.size
 omega
theorem za3 {w1 w2:World} {vo:Value} {n:Nat} {xs:List Value} {c:Nat} {cs:List Value} {e:TypeId} (ho:w1.ownsRow 0 65 4 vo n xs) (hk:Keep (fun k=>vo.ownBlock=some k) w1 w2) (hb:Blk w1 c cs e) (he:e ≠ 65):Blk w2 c cs e :=
 hk.blk hb (fun h=>by obtain⟨cs',hb'⟩:=yF ho h;exact he (hb.ty hb').1)
theorem zh0 (x:Nd):[x].flatMap qL=qL x:=by simp
theorem jd (l:List Nd):∀ u ∈ l.flatMap qL,u.oneCell'=true:=by
 intro u hu
 obtain⟨x,_,hx⟩:=zqG.1 hu
 exact jm x u hx
theorem jr (l:List St):∀ a n e,(layL l a n e).length<=widL l:=by
 induction l using zmB with
 | h l ih =>
 have key:∀ r:List St,(∀ x ∈ r,x ∈ l)->∀ a n e,(layL r a n e).length<=widL r:=by
  intro r
  induction r with
  | nil=>intro _ a n e;simp[layL]
  | cons s r ihr =>
   intro hm a n e
   have h1:=(ih s (hm s (zoX ..))).1
   have h2:=(ih s (hm s (zoX ..))).2
   have h3:=ihr (fun y hy=>hm y (zoW _ hy)) (a+s.size) (n+s.wid) e
   have hw:=s.wid_eq
   have h4:∀ a n e,(s.lay a n e).length<=s.wid:=by
    intro a n e
    rw[s.lay_eq]
    split
    .
     rw[zpm,zp1]
     have:=h1 (a+1) (n+1) e
     have:=h2 (a+1+ssize s.thn) (n+1+widL s.thn) e
     omega
    split
    .
     rename_i a4
     rw[zp4 a4]at hw
     have:=h1 (a+1) (n+2) (n+1)
     simp only[zpm]
     omega
    simp;omega
   have:=h4 a n (if r.isEmpty=true then e else n+s.wid)
   rw[layL,zp1,widL]
   omega
 exact key l (fun x h=>h)
theorem zbs {α:Type} {l:List α} (h:(0:Int)<(l.length:Int)):l.isEmpty=false:=by cases l<;>simp_all
theorem zbt {α:Type} {l:List α} (h:¬ (0:Int)<(l.length:Int)):l.isEmpty=true:=by
 cases l
 . rfl
 simp at h
theorem zkv (l:List St):∀ (v:Value) (D:Nat->Prop) (w:World) (at_ node after:Nat),SlR 10 RSt D w v l->ssize l<=10000->at_+ssize l<=100000->node+widL l<=100000->Calls Tryz.prog 67 #[v,.int .i64 at_,.int .i64 node,.int .i64 after] w (Ret fun r w'=>w'.ownsRow 0 65 4 r (layL l at_ node after).length ((layL l at_ node after).flatMap qL)/\(∀ g,r.ownBlock=some g->w.heap.size<=g)/\Ext w w'):=by
 induction l using zmB with
 | h l ih =>
 intro v D0 w at_ node after hl00 hsz hat hnode
 have hl0:=hl00.narrow (by decide) qP
 generalize hDD:(fun b=>D0 b/\b<w.heap.size)=D at hl0
 have hDw:∀ q,D q->q<w.heap.size:=fun q h=>by rw[<- hDD]at h;exact h.2
 have hlen:=jk l
 have hwl:=xd l
 obtain⟨av,cv,rfl⟩:=hl0.form
 have hmx:=hl0.max
 have hcap:=hl0.len_cap.2
 refine zn4 Tryz.func67 O Tryz.ntmps67 O (Gs 19 O (G.loop (σ:=Nat × Value) (fun⟨i,vo⟩=>[(0,.slice av l.length cv),(1,.int .i64 (at_+ssize (l.take i):Nat)),(2,.int .i64 (node+widL (l.take i):Nat)),(3,.int .i64 after),(9,vo),(17,.slice av l.length cv),(18,.int .i64 l.length),(19,.int .i64 i)]) (fun⟨i,vo⟩=>fun w'=>i<=l.length/\(∃ pre:List Nd,w'.ownsRow 0 65 4 vo pre.length (pre.flatMap qL)/\pre.length<=widL (l.take i)/\pre++layL (l.drop i) (at_+ssize (l.take i)) (node+widL (l.take i)) after=layL l at_ node after)/\(∀ g,vo.ownBlock=some g->w.heap.size<=g)/\Ext w w') (fun⟨i,vo⟩=>l.length - i) ((0,.slice none 0 0)) (Sub.of O) (⟨zp8 _,⟨[],kQ _ _ _,by simp,by simp[ssize,widL]⟩,fun g hg=>by simp[Value.ownBlock]at hg,Keep.refl _ _⟩) ?_))
 rintro⟨i,vo⟩ w1 ⟨hi,⟨pre,ho,hpl,hpre⟩,hf,hE⟩
 show G _ _ _ _ _ [(0,.slice av l.length cv),(1,.int .i64 (at_+ssize (l.take i):Nat)),(2,.int .i64 (node+widL (l.take i):Nat)),(3,.int .i64 after),(9,vo),(17,.slice av l.length cv),(18,.int .i64 l.length),(19,.int .i64 i)] _
 have hl:=hl0.ext zc hE
 refine Gs 6 O (zlc O (fun hlt=>?_) (fun hge=>?_))
 .
  obtain⟨s,he⟩:∃ x,l[i]?=some x:=⟨_,zoT (by omega)⟩
  have hm:=zoU he
  obtain⟨bq,oq,cq,haq,_,hcq,hRq⟩:=hl.at he
  have hone:=hRq.one
  have hws:=kS he
  have hwt:=zaV he
  have hzs:=xa he
  have hzt:=jj he
  have hwe:=s.wid_eq
  have hze:=s.size_eq
  have hwl1:=xd s.thn
  have hwl2:=xd s.els
  obtain⟨v1,v2,v3,v4,rfl,q1,q2,q3,q4⟩:=hRq.get
  obtain⟨p2,n2,rfl⟩:=q2.form
  obtain⟨p3,n3,rfl⟩:=q3.form
  rw[zaY he,layL]at hpre
  generalize hA:at_+ssize (l.take i)=A at *
  generalize hN:node+widL (l.take i)=N at *
  refine Gs 7 O (zmR O O (zlO tR24 ts72 O O haq (by omega)) (zmX O tg72 ts72 hcq O (zlY O O (M.alloc (cs:=_) tz72 O) ?_)))
  rintro _ w2 ⟨c,rfl,hc,hsc,hBc0,hk2⟩
  refine Gs 1 O (zm3 O (zm4 ts72 O O O O hone hBc0 (by simp)) ?_)
  rintro w3 ⟨_,hBc,hkc⟩
  have hk3:Ext w1 w3:=hk2.trans hkc (fun q hq h=>by have h:q=c:=h;omega)
  replace hE:=hE.ext hk3
  replace ho:=zk ho hk3 (fun _ _ h=>h)
  replace hBc:Blk w3 c [.int .i64 s.act,.int .i64 s.cost,.int .i64 s.var,.int .i64 s.n,.int .i64 s.term.op,.int .i64 s.term.n,v1,.slice p2 s.thn.length n2,.slice p3 s.els.length n3,v4] 72:=hBc
  refine Ga 9 O (by omega) (zmR O O (zlT tR24 ts72 O O O (by omega) (by omega)) (G.call O tc66 (zaA [s] _ D _ (zoz (hl.ext zc hk3) he) (by simp only[ssize];omega)) ?_))
  rintro _ w4 ⟨rfl,hk4⟩
  replace hE:=hE.ext hk4
  replace ho:=zk ho hk4 (fun _ _ h=>h)
  replace hBc:=hk4.blk hBc (fun h=>h)
  have hw1:widL [s]=s.wid:=by simp[widL]
  rw[hw1]
  refine Ga 20 O (by omega) (zln (σ:=Unit) (fun u=>[(0,.slice av l.length cv),(1,.int .i64 A),(2,.int .i64 N),(3,.int .i64 after),(9,vo),(10,.int .i64 i),(11,.pointer (some ⟨c,0,none⟩)),(12,.int .i64 ((N:Int)+s.wid)),(13,.int .i64 (if (l.drop (i+1)).isEmpty then after else N+s.wid:Nat)),(17,.slice av l.length cv),(18,.int .i64 l.length),(19,.int .i64 i)]) (fun u=>fun w'=>w'=w4) ?_ ?_)
  .
   refine zlc O (fun hl1=>?_) (fun hl1=>?_)
   .
    have e:(l.drop (i+1)).isEmpty=true:=by rw[zqq,List.drop_eq_nil_iff];omega
    refine Gs 4 O (zlp (()) (Sub.cons O (Sub.cons O (Sub.cons O (Sub.cons O (Sub.cons O (Sub.cons O (Sub.cons O (Sub.cons O (Sub.cons (yr O (by rw[zp4 e])) (Sub.of O)))))))))) (rfl))
   have e:¬ (l.drop (i+1)).isEmpty=true:=by rw[zqq,List.drop_eq_nil_iff];omega
   refine Gs 1 O (zlp (()) (Sub.cons O (Sub.cons O (Sub.cons O (Sub.cons O (Sub.cons O (Sub.cons O (Sub.cons O (Sub.cons O (Sub.cons (yr O (by rw[zp3 e];omega)) (Sub.of O)))))))))) (rfl))
  rintro u w4' hw4
  subst hw4
  generalize hX:(if (l.drop (i+1)).isEmpty then after else N+s.wid)=X at *
  refine Gs 5 O (zmV O tg66 (hBc.cells 0 _ O) (Gs 9 O (zln (σ:=Value) (fun vo'=>[(0,.slice av l.length cv),(1,.int .i64 A),(2,.int .i64 N),(3,.int .i64 after),(9,vo'),(10,.int .i64 i),(11,.pointer (some ⟨c,0,none⟩)),(12,.int .i64 ((N:Int)+s.wid)),(17,.slice av l.length cv),(18,.int .i64 l.length),(19,.int .i64 i)]) (fun vo'=>fun w'=>w'.ownsRow 0 65 4 vo' (pre++s.lay A N X).length ((pre++s.lay A N X).flatMap qL)/\(pre++s.lay A N X).length<=widL (l.take (i+1))/\(∀ g,vo'.ownBlock=some g->w.heap.size<=g)/\Ext w w') ?_ ?_)))
  .
   refine zlc O (fun a3=>?_) (fun a3=>?_)
   .
    rw[zp3 (show ¬ s.act=4 by omega)]at hwe
    refine Gs 12 O (zmV O tg24 (hBc.cells 7 _ O) (Gs 4 O (zln (σ:=Unit) (fun u=>[(0,.slice av l.length cv),(1,.int .i64 A),(2,.int .i64 N),(3,.int .i64 after),(9,vo),(10,.int .i64 i),(11,.pointer (some ⟨c,0,none⟩)),(12,.int .i64 ((N:Int)+s.wid)),(13,.int .i64 X),(17,.slice av l.length cv),(18,.int .i64 l.length),(19,.int .i64 i),(14,.int .i64 (if s.thn.isEmpty then X else N+1:Nat)),(15,.int .i64 X)]) (fun u=>fun w'=>w'=w4') ?_ ?_)))
    .
     refine zlc O (fun g1=>?_) (fun g1=>?_)
     . refine Ga 5 O (by omega) (zlp (()) (Sub.cons O (Sub.cons O (Sub.cons O (Sub.cons O (Sub.cons O (Sub.cons O (Sub.cons O (Sub.cons O (Sub.cons O (Sub.cons O (Sub.cons O (Sub.cons O (Sub.cons (yr O (by rw[zbs g1];simp)) (Sub.of O)))))))))))))) (rfl))
     refine Gs 1 O (zlp (()) (Sub.cons O (Sub.cons O (Sub.cons O (Sub.cons O (Sub.cons O (Sub.cons O (Sub.cons O (Sub.cons O (Sub.cons O (Sub.cons O (Sub.cons O (Sub.cons O (Sub.cons (yr O (by rw[zbt g1];simp)) (Sub.of O)))))))))))))) (rfl))
    rintro u w5 hw5
    subst hw5
    refine Gs 5 O (zmV O tg24 (hBc.cells 8 _ O) (Gs 4 O (zln (σ:=Unit) (fun u=>[(0,.slice av l.length cv),(1,.int .i64 A),(2,.int .i64 N),(3,.int .i64 after),(9,vo),(10,.int .i64 i),(11,.pointer (some ⟨c,0,none⟩)),(12,.int .i64 ((N:Int)+s.wid)),(13,.int .i64 X),(17,.slice av l.length cv),(18,.int .i64 l.length),(19,.int .i64 i),(14,.int .i64 (if s.thn.isEmpty then X else N+1:Nat)),(15,.int .i64 (if s.els.isEmpty then X else N+1+widL s.thn:Nat))]) (fun u=>fun w'=>Ext w5 w') ?_ ?_)))
    .
     refine zlc O (fun g1=>?_) (fun g1=>?_)
     .
      refine Ga 4 O (by omega) (zmV O tg24 (hBc.cells 7 _ O) (G.call O tc66 (zaA s.thn _ D _ (q2.ext zc (hk3.ext hk4)) (by omega)) ?_))
      rintro _ w5 ⟨rfl,hk5⟩
      refine Ga 3 O (by omega) (zlp (()) (Sub.cons O (Sub.cons O (Sub.cons O (Sub.cons O (Sub.cons O (Sub.cons O (Sub.cons O (Sub.cons O (Sub.cons O (Sub.cons O (Sub.cons O (Sub.cons O (Sub.cons O (Sub.cons (yr O (by rw[zbs g1];simp)) Sub.nil)))))))))))))) (hk5))
     refine Gs 1 O (zlp (()) (Sub.cons O (Sub.cons O (Sub.cons O (Sub.cons O (Sub.cons O (Sub.cons O (Sub.cons O (Sub.cons O (Sub.cons O (Sub.cons O (Sub.cons O (Sub.cons O (Sub.cons O (Sub.cons (yr O (by rw[zbt g1];simp)) Sub.nil)))))))))))))) (Keep.refl _ _))
    rintro u w6 hk5
    have hE5:=hE.ext hk5
    have ho5:=zk ho hk5 (fun _ _ h=>h)
    have hBc5:=hk5.blk hBc (fun h=>h)
    refine Gs 7 O (zmR O O (R.build (v:=.agg #[.int .i64 3,.int .i64 A,.int .i64 (if s.thn.isEmpty then X else N+1:Nat),.int .i64 (if s.els.isEmpty then X else N+1+widL s.thn:Nat)]) [(0,_),(1,_),(2,_),(3,_)] O (fun _=>by kernel_rfl)) (zlY O O (M.buildSlice (cs:=qL ⟨3,A,(if s.thn.isEmpty then X else N+1:Nat),(if s.els.isEmpty then X else N+1+widL s.thn:Nat)⟩) [(0,_)] tR34 ts65 tz65 (by decide) O (by kernel_rfl)) ?_))
    rintro _ w6 ⟨g6,rfl,hg6,hs6,hB6,hk6⟩
    have hE6:=hE5.ext hk6
    have ho6:=zk ho5 hk6 (fun _ _ h=>h)
    have hBc6:=hk6.blk hBc5 (fun h=>h)
    refine zlY O O (M.append tu34 Tryz.el65 O (by decide) O O ho6 O (Cells.add hB6.cells) (jm _) (by omega) (by omega)) ?_
    rintro vo7 w7 ⟨ho7,hf7,hk7,_⟩
    obtain⟨hE7,hfr7⟩:=jc hE6 hf hk7 hf7 ho6
    have hBc7:=za3 ho6 hk7 hBc6 (by decide)
    have hA7:Above w.heap.size w1 w7:=Above.then (znU ((hk3.ext hk4).ext (hk5.ext hk6))) (znX hk7 hf)
    refine Gs 7 O (zmV O tg24 (hBc7.cells 7 _ O) (Ga 5 O (by omega) (G.call O Tryz.call67 ((ih s hm).1 _ D w7 (A+1) (N+1) X (hA7.sl zc q2 hDw) (by omega) (by omega) (by omega)) ?_)))
    rintro r8 w8 ⟨hr8,hrf8,hk8⟩
    have hE8:=hE7.ext hk8
    have ho8:=zk ho7 hk8 (fun _ _ h=>h)
    have hBc8:=hk8.blk hBc7 (fun h=>h)
    have hll8:=jr s.thn (A+1) (N+1) X
    refine zlY O O (zn9 tu34 Tryz.el65 O (by decide) O O ho8 hr8 (jd _) (by omega) (by omega)) ?_
    rintro vo9 w9 ⟨ho9,hf9,hk9⟩
    obtain⟨hE9,hfr9⟩:=jc hE8 hfr7 hk9 hf9 ho8
    have hBc9:=za3 ho8 hk9 hBc8 (by decide)
    have hA9:=Above.then (hA7.ext' hk8) (znX hk9 hfr7)
    refine Gs 3 O (Dw (fun q=>Blk q c [.int .i64 s.act,.int .i64 s.cost,.int .i64 s.var,.int .i64 s.n,.int .i64 s.term.op,.int .i64 s.term.n,v1,.slice p2 s.thn.length n2,.slice p3 s.els.length n3,v4] 72) [] (fun x0 xk0 _=>?_))
    have xE0:=hE9.ext xk0
    have xA0:=hA9.ext' xk0
    have xo0:=zk ho9 xk0 (fun _ _ h=>h)
    have xB0:=xk0.blk hBc9 (fun h=>h)
    refine Ds [0,1] (by kernel_rfl) O (WD.take 2 O (by kernel_rfl) O O O xB0 (fun w1 hw1=>R.load tg24 O (hw1.cells 8 _ O)) (Da [3,4,5] (by kernel_rfl) O (by omega) (WD.take 6 O (by kernel_rfl) O O O xB0 (fun w1 hw1=>R.load tg24 O (hw1.cells 7 _ O)) (Da [9,10,11] (by kernel_rfl) O (by omega) (WD.take 12 O (by kernel_rfl) O O O xB0 (fun w1 hw1=>R.load tg24 O (hw1.cells 7 _ O)) (Ds [15] (by kernel_rfl) O (WD.call 7 O (by kernel_rfl) O O O (F.call (vs:=[_]) tc56 O) (jn s.thn _ D x0 (xA0.sl zc q2 hDw) (by omega)) ?_)))))))
    rintro _ x1 ⟨rfl,xk1⟩
    have xE1:=xE0.ext xk1
    have xA1:=xA0.ext' xk1
    have xo1:=zk xo0 xk1 (fun _ _ h=>h)
    have xB1:=xk1.blk xB0 (fun h=>h)
    refine⟨fun _=>xB1,?_⟩
    refine Da [8] (by kernel_rfl) O (by omega) (WD.call 13 O (by kernel_rfl) O O O (F.call (vs:=[_]) tc66 O) (zaA s.thn _ D x1 (xA1.sl zc q2 hDw) (by omega)) ?_)
    rintro _ x2 ⟨rfl,xk2⟩
    have xE2:=xE1.ext xk2
    have xA2:=xA1.ext' xk2
    have xo2:=zk xo1 xk2 (fun _ _ h=>h)
    have xB2:=xk2.blk xB1 (fun h=>h)
    refine⟨fun _=>xB2,?_⟩
    refine Da [14] (by kernel_rfl) O (by omega) (WD.call 16 O (by kernel_rfl) O O O (F.call (vs:=[_,_,_,_]) Tryz.call67 O) ((ih s hm).2 _ D x2 (A+1+ssize s.thn) (N+1+widL s.thn) X (xA2.sl zc q3 hDw) (by omega) (by omega) (by omega)) ?_)
    rintro r3 x3 ⟨xr3,xrf3,xk3⟩
    have xE3:=xE2.ext xk3
    have xo3:=zk xo2 xk3 (fun _ _ h=>h)
    have xB3:=xk3.blk xB2 (fun h=>h)
    refine⟨fun _=>xB3,?_⟩
    have hll3:=jr s.els (A+1+ssize s.thn) (N+1+widL s.thn) X
    refine zlX 17 O (by kernel_rfl) O O O (zn9 tu34 Tryz.el65 O (by decide) O O xo3 xr3 (jd _) (by omega) (by omega)) ?_
    rintro vo4 x4 ⟨xo4,xf4,xk4⟩
    obtain⟨xE4,xfr4⟩:=jc xE3 hfr9 xk4 xf4 xo3
    have xB4:=za3 xo3 xk4 xB3 (by decide)
    refine⟨fun _=>xB4,?_⟩
    refine Ds [18] (by kernel_rfl) O (G.done (by kernel_rfl) ?_ _)
    have e5:pre++s.lay A N X=pre++[⟨3,A,(if s.thn.isEmpty then X else N+1:Nat),(if s.els.isEmpty then X else N+1+widL s.thn:Nat)⟩]++layL s.thn (A+1) (N+1) X++layL s.els (A+1+ssize s.thn) (N+1+widL s.thn) X:=by
     rw[s.lay_eq,zp4 a3]
     simp only[zq3,zq5,zqM,apply_ite (Nat.cast (R:=Int))]
    have e6:(pre++s.lay A N X).length=pre.length+1+(layL s.thn (A+1) (N+1) X).length+(layL s.els (A+1+ssize s.thn) (N+1+widL s.thn) X).length:=by rw[e5];simp only[zp1,zpe]
    refine zlp (vo4) (Sub.of O) (⟨?_,by rw[e6];omega,xfr4,xE4⟩)
    rw[e6,e5,zqi,zqi,zqi,zh0]
    exact xo4
   refine Gs 6 O (zlc O (fun a4=>?_) (fun a4=>?_))
   .
    rw[zp4 a4]at hwe
    refine Ga 11 O (by omega) (zmV O tg24 (hBc.cells 7 _ O) (Gs 4 O (zln (σ:=Unit) (fun u=>[(0,.slice av l.length cv),(1,.int .i64 A),(2,.int .i64 N),(3,.int .i64 after),(9,vo),(10,.int .i64 i),(11,.pointer (some ⟨c,0,none⟩)),(12,.int .i64 ((N:Int)+s.wid)),(13,.int .i64 X),(17,.slice av l.length cv),(18,.int .i64 l.length),(19,.int .i64 i),(16,.int .i64 (if s.thn.isEmpty then N+1 else N+2:Nat))]) (fun u=>fun w'=>w'=w4') ?_ ?_)))
    .
     refine zlc O (fun g1=>?_) (fun g1=>?_)
     . refine Ga 5 O (by omega) (zlp (()) (Sub.cons O (Sub.cons O (Sub.cons O (Sub.cons O (Sub.cons O (Sub.cons O (Sub.cons O (Sub.cons O (Sub.cons O (Sub.cons O (Sub.cons O (Sub.cons O (Sub.cons (yr O (by rw[zbs g1];simp)) Sub.nil))))))))))))) (rfl))
     refine Gs 1 O (zlp (()) (Sub.cons O (Sub.cons O (Sub.cons O (Sub.cons O (Sub.cons O (Sub.cons O (Sub.cons O (Sub.cons O (Sub.cons O (Sub.cons O (Sub.cons O (Sub.cons O (Sub.cons (yr O (by rw[zbt g1];simp)) Sub.nil))))))))))))) (rfl))
    rintro u w5 hw5
    subst hw5
    refine Ga 7 O (by omega) (zmR O O (R.build (v:=.agg #[.int .i64 4,.int .i64 A,.int .i64 ((N:Int)+1),.int .i64 (-1)]) [(0,_),(1,_),(2,_),(3,_)] O (fun _=>by kernel_rfl)) (Gs 3 O (zmR O O (R.build (v:=.agg #[.int .i64 5,.int .i64 A,.int .i64 (if s.thn.isEmpty then N+1 else N+2:Nat),.int .i64 X]) [(0,_),(1,_),(2,_),(3,_)] O (fun _=>by kernel_rfl)) (zlY O O (M.buildSlice (cs:=[(⟨4,A,(N+1:Nat),-1⟩:Nd),⟨5,A,(if s.thn.isEmpty then N+1 else N+2:Nat),X⟩].flatMap qL) [(0,_),(1,_)] tR34 ts65 tz65 (by decide) O (by kernel_rfl)) ?_))))
    rintro _ w6 ⟨g6,rfl,hg6,hs6,hB6,hk6⟩
    have hE6:=hE.ext hk6
    have ho6:=zk ho hk6 (fun _ _ h=>h)
    have hBc6:=hk6.blk hBc (fun h=>h)
    refine zlY O O (M.append tu34 Tryz.el65 O (by decide) O O ho6 O (Cells.add hB6.cells) (jd _) (by omega) (by omega)) ?_
    rintro vo7 w7 ⟨ho7,hf7,hk7,_⟩
    obtain⟨hE7,hfr7⟩:=jc hE6 hf hk7 hf7 ho6
    have hBc7:=za3 ho6 hk7 hBc6 (by decide)
    have hA7:Above w.heap.size w1 w7:=Above.then (znU ((hk3.ext hk4).ext hk6)) (znX hk7 hf)
    refine Gs 6 O (zmV O tg24 (hBc7.cells 7 _ O) (Ga 6 O (by omega) (G.call O Tryz.call67 ((ih s hm).1 _ D w7 (A+1) (N+2) (N+1) (hA7.sl zc q2 hDw) (by omega) (by omega) (by omega)) ?_)))
    rintro r8 w8 ⟨hr8,hrf8,hk8⟩
    have hE8:=hE7.ext hk8
    have ho8:=zk ho7 hk8 (fun _ _ h=>h)
    have hll8:=jr s.thn (A+1) (N+2) (N+1)
    refine zlY O O (zn9 tu34 Tryz.el65 O (by decide) O O ho8 hr8 (jd _) (by omega) (by omega)) ?_
    rintro vo9 w9 ⟨ho9,hf9,hk9⟩
    obtain⟨hE9,hfr9⟩:=jc hE8 hfr7 hk9 hf9 ho8
    refine Gs 2 O ?_
    have e5:pre++s.lay A N X=pre++[⟨4,A,(N+1:Nat),-1⟩,⟨5,A,(if s.thn.isEmpty then N+1 else N+2:Nat),X⟩]++layL s.thn (A+1) (N+2) (N+1):=by
     rw[s.lay_eq,zp3 a3,zp4 a4]
     simp only[zq3,zq5,zqM,apply_ite (Nat.cast (R:=Int))]
    have e6:(pre++s.lay A N X).length=pre.length+2+(layL s.thn (A+1) (N+2) (N+1)).length:=by rw[e5];simp only[zp1,zpm,List.length_nil]
    refine zlp (vo9) (Sub.of O) (⟨?_,by rw[e6];omega,hfr9,hE9⟩)
    rw[e6,e5,zqi,zqi]
    exact ho9
   rw[zp3 a4]at hwe
   refine Gs 4 O (zmR O O (R.build (v:=.agg #[.int .i64 2,.int .i64 A,.int .i64 X,.int .i64 (-1)]) [(0,_),(1,_),(2,_),(3,_)] O (fun _=>by kernel_rfl)) (zlY O O (M.buildSlice (cs:=qL ⟨2,A,X,-1⟩) [(0,_)] tR34 ts65 tz65 (by decide) O (by kernel_rfl)) ?_))
   rintro _ w6 ⟨g6,rfl,hg6,hs6,hB6,hk6⟩
   have hE6:=hE.ext hk6
   have ho6:=zk ho hk6 (fun _ _ h=>h)
   refine zlY O O (M.append tu34 Tryz.el65 O (by decide) O O ho6 O (Cells.add hB6.cells) (jm _) (by omega) (by omega)) ?_
   rintro vo7 w7 ⟨ho7,hf7,hk7,_⟩
   obtain⟨hE7,hfr7⟩:=jc hE6 hf hk7 hf7 ho6
   refine Gs 2 O ?_
   have e5:pre++s.lay A N X=pre++[⟨2,A,X,-1⟩]:=by rw[s.lay_eq,zp3 a3,zp3 a4]
   have e6:(pre++s.lay A N X).length=pre.length+1:=by rw[e5];simp
   refine zlp (vo7) (Sub.of O) (⟨?_,by rw[e6];omega,hfr7,hE7⟩)
   rw[e6,e5,zqi,zh0]
   exact ho7
  rintro vo' w5 ⟨ho5,hpl5,hf5,hE5⟩
  show G _ _ _ _ _ [(0,.slice av l.length cv),(1,.int .i64 A),(2,.int .i64 N),(3,.int .i64 after),(9,vo'),(10,.int .i64 i),(11,.pointer (some ⟨c,0,none⟩)),(12,.int .i64 ((N:Int)+s.wid)),(17,.slice av l.length cv),(18,.int .i64 l.length),(19,.int .i64 i)] _
  have hl5:=hl0.ext zc hE5
  refine Ga 9 O (by omega) (zmR O O (zlT tR24 ts72 O O O (by omega) (by omega)) (G.call O tc56 (jn [s] _ D _ (zoz hl5 he) (by simp only[ssize];omega)) ?_))
  rintro _ w6 ⟨rfl,hk6⟩
  have hz1:ssize [s]=s.size:=by simp[ssize]
  rw[hz1]
  refine Ga 14 O (by omega) (G.back ((i+1,vo')) (Sub.cons O (Sub.cons (yr O (by omega)) (Sub.cons (yr O (by omega)) (Sub.of O)))) (⟨by omega,⟨pre++s.lay A N X,zk ho5 hk6 (fun _ _ h=>h),hpl5,?_⟩,hf5,hE5.ext hk6⟩) (by first | omega | (dsimp only;omega)))
  rw[<- hpre,zq3,show at_+ssize (l.take (i+1))=A+s.size by omega,show node+widL (l.take (i+1))=N+s.wid by omega]
 have hii:i=l.length:=by omega
 subst hii
 rw[zqa,layL,zq4]at hpre
 refine Gs 12 O (zls Tryz.results67 O ⟨_,rfl,by rw[<- hpre];exact ho,hf,hE⟩)
theorem zeh (f:Fl) (v1 v2 v3:Value) (D:Nat->Prop) (w:World) (hf:RFl D w f v1 v2 v3) (hsz:ssize f.body<=10000) :
  Calls Tryz.prog 33 #[.agg #[v1,v2,v3]] w (Ret fun r w'=>(∃ nv,r=.agg #[nv]/\SlR 4 RNd (fun b=>w.heap.size<=b) w' nv (zi f))/\Ext w w'):=by
 have hwl:=xd f.body
 have hll:=jr f.body 0 1 (1+widL f.body)
 refine zn1 Tryz.func33 O Tryz.ntmps33 O (Gs 2 O (zlY O O (M.box O O) ?_))
 rintro _ w1 ⟨c,rfl,hc,hs1,hBc,hk1⟩
 refine zlY O O (M.alloc (cs:=[.slice none 0 0]) tz36 O) ?_
 rintro _ w2 ⟨r,rfl,hr,hs2,hBr,hk2⟩
 replace hBc:=hk2.blk hBc (fun h=>h)
 have hE2:=hk1.ext hk2
 refine Gs 5 O (zmV O tg24 (hBc.cells 2 _ O) (G.call O tc66 (zaA f.body _ D w2 (hf.body.ext zc hE2) (by omega)) ?_))
 rintro _ w3 ⟨rfl,hk3⟩
 replace hBc:=hk3.blk hBc (fun h=>h)
 replace hBr:=hk3.blk hBr (fun h=>h)
 have hE3:=hE2.ext hk3
 refine Ga 6 O (by omega) (zmR O O (R.build (v:=.agg #[.int .i64 0,.int .i64 (-1),.int .i64 1,.int .i64 (-1)]) [(0,_),(1,_),(2,_),(3,_)] O (fun _=>by kernel_rfl)) (zlY O O (M.buildSlice (cs:=qL ⟨0,-1,1,-1⟩) [(0,_)] tR34 ts65 tz65 (by decide) O (by kernel_rfl)) ?_))
 rintro _ w4 ⟨g4,rfl,hg4,hs4,hB4,hk4⟩
 replace hBc:=hk4.blk hBc (fun h=>h)
 replace hBr:=hk4.blk hBr (fun h=>h)
 have hE4:=hE3.ext hk4
 have ho4:w4.ownsRow 0 65 4 (.slice (some ⟨g4,0,none⟩) 1 1) 1 (qL ⟨0,-1,1,-1⟩):=yp (k:=4) (n:=1) (cap:=1) hB4 (zpi _) (by decide) rfl
 have hf4:∀ g,Value.ownBlock (.slice (some ⟨g4,0,none⟩) 1 1)=some g->w.heap.size<=g:=fun g hg=>by
  obtain rfl:g4=g:=Option.some.inj hg
  have:=hE3.size;omega
 refine Gs 7 O (zmV O tg24 (hBc.cells 2 _ O) (Gs 1 O (G.call O Tryz.call67 (zkv f.body _ D w4 0 1 (1+widL f.body) (hf.body.ext zc hE4) hsz (by omega) (by omega)) ?_)))
 rintro r5 w5 ⟨hr5,hrf5,hk5⟩
 replace hBr:=hk5.blk hBr (fun h=>h)
 have hE5:=hE4.ext hk5
 have ho5:=zk ho4 hk5 (fun _ _ h=>h)
 refine zlY O O (zn9 tu34 Tryz.el65 O (by decide) O O ho5 hr5 (jd _) (by omega) (by omega)) ?_
 rintro v6 w6 ⟨ho6,hf6,hk6⟩
 obtain⟨hE6,hfr6⟩:=jc hE5 hf4 hk6 hf6 ho5
 replace hBr:=za3 ho5 hk6 hBr (by decide)
 refine Gs 6 O (zmR O O (R.build (v:=.agg #[.int .i64 1,.int .i64 (-1),.int .i64 (-1),.int .i64 (-1)]) [(0,_),(1,_),(2,_),(3,_)] O (fun _=>by kernel_rfl)) (zlY O O (M.buildSlice (cs:=qL ⟨1,-1,-1,-1⟩) [(0,_)] tR34 ts65 tz65 (by decide) O (by kernel_rfl)) ?_))
 rintro _ w7 ⟨g7,rfl,hg7,hs7,hB7,hk7⟩
 replace hBr:=hk7.blk hBr (fun h=>h)
 have hE7:=hE6.ext hk7
 have ho7:=zk ho6 hk7 (fun _ _ h=>h)
 refine zlY O O (M.append tu34 Tryz.el65 O (by decide) O O ho7 O (Cells.add hB7.cells) (jm _) (by omega) (by omega)) ?_
 rintro v8 w8 ⟨ho8,hf8,hk8,_⟩
 obtain⟨hE8,hfr8⟩:=jc hE7 hfr6 hk8 hf8 ho7
 replace hBr:=za3 ho7 hk8 hBr (by decide)
 obtain⟨av,cv,rfl⟩:=xW ho8
 refine zmR O O (R.build (v:=.agg #[.slice av (1+(layL f.body 0 1 (1+widL f.body)).length+1) cv]) [(0,_)] O (fun _=>by kernel_rfl)) (zm3 O (zm4 ts36 O O O O (by simp[Value.oneCell']) hBr (by simp)) ?_)
 rintro wf ⟨_,hBf,hkf⟩
 have hown':=zk ho8 hkf (fun g hg h=>by
  obtain⟨cs',hb'⟩:=yF ho8 hg
  exact hb'.ne hBr (by decide) h)
 refine Gs 3 O (zlA Tryz.results33 O (zj tg36 ts36 O hBf.cells) ?_)
 refine⟨_,rfl,⟨_,rfl,?_⟩,hE8.trans hkf (fun q hq h=>by have h:q=r:=h;have:=hk1.size;omega)⟩
 refine zmk (by decide) qL zT (fun _ _=>rfl) (n:=1+(layL f.body 0 1 (1+widL f.body)).length+1) (e:=65) ?_ hfr8
 unfold zi
 rw[zqj,zqi,zh0,<- zq3]
 exact hown'
end Go.Proofs.YtckdhgbepmpgiaaGreat
